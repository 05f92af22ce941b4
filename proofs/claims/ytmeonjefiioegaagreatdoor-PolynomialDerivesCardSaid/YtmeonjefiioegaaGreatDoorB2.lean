/- Helpers for the statements: facts about numbers, fractions and polynomials as lists, and the proofs of the conditions. Condition: none. -/
import Derived.Test.YtmeonjefiioegaaGreatDoorB1
section
open Go Go.bG
namespace I
theorem u_:du.length=8:=rfl
theorem PV (s:Bool)(a b:List Int):([R.int IntKind.i64 (0:Int),R.int IntKind.i64 (0:Int),R.int IntKind.i64 (0:Int),R.int IntKind.i64 (0:Int),R.int IntKind.i64 (0:Int),R.int IntKind.i64 (0:Int),R.int IntKind.i64 (0:Int),R.int IntKind.i64 (0:Int)]++[R.bool s,R.ints IntKind.u32 a,R.ints IntKind.u32 b]:Row)=d_ du s a b:=rfl
theorem adu (p q:Rows)(K:J->Prop)(h:CP.T [.d (.rows 11 p), .d (.rows 11 q)] K):Ku p q K:=by
 obtain⟨ao,ab⟩:=h
 unfold Ku
 have aq:(p++q).length<=1000000000:=by obtain⟨_,_,_,_,_,_,_,h⟩:=ao;exact h
 rw[as2]at aq
 refine⟨by omega, ?_⟩
 rintro _ rfl
 refine⟨by omega,ao, ?_⟩
 rintro _ rfl
 rw[as7];exact ab
theorem Pk (v:Nat):∀(p:List bu) (d:Int) (t:bu),oy v d (p++[t])=(if t.1.getD v 0>oy v d p then t.1.getD v 0 else oy v d p)
 |[],d,t=>rfl
 |u::p,d,t=>by rw[atP,oy,Pk v p,oy]
theorem Pl:∀(p:List bu) (d:Int) (t:bu),jg d (p++[t])=(if kU (t.1.getD 0 0) (t.1.drop 1)>jg d p then kU (t.1.getD 0 0) (t.1.drop 1)else jg d p)
 |[],d,t=>rfl
 |u::p,d,t=>by rw[atP,jg,Pl p,jg]
theorem dZ.at {r:Row}(h:dZ r){v:Nat}(aM:v<8):r.getD v .undef= .int .i64 ((dY r).getD v 0):=by
 obtain⟨pK,gD,ha,jE,lT,j4,pJ,ud,s,a,b,rfl⟩:=h
 match v,aM with
 |0,_=>rfl
 |1,_=>rfl
 |2,_=>rfl
 |3,_=>rfl
 |4,_=>rfl
 |5,_=>rfl
 |6,_=>rfl
 |7,_=>rfl
theorem ac1 (p:Rows)(v:Int)(K:J->Prop)(h:CT.T [.d (.rows 11 p), .d (.int .i64 v)] K):Kd p v K:=by
 obtain⟨⟨⟨bj,aq⟩,iJ,mY⟩,ab⟩:=h
 unfold Kd
 refine⟨fun d w=>∃i:Nat,w=i/\i<=p.length/\d=oy v.toNat (-1) ((p.take i).map bs),fun _ w=>p.length-w.toNat,⟨0,rfl,by omega,rfl⟩, ?_⟩
 rintro _ _ ⟨i,rfl,U,rfl⟩
 simp only[as8,asv,asu]
 refine⟨fun aL=> ?_,fun aL=> ?_⟩
 ·have hi:i<p.length:=by omega
  have ak:=bj.get hi
  rw[ak.at (by omega)]
  refine⟨by omega,aL,ak.len,iJ,mY,rfl,⟨i+1,gu (by omega) (by omega),by omega, ?_⟩,by rw[gu (by omega) (by omega)];omega⟩
  rw[oQ hi,as7]
  exact(Pk v.toNat ((p.take i).map bs) (-1) (bs (p.getD i []))).symm
 ·have:i=p.length:=by omega
  rw[this,atU];exact ab
theorem adv (p:Rows)(K:J->Prop)(h:CU.T [.d (.rows 11 p)] K):Kv p K:=by
 obtain⟨⟨bj,aq⟩,ab⟩:=h
 unfold Kv
 refine⟨fun d w=>∃i:Nat,w=i/\i<=p.length/\d=jg 0 ((p.take i).map bs),fun _ w=>p.length-w.toNat,⟨0,rfl,by omega,rfl⟩, ?_⟩
 rintro _ _ ⟨i,rfl,U,rfl⟩
 simp only[as8,asv,asu]
 refine⟨fun aL=> ?_,fun aL=> ?_⟩
 ·have hi:i<p.length:=by omega
  have ak:=bj.get hi
  have aa8:(List.map R.toInt (List.take 8 (p.getD i []))).length=8:=by rw[asy,asW,ak.len];rfl
  refine⟨by omega,aL,ak.len,ak.len,ak.tP,⟨by omega,by omega⟩, ?_⟩
  rintro _ rfl
  refine⟨⟨i+1,gu (by omega) (by omega),by omega, ?_⟩,by rw[gu (by omega) (by omega)];omega⟩
  rw[oQ hi,as7]
  exact(Pl ((p.take i).map bs) 0 (bs (p.getD i []))).symm
 ·have:i=p.length:=by omega
  rw[this,atU];exact ab
theorem Ur (c:Rat)(p q:List bu):fT c (p++q)=fT c p++fT c q:=as7
theorem ac_ (p:Rows)(s:Bool)(a b:List Int)(K:J->Prop)(h:BB.T [.d (.rows 11 p), .agg [.d (.bool s), .d (.ints .u32 a), .d (.ints .u32 b)]] K):Kh p s a b K:=by
 obtain⟨⟨k,c,j,H2,aK,bj,aoQ,aC,ae,hle,Z_,hlen⟩,ab⟩:=h
 unfold Kh
 have ay:cv j (ag s a b):=cv.of aC ae aK
 refine⟨by omega,fun x af=> ?_⟩
 have af:=af.symm
 subst af
 refine⟨fun v o=>∃i:Nat,v=i/\i<=p.length/\o=bP (fT (ag s a b) ((p.take i).map bs))++p.drop i,fun v _=>p.length-v.toNat,⟨rfl,0,rfl,by omega,rfl⟩, ?_⟩
 rintro _ _ ⟨i,rfl,U,rfl⟩
 have h8:(bP (fT (ag s a b) ((p.take i).map bs))).length=i:=by rw[iT,fT,asy,asy,asW];omega
 simp only[as8,asv,asu]
 refine⟨fun aL=> ?_,fun aL=> ?_⟩
 ·have hi:i<p.length:=by omega
  obtain⟨m,t,abu,d,e,hm,gK,aa,al⟩:=(bj _ (mA hi)).parts
  have m9:(bP (fT (ag s a b) ((p.take i).map bs))++p.drop i).getD i []=d_ m t abu d:=by
   rw[ass,atC (by omega),h8,Nat.sub_self,atK,asN,<-ass,e]
  simp only[m9,lC hm,kV hm,kS hm,R.toBool,R.b6]
  refine⟨by omega,by rw[as2,h8,atA];omega,trivial,rfl,rfl,⟨aa.mono (by omega),al.mono (by omega),aC.mono (by omega),ae.mono (by omega)⟩, ?_⟩
  rintro _ rfl _ rfl _ rfl
  rw[Gy hm,gu (by omega) (by omega)]
  refine⟨by omega,by rw[as2,h8,atA];omega,trivial,⟨i+1,rfl,by omega, ?_⟩,by omega⟩
  rw[List.set_append_right _ _ (by omega),h8,Nat.sub_self,atX hi,List.set_cons_zero,oQ hi,e,as7,auH,lx hm,Ur,uM,List.append_assoc];rfl
 ·have hi:i=p.length:=by omega
  have he:bP (fT (ag s a b) ((p.take i).map bs))++p.drop i=bP (fT (ag s a b) (p.map bs)):=by
   rw[hi,atU,List.drop_length,auv]
  rw[he]
  have gK:∀t∈fT (ag s a b) (p.map bs),j6 t.1:=fun t aA=>by
   obtain⟨u,hu,rfl⟩:=asL.1 aA
   obtain⟨r,ak,rfl⟩:=asL.1 hu
   exact(bj r ak).nR
  have hw:=aoi.scale ay aK (aoW (fun r ak=>(bj r ak).ajl) H2)
  refine⟨wX hw (by omega) gK (fun m=>by rw[apf,<-aoF];exact aoQ m) hle Z_ (by rw[fT,asy,asy];exact hlen), ?_⟩
  rintro _ rfl
  rw[hf fun t aA=>(gK t aA).1];exact ab
theorem ve:cv 1 (-1):=cv.one.neg
theorem Xn:(IntCast.intCast (-1:Int):Rat)=-1:=rfl
theorem adw (p:Rows)(K:J->Prop)(h:CQ.T [.d (.rows 11 p)] K):Kw p K:=by
 obtain⟨⟨k,c,H2,bj,aoQ,hle,aoP,hlen⟩,ab⟩:=h
 unfold Kw
 refine⟨⟨by decide,by decide⟩, ?_⟩
 rintro _ rfl _ rfl _ rfl
 rw[Xn]
 refine⟨⟨k,c,1,H2,asz _,bj,aoQ,ve.num,ve.den,hle,aoP,hlen⟩, ?_⟩
 rintro _ rfl
 rw[h2];exact ab
theorem adx (p q:Rows)(K:J->Prop)(h:CR.T [.d (.rows 11 p), .d (.rows 11 q)] K):Kx p q K:=by
 obtain⟨⟨k,c,j,d,H2,aK,wg,kz,arj,aqa,aP,hle,hlen⟩,ab⟩:=h
 unfold Kx
 have U:1*(2*(k+d*(j+2))+2)<=(c+1)*(2*(k+d*(j+2))+2):=asF _ (by omega)
 have aa:d*(2*(j+1)+2)=2*(d*(j+2)):=by rw[show 2*(j+1)+2=2*(j+2) by omega,att]
 have al:1*(j+2)<=d*(j+2):=asF _ aP
 refine⟨⟨j,d,aK,kz,aqa,by omega,by omega,by omega⟩, ?_⟩
 rintro _ rfl
 have gK:∀t∈nrm (fT (-1) (q.map bs)),j6 t.1:=fun t aA=>by
  obtain⟨u,hu,e⟩:=F6 aA
  obtain⟨x,af,rfl⟩:=asL.1 hu
  obtain⟨r,ak,rfl⟩:=asL.1 af
  rw[<-e];exact(kz r ak).nR
 have dI:=fun t aA=>(gK t aA).1
 have hw:aoi (d*(j+2)) (nrm (fT (-1) (q.map bs))):=(aoi.scale ve (asz _) (aoW (fun r ak=>(kz r ak).ajl) aK)).nrm fun m=>by
  rw[apf,<-aoF];exact aqa m
 refine⟨?_, ?_⟩
 ·refine⟨k+d*(j+2),c+1,by omega,fun r ak=> ?_,fun m=> ?_,hle,by omega, ?_⟩
  ·rcases atY.1 ak with ak|ak
   ·exact(wg r ak).mono (by omega)
   ·exact(FB hw gK r ak).mono (by omega)
  ·rw[aph,aoI dI]
   have:=arj m
   have:=(BF (fT (-1) (q.map bs))).aou m
   omega
  ·have:=xi (fT (-1) (q.map bs))
   rw[fT,asy,asy,<-fT]at this
   rw[as2,iT];omega
 ·rintro _ rfl
  rw[hf dI,Ve];exact ab
theorem MX (s:bu)(q:List bu):∀p:List bu,eR (p++[s]) q=eR p q++jt s q
 |[]=>by show jt s q++[]=[]++jt s q;simp
 |t::p=>by show jt t q++eR (p++[s]) q=(jt t q++eR p q)++jt s q;rw[MX s q p,List.append_assoc]
theorem Vf (s t:bu)(q:List bu):jt s (q++[t])=jt s q++[(fx s.1 t.1,s.2*t.2)]:=as7
theorem N2 (q:List bu):∀p:List bu,(eR p q).length=p.length*q.length
 |[]=>by simp[eR]
 |t::p=>by rw[eR,as2,N2 q p,jt,asy,atf,asK,atx,Nat.add_comm]
theorem X7 {e:Int}{m:List Int}{c:Rat}(h:dA e [(m,c)]):m.length=8/\∀x∈m,0<=x/\x<=e:=h (m,c) (by simp)
theorem Pm {r:Row}{W:Nat}(h:lN W r)(he:dA 2000000000000000000 [bs r]):∃(m:List Int) (s:Bool) (a b:List Int),r=d_ m s a b/\m.length=8/\(∀x∈m,-4000000000000000000<=x/\x<=4000000000000000000)/\av W a/\av W b:=by
 obtain⟨m,s,a,b,rfl,hm,U,aa⟩:=h
 rw[lx hm]at he
 exact⟨m,s,a,b,rfl,hm,fun x af=>by have:=(X7 he).2 x af;omega,U,aa⟩
theorem ady (p q:Rows)(K:J->Prop)(h:CS.T [.d (.rows 11 p), .d (.rows 11 q)] K):Ky p q K:=by
 obtain⟨⟨wg,kz,k,j,c,H2,jT,aqb,aqc,aq5,hle,Z_,qI,qY,ie⟩,ab⟩:=h
 unfold Ky
 have ay:((p.length:Nat):Int)*((q.length:Nat):Int)=((p.length*q.length:Nat):Int):=(atE _ _).symm
 have Ie:IntKind.wrap .i64 (((p.length:Nat):Int)*((q.length:Nat):Int))=((p.length*q.length:Nat):Int):=by rw[ay];exact gu (by omega) (by omega)
 rw[Ie]
 refine⟨by omega,by omega,by omega,fun v o=>∃i:Nat,v=i/\i<=p.length/\o=bP (eR ((p.take i).map bs) (q.map bs)),fun v _=>p.length-v.toNat,⟨0,rfl,by omega,rfl⟩, ?_⟩
 rintro _ _ ⟨i,rfl,U,rfl⟩
 simp only[as8,asv,asu]
 refine⟨fun aL=> ?_,fun aL=> ?_⟩
 ·have hi:i<p.length:=by omega
  have vJ:=mA hi
  obtain⟨m,s,a,b,e,hm,gK,aC,ae⟩:=Pm (aqb _ vJ) (wg _ vJ).1
  have nI:(i+1)*q.length<=p.length*q.length:=asF _ hi
  rw[asK,atx]at nI
  rw[e]
  refine⟨by omega,by omega,lh hm,fun v o bn=>∃j:Nat,v=j/\j<=q.length/\o=bP (eR ((p.take i).map bs) (q.map bs)++jt (m,ag s a b) ((q.take j).map bs))/\bn=[d_ m s a b],fun v _ _=>q.length-v.toNat,⟨0,rfl,by omega,by simp[jt],rfl⟩, ?_⟩
  rintro _ _ _ ⟨j,rfl,aU,rfl,rfl⟩
  have bE:List.getD [d_ m s a b] 0 []=d_ m s a b:=rfl
  simp only[as8,asv,asu,bE]
  refine⟨fun bo=> ?_,fun bo=> ?_⟩
  ·have aK:j<q.length:=by omega
   have vH:=mA aK
   obtain⟨n,t,abu,d,f,ar,tK,pB,aP⟩:=Pm (aqc _ vH) (kz _ vH).1
   simp only[f,lh hm,lh ar,oZ hm,oZ ar,lC hm,kV hm,kS hm,lC ar,kV ar,kS ar,sL,R.toBool,R.b6]
   refine⟨by omega,by omega,trivial,trivial,trivial,⟨⟨m,rfl,hm,gK⟩,⟨n,rfl,ar,tK⟩⟩,trivial,rfl,rfl,trivial,rfl,rfl,⟨aC.mono (by omega),ae.mono (by omega),pB.mono (by omega),aP.mono (by omega)⟩, ?_⟩
   rintro _ rfl _ rfl _ rfl
   rw[gu (by omega) (by omega)]
   refine⟨?_,⟨j+1,rfl,by omega, ?_,trivial⟩,by omega⟩
   ·rw[iT,as2,N2,jt,asy,asy,asy,asW,asy,asW,atZ,auJ U,auJ aU]
    generalize i*q.length=z at*
    omega
   ·rw[oQ aK,f,as7,auH,lx ar,Vf,<-List.append_assoc,uM _ [_]];rfl
  ·have aK:j=q.length:=by omega
   rw[gu (by omega) (by omega)]
   refine⟨⟨i+1,rfl,by omega, ?_⟩,by omega⟩
   rw[oQ hi,e,as7,auH,lx hm,MX,aK,atU]
 ·have hi:i=p.length:=by omega
  rw[hi,atU]
  have Z0:dA 2000000000000000000 (p.map bs):=fun t aA=>by
   obtain⟨r,ak,rfl⟩:=asL.1 aA
   exact(wg r ak).1 _ (by simp)
  have Z1:dA 2000000000000000000 (q.map bs):=fun t aA=>by
   obtain⟨r,ak,rfl⟩:=asL.1 aA
   exact(kz r ak).1 _ (by simp)
  have gK:=(Z0.mul Z1).nR (by decide)
  have hw:=aoi.mul H2 (aoW aqb H2) (aoW aqc jT)
  have aoQ:∀m,aoh m (eR (p.map bs) (q.map bs))<=c:=fun m=>by
   rcases aq5 with⟨U,aa⟩|⟨U,aa⟩
   ·have:=apg m Z1.len (fun x=>by rw[<-aoF];exact aa x) Z0.len
    rw[asy]at this;omega
   ·have:=aqL m Z0.len (fun x=>by rw[<-aoF];exact aa x) Z1.len
    rw[asy]at this;omega
  refine⟨wX hw (by omega) gK aoQ hle Z_ (by rw[N2,asy,asy];exact qI), ?_⟩
  rintro _ rfl
  rw[hf fun t aA=>(gK t aA).1];exact ab
theorem aca (p:Rows)(K:J->Prop)(h:AY.T [.d (.rows 11 p)] K):JA p K:=by
 obtain⟨aQ,ab⟩:=h
 unfold JA
 refine⟨aQ, ?_⟩
 rintro _ rfl
 refine⟨fun h=> ?_,fun h=> ?_⟩
 ·have h:=asC h
  rw[asq h,asq h]at ab;exact ab
 ·have h:=asE h
  rw[asp h,asp h]at ab;exact ab
theorem ql {b:Bool}(h:(!b)=true):b=false:=by simpa using h
theorem n_ {b:Bool}(h:(!b)=false):b=true:=by simpa using h
theorem acD (p:Rows)(K:J->Prop)(h:Cg.T [.d (.rows 11 p)] K):JX p K:=by
 obtain⟨⟨aQ,hw⟩,ab⟩:=h
 unfold JX
 refine⟨aQ, ?_⟩
 rintro _ rfl
 refine⟨fun h=> ?_,fun h=> ?_⟩
 ·rw[ql h]at ab;exact ab
 ·have h:=n_ h
  rw[asq h,asq h]at ab
  refine⟨ri h aQ hw (asz _), ?_⟩
  rintro _ rfl
  exact ab
theorem acQ (v:Int)(K:J->Prop)(h:CW.T [.d (.int .i64 v)] K):J5 v K:=by
 obtain⟨_,ab⟩:=h
 unfold J5
 simp only[as8,asv]
 refine⟨fun h=> ?_,fun U=>⟨fun h=> ?_,fun aa=>⟨⟨by decide,by decide⟩, ?_⟩⟩⟩
 ·rw[asp (by omega),asp (by omega)]at ab;exact ab
 ·rw[asp (by omega),asp (by omega)]at ab;exact ab
 ·rintro _ rfl _ rfl _ rfl
  rw[PV]
  refine⟨by omega,by omega,by rw[asJ];exact lh u_, ?_⟩
  rw[asq (by omega),asq (by omega)]at ab
  have e:(d_ du (bh ((1:Int):Rat)) (bm ((1:Int):Rat)) (bg ((1:Int):Rat))).set v.toNat (.int .i64 1)=fL (du.set v.toNat 1,kW):=by
   rw[d_,List.set_append_left _ _ (by rw[kd];show v.toNat<8;omega),Fy];rfl
  show K (.tup [.d (.rows 11 [(d_ du (bh ((1:Int):Rat)) (bm ((1:Int):Rat)) (bg ((1:Int):Rat))).set v.toNat (.int .i64 1)]), .d (.int .i64 0)])
  rw[e];exact ab
theorem PW {e:Int}:∀{p:List bu} {d:Int},dA e p->d<=e->jg d p<=e
 |[],_,_,aP=>aP
 |t::p,d,h,aP=>by
  rw[jg]
  refine PW (fun u hu=>h u (by simp[hu])) ?_
  split
  ·have aA:=h t (by simp)
   have:∀(l:List Int) (a:Int),a<=e->(∀x∈l,x<=e)->kU a l<=e:=by
    intro l
    induction l with
    |nil=>intro a aC _;exact aC
    |cons x l bA=>
     intro a aC aq
     rw[kU]
     refine bA _ ?_ fun y a6=>aq y (by simp[a6])
     split
     ·exact aq x (by simp)
     ·exact aC
   refine this _ _ ?_ fun x af=>(aA.2 x (List.mem_of_mem_drop af)).2
   have dI:=aA.1
   exact(aA.2 _ (oR (by omega))).2
  ·exact aP
theorem Mf {P:List bu}{k:Nat}(hw:aoi k P)(he:dA 1024 P)(ar:P.length<1000000000){K:J->Prop}(ab:K (.tup [.d (.rows 11 (bP P)), .d (.int .i64 0)])):
 b5 (bP P)/\∀x:List (List R),(x=if(1024:Int)<jg 0 ((bP P).map bs)then[]else bP P)->∀y:Int,(y=if(1024:Int)<jg 0 ((bP P).map bs)then 9 else 0)->K (.tup [.d (.rows 11 x), .d (.int .i64 y)]):=by
 refine⟨uN hw he.len ar, ?_⟩
 have h:¬(1024:Int)<jg 0 ((bP P).map bs):=by
  rw[hf he.len]
  have:=PW he (show(0:Int)<=1024 by decide)
  omega
 rintro _ rfl _ rfl
 rw[asp h,asp h];exact ab
theorem ab6 (g:Nat)(p q:Rows)(K:J->Prop)(h:(xH.T g) [.d (.rows 11 p), .d (.rows 11 q), .fn g] K):Jv p q K:=by
 unfold xH.T spec at h
 simp only[ato]at h
 obtain⟨⟨⟨hp,j1⟩,A,B,n,m,eU,eG,hle,nM⟩,ab⟩:=h
 unfold Jv
 refine⟨hp, ?_⟩
 rintro _ rfl
 refine⟨fun h=> ?_,fun U=>⟨j1, ?_⟩⟩
 ·have e:ew p q=false:=by rw[ew,ql h];rfl
  rw[e]at ab;exact ab
 ·rintro _ rfl
  refine⟨fun h=> ?_,fun aa=> ?_⟩
  ·have e:ew p q=false:=by rw[ew,ql h,Bool.and_false]
   rw[e]at ab;exact ab
  ·have U:=n_ U
   have aa:=n_ aa
   have e:ew p q=true:=by rw[ew,U,aa];rfl
   rw[asq e,asq e]at ab
   have hy:=(mH U hp.1).nrm
   have eq:=(mH aa j1.1).nrm
   have wp:=eU.aov
   have qZ:=eG.aov
   have cj:=eU.aoC
   have db:=eG.aoC
   refine⟨ri U hp eU (by omega), ?_⟩
   rintro _ rfl
   refine⟨ri aa j1 eG (by omega), ?_⟩
   rintro _ rfl
   have ajS:aoi (A+B+1) (nrm (p.map bs)++nrm (q.map bs)):=(wp.mono (by omega)).app (qZ.mono (by omega))
   have I5:∀x,aoh x (nrm (p.map bs)++nrm (q.map bs))<=2:=fun x=>by
    have:=(BF (p.map bs)).aou x
    have:=(BF (q.map bs)).aou x
    rw[aoU];omega
   refine⟨?_, ?_⟩
   ·rw[Vg]
    exact wX ajS (by omega) ((hy.app eq).nR (by decide)) I5 (by omega) (by omega) (by rw[as2];omega)
   ·rintro _ rfl
    have dO:=ajS.nrm I5
    rw[Xo]at dO
    have Sl:=xi (p.map bs++q.map bs)
    rw[as2,asy,asy]at Sl
    have:=eU.len
    have:=eG.len
    rw[hf hy.len,hf eq.len,Xo]
    exact Mf dO ((mH U hp.1).app (mH aa j1.1)).nrm (by omega) ab
theorem ab7 (g:Nat)(p q:Rows)(K:J->Prop)(h:(xI.T g) [.d (.rows 11 p), .d (.rows 11 q), .fn g] K):Jw p q K:=by
 unfold xI.T spec at h
 simp only[ato]at h
 obtain⟨⟨⟨hp,j1⟩,A,B,n,m,eU,eG,hle,nM⟩,ab⟩:=h
 unfold Jw
 refine⟨hp, ?_⟩
 rintro _ rfl
 refine⟨fun h=> ?_,fun U=>⟨j1, ?_⟩⟩
 ·have e:ew p q=false:=by rw[ew,ql h];rfl
  rw[e]at ab;exact ab
 ·rintro _ rfl
  refine⟨fun h=> ?_,fun aa=> ?_⟩
  ·have e:ew p q=false:=by rw[ew,ql h,Bool.and_false]
   rw[e]at ab;exact ab
  ·have U:=n_ U
   have aa:=n_ aa
   have e:ew p q=true:=by rw[ew,U,aa];rfl
   rw[asq e,asq e]at ab
   have hy:=(mH U hp.1).nrm
   have eq:=(mH aa j1.1).nrm
   have wp:=eU.aov
   have qZ:=eG.aov
   have cj:=eU.aoC
   have db:=eG.aoC
   refine⟨ri U hp eU (by omega), ?_⟩
   rintro _ rfl
   refine⟨ri aa j1 eG (by omega), ?_⟩
   rintro _ rfl
   have cz:aoi (A+1) (nrm (p.map bs)):=wp.mono (by omega)
   have dO:aoi (B+1) (nrm (q.map bs)):=qZ.mono (by omega)
   have aoR:=fun x=>(BF (p.map bs)).aou x
   have apm:=fun x=>(BF (q.map bs)).aou x
   refine⟨⟨A+1,1,B+1,1,by omega,by omega,FB cz (hy.nR (by decide)),FB dO (eq.nR (by decide)),fun x=>by rw[aoI hy.len];exact aoR x,fun x=>by rw[aoI eq.len];exact apm x,by omega,by omega,by rw[iT,iT];omega⟩, ?_⟩
   rintro _ rfl
   rw[hf hy.len,hf eq.len]
   have bK:nrm (nrm (p.map bs)++fT (-1) (nrm (q.map bs)))=nrm (p.map bs++fT (-1) (q.map bs)):=sH fun m=>by rw[sN,sN,At,At,n0,n0]
   have gZ:aoi (A+B+2) (nrm (p.map bs)++fT (-1) (nrm (q.map bs))):=(wp.mono (by omega)).app ((qZ.scale ve (asz _)).mono (by omega))
   have oF:=gZ.nrm (c:=2) fun x=>by
    have:=aoR x
    have:=apm x
    rw[aoU,apf];omega
   rw[bK]at oF⊢
   have Sl:=xi (p.map bs++fT (-1) (q.map bs))
   rw[as2,fT,asy,asy,asy,<-fT]at Sl
   have:=eU.len
   have:=eG.len
   exact Mf oF ((mH U hp.1).app ((mH aa j1.1).scale _)).nrm (by omega) ab
theorem acR (p q:Rows)(K:J->Prop)(h:CX.T [.d (.rows 11 p), .d (.rows 11 q)] K):J6 p q K:=by
 obtain⟨U,ab⟩:=h
 unfold J6
 refine⟨U, ?_⟩
 rintro _ rfl _ rfl
 exact ab
theorem acS (p q:Rows)(K:J->Prop)(h:CY.T [.d (.rows 11 p), .d (.rows 11 q)] K):J7 p q K:=by
 obtain⟨U,ab⟩:=h
 unfold J7
 refine⟨U, ?_⟩
 rintro _ rfl _ rfl
 exact ab
theorem QB {n:Int}{p q:List bu}:hi n p q=true↔∃v:Nat,v<8/\oz n p q v=true:=by
 unfold hi
 simp only[atO]
 constructor
 ·rintro(((((((h|h)|h)|h)|h)|h)|h)|h)
  ·exact⟨0,by omega,h⟩
  ·exact⟨1,by omega,h⟩
  ·exact⟨2,by omega,h⟩
  ·exact⟨3,by omega,h⟩
  ·exact⟨4,by omega,h⟩
  ·exact⟨5,by omega,h⟩
  ·exact⟨6,by omega,h⟩
  ·exact⟨7,by omega,h⟩
 ·rintro⟨v,aM,h⟩
  match v,aM with
  |0,_=>simp[h]
  |1,_=>simp[h]
  |2,_=>simp[h]
  |3,_=>simp[h]
  |4,_=>simp[h]
  |5,_=>simp[h]
  |6,_=>simp[h]
  |7,_=>simp[h]
theorem PX {a b:Int}{v:Nat}:∀{p:List bu} {d:Int},(∀t∈p,a<=t.1.getD v 0/\t.1.getD v 0<=b)->a<=d->d<=b->a<=oy v d p/\oy v d p<=b
 |[],d,_,U,aa=>⟨U,aa⟩
 |t::p,d,h,U,aa=>by
  rw[oy]
  have aA:=h t (by simp)
  refine PX (fun u hu=>h u (by simp[hu])) ?_ ?_
  ·split
   ·exact aA.1
   ·exact U
  ·split
   ·exact aA.2
   ·exact aa
theorem Pn {p:Rows}(h:vp p)(bj:cQ p){v:Nat}(aM:v<8):-1000000000000<=lU (p.map bs) v/\lU (p.map bs) v<=1000000000000:=by
 refine PX (fun t aA=> ?_) (by decide) (by decide)
 obtain⟨r,ak,rfl⟩:=asL.1 aA
 exact h r ak _ (oR (by rw[dY,asy,asW,(bj r ak).len];omega))
theorem PY (x:Int):(if x<0 then(0:Int)else x)=max x 0:=by omega
theorem acb (p:Rows)(n:Int)(q:Rows)(K:J->Prop)(h:CZ.T [.d (.rows 11 p), .d (.int .i64 n), .d (.rows 11 q)] K):JB p n q K:=by
 obtain⟨⟨⟨hp,j1⟩,⟨mp,aa9⟩,H3,vK⟩,ab⟩:=h
 unfold JB
 refine⟨fun v=>∃i:Nat,v=i/\i<=8/\∀j,j<i->oz n (p.map bs) (q.map bs) j=false,fun v=>8-v.toNat,⟨0,rfl,by omega,fun j aK=>by omega⟩, ?_⟩
 rintro _ ⟨i,rfl,U,aa⟩
 simp only[as8,asv,asu]
 refine⟨fun aL=>⟨⟨hp,by omega,by omega⟩, ?_⟩,fun aL=> ?_⟩
 ·rintro _ rfl
  refine⟨⟨j1,by omega,by omega⟩, ?_⟩
  rintro _ rfl
  have cn:=Pn mp hp.1 (v:=i) (by omega)
  have cF:=Pn aa9 j1.1 (v:=i) (by omega)
  rw[PY,PY]
  have e:oz n (p.map bs) (q.map bs) i=decide (1024<n*max (lU (p.map bs) i) 0+max (lU (q.map bs) i) 0):=rfl
  generalize lU (p.map bs) i=x at*
  generalize lU (q.map bs) i=y at*
  have pK:0<=max x 0:=by omega
  have gD:max x 0<=1000000000000:=by omega
  have ajM:0<=n*max x 0:=Int.mul_nonneg H3 pK
  have g_:n*max x 0<=1000*1000000000000:=Int.mul_le_mul vK gD pK (by decide)
  have cz:IntKind.wrap .i64 (n*max x 0)=n*max x 0:=bl (by omega)
  rw[cz,bl (by omega)]
  refine⟨fun bo=> ?_,fun bo=>⟨⟨i+1,gu (by omega) (by omega),by omega,fun j aK=> ?_⟩,by rw[gu (by omega) (by omega)];omega⟩⟩
  ·have:hi n (p.map bs) (q.map bs)=true:=QB.2 ⟨i,by omega,by rw[e];exact at0 bo⟩
   rw[this]at ab;exact ab
  ·by_cases y0:j=i
   ·rw[y0,e];exact atQ bo
   ·exact aa j (by omega)
 ·have:hi n (p.map bs) (q.map bs)=false:=by
   cases b2:hi n (p.map bs) (q.map bs)with
   |false=>rfl
   |true=>
    obtain⟨v,aM,lJ⟩:=QB.1 b2
    rw[aa v (by omega)]at lJ;cases lJ
  rw[this]at ab;exact ab
theorem dA.RL {e:Int}{p:List bu}(h:dA e p)(he:e<=1000000000000):vp (bP p):=fun r ak x af=>by
 obtain⟨t,aA,rfl⟩:=asL.1 ak
 have an:dY (fL t)=t.1:=uT (h t aA).1
 rw[an]at af
 have:=(h t aA).2 x af
 omega
theorem dA.Q4 {e:Int}{p:List bu}{k:Nat}(h:dA e p)(he:e<=2000000000000000000)(hw:aoi k p):∀r∈bP p,dA 2000000000000000000 [bs r]/\dZ r:=fun r ak=>by
 refine⟨?_,(aoL hw h.len r ak).row⟩
 obtain⟨t,aA,rfl⟩:=asL.1 ak
 rw[BA (h t aA).1]
 intro u hu
 rw[atr.1 hu]
 exact h.mono he t aA
theorem acT (p q:Rows)(K:J->Prop)(h:C0.T [.d (.rows 11 p), .d (.rows 11 q)] K):J8 p q K:=by
 obtain⟨⟨⟨hp,j1⟩,A,B,n,m,eU,eG,hle,nM,ark,arl⟩,ab⟩:=h
 unfold J8
 refine⟨hp, ?_⟩
 rintro _ rfl
 refine⟨fun h=> ?_,fun U=>⟨j1, ?_⟩⟩
 ·have e:ew p q=false:=by rw[ew,ql h];rfl
  rw[ph,e]at ab;exact ab
 ·rintro _ rfl
  refine⟨fun h=> ?_,fun aa=> ?_⟩
  ·have e:ew p q=false:=by rw[ew,ql h,Bool.and_false]
   rw[ph,e]at ab;exact ab
  ·have U:=n_ U
   have aa:=n_ aa
   have e:ew p q=true:=by rw[ew,U,aa];rfl
   rw[ph,e,Bool.true_and,asq rfl]at ab
   have hy:=(mH U hp.1).nrm
   have eq:=(mH aa j1.1).nrm
   have wp:=eU.aov
   have qZ:=eG.aov
   refine⟨ri U hp eU ark, ?_⟩
   rintro _ rfl
   refine⟨ri aa j1 eG arl, ?_⟩
   rintro _ rfl
   have qY:=eU.aoC
   have ie:=eG.aoC
   have aU:1<=A:=by obtain⟨_,_,g1,_,_,_,g2,_⟩:=eU;omega
   have a_:1<=B:=by obtain⟨_,_,g1,_,_,_,g2,_⟩:=eG;omega
   have aoR:=fun x=>(BF (p.map bs)).aou x
   have apm:=fun x=>(BF (q.map bs)).aou x
   have ai1:=xi (p.map bs)
   have ai2:=xi (q.map bs)
   rw[asy]at ai1 ai2
   have asc:=hp.2
   have asd:=j1.2
   have ic:ya (bP (nrm (p.map bs))) (bP (nrm (q.map bs))):=by
    refine⟨hy.Q4 (by decide) wp,eq.Q4 (by decide) qZ,A,B,if n*(2*(A+B)+2)<=900000 then n else m,aU,a_,aoL wp hy.len,aoL qZ eq.len, ?_, ?_,by omega, ?_,by rw[iT];omega,by rw[iT];omega⟩
    ·split
     ·exact .inl ⟨by rw[iT];exact qY,fun x=>by rw[aoI eq.len];exact apm x⟩
     ·exact .inr ⟨by rw[iT];exact ie,fun x=>by rw[aoI hy.len];exact aoR x⟩
    ·split
     ·assumption
     ·rename_i h;exact hle.resolve_left h
    ·rw[iT,iT]
     have:=atS qY ie
     omega
   have fin:∀x:List (List R),x=bP (nrm (eR ((bP (nrm (p.map bs))).map bs) ((bP (nrm (q.map bs))).map bs)))->x=bP (nrm (eR (p.map bs) (q.map bs))):=by
    rintro _ rfl
    rw[hf hy.len,hf eq.len,Xp]
   rw[iT,iT]
   have Q5:∀l:List bu,decide ((0:Int)<((l.length:Nat):Int))= !decide (l=[]):=fun l=>by
    cases l with
    |nil=>rfl
    |cons t l=>simp
   rw[Q5,Q5]
   refine⟨fun g1=>⟨fun g2=>⟨⟨⟨uN wp hy.len (by omega),uN qZ eq.len (by omega)⟩,⟨hy.RL (by decide),eq.RL (by decide)⟩,by decide,by decide⟩, ?_⟩,fun g2=>⟨ic, ?_⟩⟩,fun g1=>⟨ic, ?_⟩⟩
   ·rintro _ rfl
    rw[hf hy.len,hf eq.len]
    have zr:mX (nrm (p.map bs)) (nrm (q.map bs))=hi 1 (nrm (p.map bs)) (nrm (q.map bs)):=by rw[mX,g1,g2,Bool.true_and,Bool.true_and]
    rw[zr]at ab
    refine⟨fun h=> ?_,fun h=>⟨ic, ?_⟩⟩
    ·rw[h]at ab;exact ab
    ·rw[h]at ab
     intro x af
     rw[hf hy.len,hf eq.len]at fin
     rw[fin x af];exact ab
   ·have zr:mX (nrm (p.map bs)) (nrm (q.map bs))=false:=by rw[mX,g2,Bool.and_false];rfl
    rw[zr]at ab
    intro x af
    rw[fin x af];exact ab
   ·have zr:mX (nrm (p.map bs)) (nrm (q.map bs))=false:=by rw[mX,g1];rfl
    rw[zr]at ab
    intro x af
    rw[fin x af];exact ab
theorem ab3 (p:Rows)(v:Int)(K:J->Prop)(h:Ch.T [.d (.rows 11 p), .d (.int .i64 v)] K):Js p v K:=by
 obtain⟨⟨hp,dP⟩,ab⟩:=h
 unfold Js
 refine⟨hp, ?_⟩
 rintro _ rfl
 simp only[as8,asv]
 refine⟨fun h=> ?_,fun U=>⟨fun h=> ?_,fun aa=>⟨fun h=> ?_,fun al=>⟨ri (n_ U) hp dP (asz _), ?_⟩⟩⟩⟩
 ·have e:gQ p v=2:=by rw[gQ,ql h];rfl
  rw[e]at ab;exact ab
 ·have e:gQ p v=1:=by rw[gQ,asq (n_ U),asp (by omega)]
  rw[e]at ab;exact ab
 ·have e:gQ p v=1:=by rw[gQ,asq (n_ U),asp (by omega)]
  rw[e]at ab;exact ab
 ·rintro _ rfl
  have e:gQ p v=0:=by rw[gQ,asq (n_ U),asq (by omega)]
  rw[e]at ab;exact ab
theorem PZ {p:Rows}{v:Int}(h:gQ p v=0):hI p=true/\0<=v/\v<8:=by
 unfold gQ at h
 split at h
 ·split at h
  ·rename_i U aa;exact⟨U,aa⟩
  ·cases h
 ·cases h
theorem ur {m:List Int}{v:Nat}(h:v<m.length)(x:Int):(m.set v x).getD v 0=x:=by rw[ef,asq ⟨rfl,h⟩]
theorem N3 {m:List Int}{v:Nat}:m.set v (m.getD v 0)=m:=by
 refine Q3 (by simp) fun i hi=> ?_
 rw[ef]
 split
 ·rename_i h;rw[h.1]
 ·rfl
theorem E1 {v:Nat}(aM:v<8)(m:List Int):∀{p:List bu},(∀t∈p,t.1.length=8)->
 cG (hF v p) m=(if m.length=8/\0<=m.getD v 0 then cG p (m.set v (m.getD v 0+1))*((m.getD v 0+1:Int):Rat)else 0)
 |[],_=>by
  show(0:Rat)=_
  split
  ·show(0:Rat)=0*_;rw[Rat.zero_mul]
  ·rfl
 |t::p,h=>by
  have bA:=E1 aM m (p:=p) fun u hu=>h u (by simp[hu])
  have dI:=h t (by simp)
  have ku:v<t.1.length:=by omega
  have wb:hF v (t::p)=(if 0<t.1.getD v 0 then[(t.1.set v (t.1.getD v 0-1),t.2*((t.1.getD v 0:Int):Rat))]else[])++hF v p:=by
   unfold hF
   rw[at6]
   by_cases aw:0<t.1.getD v 0
   ·rw[asq (at0 aw),asq aw];rfl
   ·rw[asp (by simpa using aw),asp aw];rfl
  rw[wb,sN,bA]
  by_cases ay:m.length=8/\0<=m.getD v 0
  ·rw[asq ay,asq ay,cG]
   by_cases aw:0<t.1.getD v 0
   ·rw[asq aw,cG,cG,atV]
    simp only
    by_cases he:t.1.set v (t.1.getD v 0-1)=m
    ·have an:t.1.getD v 0-1=m.getD v 0:=by rw[<-he,ur ku]
     have az:t.1=m.set v (m.getD v 0+1):=by
      rw[<-he,List.set_set,ur ku,Int.sub_add_cancel,N3]
     rw[asq he,asq az,Rat.add_mul,show t.1.getD v 0=m.getD v 0+1 by omega]
    ·have az:t.1≠m.set v (m.getD v 0+1):=fun e=>he (by
      have an:t.1.getD v 0=m.getD v 0+1:=by rw[e,ur (by omega)]
      rw[an,e,List.set_set,Int.add_sub_cancel,N3])
     rw[asp he,asp az,aty,aty]
   ·have az:t.1≠m.set v (m.getD v 0+1):=fun e=>aw (by rw[e,ur (by omega)];omega)
    rw[asp aw,asp az,aty]
    show(0:Rat)+_=_
    rw[aty]
  ·rw[asp ay,asp ay,atV]
   by_cases aw:0<t.1.getD v 0
   ·rw[asq aw,cG,cG,atV]
    simp only
    rw[asp]
    intro he
    refine ay ⟨by rw[<-he,asJ,dI], ?_⟩
    rw[<-he,ur ku];omega
   ·rw[asp aw];rfl
theorem Ws {v:Nat}(aM:v<8){p q:List bu}(aw:∀t∈p,t.1.length=8)(aN:∀t∈q,t.1.length=8)(h:∀m,cG p m=cG q m):nrm (hF v p)=nrm (hF v q):=
 sH fun m=>by rw[E1 aM m aw,E1 aM m aN,h]
theorem Wt {v:Nat}{p:List bu}{t:bu}(h:t∈hF v p):∃u∈p,0<u.1.getD v 0/\t=(u.1.set v (u.1.getD v 0-1),u.2*((u.1.getD v 0:Int):Rat)):=by
 obtain⟨u,hu,rfl⟩:=asL.1 h
 rw[atH]at hu
 exact⟨u,hu.1,asC hu.2,rfl⟩
theorem dA.hF {e:Int}{p:List bu}(h:dA e p){v:Nat}:dA e (hF v p):=fun t aA=>by
 obtain⟨u,hu,aE,rfl⟩:=Wt aA
 refine⟨by rw[asJ];exact(h u hu).1,fun x af=> ?_⟩
 rcases auI af with af|rfl
 ·exact(h u hu).2 x af
 ·by_cases aq:v<u.1.length
  ·have:=(h u hu).2 _ (oR aq);omega
  ·rw[ass,as5 (by omega)]at aE;simp at aE
theorem N4 {n:Int}(h:n.natAbs<4294967296):cv 1 (n:Rat):=by
 refine⟨by rw[Rat.num_intCast];simpa using h,by rw[Rat.den_intCast];decide⟩
theorem aoi.hF {k:Nat}{e:Int}(he:e<4294967296){v:Nat}(aM:v<8){p:List bu}(dj:dA e p)(h:aoi k p):aoi (k+1) (hF v p):=fun t aA=>by
 obtain⟨u,hu,rfl⟩:=asL.1 aA
 have hu:=(atH.1 hu).1
 have af:=dj u hu
 have ae:=af.2 _ (oR (m:=u.1) (i:=v) (by have:=af.1;omega))
 exact(h u hu).mul (N4 (by omega)) (by omega)
theorem apw {v:Nat}(aM:v<8)(m:List Int):∀{p:List bu},(∀t∈p,t.1.length=8)->aoh m (hF v p)<=aoh (m.set v (m.getD v 0+1)) p
 |[],_=>atD _
 |t::p,h=>by
  have bA:=apw aM m (p:=p) fun u hu=>h u (by simp[hu])
  have dI:=h t (by simp)
  unfold hF at bA⊢
  rw[at6]
  split
  ·rw[asX,aoh,aoh]
   split
   ·rename_i e
    have:t.1=m.set v (m.getD v 0+1):=by
     have e:t.1.set v (t.1.getD v 0-1)=m:=e
     rw[<-e,ur (by omega),List.set_set,Int.sub_add_cancel,N3]
    rw[asq this];omega
   ·omega
  ·rw[aoh];omega
theorem MY (v:Nat)(p:List bu)(t:bu):hF v (p++[t])=hF v p++(if 0<t.1.getD v 0 then[(t.1.set v (t.1.getD v 0-1),t.2*((t.1.getD v 0:Int):Rat))]else[]):=by
 unfold hF
 rw[aup,as7]
 congr 1
 rw[at6,List.filter_nil]
 by_cases aw:0<t.1.getD v 0
 ·rw[asq (at0 aw),asq aw];rfl
 ·rw[asp (by simpa using aw),asp aw];rfl
theorem Wu (v:Nat)(p:List bu):(hF v p).length<=p.length:=by
 rw[hF,asy];exact List.length_filter_le _ _
theorem QC {m:List Int}{s:Bool}{a b:List Int}(hm:m.length=8){v:Nat}(aM:v<8):(d_ m s a b).getD v .undef= .int .i64 (m.getD v 0):=by
 rw[d_,ass,atp (by rw[kd];omega),<-ass,Fx _ _ (by omega)]
theorem F8 {m:List Int}{s:Bool}{a b:List Int}(hm:m.length=8){v:Nat}(aM:v<8)(x:Int):(d_ m s a b).set v (.int .i64 x)=d_ (m.set v x) s a b:=by
 rw[d_,List.set_append_left _ _ (by rw[kd];omega),Fy];rfl
theorem ack (p:Rows)(v:Int)(K:J->Prop)(h:CV.T [.d (.rows 11 p), .d (.int .i64 v)] K):JG p v K:=by
 obtain⟨⟨⟨iJ,mY⟩,dj,k,c,H2,bj,aoQ,hle,aoP,hlen⟩,ab⟩:=h
 unfold JG
 obtain⟨w,rfl⟩:∃w:Nat,v=w:=⟨v.toNat,by omega⟩
 have hw:w<8:=by omega
 refine⟨fun x o=>∃i:Nat,x=i/\i<=p.length/\o=bP (hF w ((p.take i).map bs)),fun x _=>p.length-x.toNat,⟨0,rfl,by omega,rfl⟩, ?_⟩
 rintro _ _ ⟨i,rfl,U,rfl⟩
 have e9:(bP (hF w ((p.take i).map bs))).length<=i:=by
  have:=Wu w ((p.take i).map bs)
  rw[asy,asW]at this
  rw[iT];omega
 simp only[as8,asv,asu]
 simp only[asu]at ab
 refine⟨fun aL=> ?_,fun aL=> ?_⟩
 ·have hi:i<p.length:=by omega
  have vJ:=mA hi
  obtain⟨m,s,a,b,e,hm,gK,aC,ae⟩:=(bj _ vJ).parts
  have dr:=dj (m,ag s a b) (by rw[<-lx hm,<-e];exact List.mem_map_of_mem vJ)
  have aji:=dr.2 _ (oR (m:=m) (i:=w) (by omega))
  rw[e]
  simp only[QC hm hw,lh hm,R.toInt]
  have y3:(m.set w (m.getD w 0-1)).length=8:=by rw[asJ,hm]
  have wc:IntKind.wrap .i64 ((i:Int)+1)=((i+1:Nat):Int):=gu (by omega) (by omega)
  rw[wc]
  refine⟨by omega,aL,trivial,iJ,mY,rfl,fun bo=> ?_,fun bo=>⟨⟨i+1,rfl,by omega, ?_⟩,by omega⟩⟩
  ·have cz:IntKind.wrap .i64 (m.getD w 0-1)=m.getD w 0-1:=bl (by omega)
   simp only[cz,F8 hm hw,lC y3,kV y3,kS y3,R.toBool,R.b6]
   have aP:cv 1 ((m.getD w 0:Int):Rat):=N4 (by omega)
   refine⟨iJ,mY,rfl,iJ,mY,trivial,rfl,rfl,⟨by omega,by omega⟩, ?_⟩
   rintro _ rfl _ rfl _ rfl
   refine⟨⟨aC.mono (by omega),ae.mono (by omega),aP.num.mono (by decide),aP.den.mono (by decide)⟩, ?_⟩
   rw[show(IntCast.intCast (m.getD w 0):Rat)=((m.getD w 0:Int):Rat)from rfl,h2]
   rintro _ rfl _ rfl _ rfl
   rw[Gy y3]
   refine⟨lh y3,by rw[atZ];omega,⟨i+1,rfl,by omega, ?_⟩,by omega⟩
   rw[oQ hi,e,as7,auH,lx hm,MY,asq bo,uM];rfl
  ·rw[oQ hi,e,as7,auH,lx hm,MY,asp bo,auv]
 ·have hi:i=p.length:=by omega
  rw[hi,atU]
  have gK:=dj.hF (v:=w)
  have RM:=aoi.hF (by decide) hw dj (aoW (fun r ak=>(bj r ak).ajl) H2)
  have ar:=Wu w (p.map bs)
  rw[asy]at ar
  refine⟨wX RM (by omega) (gK.nR (by decide)) (fun m=>asZ (apw hw m dj.len) (by rw[<-aoF];exact aoQ _)) hle aoP (by omega), ?_⟩
  rintro _ rfl
  rw[hf gK.len];exact ab
theorem ab4 (p:Rows)(v:Int)(K:J->Prop)(h:C2.T [.d (.rows 11 p), .d (.int .i64 v)] K):Jt p v K:=by
 obtain⟨⟨hp,dP⟩,ab⟩:=h
 unfold Jt
 refine⟨⟨hp,dP⟩, ?_⟩
 rintro _ rfl _ rfl
 refine⟨fun h=> ?_,fun h=> ?_⟩
 ·have h:¬gQ p v=0:=by simpa using h
  rw[asp h]at ab;exact ab
 ·have h:gQ p v=0:=by simpa using h
  obtain⟨U,aa,al⟩:=PZ h
  rw[asq h,h]at ab
  rw[asq h]
  have bE:=mH U hp.1
  have hy:=bE.nrm
  have kC:=xi (p.map bs)
  rw[asy]at kC
  refine⟨⟨⟨aa,al⟩,by rw[hf hy.len];exact hy.mono (by decide),400000,1,by decide,FB dP.aov (hy.nR (by decide)),fun x=>by rw[aoI hy.len];exact(BF (p.map bs)).aou x,by decide,by decide,by rw[iT];have:=hp.2;omega⟩, ?_⟩
  rintro _ rfl
  rw[hf hy.len,Ws (by omega) hy.len bE.len (n0 _)];exact ab
theorem dZ.at' {r:Row}(h:dZ r){v:Nat}(aM:v<8):(r.take 8).getD v .undef= .int .i64 ((dY r).getD v 0):=by
 rw[<-h.at aM,ass,ath,asq aM,<-ass]
theorem E2 {p:Rows}{r:Row}(ak:r∈p){x:Int}(af:x∈dY r)(h:x<0\/1024<x):hI p=false:=by
 cases aM:hI p with
 |false=>rfl
 |true=>
  have U:=asH.1 aM r ak
  have:=asH.1 U x af
  simp at this
  omega
theorem acy (p:Rows)(K:J->Prop)(h:u7.T [.d (.rows 11 p)] K):JU p K:=by
 obtain⟨⟨bj,aq⟩,ab⟩:=h
 unfold JU
 refine⟨fun w=>∃i:Nat,w=i/\i<=p.length/\∀j,j<i->y2 (dY (p.getD j []))=true,fun w=>p.length-w.toNat,⟨0,rfl,by omega,fun j aK=>by omega⟩, ?_⟩
 rintro _ ⟨i,rfl,U,aa⟩
 simp only[as8,asv,asu]
 refine⟨fun aL=> ?_,fun aL=> ?_⟩
 ·have hi:i<p.length:=by omega
  have ak:=bj.get hi
  have aa8:(dY (p.getD i [])).length=8:=by rw[dY,asy,asW,ak.len];rfl
  refine⟨by omega,aL,ak.len,ak.len,fun w=>∃j:Nat,w=j/\j<=8/\∀k,k<j->0<=(dY (p.getD i [])).getD k 0/\(dY (p.getD i [])).getD k 0<=1024,fun w=>8-w.toNat,⟨trivial,0,rfl,by omega,fun j aK=>by omega⟩, ?_⟩
  rintro _ ⟨j,rfl,aU,a_⟩
  simp only[as8,asv,asu]
  refine⟨fun bo=> ?_,fun bo=> ?_⟩
  ·have aK:j<8:=by omega
   simp only[ak.at' aK,R.toInt]
   have hm:=oR (m:=dY (p.getD i [])) (i:=j) (by omega)
   refine⟨by omega,bo,rfl,fun bX=> ?_,fun bX=>⟨fun fi=> ?_,fun fi=>⟨trivial,⟨j+1,gu (by omega) (by omega),by omega,fun k ab=> ?_⟩,by rw[gu (by omega) (by omega)];omega⟩⟩⟩
   ·rw[E2 (mA hi) hm (.inl bX)]at ab;exact ab
   ·rw[E2 (mA hi) hm (.inr fi)]at ab;exact ab
   ·by_cases e:k=j
    ·rw[e];omega
    ·exact a_ k (by omega)
  ·refine⟨⟨i+1,gu (by omega) (by omega),by omega,fun k ab=> ?_⟩,by rw[gu (by omega) (by omega)];omega⟩
   by_cases e:k=i
   ·rw[e,y2,asH]
    intro x af
    obtain⟨n,ar,rfl⟩:=auM af
    have:=a_ n (by omega)
    rw[ass,asI ar]at this
    simpa using this
   ·exact aa k (by omega)
 ·have aM:hI p=true:=asH.2 fun r ak=>by
   obtain⟨n,ar,rfl⟩:=auM ak
   have:=aa n (by omega)
   rwa [ass,asI ar]at this
  rw[aM]at ab;exact ab
theorem acd (p q:Rows)(K:J->Prop)(h:Ci.T [.d (.rows 11 p), .d (.rows 11 q)] K):JC p q K:=by
 obtain⟨⟨wg,kz,qY,ie⟩,ab⟩:=h
 unfold JC
 refine⟨fun h=> ?_,fun h=> ?_⟩
 ·have h:¬(p.length:Int)=q.length:=by simpa using h
  rw[atQ fun e=>h (by have:=asQ List.length e;simp only[asy]at this;omega)]at ab
  exact ab
 ·have aq:(p.length:Int)=q.length:=by simpa using h
  refine⟨fun w=>∃i:Nat,w=i/\i<=p.length/\∀j,j<i->ma (p.getD j [])=ma (q.getD j []),fun w=>p.length-w.toNat,⟨0,rfl,by omega,fun j aK=>by omega⟩, ?_⟩
  rintro _ ⟨i,rfl,U,aa⟩
  simp only[as8,asv,asu]
  refine⟨fun aL=> ?_,fun aL=> ?_⟩
  ·have hi:i<p.length:=by omega
   have dH:i<q.length:=by omega
   have cV:ma (p.getD i [])≠ma (q.getD i [])->decide (p.map ma=q.map ma)=false:=fun ar=>atQ fun e=>ar (by
    have:=asQ (fun l:List (List Int×Bool×List Int×List Int)=>l[i]?) e
    simp only[atl,asI hi,asI dH,ats,asM]at this
    rw[ass,ass,asI hi,asI dH];exact this)
   have Sq:=wg _ (mA hi)
   have Sr:=kz _ (mA dH)
   have ip:=Sq.row
   have Ss:=Sr.row
   obtain⟨m,s,a,b,e,hm,aC,ae⟩:=Sq
   obtain⟨n,t,c,d,f,ar,ay,aP⟩:=Sr
   rw[e,f]at cV
   rw[e]at ip
   rw[f]at Ss
   have aU:ma (d_ m s a b)=(m,s,a,b):=by rw[ma,uT hm,lC hm,kV hm,kS hm];rfl
   have a_:ma (d_ n t c d)=(n,t,c,d):=by rw[ma,uT ar,lC ar,kV ar,kS ar];rfl
   rw[aU,a_]at cV
   have Eb:=ip.tP
   have dW:=Ss.tP
   simp only[lh hm,lh ar,oZ hm,oZ ar,lC hm,kV hm,kS hm,lC ar,kV ar,kS ar,oP,R.toBool,R.b6]at Eb dW
   simp only[e,f,lh hm,lh ar,oZ hm,oZ ar,lC hm,kV hm,kS hm,lC ar,kV ar,kS ar,oP,R.toBool,R.b6]
   refine⟨by omega,aL,trivial,by omega,by omega,trivial,Eb,dW,fun bo=> ?_,fun bo=> ?_⟩
   ·have bo:m≠n:=by simpa using bo
    rw[cV fun e=>bo (asQ Prod.fst e)]at ab;exact ab
   ·have bo:m=n:=by simpa using bo
    have:=aC.2;have:=ae.2;have:=ay.2;have:=aP.2
    refine⟨by omega,aL,trivial,rfl,rfl,by omega,by omega,trivial,rfl,rfl,⟨by omega,by omega,by omega,by omega⟩, ?_⟩
    rintro _ rfl
    refine⟨fun bX=> ?_,fun bX=>⟨⟨i+1,gu (by omega) (by omega),by omega,fun j aK=> ?_⟩,by rw[gu (by omega) (by omega)];omega⟩⟩
    ·have bX:¬(s=t/\a=c/\b=d):=asE (ql bX)
     rw[cV fun e=>bX (by simp only[asO]at e;exact e.2)]at ab;exact ab
    ·by_cases az:j=i
     ·have bX:s=t/\a=c/\b=d:=by simpa using bX
      rw[az,e,f,aU,a_,bo,bX.1,bX.2.1,bX.2.2]
     ·exact aa j (by omega)
  ·have:decide (p.map ma=q.map ma)=true:=at0 (auF (by simp;omega) fun n ar qJ=>by
    have:=aa n (by rw[asy]at ar;omega)
    rw[asy]at ar qJ
    rw[ass,ass,asI ar,asI qJ]at this
    rw[List.getElem_map,List.getElem_map];exact this)
   rw[this]at ab;exact ab
end I
end
section
open Go Go.bG
namespace I
def aon (x:Nat->Rat):Nat->List Int->Rat
 |_,[]=>1
 |i,a::m=>x i^a.toNat*aon x (i+1) m
def aS (x:Nat->Rat)(p:List bu):Rat:=dw (aon x 0) p
def aol (p:List bu):Prop:=∀t∈p,t.1.length=8/\∀y∈t.1,0<=y
theorem dA.aoE {e:Int}{p:List bu}(h:dA e p):aol p:=fun t aA=>⟨(h t aA).1,fun y a6=>((h t aA).2 y a6).1⟩
theorem aol.app {p q:List bu}(h:aol p)(g:aol q):aol (p++q):=fun t aA=>(atY.1 aA).elim (h t) (g t)
theorem aol.nrm {p:List bu}(h:aol p):aol (nrm p):=fun t aA=>by
 obtain⟨u,hu,e⟩:=F6 aA
 rw[<-e];exact h u hu
theorem aol.scale {p:List bu}(h:aol p)(c:Rat):aol (fT c p):=fun t aA=>by
 obtain⟨u,hu,rfl⟩:=asL.1 aA
 exact h u hu
theorem aol.mul {p q:List bu}(h:aol p)(g:aol q):aol (eR p q):=fun t aA=>by
 obtain⟨u,hu,v,aM,rfl⟩:=Oa aA
 refine⟨by rw[Fz _ _ (by rw[(h u hu).1,(g v aM).1])];exact(h u hu).1,fun x af=> ?_⟩
 obtain⟨y,a6,z,bc,rfl⟩:=N_ af
 have:=(h u hu).2 y a6
 have:=(g v aM).2 z bc
 omega
theorem aol.cons {t:bu}{p:List bu}(h:aol (t::p)):aol p:=fun u hu=>h u (by simp[hu])
theorem ao2 (x:Rat)(m:Nat):∀n:Nat,x^(m+n)=x^m*x^n
 |0=>by rw[asN,Rat.pow_zero,Rat.mul_one]
 |n+1=>by rw[<-atn,Rat.pow_succ,Rat.pow_succ,ao2 x m n,aui]
theorem apS (x:Rat)(m:Nat):∀n:Nat,x^(m*n)=(x^m)^n
 |0=>by rw[as3,Rat.pow_zero,Rat.pow_zero]
 |n+1=>by rw[Nat.mul_succ,ao2,apS x m n,Rat.pow_succ]
theorem aoV {f g:List Int->Rat}:∀{p:List bu},(∀t∈p,f t.1=g t.1)->dw f p=dw g p
 |[],_=>rfl
 |t::p,h=>by rw[dw,dw,h t (by simp),aoV fun u hu=>h u (by simp[hu])]
theorem apY (x:Nat->Rat):∀(i:Nat) (a b:List Int),a.length=b.length->(∀y∈a,0<=y)->(∀y∈b,0<=y)->aon x i (fx a b)=aon x i a*aon x i b
 |_,[],[],_,_,_=>by simp[fx,aon]
 |_,[],_::_,h,_,_=>by simp at h
 |_,_::_,[],h,_,_=>by simp at h
 |i,a::p,b::q,h,U,aa=>by
  have aC:=U a (by simp)
  have ae:=aa b (by simp)
  rw[fx,aon,aon,aon,apY x (i+1) p q (by simpa using h) (fun y a6=>U y (by simp[a6])) (fun y a6=>aa y (by simp[a6])),show(a+b).toNat=a.toNat+b.toNat by omega,ao2]
  generalize x i^a.toNat=A
  generalize x i^b.toNat=B
  grind
theorem aoM (x:Nat->Rat)(p:List bu):aS x (nrm p)=aS x p:=A7 _ p
theorem ao6 (x:Nat->Rat)(p q:List bu):aS x (p++q)=aS x p+aS x q:=A6 _ p q
theorem apT (x:Nat->Rat)(c:Rat)(p:List bu):aS x (fT c p)=c*aS x p:=Mj _ c p
theorem aoG (x:Nat->Rat){p q:List bu}(aw:aol p)(aN:aol q):aS x (eR p q)=aS x p*aS x q:=by
 unfold aS
 rw[nk]
 have U:dw (fun a=>dw (fun b=>aon x 0 (fx a b)) q) p=dw (fun a=>aS x q*aon x 0 a) p:=aoV fun t aA=>by
  have aa:dw (fun b=>aon x 0 (fx t.1 b)) q=dw (fun b=>aon x 0 t.1*aon x 0 b) q:=aoV fun u hu=>apY x 0 _ _ (by rw[(aw t aA).1,(aN u hu).1]) (aw t aA).2 (aN u hu).2
  show dw (fun b=>aon x 0 (fx t.1 b)) q=_
  rw[aa,N7,Rat.mul_comm];rfl
 rw[U,N7,Rat.mul_comm];rfl
def code (N:Nat):List Int->Nat
 |[]=>0
 |a::m=>a.toNat*N^m.length+code N m
theorem apZ {N:Nat}:∀{m:List Int},(∀y∈m,0<=y/\y<N)->code N m<N^m.length
 |[],_=>by simp[code]
 |a::m,h=>by
  have bA:=apZ (m:=m) fun y a6=>h y (by simp[a6])
  have aC:=h a (by simp)
  have:a.toNat+1<=N:=by omega
  have aa:=asF (N^m.length) this
  rw[code,atf,asU,asT (N^m.length) N]
  rw[asK,atx]at aa
  omega
theorem ap0 {N:Nat}:∀{a b:List Int},a.length=b.length->(∀y∈a,0<=y/\y<N)->(∀y∈b,0<=y/\y<N)->m_ a b->code N b<code N a
 |[],[],_,_,_,h=>absurd h (Vi _)
 |[],_::_,e,_,_,_=>by simp at e
 |_::_,[],e,_,_,_=>by simp at e
 |a::p,b::q,e,U,aa,h=>by
  have cd:p.length=q.length:=by simpa using e
  have aC:=U a (by simp)
  have ae:=aa b (by simp)
  have aN:=apZ (m:=q) fun y a6=>aa y (by simp[a6])
  unfold m_ dR at h
  rw[code,code]
  split at h
  ·simp at h
  ·split at h
   ·rename_i al
    have:b.toNat+1<=a.toNat:=by omega
    have aL:=asF (N^p.length) this
    rw[asK,atx,cd]at aL
    rw[cd];omega
   ·have:a=b:=by omega
    subst this
    have:=ap0 cd (fun y a6=>U y (by simp[a6])) (fun y a6=>aa y (by simp[a6])) h
    rw[cd];omega
def pt (T:Rat)(N n:Nat):Nat->Rat:=fun i=>T^N^(n-1-i)
theorem ap3 (T:Rat)(N n:Nat):∀(m:List Int) (i:Nat),i+m.length=n->aon (pt T N n) i m=T^code N m
 |[],i,_=>by simp[aon,code]
 |a::m,i,h=>by
  have h:i+(m.length+1)=n:=by simpa using h
  rw[aon,ap3 T N n m (i+1) (by omega),code,ao2,pt,<-apS,show n-1-i=m.length by omega,asT]
def aom (c:Rat):Rat:=if c<0 then-c else c
def aow:List bu->Rat
 |[]=>0
 |t::p=>aom t.2+aow p
theorem apz (c:Rat):0<=aom c:=by unfold aom;split<;>grind
theorem ap4:∀p:List bu,0<=aow p
 |[]=>by simp[aow]
 |t::p=>by rw[aow];have:=apz t.2;have:=ap4 p;grind
theorem aoT {T:Rat}(h:1<=T):∀n:Nat,1<=T^n
 |0=>by simp
 |n+1=>by
  have bA:=aoT h n
  rw[Rat.pow_succ]
  have:=Rat.mul_le_mul_of_nonneg_left h (show(0:Rat)<=T^n by grind)
  grind
theorem aqX {T:Rat}(h:1<=T){m n:Nat}(hm:m<=n):T^m<=T^n:=by
 obtain⟨k,rfl⟩:=Nat.exists_eq_add_of_le hm
 have U:=aoT h m
 have aa:=aoT h k
 rw[ao2]
 have:=Rat.mul_le_mul_of_nonneg_left aa (show(0:Rat)<=T^m by grind)
 grind
theorem aq2 {c y Y:Rat}(aE:0<=y)(h:y<=Y):c*y<=aom c*Y/\-(aom c*Y)<=c*y:=by
 have U:=Rat.mul_le_mul_of_nonneg_left h (apz c)
 have aa:=Rat.mul_nonneg (apz c) aE
 by_cases ay:c<0
 ·have e:aom c=-c:=asq ay
  rw[e]at U aa⊢;constructor<;>grind
 ·have e:aom c=c:=asp ay
  rw[e]at U aa⊢;constructor<;>grind
theorem apU {T:Rat}(bj:1<=T){f:List Int->Rat}{k:Nat}:∀{p:List bu},(∀t∈p,∃j,j<=k/\f t.1=T^j)->dw f p<=aow p*T^k/\-(aow p*T^k)<=dw f p
 |[],_=>by simp[dw,aow]
 |t::p,h=>by
  have bA:=apU bj (f:=f) (k:=k) (p:=p) fun u hu=>h u (by simp[hu])
  obtain⟨j,aK,e⟩:=h t (by simp)
  have U:=aoT bj j
  have:=aq2 (c:=t.2) (show(0:Rat)<=T^j by grind) (aqX bj aK)
  rw[dw,aow,e]
  grind
theorem aq4 {p:List bu}(ar:mZ p)(aw:aol p)(h:p≠[]):∃x,aS x p≠0:=by
 match p,h with
 |t::r,_=>
  obtain⟨N,j5⟩:∃N:Nat,∀u∈t::r,∀y∈u.1,y<N:=by
   have key:∀q:List bu,∃N:Nat,∀u∈q,∀y∈u.1,y<N:=by
    intro q
    induction q with
    |nil=>exact⟨0,fun u hu=>by cases hu⟩
    |cons u q bA=>
     obtain⟨N,j5⟩:=bA
     have a_:∀m:List Int,∃M:Nat,∀y∈m,y<M:=by
      intro m
      induction m with
      |nil=>exact⟨0,fun y a6=>by cases a6⟩
      |cons a m bA=>
       obtain⟨M,ic⟩:=bA
       refine⟨M+a.toNat+1,fun y a6=> ?_⟩
       rcases asP.1 a6 with rfl|a6
       ·omega
       ·have:=ic y a6;omega
     obtain⟨M,ic⟩:=a_ u.1
     refine⟨N+M,fun v aM y a6=> ?_⟩
     rcases asP.1 aM with rfl|aM
     ·have:=ic y a6;omega
     ·have:=j5 v aM y a6;omega
   exact key _
  have sq:=ar.2 t (by simp)
  have aoR:0<aom t.2:=by unfold aom;split<;>grind
  obtain⟨U,aa⟩:=aub.1 ar.1
  have k4:=ap4 r
  have aP:0<=aow r/aom t.2:=by
   rw[Rat.div_def];exact Rat.mul_nonneg k4 (Rat.le_of_lt (Rat.inv_pos.2 aoR))
  have bj:1<=1+aow r/aom t.2:=by grind
  have ay:aom t.2*(1+aow r/aom t.2)=aom t.2+aow r:=by
   have:=Rat.mul_inv_cancel (aom t.2) (by grind)
   rw[Rat.div_def];grind
  generalize 1+aow r/aom t.2=T at bj ay
  refine⟨pt T N 8,fun aE=> ?_⟩
  have ZO:∀u∈t::r,∀y∈u.1,0<=y/\y<N:=fun u hu y a6=>⟨(aw u hu).2 y a6,j5 u hu y a6⟩
  have aql:∀u∈t::r,aon (pt T N 8) 0 u.1=T^code N u.1:=fun u hu=>ap3 T N 8 u.1 0 (by rw[(aw u hu).1])
  have lt:∀u∈r,code N u.1<code N t.1:=fun u hu=>ap0 (by rw[(aw t (by simp)).1,(aw u (by simp[hu])).1]) (ZO t (by simp)) (ZO u (by simp[hu])) (U u hu)
  have bE:t.2*T^code N t.1+dw (aon (pt T N 8) 0) r=0:=by rw[<-aql t (by simp)];exact aE
  cases ak:r with
  |nil=>
   rw[ak,dw]at bE
   have:=aoT bj (code N t.1)
   have bo:t.2*T^code N t.1=0:=by grind
   rcases Rat.mul_eq_zero.1 bo with bX|bX
   ·exact sq bX
   ·grind
  |cons u q=>
   have ab:1<=code N t.1:=by have:=lt u (by rw[ak];simp);omega
   obtain⟨k,ab⟩:=Nat.exists_eq_add_of_le ab
   have ae:=apU bj (f:=aon (pt T N 8) 0) (k:=k) (p:=r) fun v aM=>⟨code N v.1,by have:=lt v aM;omega,aql v (by simp[aM])⟩
   have wg:=aoT bj k
   have an:T^code N t.1=T*T^k:=by rw[ab,Nat.add_comm,Rat.pow_succ,Rat.mul_comm]
   rw[an]at bE
   have az:aom t.2*(T*T^k)=aom t.2*T^k+aow r*T^k:=by rw[<-aui,ay,Rat.add_mul]
   have bK:0<aom t.2*T^k:=Rat.mul_pos aoR (by grind)
   have cm:t.2*(T*T^k)=aom t.2*(T*T^k)\/t.2*(T*T^k)=-(aom t.2*(T*T^k)):=by
    unfold aom;split
    ·right;grind
    ·left;rfl
   grind
theorem api {p q:List bu}(aw:aol p)(aN:aol q)(h:∀x,aS x p=aS x q):nrm p=nrm q:=by
 have e:nrm (p++fT (-1) q)=[]:=Classical.byContradiction fun cV=>by
  obtain⟨x,af⟩:=aq4 (BF _) (aol.nrm (aw.app (aN.scale (-1)))) cV
  apply af
  rw[aoM,ao6,apT,h x];grind
 refine sH fun m=> ?_
 have:=n0 (p++fT (-1) q) m
 rw[e,sN,At]at this
 have aE:cG [] m=0:=rfl
 grind
end I
end
section
open Go Go.bG
namespace I
theorem A5 {p:List bu}(h:dA 1024 p):hI (bP p)=true:=asH.2 fun r ak=>by
 obtain⟨t,aA,rfl⟩:=asL.1 ak
 have e:dY (fL t)=t.1:=uT (h t aA).1
 rw[e,y2,asH]
 intro x af
 have:=(h t aA).2 x af
 simp;omega
theorem uU {k:Nat}{p:List bu}(h:aoi k p)(he:dA 1024 p)(ar:p.length<1000000000):b5 (bP p):=uN h he.len ar
theorem apj {p:List bu}(h:aoi 1 p)(dI:∀t∈p,t.1.length=8)(ar:p.length<=2):Raw 4 2 (bP p):=
 apX (n:=2) (aoL h dI) (asz _) (by rw[iT];exact ar) (by decide)
theorem Pp {p q:List bu}(h:aoi 1 p)(he:dA 1024 p)(g:aoi 1 q)(ge:dA 1024 q)(aw:p.length<=2)(aN:q.length<=2):qk (bP p) (bP q):=
 ⟨⟨uU h he (by omega),uU g ge (by omega)⟩,4,4,2,2,apj h he.len aw,apj g ge.len aN,by decide,by decide⟩
theorem Ga {p q:List bu}(h:aoi 1 p)(he:dA 1024 p)(g:aoi 1 q)(ge:dA 1024 q)(aw:p.length<=2)(aN:q.length<=2):xJ (bP p) (bP q):=
 ⟨⟨uU h he (by omega),uU g ge (by omega)⟩,4,4,2,2,apj h he.len aw,apj g ge.len aN, .inl (by decide),by decide,by decide,by decide⟩
theorem BE {p q:List bu}(h:dA 1024 p)(g:dA 1024 q):ew (bP p) (bP q)=true:=by rw[ew,A5 h,A5 g];rfl
theorem xK {e:Int}{p:List bu}(h:(p.all fun t=>decide (t.1.length=8)&&t.1.all fun x=>decide (0<=x)&&decide (x<=e))=true):dA e p:=fun t aA=>by
 have:=asH.1 h t aA
 rw[asD]at this
 refine⟨asC this.1,fun x af=> ?_⟩
 have:=asH.1 this.2 x af
 simpa using this
theorem ao5 {p:List bu}(h:∀t∈p,t.2=1\/t.2=-1):aoi 1 p:=fun t aA=>by
 rcases h t aA with e|e<;>rw[e]
 ·exact cv.one
 ·exact ve
structure aoj (e:Int)(K n:Nat)(l:Rows):Prop where
 raw:Raw K n l
 zw:dA e (l.map bs)
theorem aoj.rows {e:Int}{K n:Nat}{l:Rows}(h:aoj e K n l):cQ l:=fun r ak=>(h.raw.rows r ak).row
theorem aoj.aQ {e:Int}{K n:Nat}{l:Rows}(h:aoj e K n l)(ar:n<1000000000):b5 l:=⟨h.rows,by have:=h.raw.len;omega⟩
theorem aoj.aP {e:Int}{K n:Nat}{l:Rows}(h:aoj e K n l)(he:e<=1024):hI l=true:=asH.2 fun r ak=>by
 rw[y2,asH]
 intro x af
 have:=(h.zw (bs r) (List.mem_map_of_mem ak)).2 x af
 simp;omega
theorem aoj.aM {e f:Int}{K a8 n m:Nat}{p q:Rows}(h:aoj e K n p)(g:aoj f a8 m q)(he:e<=1024)(aQ:f<=1024):ew p q=true:=by rw[ew,h.aP he,g.aP aQ];rfl
theorem aoj.mono {e f:Int}{K a8 n m:Nat}{l:Rows}(h:aoj e K n l)(he:e<=f)(hA:K<=a8)(ar:n<=m):aoj f a8 m l:=⟨h.raw.mono hA ar,h.zw.mono he⟩
theorem aoj.of {e:Int}{k n:Nat}{p:List bu}(h:aoi k (nrm p))(ab:1<=k)(he:dA e p)(ar:(nrm p).length<=n):aoj e (k+1) n (bP (nrm p)):=
 ⟨aqU h ab he.nrm.len (fun m=>(BF p).aou m) ar,by rw[hf he.nrm.len];exact he.nrm⟩
theorem aoj.aoE {e:Int}{K n:Nat}{l:Rows}(h:aoj e K n l):aol (l.map bs):=h.zw.aoE
theorem Raw.pos {K n:Nat}{l:Rows}(h:Raw K n l):1<=K:=by obtain⟨_,_,g1,_,_,_,g2,_⟩:=h;omega
theorem apA {e:Int}(aE:0<=e){v:Nat}:∀{p:List bu} {d:Int},dA e p->d<=e->v<8->oy v d p<=e
 |[],d,_,aP,_=>aP
 |t::p,d,h,aP,aM=>by
  have aA:=h t (by simp)
  have:=aA.2 _ (oR (m:=t.1) (i:=v) (by have:=aA.1;omega))
  rw[oy]
  exact apA aE (fun u hu=>h u (by simp[hu])) (by split<;>omega) aM
theorem aq3 {e f:Int}{p q:List bu}(aw:dA e p)(aN:dA f q)(aE:0<=e)(f0:0<=f)(h:e+f<=1024):mX p q=false:=by
 cases b2:mX p q with
 |false=>rfl
 |true=>
  unfold mX at b2
  simp only[asD]at b2
  obtain⟨v,aM,af⟩:=QB.1 b2.2
  unfold oz at af
  have af:=asC af
  have U:=apA aE (d:=-1) aw (by omega) aM
  have aa:=apA f0 (d:=-1) aN (by omega) aM
  unfold lU at af
  omega
theorem aoj.mul {e f:Int}{K a8 n m:Nat}{p q:Rows}(h:aoj e K n p)(g:aoj f a8 m q)(he:0<=e/\0<=f/\e+f<=1024)(ay:(n*(2*(K+a8)+2)<=900000\/m*(2*(K+a8)+2)<=900000)/\n*m<=999999999/\n<1000000000/\m<1000000000/\K<=400000/\a8<=400000/\1<=n):
 xJ p q/\∀{x:Rows} {c:Int},x=bP (if ph p q=true then nrm (eR (p.map bs) (q.map bs))else[])->(c=if ew p q=true then(if mX (nrm (p.map bs)) (nrm (q.map bs))=true then 9 else 0)else 2)->
  c=0/\x=bP (nrm (eR (p.map bs) (q.map bs)))/\aoj (e+f) (n*(K+a8+1)+1) (n*m) x/\x.map bs=nrm (eR (p.map bs) (q.map bs)):=by
 obtain⟨U,aa,al⟩:=he
 obtain⟨dt,dD,iD,qX,ug,Ed,abl⟩:=ay
 refine⟨⟨⟨h.aQ iD,g.aQ qX⟩,K,a8,n,m,h.raw,g.raw,dt,dD,ug,Ed⟩, ?_⟩
 have aM:=h.aM g (by omega) (by omega)
 have b2:=aq3 h.zw.nrm g.zw.nrm U aa al
 have hm:ph p q=true:=by rw[ph,aM,b2];rfl
 intro x c af D2
 rw[asq hm]at af
 rw[asq aM,b2]at D2
 have zw:=h.zw.mul g.zw
 have aU:=h.raw.pos
 have a_:=g.raw.pos
 have hv:=aoi.mul aU h.raw.aov g.raw.aov
 have cz:aoi (n*(K+a8+1)) (nrm (eR (nrm (p.map bs)) (nrm (q.map bs)))):=hv.nrm fun y=>
  asZ (apg y g.zw.nrm.len (fun z=>(BF (q.map bs)).aou z) h.zw.nrm.len) h.raw.aoC
 rw[Xp]at cz
 have len:(nrm (eR (p.map bs) (q.map bs))).length<=n*m:=by
  rw[<-Xp]
  refine ao1 ?_
  rw[N2]
  exact atS h.raw.aoC g.raw.aoC
 have ab:1<=n*(K+a8+1):=Nat.mul_pos abl (by omega)
 refine⟨D2,af, ?_, ?_⟩
 ·rw[af];exact aoj.of cz ab zw len
 ·rw[af,hf zw.nrm.len]
theorem aoj.core {e:Int}{K a8 n m:Nat}{p q:Rows}(h:aoj e K n p)(g:aoj e a8 m q):aoj e (2*(K+a8+1)+1) (n+m) (bP (nrm (p.map bs++q.map bs)))/\(bP (nrm (p.map bs++q.map bs))).map bs=nrm (p.map bs++q.map bs):=by
 have zw:=h.zw.app g.zw
 have hv:aoi (K+a8) (nrm (p.map bs)++nrm (q.map bs)):=(h.raw.aov.mono (by omega)).app (g.raw.aov.mono (by omega))
 have cz:=hv.nrm (c:=2) fun y=>by
  have:=(BF (p.map bs)).aou y
  have:=(BF (q.map bs)).aou y
  rw[aoU];omega
 rw[Xo]at cz
 have len:(nrm (p.map bs++q.map bs)).length<=n+m:=ao1 (by rw[as2,asy,asy];have:=h.raw.len;have:=g.raw.len;omega)
 exact⟨aoj.of cz (by omega) zw len,hf zw.nrm.len⟩
theorem aoj.add {e:Int}{K a8 n m:Nat}{p q:Rows}(h:aoj e K n p)(g:aoj e a8 m q)(he:e<=1024)(ay:4*(K+a8)+20<=900000/\n+m<=999999999):
 qk p q/\∀{x:Rows} {c:Int},x=bP (if ew p q=true then nrm (p.map bs++q.map bs)else[])->(c=if ew p q=true then 0 else 2)->
  c=0/\x=bP (nrm (p.map bs++q.map bs))/\aoj e (2*(K+a8+1)+1) (n+m) x/\x.map bs=nrm (p.map bs++q.map bs):=by
 refine⟨⟨⟨h.aQ (by omega),g.aQ (by omega)⟩,K,a8,n,m,h.raw,g.raw,ay.1,ay.2⟩, ?_⟩
 have aM:=h.aM g he he
 intro x c af D2
 rw[asq aM]at af D2
 obtain⟨a1,a2⟩:=h.core g
 subst af
 exact⟨D2,rfl,a1,a2⟩
theorem aoj.sub {e:Int}{K a8 n m:Nat}{p q:Rows}(h:aoj e K n p)(g:aoj e a8 m q)(he:e<=1024)(ay:4*(K+a8)+20<=900000/\n+m<=999999999):
 qk p q/\∀{x:Rows} {c:Int},x=bP (if ew p q=true then nrm (p.map bs++fT (-1) (q.map bs))else[])->(c=if ew p q=true then 0 else 2)->
  c=0/\x=bP (nrm (p.map bs++fT (-1) (q.map bs)))/\aoj e (2*(K+a8+2)+1) (n+m) x/\x.map bs=nrm (p.map bs++fT (-1) (q.map bs)):=by
 refine⟨⟨⟨h.aQ (by omega),g.aQ (by omega)⟩,K,a8,n,m,h.raw,g.raw,ay.1,ay.2⟩, ?_⟩
 have aM:=h.aM g he he
 intro x c af D2
 rw[asq aM]at af D2
 have zw:=h.zw.app (g.zw.scale (-1))
 have hv:aoi (K+a8+1) (nrm (p.map bs)++fT (-1) (nrm (q.map bs))):=(h.raw.aov.mono (by omega)).app ((g.raw.aov.scale ve (asz _)).mono (by omega))
 have cz:=hv.nrm (c:=2) fun y=>by
  have:=(BF (p.map bs)).aou y
  have:=(BF (q.map bs)).aou y
  rw[aoU,apf];omega
 have bK:nrm (nrm (p.map bs)++fT (-1) (nrm (q.map bs)))=nrm (p.map bs++fT (-1) (q.map bs)):=sH fun m=>by rw[sN,sN,At,At,n0,n0]
 rw[bK]at cz
 have len:(nrm (p.map bs++fT (-1) (q.map bs))).length<=n+m:=ao1 (by
  rw[as2,fT,asy,asy,asy];have:=h.raw.len;have:=g.raw.len;omega)
 subst af
 exact⟨D2,rfl,aoj.of cz (by omega) zw len,hf zw.nrm.len⟩
theorem aoj.norm {e:Int}{K n:Nat}{p:Rows}(h:aoj e K n p)(he:e<=1024)(ay:K<=400000/\n<1000000000):
 (b5 p/\Raw 400000 1000000000 p)/\∀{x:Rows} {c:Int},x=bP (if hI p=true then nrm (p.map bs)else[])->(c=if hI p=true then 0 else 2)->
   c=0/\x=bP (nrm (p.map bs))/\aoj e (K+1) n x/\x.map bs=nrm (p.map bs):=by
 refine⟨⟨h.aQ ay.2,h.raw.mono ay.1 (by omega)⟩, ?_⟩
 have aM:=h.aP he
 intro x c af D2
 rw[asq aM]at af D2
 subst af
 exact⟨D2,rfl,aoj.of h.raw.aov h.raw.pos h.zw h.raw.aoC,hf h.zw.nrm.len⟩
theorem aoj.aoY {e:Int}{K n:Nat}{p:Rows}{v:Int}(h:aoj e K n p)(he:e<=1024)(aM:0<=v/\v<8)(ay:K<=400000/\n<1000000000):
 (b5 p/\Raw 400000 1000000000 p)/\∀{x:Rows} {c:Int},x=bP (if gQ p v=0 then nrm (hF v.toNat (p.map bs))else[])->c=gQ p v->
   c=0/\x=bP (nrm (hF v.toNat (p.map bs)))/\aoj e (K+2) n x/\x.map bs=nrm (hF v.toNat (p.map bs)):=by
 refine⟨⟨h.aQ ay.2,h.raw.mono ay.1 (by omega)⟩, ?_⟩
 have aE:gQ p v=0:=by rw[gQ,asq (h.aP he),asq aM]
 intro x c af D2
 rw[asq aE]at af
 rw[aE]at D2
 have zw:=h.zw.hF (v:=v.toNat)
 have az:nrm (hF v.toNat (nrm (p.map bs)))=nrm (hF v.toNat (p.map bs)):=Ws (by omega) h.zw.nrm.len h.zw.len (n0 _)
 have cz:aoi (K+1) (nrm (hF v.toNat (nrm (p.map bs)))):=by
  have hv:=aoi.hF (by omega) (show v.toNat<8 by omega) h.zw.nrm h.raw.aov
  have:=hv
  intro t aA
  obtain⟨u,hu,e⟩:=F6 aA
  have ao:∀m,aoh m (hF v.toNat (nrm (p.map bs)))<=1:=fun m=>asZ (apw (by omega) m h.zw.nrm.len) ((BF _).aou _)
  exact apW hv ao t aA
 rw[az]at cz
 have len:(nrm (hF v.toNat (p.map bs))).length<=n:=ao1 (asZ (Wu _ _) (by rw[asy];exact h.raw.len))
 subst af
 exact⟨D2,rfl,aoj.of cz (by omega) zw len,hf zw.nrm.len⟩
end I
end
section
open Go Go.bG
namespace I
theorem aoH {c:Int}(h:c=0){P Q:Prop}(q:Q):((!decide (c=0))=true->P)/\((!decide (c=0))=false->Q):=⟨fun e=>by simp[h]at e,fun _=>q⟩
theorem aox {c:Int}(h:c=0){P Q:Prop}(q:Q):(decide (c=0)=true->Q)/\(decide (c=0)=false->P):=⟨fun _=>q,fun e=>by simp[h]at e⟩
theorem okB {b:Bool}(h:b=true){P Q:Prop}(q:Q):((!b)=true->P)/\((!b)=false->Q):=⟨fun e=>by simp[h]at e,fun _=>q⟩
theorem apk {b:Bool}(h:b=true){P Q:Prop}(q:Q):(b=true->Q)/\(b=false->P):=⟨fun _=>q,fun e=>by simp[h]at e⟩
theorem aoj.same {e f:Int}{K a8 n m:Nat}{x y:Rows}(h:aoj e K n x)(g:aoj f a8 m y)(ay:K<=1000000/\a8<=1000000/\n<1000000000/\m<1000000000)(e:x=y):
 ((∀r∈x,lN 1000000 r)/\(∀r∈y,lN 1000000 r)/\x.length<1000000000/\y.length<1000000000)/\∀{b:Bool},b=decide (x.map ma=y.map ma)->b=true:=
 ⟨⟨fun r ak=>(h.raw.rows r ak).mono ay.1,fun r ak=>(g.raw.rows r ak).mono ay.2.1,by have:=h.raw.len;omega,by have:=g.raw.len;omega⟩,fun ae=>by rw[ae,e];simp⟩
theorem aoJ.ajl {v:Nat}{r:Row}(h:aoJ v r):lN 4 r:=by
 obtain⟨m,s,a,b,rfl,hm,_,_,aC,ae⟩:=h
 exact⟨m,s,a,b,rfl,hm,aC,ae⟩
theorem aoJ.zw {v:Nat}{l:Rows}(h:∀r∈l,aoJ v r):dA 2 (l.map bs):=fun t aA=>by
 obtain⟨r,ak,rfl⟩:=asL.1 aA
 obtain⟨m,s,a,b,rfl,hm,af,_⟩:=h r ak
 rw[lx hm];exact⟨hm,af⟩
theorem aoj.drawn {l:List Int}{a v n:Int}(h:dd l a){k:Nat}(ar:n=k)(U:1<=k):dd l (aoo l a v n).2/\aoj 2 (k*(4+1)) k (aoo l a v n).1:=by
 obtain⟨aa,al,aL⟩:=aqW (v:=v) h (show 0<=n by omega)
 exact⟨aa,apX (fun r ak=>(aL r ak).ajl) (by decide) (by omega) U,aoJ.zw aL⟩
theorem aqE (l:List Int)(K:J->Prop)(h:ao4.T [.d (.ints .i64 l)] K):apL l K:=by
 obtain⟨aq,ab⟩:=h
 unfold apL
 refine⟨trivial, ?_⟩
 rintro L rfl _ rfl _ rfl
 have ai:=dd.new aq
 obtain⟨bn,aw⟩:=aoj.drawn (v:=3) (n:=4) (k:=4) ai rfl (by decide)
 obtain⟨ba,aN⟩:=aoj.drawn (v:=3) (n:=3) (k:=3) bn rfl (by decide)
 obtain⟨cp,ak⟩:=aoj.drawn (v:=3) (n:=3) (k:=3) ba rfl (by decide)
 refine⟨⟨ai,by decide,by decide⟩, ?_⟩
 rintro _ rfl _ rfl _ rfl p tL
 refine⟨⟨bn,by decide,by decide⟩, ?_⟩
 rintro _ rfl _ rfl _ rfl q apC
 refine⟨⟨ba,by decide,by decide⟩, ?_⟩
 rintro _ rfl _ rfl _ rfl r arn
 rw[<-tL]at aw;rw[<-apC]at aN;rw[<-arn]at ak
 have aoq:=aw.aoE
 have aop:=aN.aoE
 have aoA:=ak.aoE
 have aoS:=aw.mul aN (by decide) (by decide)
 refine⟨aoS.1,fun a aC q2 apD=> ?_⟩
 obtain⟨q2,aC,apb,apn⟩:=aoS.2 aC apD
 have aqm:=aN.mul aw (by decide) (by decide)
 refine⟨aqm.1,fun b ae zw apl=>aoH q2 ?_⟩
 obtain⟨zw,ae,apG,aqn⟩:=aqm.2 ae apl
 refine aoH zw ?_
 have s1:=apb.same apG (by decide) (by rw[aC,ae];exact asQ bP (api (aoq.mul aop) (aop.mul aoq) fun x=>by rw[aoG x aoq aop,aoG x aop aoq,Rat.mul_comm]))
 refine⟨s1.1,fun c ay=>okB (s1.2 ay) ?_⟩
 have aqo:=apb.mul ak (by decide) (by decide)
 refine⟨aqo.1,fun d aP apc apE=> ?_⟩
 obtain⟨apc,aP,aa0,zu⟩:=aqo.2 aP apE
 have qr:=aN.mul ak (by decide) (by decide)
 refine⟨qr.1,fun f aQ we aro=> ?_⟩
 obtain⟨we,aQ,arV,arW⟩:=qr.2 aQ aro
 have oM:=aw.mul arV (by decide) (by decide)
 refine⟨oM.1,fun g aT m9 aqd=>aoH apc (aoH we (aoH ?_ ?_))⟩
 ·exact(oM.2 aT aqd).1
 obtain⟨m9,aT,arX,asi⟩:=oM.2 aT aqd
 have s2:=aa0.same arX (by decide) (by
  rw[aP,aT,apn,arW]
  exact asQ bP (api ((aoq.mul aop).nrm.mul aoA) (aoq.mul (aop.mul aoA).nrm) fun x=>by
   rw[aoG x (aoq.mul aop).nrm aoA,aoG x aoq (aop.mul aoA).nrm,aoM,aoM,aoG x aoq aop,aoG x aop aoA,aui]))
 refine⟨s2.1,fun c ay=>okB (s2.2 ay) ?_⟩
 have aqp:=aN.add ak (by decide) (by decide)
 refine⟨aqp.1,fun s ao es aax=> ?_⟩
 obtain⟨es,ao,apo,apH⟩:=aqp.2 ao aax
 have ps:=aw.mul apo (by decide) (by decide)
 refine⟨ps.1,fun t aA aqq het=> ?_⟩
 obtain⟨aqq,aA,arY,asj⟩:=ps.2 aA het
 refine⟨aoS.1,fun u hu aqr arp=> ?_⟩
 obtain⟨aqr,hu,arZ,ar0⟩:=aoS.2 hu arp
 have aqs:=aw.mul ak (by decide) (by decide)
 refine⟨aqs.1,fun w hw aa7 arq=> ?_⟩
 obtain⟨aa7,hw,ar1,ar2⟩:=aqs.2 hw arq
 have aqt:=arZ.add ar1 (by decide) (by decide)
 refine⟨aqt.1,fun y a6 apd qP=> ?_⟩
 obtain⟨apd,a6,aog,aqu⟩:=aqt.2 a6 qP
 have abB:=apo.sub ak (by decide) (by decide)
 refine⟨abB.1,fun z bc ape aak=> ?_⟩
 obtain⟨ape,bc,apI,aqv⟩:=abB.2 bc aak
 have aqw:=aN.norm (by decide) (by decide)
 refine⟨aqw.1,fun n ar abk ars=> ?_⟩
 obtain⟨abk,ar,ar3,asl⟩:=aqw.2 ar ars
 refine aox es (aox aqq (aox aqr (aox aa7 (aox apd (aox ape (aox abk ?_))))))
 have m7:=arY.same aog (by decide) (by
  rw[aA,a6,apH,ar0,ar2]
  exact asQ bP (api (aoq.mul (aop.app aoA).nrm) ((aoq.mul aop).nrm.app (aoq.mul aoA).nrm) fun x=>by
   rw[aoG x aoq (aop.app aoA).nrm,ao6,aoM,aoM,aoM,ao6,aoG x aoq aop,aoG x aoq aoA,Rat.mul_add]))
 refine⟨m7.1,fun c ay=>apk (m7.2 ay) ?_⟩
 have lR:=apI.same ar3 (by decide) (by
  rw[bc,ar,apH]
  exact asQ bP (api ((aop.app aoA).nrm.app (aoA.scale _)) aop fun x=>by
   rw[ao6,aoM,ao6,apT];grind))
 refine⟨lR.1,fun c ay=>apk (lR.2 ay) ⟨trivial, ?_⟩⟩
 rintro _ rfl
 exact ab
end I
end
section
open Go Go.bG
namespace I
def aos (v:Nat)(f:List Int->Rat):List Int->Rat:=fun m=>if 0<m.getD v 0 then((m.getD v 0:Int):Rat)*f (m.set v (m.getD v 0-1))else 0
theorem aoB (v:Nat)(f:List Int->Rat):∀p:List bu,dw f (hF v p)=dw (aos v f) p
 |[]=>rfl
 |t::p=>by
  have bA:=aoB v f p
  unfold hF at bA⊢
  rw[at6,dw,aos]
  by_cases h:0<t.1.getD v 0
  ·rw[asq (by simpa using h),asX,dw,bA,asq h,aui]
  ·rw[asp (by simpa using h),bA,asp h,Rat.mul_zero,aty]
theorem apQ:∀{a b:List Int} (v:Nat),a.length=b.length->(fx a b).getD v 0=a.getD v 0+b.getD v 0
 |[],[],v,_=>by simp[fx]
 |[],_::_,_,h=>by simp at h
 |_::_,[],_,h=>by simp at h
 |a::p,b::q,0,_=>by simp[fx]
 |a::p,b::q,v+1,h=>by
  have:=apQ (a:=p) (b:=q) v (by simpa using h)
  simpa[fx]using this
theorem apr:∀{a b:List Int} (v:Nat) (x:Int),a.length=b.length->fx (a.set v x) b=(fx a b).set v (x+b.getD v 0)
 |[],[],v,_,_=>by simp[fx]
 |[],_::_,_,_,h=>by simp at h
 |_::_,[],_,_,h=>by simp at h
 |a::p,b::q,0,_,_=>by simp[fx]
 |a::p,b::q,v+1,x,h=>by
  have:=apr (a:=p) (b:=q) v x (by simpa using h)
  simpa[fx]using this
theorem aqM {a b:List Int}(v:Nat)(x:Int)(h:a.length=b.length):fx a (b.set v x)=(fx a b).set v (a.getD v 0+x):=by
 rw[M3,apr v x h.symm,M3,Int.add_comm]
theorem aqZ (v:Nat)(f:List Int->Rat){a b:List Int}(h:a.length=b.length)(aC:0<=a.getD v 0)(ae:0<=b.getD v 0):
 aos v f (fx a b)=aos v (fun x=>f (fx x b)) a+aos v (fun x=>f (fx a x)) b:=by
 show(if 0<(fx a b).getD v 0 then(((fx a b).getD v 0:Int):Rat)*f ((fx a b).set v ((fx a b).getD v 0-1))else 0)=
  (if 0<a.getD v 0 then((a.getD v 0:Int):Rat)*f (fx (a.set v (a.getD v 0-1)) b)else 0)+(if 0<b.getD v 0 then((b.getD v 0:Int):Rat)*f (fx a (b.set v (b.getD v 0-1)))else 0)
 rw[apQ v h,apr v _ h,aqM v _ h,show a.getD v 0-1+b.getD v 0=a.getD v 0+b.getD v 0-1 by omega,show a.getD v 0+(b.getD v 0-1)=a.getD v 0+b.getD v 0-1 by omega]
 generalize f ((fx a b).set v (a.getD v 0+b.getD v 0-1))=F
 generalize a.getD v 0=x at*
 generalize b.getD v 0=y at*
 by_cases U:0<x<;>by_cases aa:0<y
 ·rw[asq (by omega),asq U,asq aa,Rat.intCast_add,Rat.add_mul]
 ·rw[asq (by omega),asq U,asp aa,show y=0 by omega,Int.add_zero,atV]
 ·rw[asq (by omega),asp U,asq aa,show x=0 by omega,Int.zero_add,aty]
 ·rw[asp (by omega),asp U,asp aa,atV]
theorem aq0 (v:Nat)(g:List Int->List Int->Rat)(q:List bu)(a:List Int):aos v (fun x=>dw (fun b=>g x b) q) a=dw (fun b=>aos v (fun x=>g x b) a) q:=by
 unfold aos
 by_cases h:0<a.getD v 0
 ·simp only[asq h]
  rw[N7]
 ·simp only[asp h]
  rw[MZ]
theorem aqS (v:Nat)(f:List Int->Rat){p q:List bu}(aw:aol p)(aN:aol q):dw f (hF v (eR p q))=dw f (eR (hF v p) q)+dw f (eR p (hF v q)):=by
 have aoE:∀{r:List bu},aol r->∀t∈r,0<=t.1.getD v 0:=fun{r} ak t aA=>by
  rw[ass]
  cases e:t.1[v]? with
  |none=>exact Int.le_refl _
  |some y=>exact(ak t aA).2 y (atG e)
 rw[aoB,nk,nk,nk,aoB,<-FD]
 refine aoV fun t aA=> ?_
 show _=aos v (fun x=>dw (fun b=>f (fx x b)) q) t.1+dw (fun b=>f (fx t.1 b)) (hF v q)
 rw[aq0,aoB,<-FD]
 refine aoV fun u hu=> ?_
 show _=aos v (fun x=>f (fx x u.1)) t.1+aos v (fun b=>f (fx t.1 b)) u.1
 exact aqZ v f (by rw[(aw t aA).1,(aN u hu).1]) (aoE aw t aA) (aoE aN u hu)
theorem aq1 (v w:Nat)(f:List Int->Rat)(m:List Int):aos v (aos w f) m=aos w (aos v f) m:=by
 by_cases h:v=w
 ·rw[h]
 ·unfold aos
  have an:∀x:Int,(m.set v x).getD w 0=m.getD w 0:=fun x=>by rw[ass,List.getElem?_set_ne h,<-ass]
  have az:∀x:Int,(m.set w x).getD v 0=m.getD v 0:=fun x=>by rw[ass,List.getElem?_set_ne (atb h),<-ass]
  simp only[an,az]
  rw[List.set_comm _ _ h]
  split<;>split<;>grind
theorem aqG (v w:Nat)(f:List Int->Rat)(p:List bu):dw f (hF v (hF w p))=dw f (hF w (hF v p)):=by
 rw[aoB,aoB,aoB,aoB]
 exact aoV fun t _=>aq1 w v f t.1
theorem apN {p q:List bu}(h:∀f,dw f p=dw f q):nrm p=nrm q:=sH fun m=>by rw[kc,kc,h]
theorem apq (v:Nat)(f:List Int->Rat)(p:List bu):dw f (hF v (nrm p))=dw f (hF v p):=by rw[aoB,A7,aoB]
theorem aqI (f:List Int->Rat)(p q:List bu):dw f (eR (nrm p) q)=dw f (eR p q):=by rw[nk,nk,A7]
theorem aqH (f:List Int->Rat)(p q:List bu):dw f (eR p (nrm q))=dw f (eR p q):=by
 rw[nk,nk]
 congr 1;funext a;rw[A7]
end I
end
section
open Go Go.bG
namespace I
theorem ap6 {v:Int}(aE:0<=v)(U:v<256):IntKind.wrap .i64 (Int.tmod v 3)=v%3/\0<=v%3/\v%3<8:=by
 rw[aus aE]
 exact⟨bl (by omega),by omega,by omega⟩
theorem aqD (l:List Int)(v w:Int)(K:J->Prop)(h:ao0.T [.d (.ints .i64 l), .d (.int .u8 v), .d (.int .u8 w)] K):apK l v w K:=by
 obtain⟨⟨aq,⟨v0,v1⟩,hv,cz⟩,ab⟩:=h
 unfold apK
 have aS:=ap6 v0 v1
 have aa7:=ap6 hv cz
 simp only[aS.1,aa7.1]
 generalize v%3=i at aS
 generalize w%3=k at aa7
 obtain⟨_,hi⟩:=aS
 obtain⟨_,Z2⟩:=aa7
 refine⟨trivial, ?_⟩
 rintro L rfl _ rfl _ rfl
 have ai:=dd.new aq
 obtain⟨bn,aw⟩:=aoj.drawn (v:=3) (n:=4) (k:=4) ai rfl (by decide)
 obtain⟨ba,aN⟩:=aoj.drawn (v:=3) (n:=4) (k:=4) bn rfl (by decide)
 refine⟨⟨ai,by decide,by decide⟩, ?_⟩
 rintro _ rfl _ rfl _ rfl p tL
 refine⟨⟨bn,by decide,by decide⟩, ?_⟩
 rintro _ rfl _ rfl _ rfl q apC
 rw[<-tL]at aw;rw[<-apC]at aN
 have aoq:=aw.aoE
 have aop:=aN.aoE
 have aoS:=aw.mul aN (by decide) (by decide)
 refine⟨aoS.1,fun m hm em art=> ?_⟩
 obtain⟨em,hm,ar4,ar5⟩:=aoS.2 hm art
 have aqx:=ar4.aoY (by decide) hi (by decide)
 refine⟨aqx.1,fun x af ex hex=> ?_⟩
 obtain⟨ex,af,ar6,asm⟩:=aqx.2 af hex
 have aqy:=aw.aoY (by decide) hi (by decide)
 refine⟨aqy.1,fun a aC q2 apD=> ?_⟩
 obtain⟨q2,aC,apb,apn⟩:=aqy.2 aC apD
 have apJ:=aN.aoY (by decide) hi (by decide)
 refine⟨apJ.1,fun b ae zw apl=>aoH em (aoH ex (aoH q2 (aoH ?_ ?_)))⟩
 ·exact(apJ.2 ae apl).1
 obtain⟨zw,ae,apG,aqn⟩:=apJ.2 ae apl
 have aqz:=apb.mul aN (by decide) (by decide)
 refine⟨aqz.1,fun y a6 apd qP=> ?_⟩
 obtain⟨apd,a6,aog,aqu⟩:=aqz.2 a6 qP
 have aa3:=aw.mul apG (by decide) (by decide)
 refine⟨aa3.1,fun z bc ape aak=> ?_⟩
 obtain⟨ape,bc,apI,aqv⟩:=aa3.2 bc aak
 have aqA:=aog.add apI (by decide) (by decide)
 refine⟨aqA.1,fun s ao es aax=> ?_⟩
 obtain⟨es,ao,apo,apH⟩:=aqA.2 ao aax
 have aqB:=apb.aoY (by decide) Z2 (by decide)
 refine⟨aqB.1,fun c ay wb aru=> ?_⟩
 obtain⟨wb,ay,ar7,asn⟩:=aqB.2 ay aru
 have aqC:=aw.aoY (by decide) Z2 (by decide)
 refine⟨aqC.1,fun d aP apc apE=> ?_⟩
 obtain⟨apc,aP,aa0,zu⟩:=aqC.2 aP apE
 have I6:=aa0.aoY (by decide) hi (by decide)
 refine⟨I6.1,fun e he IY aqe=>aox apd (aox ape (aox es (aox wb (aox apc (aox ?_ ?_)))))⟩
 ·exact(I6.2 he aqe).1
 obtain⟨IY,he,ar8,aso⟩:=I6.2 he aqe
 have s1:=ar6.same apo (by decide) (by
  rw[af,ao,ar5,aqu,aqv,apn,aqn]
  exact asQ bP (apN fun f=>by rw[apq,aqS _ f aoq aop,A6,A7,A7,aqI,aqH]))
 refine⟨s1.1,fun g aT=>apk (s1.2 aT) ?_⟩
 have s2:=ar7.same ar8 (by decide) (by
  rw[ay,he,apn,zu]
  exact asQ bP (apN fun f=>by rw[apq,apq,aqG]))
 refine⟨s2.1,fun g aT=>apk (s2.2 aT) ⟨trivial, ?_⟩⟩
 rintro _ rfl
 exact ab
end I
end
section
open Go Go.bG
theorem I.ahO {M:List J->(J->Prop)->Prop}(H:∀s a b K,I.Dq.T [.agg [.d (.bool s), .d (.ints .u32 a), .d (.ints .u32 b)]] K->M [.agg [.d (.bool s), .d (.ints .u32 a), .d (.ints .u32 b)]] K)(args:List J)(K:J->Prop)(hyp:I.Dq.T args K):M args K:=by
 have e:∃s a b,args=[.agg [.d (.bool s), .d (.ints .u32 a), .d (.ints .u32 b)]]:=by
  unfold I.Dq.T spec at hyp
  split at hyp
  ·rename_i he
   simp only at he
   split at he
   ·exact⟨_,_,_,rfl⟩
   ·cases he
  ·exact hyp.elim
 obtain⟨s,a,b,bw⟩:=e
 subst bw
 exact H s a b K hyp
theorem I.aeU {M:List J->(J->Prop)->Prop}(H:∀s a b K,I.BG.T [.d (.bool s), .d (.ints .u32 a), .d (.ints .u32 b)] K->M [.d (.bool s), .d (.ints .u32 a), .d (.ints .u32 b)] K)(args:List J)(K:J->Prop)(hyp:I.BG.T args K):M args K:=by
 have e:∃s a b,args=[.d (.bool s), .d (.ints .u32 a), .d (.ints .u32 b)]:=by
  unfold I.BG.T spec at hyp
  split at hyp
  ·rename_i he
   simp only at he
   split at he
   ·exact⟨_,_,_,rfl⟩
   ·cases he
  ·exact hyp.elim
 obtain⟨s,a,b,bw⟩:=e
 subst bw
 exact H s a b K hyp
theorem I.aeV {M:List J->(J->Prop)->Prop}(H:∀a K,I.BH.T [.d (.ints .u32 a)] K->M [.d (.ints .u32 a)] K)(args:List J)(K:J->Prop)(hyp:I.BH.T args K):M args K:=by
 have e:∃a,args=[.d (.ints .u32 a)]:=by
  unfold I.BH.T spec at hyp
  split at hyp
  ·rename_i he
   simp only at he
   split at he
   ·exact⟨_,rfl⟩
   ·cases he
  ·exact hyp.elim
 obtain⟨a,bw⟩:=e
 subst bw
 exact H a K hyp
theorem I.aeW {M:List J->(J->Prop)->Prop}(H:∀s a b K,I.xj.T [.agg [.d (.bool s), .d (.ints .u32 a), .d (.ints .u32 b)]] K->M [.agg [.d (.bool s), .d (.ints .u32 a), .d (.ints .u32 b)]] K)(args:List J)(K:J->Prop)(hyp:I.xj.T args K):M args K:=by
 have e:∃s a b,args=[.agg [.d (.bool s), .d (.ints .u32 a), .d (.ints .u32 b)]]:=by
  unfold I.xj.T spec at hyp
  split at hyp
  ·rename_i he
   simp only at he
   split at he
   ·exact⟨_,_,_,rfl⟩
   ·cases he
  ·exact hyp.elim
 obtain⟨s,a,b,bw⟩:=e
 subst bw
 exact H s a b K hyp
theorem I.ahP {M:List J->(J->Prop)->Prop}(H:∀a K,I.Dr.T [.d (.ints .u32 a)] K->M [.d (.ints .u32 a)] K)(args:List J)(K:J->Prop)(hyp:I.Dr.T args K):M args K:=by
 have e:∃a,args=[.d (.ints .u32 a)]:=by
  unfold I.Dr.T spec at hyp
  split at hyp
  ·rename_i he
   simp only at he
   split at he
   ·exact⟨_,rfl⟩
   ·cases he
  ·exact hyp.elim
 obtain⟨a,bw⟩:=e
 subst bw
 exact H a K hyp
theorem I.adz {M:List J->(J->Prop)->Prop}(H:∀n K,I.Au.T [.d (.int .i64 n)] K->M [.d (.int .i64 n)] K)(args:List J)(K:J->Prop)(hyp:I.Au.T args K):M args K:=by
 have e:∃n,args=[.d (.int .i64 n)]:=by
  unfold I.Au.T spec at hyp
  split at hyp
  ·rename_i he
   simp only at he
   split at he
   ·exact⟨_,rfl⟩
   ·cases he
  ·exact hyp.elim
 obtain⟨n,bw⟩:=e
 subst bw
 exact H n K hyp
theorem I.agV {M:List J->(J->Prop)->Prop}(H:∀n K,I.td.T [.d (.int .i64 n)] K->M [.d (.int .i64 n)] K)(args:List J)(K:J->Prop)(hyp:I.td.T args K):M args K:=by
 have e:∃n,args=[.d (.int .i64 n)]:=by
  unfold I.td.T spec at hyp
  split at hyp
  ·rename_i he
   simp only at he
   split at he
   ·exact⟨_,rfl⟩
   ·cases he
  ·exact hyp.elim
 obtain⟨n,bw⟩:=e
 subst bw
 exact H n K hyp
theorem I.agW {M:List J->(J->Prop)->Prop}(H:∀n d K,I.xL.T [.d (.int .i64 n), .d (.int .i64 d)] K->M [.d (.int .i64 n), .d (.int .i64 d)] K)(args:List J)(K:J->Prop)(hyp:I.xL.T args K):M args K:=by
 have e:∃n d,args=[.d (.int .i64 n), .d (.int .i64 d)]:=by
  unfold I.xL.T spec at hyp
  split at hyp
  ·rename_i he
   simp only at he
   split at he
   ·exact⟨_,_,rfl⟩
   ·cases he
  ·exact hyp.elim
 obtain⟨n,d,bw⟩:=e
 subst bw
 exact H n d K hyp
theorem I.aem {M:List J->(J->Prop)->Prop}(H:∀s a t b d K,I.A9.T [.d (.bool s), .d (.ints .u32 a), .d (.bool t), .d (.ints .u32 b), .d (.ints .u32 d)] K->M [.d (.bool s), .d (.ints .u32 a), .d (.bool t), .d (.ints .u32 b), .d (.ints .u32 d)] K)(args:List J)(K:J->Prop)(hyp:I.A9.T args K):M args K:=by
 have e:∃s a t b d,args=[.d (.bool s), .d (.ints .u32 a), .d (.bool t), .d (.ints .u32 b), .d (.ints .u32 d)]:=by
  unfold I.A9.T spec at hyp
  split at hyp
  ·rename_i he
   simp only at he
   split at he
   ·exact⟨_,_,_,_,_,rfl⟩
   ·cases he
  ·exact hyp.elim
 obtain⟨s,a,t,b,d,bw⟩:=e
 subst bw
 exact H s a t b d K hyp
theorem I.agX {M:List J->(J->Prop)->Prop}(H:∀s a b t c d K,I.xM.T [.agg [.d (.bool s), .d (.ints .u32 a), .d (.ints .u32 b)], .agg [.d (.bool t), .d (.ints .u32 c), .d (.ints .u32 d)]] K->M [.agg [.d (.bool s), .d (.ints .u32 a), .d (.ints .u32 b)], .agg [.d (.bool t), .d (.ints .u32 c), .d (.ints .u32 d)]] K)(args:List J)(K:J->Prop)(hyp:I.xM.T args K):M args K:=by
 have e:∃s a b t c d,args=[.agg [.d (.bool s), .d (.ints .u32 a), .d (.ints .u32 b)], .agg [.d (.bool t), .d (.ints .u32 c), .d (.ints .u32 d)]]:=by
  unfold I.xM.T spec at hyp
  split at hyp
  ·rename_i he
   simp only at he
   split at he
   ·exact⟨_,_,_,_,_,_,rfl⟩
   ·cases he
  ·exact hyp.elim
 obtain⟨s,a,b,t,c,d,bw⟩:=e
 subst bw
 exact H s a b t c d K hyp
theorem I.agY {M:List J->(J->Prop)->Prop}(H:∀s a b K,I.xN.T [.agg [.d (.bool s), .d (.ints .u32 a), .d (.ints .u32 b)]] K->M [.agg [.d (.bool s), .d (.ints .u32 a), .d (.ints .u32 b)]] K)(args:List J)(K:J->Prop)(hyp:I.xN.T args K):M args K:=by
 have e:∃s a b,args=[.agg [.d (.bool s), .d (.ints .u32 a), .d (.ints .u32 b)]]:=by
  unfold I.xN.T spec at hyp
  split at hyp
  ·rename_i he
   simp only at he
   split at he
   ·exact⟨_,_,_,rfl⟩
   ·cases he
  ·exact hyp.elim
 obtain⟨s,a,b,bw⟩:=e
 subst bw
 exact H s a b K hyp
theorem I.agZ {M:List J->(J->Prop)->Prop}(H:∀s a b t c d K,I.xO.T [.agg [.d (.bool s), .d (.ints .u32 a), .d (.ints .u32 b)], .agg [.d (.bool t), .d (.ints .u32 c), .d (.ints .u32 d)]] K->M [.agg [.d (.bool s), .d (.ints .u32 a), .d (.ints .u32 b)], .agg [.d (.bool t), .d (.ints .u32 c), .d (.ints .u32 d)]] K)(args:List J)(K:J->Prop)(hyp:I.xO.T args K):M args K:=by
 have e:∃s a b t c d,args=[.agg [.d (.bool s), .d (.ints .u32 a), .d (.ints .u32 b)], .agg [.d (.bool t), .d (.ints .u32 c), .d (.ints .u32 d)]]:=by
  unfold I.xO.T spec at hyp
  split at hyp
  ·rename_i he
   simp only at he
   split at he
   ·exact⟨_,_,_,_,_,_,rfl⟩
   ·cases he
  ·exact hyp.elim
 obtain⟨s,a,b,t,c,d,bw⟩:=e
 subst bw
 exact H s a b t c d K hyp
theorem I.ag0 {M:List J->(J->Prop)->Prop}(H:∀s a b t c d K,I.xP.T [.agg [.d (.bool s), .d (.ints .u32 a), .d (.ints .u32 b)], .agg [.d (.bool t), .d (.ints .u32 c), .d (.ints .u32 d)]] K->M [.agg [.d (.bool s), .d (.ints .u32 a), .d (.ints .u32 b)], .agg [.d (.bool t), .d (.ints .u32 c), .d (.ints .u32 d)]] K)(args:List J)(K:J->Prop)(hyp:I.xP.T args K):M args K:=by
 have e:∃s a b t c d,args=[.agg [.d (.bool s), .d (.ints .u32 a), .d (.ints .u32 b)], .agg [.d (.bool t), .d (.ints .u32 c), .d (.ints .u32 d)]]:=by
  unfold I.xP.T spec at hyp
  split at hyp
  ·rename_i he
   simp only at he
   split at he
   ·exact⟨_,_,_,_,_,_,rfl⟩
   ·cases he
  ·exact hyp.elim
 obtain⟨s,a,b,t,c,d,bw⟩:=e
 subst bw
 exact H s a b t c d K hyp
theorem I.afU {M:List J->(J->Prop)->Prop}(H:∀s a b K,I.va.T [.agg [.d (.bool s), .d (.ints .u32 a), .d (.ints .u32 b)]] K->M [.agg [.d (.bool s), .d (.ints .u32 a), .d (.ints .u32 b)]] K)(args:List J)(K:J->Prop)(hyp:I.va.T args K):M args K:=by
 have e:∃s a b,args=[.agg [.d (.bool s), .d (.ints .u32 a), .d (.ints .u32 b)]]:=by
  unfold I.va.T spec at hyp
  split at hyp
  ·rename_i he
   simp only at he
   split at he
   ·exact⟨_,_,_,rfl⟩
   ·cases he
  ·exact hyp.elim
 obtain⟨s,a,b,bw⟩:=e
 subst bw
 exact H s a b K hyp
theorem I.ag2 {M:List J->(J->Prop)->Prop}(H:∀s a b t c d K,I.xR.T [.agg [.d (.bool s), .d (.ints .u32 a), .d (.ints .u32 b)], .agg [.d (.bool t), .d (.ints .u32 c), .d (.ints .u32 d)]] K->M [.agg [.d (.bool s), .d (.ints .u32 a), .d (.ints .u32 b)], .agg [.d (.bool t), .d (.ints .u32 c), .d (.ints .u32 d)]] K)(args:List J)(K:J->Prop)(hyp:I.xR.T args K):M args K:=by
 have e:∃s a b t c d,args=[.agg [.d (.bool s), .d (.ints .u32 a), .d (.ints .u32 b)], .agg [.d (.bool t), .d (.ints .u32 c), .d (.ints .u32 d)]]:=by
  unfold I.xR.T spec at hyp
  split at hyp
  ·rename_i he
   simp only at he
   split at he
   ·exact⟨_,_,_,_,_,_,rfl⟩
   ·cases he
  ·exact hyp.elim
 obtain⟨s,a,b,t,c,d,bw⟩:=e
 subst bw
 exact H s a b t c d K hyp
theorem I.aeX {M:List J->(J->Prop)->Prop}(H:∀s a b t c d K,I.sT.T [.agg [.d (.bool s), .d (.ints .u32 a), .d (.ints .u32 b)], .agg [.d (.bool t), .d (.ints .u32 c), .d (.ints .u32 d)]] K->M [.agg [.d (.bool s), .d (.ints .u32 a), .d (.ints .u32 b)], .agg [.d (.bool t), .d (.ints .u32 c), .d (.ints .u32 d)]] K)(args:List J)(K:J->Prop)(hyp:I.sT.T args K):M args K:=by
 have e:∃s a b t c d,args=[.agg [.d (.bool s), .d (.ints .u32 a), .d (.ints .u32 b)], .agg [.d (.bool t), .d (.ints .u32 c), .d (.ints .u32 d)]]:=by
  unfold I.sT.T spec at hyp
  split at hyp
  ·rename_i he
   simp only at he
   split at he
   ·exact⟨_,_,_,_,_,_,rfl⟩
   ·cases he
  ·exact hyp.elim
 obtain⟨s,a,b,t,c,d,bw⟩:=e
 subst bw
 exact H s a b t c d K hyp
theorem I.aen {M:List J->(J->Prop)->Prop}(H:∀s a b K,I.xa.T [.agg [.d (.bool s), .d (.ints .u32 a), .d (.ints .u32 b)]] K->M [.agg [.d (.bool s), .d (.ints .u32 a), .d (.ints .u32 b)]] K)(args:List J)(K:J->Prop)(hyp:I.xa.T args K):M args K:=by
 have e:∃s a b,args=[.agg [.d (.bool s), .d (.ints .u32 a), .d (.ints .u32 b)]]:=by
  unfold I.xa.T spec at hyp
  split at hyp
  ·rename_i he
   simp only at he
   split at he
   ·exact⟨_,_,_,rfl⟩
   ·cases he
  ·exact hyp.elim
 obtain⟨s,a,b,bw⟩:=e
 subst bw
 exact H s a b K hyp
theorem I.aeZ {M:List J->(J->Prop)->Prop}(H:∀s a b K,I.BK.T [.d (.bool s), .d (.ints .u32 a), .d (.ints .u32 b)] K->M [.d (.bool s), .d (.ints .u32 a), .d (.ints .u32 b)] K)(args:List J)(K:J->Prop)(hyp:I.BK.T args K):M args K:=by
 have e:∃s a b,args=[.d (.bool s), .d (.ints .u32 a), .d (.ints .u32 b)]:=by
  unfold I.BK.T spec at hyp
  split at hyp
  ·rename_i he
   simp only at he
   split at he
   ·exact⟨_,_,_,rfl⟩
   ·cases he
  ·exact hyp.elim
 obtain⟨s,a,b,bw⟩:=e
 subst bw
 exact H s a b K hyp
theorem I.afX {M:List J->(J->Prop)->Prop}(H:∀s a b t c d K,I.Cq.T [.agg [.d (.bool s), .d (.ints .u32 a), .d (.ints .u32 b)], .agg [.d (.bool t), .d (.ints .u32 c), .d (.ints .u32 d)]] K->M [.agg [.d (.bool s), .d (.ints .u32 a), .d (.ints .u32 b)], .agg [.d (.bool t), .d (.ints .u32 c), .d (.ints .u32 d)]] K)(args:List J)(K:J->Prop)(hyp:I.Cq.T args K):M args K:=by
 have e:∃s a b t c d,args=[.agg [.d (.bool s), .d (.ints .u32 a), .d (.ints .u32 b)], .agg [.d (.bool t), .d (.ints .u32 c), .d (.ints .u32 d)]]:=by
  unfold I.Cq.T spec at hyp
  split at hyp
  ·rename_i he
   simp only at he
   split at he
   ·exact⟨_,_,_,_,_,_,rfl⟩
   ·cases he
  ·exact hyp.elim
 obtain⟨s,a,b,t,c,d,bw⟩:=e
 subst bw
 exact H s a b t c d K hyp
theorem I.aep {M:J->ad->List J->(ad->J->Prop)->Prop}(H:∀l a s x y K,I.Ba.T (.ptr 0 0) (.cells [.d (.ints .i64 l), .d (.int .i64 a), .d (.int .i64 s)]) [.d (.int .i64 x), .d (.int .i64 y)] K->M (.ptr 0 0) (.cells [.d (.ints .i64 l), .d (.int .i64 a), .d (.int .i64 s)]) [.d (.int .i64 x), .d (.int .i64 y)] K)(a0:J)(bW:ad)(args:List J)(K:ad->J->Prop)(hyp:I.Ba.T a0 bW args K):M a0 bW args K:=by
 have e:∃l a s x y,a0= .ptr 0 0/\bW= .cells [.d (.ints .i64 l), .d (.int .i64 a), .d (.int .i64 s)]/\args=[.d (.int .i64 x), .d (.int .i64 y)]:=by
  unfold I.Ba.T eO at hyp
  split at hyp
  ·rename_i he
   simp only at he
   split at he
   ·split at he
    ·rename_i ae ay
     obtain rfl:=ast ae
     obtain rfl:=ast ay
     exact⟨_,_,_,_,_,rfl,rfl,rfl⟩
    ·cases he
   ·cases he
  ·exact hyp.elim
 obtain⟨l,a,s,x,y,bE,an,az⟩:=e
 subst bE an az
 exact H l a s x y K hyp
theorem I.afY {M:J->ad->List J->(ad->J->Prop)->Prop}(H:∀l a s K,I.Ct.T (.ptr 0 0) (.cells [.d (.ints .i64 l), .d (.int .i64 a), .d (.int .i64 s)]) [] K->M (.ptr 0 0) (.cells [.d (.ints .i64 l), .d (.int .i64 a), .d (.int .i64 s)]) [] K)(a0:J)(bW:ad)(args:List J)(K:ad->J->Prop)(hyp:I.Ct.T a0 bW args K):M a0 bW args K:=by
 have e:∃l a s,a0= .ptr 0 0/\bW= .cells [.d (.ints .i64 l), .d (.int .i64 a), .d (.int .i64 s)]/\args=[]:=by
  unfold I.Ct.T eO at hyp
  split at hyp
  ·rename_i he
   simp only at he
   split at he
   ·split at he
    ·rename_i ae ay
     obtain rfl:=ast ae
     obtain rfl:=ast ay
     exact⟨_,_,_,rfl,rfl,rfl⟩
    ·cases he
   ·cases he
  ·exact hyp.elim
 obtain⟨l,a,s,bE,an,az⟩:=e
 subst bE an az
 exact H l a s K hyp
theorem I.aeq {M:J->ad->List J->(ad->J->Prop)->Prop}(H:∀l a s K,I.Bb.T (.ptr 0 0) (.cells [.d (.ints .i64 l), .d (.int .i64 a), .d (.int .i64 s)]) [] K->M (.ptr 0 0) (.cells [.d (.ints .i64 l), .d (.int .i64 a), .d (.int .i64 s)]) [] K)(a0:J)(bW:ad)(args:List J)(K:ad->J->Prop)(hyp:I.Bb.T a0 bW args K):M a0 bW args K:=by
 have e:∃l a s,a0= .ptr 0 0/\bW= .cells [.d (.ints .i64 l), .d (.int .i64 a), .d (.int .i64 s)]/\args=[]:=by
  unfold I.Bb.T eO at hyp
  split at hyp
  ·rename_i he
   simp only at he
   split at he
   ·split at he
    ·rename_i ae ay
     obtain rfl:=ast ae
     obtain rfl:=ast ay
     exact⟨_,_,_,rfl,rfl,rfl⟩
    ·cases he
   ·cases he
  ·exact hyp.elim
 obtain⟨l,a,s,bE,an,az⟩:=e
 subst bE an az
 exact H l a s K hyp
end
section
namespace I
open Go Go.bG
end I
end
section
open Go Go.bG
namespace I
end I
end
section
open Go Go.bG
namespace I
end I
end
section
open Go Go.bG
namespace I
theorem adr (n:Int)(K:J->Prop)(h:z8.T [.d (.int .i64 n)] K):Kr n K:=by
 obtain⟨⟨U,aa⟩,ab⟩:=h
 unfold Kr
 refine⟨fun h=> ?_,fun h=> ?_⟩
 ·simp only[asw]at h
  rw[asq h,asq h]at ab;exact ab
 ·simp only[asv]at h
  rw[asp h,asp h]at ab
  obtain⟨q,rfl⟩:∃q:Nat,n=q:=⟨n.toNat,by omega⟩
  have e:bk .and .i64 (q:Int) 4294967295=((q%4294967296:Nat):Int):=GM q 32 (by omega) (by decide)
  have az:Int.fdiv (q:Int) 4294967296=((q/4294967296:Nat):Int):=by rw[as_ _ (by omega)];omega
  rw[e,az,gF (x:=((q%4294967296:Nat):Int)) (by omega),gF (x:=((q/4294967296:Nat):Int)) (by omega)]
  have aq:aZ [((q%4294967296:Nat):Int),((q/4294967296:Nat):Int)]:= .mk (by omega) (.mk (by omega) .nil)
  refine⟨⟨aq,by simp⟩, ?_⟩
  rw[Q1 aq,asu,asu,Nat.mod_add_div]
  rw[asu]at ab;exact ab
theorem YC (p q s:Nat)(aN:q<2^s)(h:p*2^s+q<18446744073709551616):bk .or .u64 ((p*2^s:Nat):Int) (q:Int)=((p*2^s+q:Nat):Int):=G7 p q s aN h
theorem aec (a:List Int)(k:Int)(K:ad->Prop)(h:AE.T [.d (.ints .u32 a), .d (.int .i64 k)] K):K6 a k K:=by
 obtain⟨⟨aC,r4,H2⟩,ab⟩:=h
 have fm:=aC.2
 obtain⟨s,rfl⟩:∃n:Nat,k=n:=⟨k.toNat,by omega⟩
 rw[asu]at ab
 unfold K6
 have bE:IntKind.wrap .i64 ((Nat.cast:Nat->Int) a.length+1)=((a.length+1:Nat):Int):=by rw[bl (by omega)];omega
 have ua:IntKind.wrap .u64 (s:Int)=(s:Int):=cl (by omega)
 rw[bE]
 simp only[ua,asu,show min s 64=s by omega]
 have DL:2^s<=2147483648:=as9 (show 0<2 by decide) (show s<=31 by omega)
 have aw:=atk s
 refine⟨by omega,by omega,by omega,fun c i o=>aZ o/\o.length=a.length+1/\∃C n:Nat,c=C/\i=n/\n<=a.length/\C<2^s/\cW o n+4294967296^n*C=cW a n*2^s,fun c i o=>a.length-i.toNat,⟨aZ.mI _,by simp,0,0,rfl,rfl,by omega,aw,by rw[hr,hr,as3,atL]⟩, ?_⟩
 rintro c i o ⟨aH,e9,C,n,rfl,rfl,ar,m4,ao⟩
 refine⟨fun h=> ?_,fun h=> ?_⟩
 ·simp only[asw]at h
  have an:IntKind.wrap .i64 ((n:Int)+1)=((n+1:Nat):Int):=by rw[bl (by omega)];omega
  simp only[an,asu,hE aC.1]
  have aP:=eX aC.1 n
  have jR:(a.getD n 0).toNat=lm a n:=rfl
  obtain⟨d,h9⟩:∃d,lm a n=d:=⟨_,rfl⟩
  rw[h9]at aP jR
  simp only[h9]
  have bB:d*2^s<4294967296*2^s:=auy aP aw
  have g_:(2:Int)^s=((2^s:Nat):Int):=by simp
  have l8:d*2^s+C<4294967296*2^s:=by
   have:=asF (2^s) (show d+1<=4294967296 by omega)
   rw[asK,atx]at this
   omega
  have cz:bk .or .u64 (IntKind.wrap .u64 (IntKind.wrap .u64 (d:Int)*(2:Int)^s)) (C:Int)=((d*2^s+C:Nat):Int):=by
   rw[cl (x:=(d:Int)) (by omega),g_,<-atE,cl ⟨atm _,by omega⟩]
   exact YC d C s m4 (by omega)
  simp only[cz]
  obtain⟨S,k4,RF⟩:∃S,d*2^s+C=S/\S<4294967296*2^s:=⟨_,rfl,l8⟩
  simp only[k4]
  have dO:IntKind.wrap .u32 (S:Int)=((S%4294967296:Nat):Int):=by rw[jH];omega
  have gZ:Int.fdiv (S:Int) 4294967296=((S/4294967296:Nat):Int):=by rw[as_ _ (by omega)];omega
  simp only[dO,gZ]
  have bj:S/4294967296<2^s:=aue RF
  refine⟨by omega,by omega,by omega,by omega,by omega,⟨aH.set _ ⟨by omega,by omega⟩,by rw[asJ];exact e9,S/4294967296,n+1,rfl,rfl,by omega,bj, ?_⟩,by show a.length-((n+1:Nat):Int).toNat<a.length-(n:Int).toNat;omega⟩
  rw[fc,qb _ _ _ _ (asz _),ef,asq ⟨rfl,by omega⟩,asu,fc,jR,asK,<-ao,as4,asU,as4]
  have bo:4294967296^n*(d*2^s)+4294967296^n*C=4294967296^n*(S%4294967296)+4294967296^n*(4294967296*(S/4294967296)):=by
   rw[<-asG,<-asG,k4,Nat.mod_add_div]
  omega
 ·simp only[asv]at h
  obtain rfl:n=a.length:=by omega
  have dO:IntKind.wrap .u32 (C:Int)=(C:Int):=gF (by omega)
  simp only[dO,asu]
  rw[gi a (asz _)]at ao
  have aM:val (o.set a.length (C:Int))=val a*2^s:=by
   rw[<-gi (o.set a.length (C:Int)) (i:=a.length+1) (by rw[asJ];omega),fc,qb _ _ _ _ (asz _),ef,asq ⟨rfl,by omega⟩,asu]
   exact ao
  have aq:(o.set a.length (C:Int)).length=a.length+1:=by rw[asJ];exact e9
  rw[<-aM,<-aq,FZ _ (aH.set _ ⟨by omega,by omega⟩) rfl]at ab
  exact⟨by omega,by omega,ab⟩
theorem YD (p q s:Nat)(aN:q<2^s)(h:p*2^s+q<18446744073709551616):bk .or .u64 (q:Int) ((p*2^s:Nat):Int)=((p*2^s+q:Nat):Int):=by
 rw[MK];exact G7 p q s aN h
theorem ads (a:List Int)(k:Int)(K:J->Prop)(h:z_.T [.d (.ints .u32 a), .d (.int .i64 k)] K):Ks a k K:=by
 obtain⟨⟨ov,r4,H2⟩,ab⟩:=h
 have aC:=ov.1
 have fm:=ov.2
 obtain⟨s,rfl⟩:∃n:Nat,k=n:=⟨k.toNat,by omega⟩
 rw[asu]at ab
 unfold Ks
 have ua:IntKind.wrap .u64 (s:Int)=(s:Int):=cl (by omega)
 have Y8:s<32:=by omega
 simp only[ua,asu,show min s 64=s by omega,hE aC]
 refine⟨by omega,by omega,by omega,fun i o=>aZ o/\o.length=a.length/\∃n:Nat,i=n/\n<=a.length/\cW o n=val a/2^s%4294967296^n,fun i o=>a.length-i.toNat,⟨aZ.mI _,by simp,0,rfl,by omega,by rw[hr,aua,Nat.mod_one]⟩, ?_⟩
 rintro i o ⟨aH,e9,n,rfl,ar,aM⟩
 refine⟨fun h=> ?_,fun h=> ?_⟩
 ·simp only[asw]at h
  have an:IntKind.wrap .i64 ((n:Int)+1)=((n+1:Nat):Int):=by rw[bl (by omega)];omega
  simp only[an,asu]
  have af:=eX aC n
  have a6:=eX aC (n+1)
  have yV:¬n+1<a.length->lm a (n+1)=0:=fun h=>by unfold lm;rw[w7 (by omega)];rfl
  have yW:dx a n=lm a n+4294967296*(lm a (n+1)+4294967296*dx a (n+2)):=by rw[lu a n,lu a (n+1)]
  obtain⟨x,gJ⟩:∃x,lm a n=x:=⟨_,rfl⟩
  obtain⟨y,mW⟩:∃x,lm a (n+1)=x:=⟨_,rfl⟩
  rw[gJ]at af yW
  rw[mW]at a6 yV yW
  simp only[gJ,mW]
  have hv:IntKind.wrap .u64 (x:Int)=(x:Int):=cl (by omega)
  have cz:IntKind.wrap .u64 (IntKind.wrap .u64 (y:Int)*4294967296)=((y*2^32:Nat):Int):=by
   have px:(2:Nat)^32=4294967296:=rfl
   rw[cl (x:=(y:Int)) (by omega),cl (by omega),px];omega
  have dO:bk .or .u64 (x:Int) ((y*2^32:Nat):Int)=((y*4294967296+x:Nat):Int):=YD y x 32 (by have px:(2:Nat)^32=4294967296:=rfl;omega) (by have px:(2:Nat)^32=4294967296:=rfl;omega)
  simp only[hv,cz,dO]
  refine⟨by omega,by omega,fun v=>v=((y*4294967296+x:Nat):Int),⟨fun U=> ?_,fun U=> ?_⟩, ?_⟩
  ·simp only[asw]at U
   exact⟨by omega,U,by first|rfl|trivial,rfl⟩
  ·simp only[asv]at U
   refine⟨by first|rfl|trivial, ?_⟩
   rw[yV (by omega),atL,as0]
  rintro v rfl
  have g_:(2:Int)^s=((2^s:Nat):Int):=by simp
  have gZ:Int.fdiv ((y*4294967296+x:Nat):Int) ((2:Int)^s)=(((y*4294967296+x)/2^s:Nat):Int):=by
   rw[g_,as_ _ (atm _),aug]
  have oF:IntKind.wrap .u32 (((y*4294967296+x)/2^s:Nat):Int)=(((y*4294967296+x)/2^s%4294967296:Nat):Int):=by
   rw[jH,aut];rfl
  simp only[gZ,oF]
  have GO:(y*4294967296+x)/2^s%4294967296=val a/2^s/4294967296^n%4294967296:=by
   rw[K4 (A:=dx a (n+2)) Y8,<-yW,<-Gu aC n,Nat.div_div_eq_div_mul,Nat.div_div_eq_div_mul,asT]
  rw[GO]
  have k6:val a/2^s/4294967296^n%4294967296<4294967296:=as6 _ (by decide)
  refine⟨by omega,by omega,by omega,⟨aH.set _ ⟨atm _,by omega⟩,by rw[asJ];exact e9,n+1,rfl,by omega, ?_⟩,by show a.length-((n+1:Nat):Int).toNat<a.length-(n:Int).toNat;omega⟩
  rw[fc,qb _ _ _ _ (asz _),ef,asq ⟨rfl,by omega⟩,asu,aM,asU,Nat.mod_mul]
 ·simp only[asv]at h
  obtain rfl:n=a.length:=by omega
  rw[gi o (by omega),ati (at7 (auL _ _) (gN aC))]at aM
  refine⟨⟨aH,by omega⟩, ?_⟩
  rw[aM];exact ab
end I
end
section
open Go Go.bG
namespace I
def Jx:(J->Prop)->Prop:=
 fun K=>True/\∀x,x=bP (if(0:Int)<=(0:Int)/\(0:Int)<(8:Int)then[(du.set (0:Nat) (1:Int),kW)]else[])->∀au,au=(0:Int)->True/\∀ax,ax=bP (if(0:Int)<=(1:Int)
 /\(1:Int)<(8:Int)then[(du.set (1:Nat) (1:Int),kW)]else[])->∀aJ,aJ=(0:Int)->qk x ax/\∀bb,bb=bP (if ew x ax=true then nrm (List.map bs x++List.map bs ax)else[])
 ->∀bJ,(bJ=if ew x ax=true then(0:Int)else(2:Int))->qk x ax/\∀aY,aY=bP (if ew x ax=true then nrm (List.map bs x++fT (-1:Rat) (List.map bs ax))else[])->∀aW,(aW=if ew x ax=true then(0:Int)else(2:Int))
 ->xJ bb aY/\∀x,x=bP (if ph bb aY=true then nrm (eR (List.map bs bb) (List.map bs aY))else[])->∀a7,(a7=if ew bb aY=true then if mX (nrm (List.map bs bb)) (nrm (List.map bs aY))=true then(9:Int)else(0:Int)else(2:Int))
 ->(x=[[R.int .i64 (2:Int),R.int .i64 (0:Int),R.int .i64 (0:Int),R.int .i64 (0:Int),R.int .i64 (0:Int),R.int .i64 (0:Int),R.int .i64 (0:Int),R.int .i64 (0:Int),R.bool false,R.ints .u32 [(1:Int)],R.ints .u32 [(1:Int)]],[R.int .i64 (0:Int),R.int .i64 (2:Int),R.int .i64 (0:Int),R.int .i64 (0:Int),R.int .i64 (0:Int),R.int .i64 (0:Int),R.int .i64 (0:Int),R.int .i64 (0:Int),R.bool true,R.ints .u32 [(1:Int)],R.ints .u32 [(1:Int)]]]
 /\[[R.str [(112:Int)]],[R.str [(113:Int)]]]=[[R.str [(112:Int)]],[R.str [(113:Int)]]])/\∀x,x=[(112:Int),(94:Int),(50:Int),(32:Int),(45:Int),(32:Int),(113:Int),(94:Int),(50:Int)]
 ->∀bU,bU=(0:Int)->(decide (au=(0:Int))=true->(decide (aJ=(0:Int))=true->(decide (bJ=(0:Int))=true->(decide (aW=(0:Int))=true->(decide (a7=(0:Int))=true
 ->(decide (bU=(0:Int))=true->K (J.d (R.bool (decide (x=[(112:Int),(94:Int),(50:Int),(32:Int),(45:Int),(32:Int),(113:Int),(94:Int),(50:Int)])))))/\(decide (bU=(0:Int))=false
 ->K (J.d (R.bool false))))/\(decide (a7=(0:Int))=false->K (J.d (R.bool false))))/\(decide (aW=(0:Int))=false->K (J.d (R.bool false))))/\(decide (bJ=(0:Int))=false->K (J.d (R.bool false))))
 /\(decide (aJ=(0:Int))=false->K (J.d (R.bool false))))/\(decide (au=(0:Int))=false->K (J.d (R.bool false)))
end I
end
section
open Go Go.bG
namespace I
def Jr:(J->Prop)->Prop:=
 fun K=>(0:Int)<=(2:Int)/\(2:Int)<=(3:Int)/\(3:Int)<=(36:Int)/\K (J.d (R.str (List.drop (2:Nat) (List.take (3:Nat) (have y:=have y:=have y:=[(118:Int),(119:Int),(120:Int),(121:Int),(122:Int)];(114:Int)::(115:Int)::(116:Int)::(117:Int)::y;have y:=(109:Int)::(110:Int)::(111:Int)::(112:Int)::(113:Int)::y;(105:Int)::(106:Int)::(107:Int)::(108:Int)::y;have y:=have y:=(100:Int)::(101:Int)::(102:Int)::(103:Int)::(104:Int)::y;(57:Int)::(97:Int)::(98:Int)::(99:Int)::y;have y:=(52:Int)::(53:Int)::(54:Int)::(55:Int)::(56:Int)::y;(48:Int)::(49:Int)::(50:Int)::(51:Int)::y)))))
def SS:(J->Prop)->Prop:=
 fun K=>(2:Int)=(2:Int)/\K (J.d (R.str [(50:Int)]))
def SO:(J->Prop)->Prop:=
 fun K=>((2:Int)=(2:Int)/\(10:Int)=(10:Int))/\K (J.d (R.str [(50:Int)]))
def Jp:(J->Prop)->Prop:=
 fun K=>(2:Int)=(2:Int)/\K (J.d (R.str [(50:Int)]))
def Ki:List Int->List Int->(J->Prop)->Prop:=
 fun x s K=>(0:Int)<=(0:Int)/\(0:Int)<↑[[R.str x]].length/\([R.str x].getD (0:Nat) R.undef).isStr/\K (J.d (R.str x))
def JI:(J->Prop)->Prop:=
 fun K=>[f_,ga]=[f_,ga]/\[f_,ga]=[f_,ga]/\(0:Int)<=(0:Int)/\(0:Int)<(2:Int)/\(11:Nat)=(11:Nat)/\(List.getD f_ (8:Nat) R.undef).isBool/\(List.getD f_ (9:Nat) R.undef).eM .u32
 /\(List.getD f_ (10:Nat) R.undef).eM .u32/\([(1:Int)]=[(1:Int)]/\[(1:Int)]=[(1:Int)])/\(List.getD f_ (8:Nat) R.undef).isBool/\(List.getD f_ (9:Nat) R.undef).eM .u32
 /\(List.getD f_ (10:Nat) R.undef).eM .u32/\(11:Nat)=(11:Nat)/\(∀(x:R),x∈List.take (8:Nat) f_->x.isInt .i64)/\(∀(x:R),x∈[R.int .i64 (0:Int),R.int .i64 (0:Int),R.int .i64 (0:Int),R.int .i64 (0:Int),R.int .i64 (0:Int),R.int .i64 (0:Int),R.int .i64 (0:Int),R.int .i64 (0:Int)]
 ->x.isInt .i64)/\(decide (List.map R.toInt (List.take (8:Nat) f_)=List.map R.toInt [R.int .i64 (0:Int),R.int .i64 (0:Int),R.int .i64 (0:Int),R.int .i64 (0:Int),R.int .i64 (0:Int),R.int .i64 (0:Int),R.int .i64 (0:Int),R.int .i64 (0:Int)])=true
 ->(av (1000000:Nat) [(1:Int)]/\av (1000000:Nat) [(1:Int)])/\(16:Int)<=(70368744177664:Int)/\(11:Nat)=(11:Nat)/\(0:Int)<=(0:Int)/\(0:Int)<(8:Int)/\((List.take (8:Nat) f_).getD (0:Nat) R.undef).isInt .i64
 /\(0:Int)<=(0:Int)/\(0:Int)<(2:Int)/\([R.str [(112:Int)]].getD (0:Nat) R.undef).isStr/\((List.take (8:Nat) f_).getD (0:Nat) R.undef).toInt=(2:Int)/\(2:Int)<=(9223372036854775807:Int)
 /\(3:Int)<=(9223372036854775807:Int)/\(32:Int)<=(70368744177664:Int)/\(0:Int)<=(1:Int)/\(1:Int)<(8:Int)/\((List.take (8:Nat) f_).getD (1:Nat) R.undef).isInt .i64/\(0:Int)<=(2:Int)
 /\(2:Int)<(8:Int)/\((List.take (8:Nat) f_).getD (2:Nat) R.undef).isInt .i64/\(0:Int)<=(3:Int)/\(3:Int)<(8:Int)/\((List.take (8:Nat) f_).getD (3:Nat) R.undef).isInt .i64
 /\(0:Int)<=(4:Int)/\(4:Int)<(8:Int)/\((List.take (8:Nat) f_).getD (4:Nat) R.undef).isInt .i64/\(0:Int)<=(5:Int)/\(5:Int)<(8:Int)/\((List.take (8:Nat) f_).getD (5:Nat) R.undef).isInt .i64
 /\(0:Int)<=(6:Int)/\(6:Int)<(8:Int)/\((List.take (8:Nat) f_).getD (6:Nat) R.undef).isInt .i64/\(0:Int)<=(7:Int)/\(7:Int)<(8:Int)/\((List.take (8:Nat) f_).getD (7:Nat) R.undef).isInt .i64
 /\False)/\(decide (List.map R.toInt (List.take (8:Nat) f_)=List.map R.toInt [R.int .i64 (0:Int),R.int .i64 (0:Int),R.int .i64 (0:Int),R.int .i64 (0:Int),R.int .i64 (0:Int),R.int .i64 (0:Int),R.int .i64 (0:Int),R.int .i64 (0:Int)])=false
 ->(1:Int)=(1:Int)/\((false=false/\false=false)/\[(1:Int)]=[(1:Int)]/\[(1:Int)]=[(1:Int)]/\[(1:Int)]=[(1:Int)]/\[(1:Int)]=[(1:Int)])/\(11:Nat)=(11:Nat)/\(0:Int)<=(0:Int)
 /\(0:Int)<(8:Int)/\((List.take (8:Nat) f_).getD (0:Nat) R.undef).isInt .i64/\(0:Int)<=(0:Int)/\(0:Int)<(2:Int)/\([R.str [(112:Int)]].getD (0:Nat) R.undef).isStr/\((List.take (8:Nat) f_).getD (0:Nat) R.undef).toInt=(2:Int)
 /\(2:Int)<=(9223372036854775807:Int)/\(3:Int)<=(9223372036854775807:Int)/\(16:Int)<=(70368744177664:Int)/\(0:Int)<=(1:Int)/\(1:Int)<(8:Int)/\((List.take (8:Nat) f_).getD (1:Nat) R.undef).isInt .i64
 /\(0:Int)<=(2:Int)/\(2:Int)<(8:Int)/\((List.take (8:Nat) f_).getD (2:Nat) R.undef).isInt .i64/\(0:Int)<=(3:Int)/\(3:Int)<(8:Int)/\((List.take (8:Nat) f_).getD (3:Nat) R.undef).isInt .i64
 /\(0:Int)<=(4:Int)/\(4:Int)<(8:Int)/\((List.take (8:Nat) f_).getD (4:Nat) R.undef).isInt .i64/\(0:Int)<=(5:Int)/\(5:Int)<(8:Int)/\((List.take (8:Nat) f_).getD (5:Nat) R.undef).isInt .i64
 /\(0:Int)<=(6:Int)/\(6:Int)<(8:Int)/\((List.take (8:Nat) f_).getD (6:Nat) R.undef).isInt .i64/\(0:Int)<=(7:Int)/\(7:Int)<(8:Int)/\((List.take (8:Nat) f_).getD (7:Nat) R.undef).isInt .i64
 /\True/\(3:Nat)<=(1000000000:Nat)/\(0:Int)<=(1:Int)/\(1:Int)<(2:Int)/\(11:Nat)=(11:Nat)/\(List.getD ga (8:Nat) R.undef).isBool/\(List.getD ga (9:Nat) R.undef).eM .u32
 /\(List.getD ga (10:Nat) R.undef).eM .u32/\([(1:Int)]=[(1:Int)]/\[(1:Int)]=[(1:Int)])/\(6:Nat)<=(1000000000:Nat)/\(List.getD ga (8:Nat) R.undef).isBool/\(List.getD ga (9:Nat) R.undef).eM .u32
 /\(List.getD ga (10:Nat) R.undef).eM .u32/\(11:Nat)=(11:Nat)/\(∀(x:R),x∈List.take (8:Nat) ga->x.isInt .i64)/\(∀(x:R),x∈[R.int .i64 (0:Int),R.int .i64 (0:Int),R.int .i64 (0:Int),R.int .i64 (0:Int),R.int .i64 (0:Int),R.int .i64 (0:Int),R.int .i64 (0:Int),R.int .i64 (0:Int)]
 ->x.isInt .i64)/\(decide (List.map R.toInt (List.take (8:Nat) ga)=List.map R.toInt [R.int .i64 (0:Int),R.int .i64 (0:Int),R.int .i64 (0:Int),R.int .i64 (0:Int),R.int .i64 (0:Int),R.int .i64 (0:Int),R.int .i64 (0:Int),R.int .i64 (0:Int)])=true
 ->(av (1000000:Nat) [(1:Int)]/\av (1000000:Nat) [(1:Int)])/\(16:Int)<=(70368744177664:Int)/\(11:Nat)=(11:Nat)/\(0:Int)<=(0:Int)/\(0:Int)<(8:Int)/\((List.take (8:Nat) ga).getD (0:Nat) R.undef).isInt .i64
 /\(0:Int)<=(1:Int)/\(1:Int)<(8:Int)/\((List.take (8:Nat) ga).getD (1:Nat) R.undef).isInt .i64/\(0:Int)<=(1:Int)/\(1:Int)<(2:Int)/\([R.str [(113:Int)]].getD (0:Nat) R.undef).isStr
 /\((List.take (8:Nat) ga).getD (1:Nat) R.undef).toInt=(2:Int)/\(2:Int)<=(9223372036854775807:Int)/\(3:Int)<=(9223372036854775807:Int)/\(32:Int)<=(70368744177664:Int)/\(0:Int)<=(2:Int)
 /\(2:Int)<(8:Int)/\((List.take (8:Nat) ga).getD (2:Nat) R.undef).isInt .i64/\(0:Int)<=(3:Int)/\(3:Int)<(8:Int)/\((List.take (8:Nat) ga).getD (3:Nat) R.undef).isInt .i64
 /\(0:Int)<=(4:Int)/\(4:Int)<(8:Int)/\((List.take (8:Nat) ga).getD (4:Nat) R.undef).isInt .i64/\(0:Int)<=(5:Int)/\(5:Int)<(8:Int)/\((List.take (8:Nat) ga).getD (5:Nat) R.undef).isInt .i64
 /\(0:Int)<=(6:Int)/\(6:Int)<(8:Int)/\((List.take (8:Nat) ga).getD (6:Nat) R.undef).isInt .i64/\(0:Int)<=(7:Int)/\(7:Int)<(8:Int)/\((List.take (8:Nat) ga).getD (7:Nat) R.undef).isInt .i64
 /\False)/\(decide (List.map R.toInt (List.take (8:Nat) ga)=List.map R.toInt [R.int .i64 (0:Int),R.int .i64 (0:Int),R.int .i64 (0:Int),R.int .i64 (0:Int),R.int .i64 (0:Int),R.int .i64 (0:Int),R.int .i64 (0:Int),R.int .i64 (0:Int)])=false
 ->(1:Int)=(1:Int)/\((false=false/\false=false)/\[(1:Int)]=[(1:Int)]/\[(1:Int)]=[(1:Int)]/\[(1:Int)]=[(1:Int)]/\[(1:Int)]=[(1:Int)])/\(11:Nat)=(11:Nat)/\(0:Int)<=(0:Int)
 /\(0:Int)<(8:Int)/\((List.take (8:Nat) ga).getD (0:Nat) R.undef).isInt .i64/\(0:Int)<=(1:Int)/\(1:Int)<(8:Int)/\((List.take (8:Nat) ga).getD (1:Nat) R.undef).isInt .i64
 /\(0:Int)<=(1:Int)/\(1:Int)<(2:Int)/\([R.str [(113:Int)]].getD (0:Nat) R.undef).isStr/\((List.take (8:Nat) ga).getD (1:Nat) R.undef).toInt=(2:Int)/\(2:Int)<=(9223372036854775807:Int)
 /\(3:Int)<=(9223372036854775807:Int)/\(16:Int)<=(70368744177664:Int)/\(0:Int)<=(2:Int)/\(2:Int)<(8:Int)/\((List.take (8:Nat) ga).getD (2:Nat) R.undef).isInt .i64/\(0:Int)<=(3:Int)
 /\(3:Int)<(8:Int)/\((List.take (8:Nat) ga).getD (3:Nat) R.undef).isInt .i64/\(0:Int)<=(4:Int)/\(4:Int)<(8:Int)/\((List.take (8:Nat) ga).getD (4:Nat) R.undef).isInt .i64
 /\(0:Int)<=(5:Int)/\(5:Int)<(8:Int)/\((List.take (8:Nat) ga).getD (5:Nat) R.undef).isInt .i64/\(0:Int)<=(6:Int)/\(6:Int)<(8:Int)/\((List.take (8:Nat) ga).getD (6:Nat) R.undef).isInt .i64
 /\(0:Int)<=(7:Int)/\(7:Int)<(8:Int)/\((List.take (8:Nat) ga).getD (7:Nat) R.undef).isInt .i64/\True/\(9:Nat)<=(1000000000:Nat)/\¬[]++([(112:Int)]++([(94:Int)]++[(50:Int)]))++[(32:Int),(45:Int),(32:Int)]++([(113:Int)]++([(94:Int)]++[(50:Int)]))=[]
 /\K (J.tup [J.d (R.str ([]++([(112:Int)]++([(94:Int)]++[(50:Int)]))++[(32:Int),(45:Int),(32:Int)]++([(113:Int)]++([(94:Int)]++[(50:Int)])))),J.d (R.int .i64 (0:Int))])))
end I
end
section
open Go Go.bG
namespace I
theorem ab1 (K:J->Prop)(h:u9.T [.d (.int .i64 2)] K):Jr K:=by
 obtain⟨_,ab⟩:=h
 unfold Jr
 exact⟨by decide,by decide,by decide,ab⟩
theorem ac7 (K:J->Prop)(h:u9.T [.d (.int .i64 2)] K):SS K:=h
theorem ab2 (K:J->Prop)(h:u9.T [.d (.int .i64 2)] K):SO K:=⟨⟨rfl,rfl⟩,h.2⟩
theorem abZ (K:J->Prop)(h:A0.T [.d (.int .i64 2), .d (.int .i64 10)] K):Jp K:=by
 obtain⟨_,ab⟩:=h
 unfold Jp
 simpa using ab
theorem ac8 (x s:List Int)(K:J->Prop)(h:Ck.T [.d (.rows 1 [[.str x]]), .d (.str s)] K):Ki x s K:=by
 obtain⟨_,ab⟩:=h
 unfold Ki
 simpa[R.isStr]using ab
theorem aci (K:J->Prop)(h:A1.T [.d (.rows 11 qw), .d (.rows 1 Dp)] K):JI K:=by
 obtain⟨_,ab⟩:=h
 unfold JI
 simp[R.isInt,R.isBool,R.eM,R.isStr,R.toInt]
 exact ab
end I
end
section
open Go Go.bG
namespace I
theorem A4:bm 1=[1]:=by unfold bm;exact nj
theorem Cl:bg 1=[1]:=by unfold bg;exact nj
theorem F9:bm (-1)=[1]:=by unfold bm;exact nj
theorem F_:bg (-1)=[1]:=by unfold bg;exact nj
theorem ab8 (K:J->Prop)(h:A2.T [] K):Jx K:=by
 obtain⟨_,ab⟩:=h
 unfold Jx
 rw[asq (show(0:Int)<=0/\(0:Int)<8 by decide),asq (show(0:Int)<=1/\(1:Int)<8 by decide)]
 refine⟨trivial, ?_⟩
 rintro _ rfl _ rfl
 refine⟨trivial, ?_⟩
 rintro _ rfl _ rfl
 have hv:aoi 1 [(du.set 0 1,kW)]:=ao5 (by decide)
 have cz:aoi 1 [(du.set 1 1,kW)]:=ao5 (by decide)
 have bE:dA 1024 [(du.set 0 1,kW)]:=xK (by decide)
 have an:dA 1024 [(du.set 1 1,kW)]:=xK (by decide)
 have ec:nrm ([(du.set 0 1,kW)]++[(du.set 1 1,kW)])=[(du.set 0 1,1),(du.set 1 1,1)]:=by decide+kernel
 have gC:nrm ([(du.set 0 1,kW)]++fT (-1) [(du.set 1 1,kW)])=[(du.set 0 1,1),(du.set 1 1,-1)]:=by decide+kernel
 have zn:nrm (eR [(du.set 0 1,(1:Rat)),(du.set 1 1,1)] [(du.set 0 1,1),(du.set 1 1,-1)])=[(du.set 0 2,1),(du.set 1 2,-1)]:=by decide+kernel
 have m5:nrm [(du.set 0 1,(1:Rat)),(du.set 1 1,1)]=[(du.set 0 1,1),(du.set 1 1,1)]:=by decide+kernel
 have qW:nrm [(du.set 0 1,(1:Rat)),(du.set 1 1,-1)]=[(du.set 0 1,1),(du.set 1 1,-1)]:=by decide+kernel
 have dO:aoi 1 [(du.set 0 1,(1:Rat)),(du.set 1 1,1)]:=ao5 (by decide)
 have gZ:aoi 1 [(du.set 0 1,(1:Rat)),(du.set 1 1,-1)]:=ao5 (by decide)
 have az:dA 1024 [(du.set 0 1,(1:Rat)),(du.set 1 1,1)]:=xK (by decide)
 have bK:dA 1024 [(du.set 0 1,(1:Rat)),(du.set 1 1,-1)]:=xK (by decide)
 have v1:=BE bE an
 have v2:=BE az bK
 have a0:=hf bE.len
 have a1:=hf an.len
 have a2:=hf az.len
 have a3:=hf bK.len
 have b2:mX [(du.set 0 1,(1:Rat)),(du.set 1 1,1)] [(du.set 0 1,1),(du.set 1 1,-1)]=false:=by decide+kernel
 refine⟨Pp hv bE cz an (by decide) (by decide), ?_⟩
 simp only[v1,atj,a0,a1,ec,gC]
 rintro _ rfl _ rfl
 refine⟨Pp hv bE cz an (by decide) (by decide), ?_⟩
 rintro _ rfl _ rfl
 refine⟨Ga dO az gZ bK (by decide) (by decide), ?_⟩
 simp only[ph,v2,a2,a3,m5,qW,b2,zn,Bool.not_false,Bool.and_true,atj]
 have we:bP [(du.set 0 2,(1:Rat)),(du.set 1 2,-1)]=qw:=by
  show[dG (du.set 0 2)++[.bool (bh 1), .ints .u32 (bm 1), .ints .u32 (bg 1)],dG (du.set 1 2)++[.bool (bh (-1)), .ints .u32 (bm (-1)), .ints .u32 (bg (-1))]]=_
  rw[A4,Cl,F9,F_];rfl
 rintro x af _ rfl
 refine⟨⟨af.trans we,trivial⟩, ?_⟩
 rintro _ rfl _ rfl
 simpa using ab
def dX (i:Nat)(x:Int):List Int:=du.set i x
end I
end
section
namespace I
open Go Go.bG Go.Sort
theorem Q7 (v:BitVec 64):(0:Int)<=(v.toNat:Int)/\(v.toNat:Int)<18446744073709551616:=by have:=v.isLt;omega
theorem Za (a b:Int):bk .xor .u64 a b=((BitVec.ofInt 64 a^^^BitVec.ofInt 64 b).toNat:Int):=cl (Q7 _)
theorem Zb (a b:Int):bk .and .u64 a b=((BitVec.ofInt 64 a&&&BitVec.ofInt 64 b).toNat:Int):=cl (Q7 _)
theorem Xv (a b:Int):0<=bk .xor .u64 a b/\bk .xor .u64 a b<18446744073709551616:=by
 rw[Za]
 have:=(BitVec.ofInt 64 a^^^BitVec.ofInt 64 b).isLt
 omega
theorem Xw (a:Int){b:Nat}(ae:b<18446744073709551616):0<=bk .and .u64 a b/\bk .and .u64 a b<=b:=by
 rw[Zb,BitVec.toNat_and]
 have h:(BitVec.ofInt 64 (b:Int)).toNat=b:=by
  rw[auh,auw];exact ati ae
 rw[h]
 have:= @Nat.and_le_right (BitVec.ofInt 64 a).toNat b
 omega
theorem ace (x:Int)(K:ad->J->Prop)(h:(0<=x/\x<18446744073709551616)/\∀y:Int,(0<=y/\y<18446744073709551616)->K (.cells [.d (.int .u64 y)]) (.d (.int .u64 y))):SP x K:=
 h.2 _ (Xv _ _)
theorem abW (l:Rows)(a b s:Int)(K:ad->J->Prop)
 (h:(cQ l/\0<=a/\a<(l.length:Int)/\0<=b/\b<(l.length:Int)/\0<=s/\s<1000)/\
   K (.cells [.d (.int .i64 (Go.Sort.order2 aX l.toArray a.toNat b.toNat s.toNat).2.2)]) (.tup [.d (.int .i64 (Go.Sort.order2 aX l.toArray a.toNat b.toNat s.toNat).1), .d (.int .i64 (Go.Sort.order2 aX l.toArray a.toNat b.toNat s.toNat).2.1)])):Jm l a b s K:=by
 obtain⟨⟨aq,aC,pz,ae,gT,ao,gS⟩,ab⟩:=h
 obtain⟨A,rfl⟩:=asx aC
 obtain⟨B,rfl⟩:=asx ae
 obtain⟨S,rfl⟩:=asx ao
 simp only[asu]at ab
 unfold Jm
 rw[bl (x:=(S:Int)+1) (by omega)]
 simp only[asu]
 refine⟨ae,gT,aq.len (by omega),aC,pz,aq.len (by omega),⟨aq.get (by omega),aq.get (by omega)⟩, ?_⟩
 rintro _ rfl
 unfold order2 at ab
 rw[iZ]at ab
 refine⟨fun h=> ?_,fun h=> ?_⟩
 ·rw[h]at ab;exact ab
 ·rw[h]at ab;exact ab
theorem Q8 (l:Array Row){a b s n:Nat}(aC:a<n)(ae:b<n):(order2 aX l a b s).1<n/\(order2 aX l a b s).2.1<n:=by
 rcases order2_mem aX l a b s with⟨U,aa⟩|⟨U,aa⟩<;>rw[U,aa]<;>exact⟨by omega,by omega⟩
theorem abX (l:Rows)(a b e s:Int)(K:ad->J->Prop)
 (h:(cQ l/\(0<=a/\a<(l.length:Int))/\(0<=b/\b<(l.length:Int))/\(0<=e/\e<(l.length:Int))/\0<=s/\s<900)/\
   K (.cells [.d (.int .i64 (Go.Sort.median aX l.toArray a.toNat b.toNat e.toNat s.toNat).2)]) (.d (.int .i64 (Go.Sort.median aX l.toArray a.toNat b.toNat e.toNat s.toNat).1))):Jn l a b e s K:=by
 obtain⟨⟨aq,⟨aC,pz⟩,⟨ae,gT⟩,⟨he,Ih⟩,ao,gS⟩,ab⟩:=h
 obtain⟨A,rfl⟩:=asx aC
 obtain⟨B,rfl⟩:=asx ae
 obtain⟨E,rfl⟩:=asx he
 obtain⟨S,rfl⟩:=asx ao
 simp only[asu]at ab
 unfold median at ab
 unfold Jn
 simp only[asu]
 have dt:=order2_count aX l.toArray A B S
 have c3:= @Q8 l.toArray A B S l.length (by omega) (by omega)
 refine⟨⟨aq,aC,pz,ae,gT,ao,by omega⟩, ?_⟩
 rintro _ rfl _ rfl _ rfl
 simp only[asu]
 show(cQ l/\0<=(((order2 aX l.toArray A B S).2.1:Nat):Int)/\_)/\_
 have dD:=order2_count aX l.toArray (order2 aX l.toArray A B S).2.1 E (order2 aX l.toArray A B S).2.2
 have cP:= @Q8 l.toArray (order2 aX l.toArray A B S).2.1 E (order2 aX l.toArray A B S).2.2 l.length c3.2 (by omega)
 refine⟨⟨aq,by omega, ?_,he,Ih,by omega, ?_⟩, ?_⟩
 ·exact atT.2 c3.2
 ·show(((order2 aX l.toArray A B S).2.2:Nat):Int)<1000
  omega
 rintro _ rfl _ rfl _ rfl
 simp only[asu]
 refine⟨⟨aq,by omega,atT.2 c3.1,by omega,atT.2 cP.1,by omega, ?_⟩, ?_⟩
 ·show(((order2 aX l.toArray (order2 aX l.toArray A B S).2.1 E (order2 aX l.toArray A B S).2.2).2.2:Nat):Int)<1000
  omega
 rintro _ rfl _ rfl _ rfl
 exact ab
theorem abI (l:Rows)(a s:Int)(K:ad->J->Prop)
 (h:(cQ l/\0<a/\a+1<(l.length:Int)/\l.length<1000000000000000/\0<=s/\s<900)/\
   K (.cells [.d (.int .i64 (Go.Sort.medianAdjacent aX l.toArray a.toNat s.toNat).2)]) (.d (.int .i64 (Go.Sort.medianAdjacent aX l.toArray a.toNat s.toNat).1))):I9 l a s K:=by
 obtain⟨⟨aq,aC,pz,ar,ao,gS⟩,ab⟩:=h
 obtain⟨A,rfl⟩:=asx (Int.le_of_lt aC)
 obtain⟨S,rfl⟩:=asx ao
 simp only[asu]at ab
 unfold medianAdjacent at ab
 unfold I9
 rw[bl (x:=(A:Int)-1) (by omega),bl (x:=(A:Int)+1) (by omega)]
 rw[show(A:Int)-1=((A-1:Nat):Int) by omega,show(A:Int)+1=((A+1:Nat):Int) by omega]
 simp only[asu]
 refine⟨⟨aq,⟨by omega,by omega⟩,⟨by omega,by omega⟩,⟨by omega,by omega⟩,ao,gS⟩, ?_⟩
 rintro _ rfl _ rfl
 exact ab
theorem GX (l:Array Row){a s n:Nat}(aC:a+1<n):(medianAdjacent aX l a s).1<n:=by
 rcases medianAdjacent_mem aX l a s with h|h|h<;>omega
theorem Yb {K:J->Prop}{p s:Nat}(h:K (.tup [.d (.int .i64 p), .d (.int .i64 (hintCode (hintOf s)))])):
 (decide ((s:Int)=0)=true->K (.tup [.d (.int .i64 p), .d (.int .i64 1)]))/\(decide ((s:Int)=0)=false->
   (decide ((s:Int)=12)=true->K (.tup [.d (.int .i64 p), .d (.int .i64 2)]))/\(decide ((s:Int)=12)=false->K (.tup [.d (.int .i64 p), .d (.int .i64 0)]))):=by
 unfold hintOf at h
 refine⟨fun U=> ?_,fun U=>⟨fun aa=> ?_,fun aa=> ?_⟩⟩<;>simp only[asw,asv]at*
 ·rw[asq (by omega)]at h;exact h
 ·rw[asp (by omega),asq (by omega)]at h;exact h
 ·rw[asp (by omega),asp (by omega)]at h;exact h
theorem abM (l:Rows)(a b:Int)(K:J->Prop)
 (h:(fe l a b/\a<b)/\K (.tup [.d (.int .i64 (Go.Sort.choosePivot aX l.toArray a.toNat b.toNat).1), .d (.int .i64 (Go.Sort.hintCode (Go.Sort.choosePivot aX l.toArray a.toNat b.toNat).2))])):Jc l a b K:=by
 obtain⟨⟨⟨aq,aC,-,ae,ar⟩,jf⟩,ab⟩:=h
 obtain⟨A,rfl⟩:=asx aC
 obtain⟨B,rfl⟩:=asx (atJ aC (Int.le_of_lt jf))
 simp only[asu]at ab
 rw[choosePivot_eq]at ab
 unfold Jc
 rw[bl (x:=(B:Int)-A) (by omega)]
 have cm:Int.tdiv ((B:Int)-A) 4=(((B-A)/4:Nat):Int):=by
  rw[show(B:Int)-A=((B-A:Nat):Int) by omega];rfl
 rw[cm,bl (x:=(((B-A)/4:Nat):Int)) (by omega),bl (x:=(((B-A)/4:Nat):Int)*1) (by omega),bl (x:=(((B-A)/4:Nat):Int)*2) (by omega),bl (x:=(((B-A)/4:Nat):Int)*3) (by omega)]
 rw[bl (x:=(A:Int)+(((B-A)/4:Nat):Int)*1) (by omega),bl (x:=(A:Int)+(((B-A)/4:Nat):Int)*2) (by omega),bl (x:=(A:Int)+(((B-A)/4:Nat):Int)*3) (by omega)]
 rw[show(A:Int)+(((B-A)/4:Nat):Int)*1=((A+(B-A)/4*1:Nat):Int) by omega,show(A:Int)+(((B-A)/4:Nat):Int)*2=((A+(B-A)/4*2:Nat):Int) by omega,show(A:Int)+(((B-A)/4:Nat):Int)*3=((A+(B-A)/4*3:Nat):Int) by omega]
 have q1:8<=B-A->A<A+(B-A)/4*1/\A+(B-A)/4*3+1<B:=fun h=>by omega
 have cb:A+(B-A)/4*1<=A+(B-A)/4*2:=by omega
 have cu:A+(B-A)/4*2<=A+(B-A)/4*3:=by omega
 refine⟨fun p s=>∃k5:Nat,s=k5/\rawPivot aX l.toArray A B=(p.toNat,k5)/\0<=p, ?_, ?_⟩
 ·generalize m0:A+(B-A)/4*1=i1 at*
  generalize Ii:A+(B-A)/4*2=i2 at*
  generalize RP:A+(B-A)/4*3=i3 at*
  refine⟨fun h=> ?_,fun h=> ?_⟩
  ·have h:=asC h
   obtain⟨q1,fM⟩:=q1 (by omega)
   refine⟨fun i j k s=>∃pL fk b3 k5:Nat,i=pL/\j=fk/\k=b3/\s=k5/\pL<l.length/\fk<l.length/\b3<l.length/\k5<10/\rawPivot aX l.toArray A B=median aX l.toArray pL fk b3 k5,⟨fun bo=> ?_,fun bo=> ?_⟩, ?_⟩
   ·have bo:=asC bo
    have dt:=medianAdjacent_count aX l.toArray i1 0
    refine⟨⟨aq,by omega,by omega,ar,by omega,by omega⟩, ?_⟩
    rintro _ rfl _ rfl
    simp only[asu]
    have dD:=medianAdjacent_count aX l.toArray i2 (medianAdjacent aX l.toArray i1 0).2
    have iD:=medianAdjacent_count aX l.toArray i3 (medianAdjacent aX l.toArray i2 (medianAdjacent aX l.toArray i1 0).2).2
    refine⟨⟨aq,by omega,by omega,ar,by omega, ?_⟩, ?_⟩
    ·show(((medianAdjacent aX l.toArray i1 0).2:Nat):Int)<900
     omega
    rintro _ rfl _ rfl
    simp only[asu]
    refine⟨⟨aq,by omega,by omega,ar,by omega, ?_⟩, ?_⟩
    ·show(((medianAdjacent aX l.toArray i2 (medianAdjacent aX l.toArray i1 0).2).2:Nat):Int)<900
     omega
    rintro _ rfl _ rfl
    refine⟨_,_,_,_,rfl,rfl,rfl,rfl,GX _ (by omega),GX _ (by omega),GX _ (by omega), ?_, ?_⟩
    ·show(medianAdjacent aX l.toArray i3 (medianAdjacent aX l.toArray i2 (medianAdjacent aX l.toArray i1 0).2).2).2<10
     omega
    unfold rawPivot
    rw[m0,Ii,RP,asq (by omega),asq (by omega)]
   ·have bo:=asE bo
    refine⟨_,_,_,0,rfl,rfl,rfl,rfl,by omega,by omega,by omega,by omega, ?_⟩
    unfold rawPivot
    rw[m0,Ii,RP,asq (by omega),asp (by omega)]
   rintro _ _ _ _ ⟨pL,fk,b3,k5,rfl,rfl,rfl,rfl,oI,z2,z3,z4,z5⟩
   refine⟨⟨aq,⟨by omega,by omega⟩,⟨by omega,by omega⟩,⟨by omega,by omega⟩,by omega,by omega⟩, ?_⟩
   rintro _ rfl _ rfl
   simp only[asu]
   exact⟨_,rfl,z5,atm _⟩
  ·have h:=asE h
   refine⟨0,rfl, ?_,by omega⟩
   unfold rawPivot
   rw[asp (by omega),Ii,asu]
 ·rintro p _ ⟨s,rfl,e,aw⟩
  obtain⟨P,rfl⟩:=asx aw
  rw[e,asu]at ab
  exact Yb ab
end I
end
section
namespace I
open Go Go.bG Go.Sort
theorem Xx {l:Rows}{A B i j:Nat}(ae:B<=l.length)(U:A<=i)(aa:i<B)(al:A<=j)(aL:j<B):PermIn A B l.toArray (dk l i j).toArray:=by
 rw[<-ki]
 exact swp_permIn l.toArray A B i j U aa al aL (by simpa using ae)
theorem abJ (l:Rows)(a b:Int)(K:ad->J->Prop)(h:fe l a b/\∀i,CL l a b i->K (.rows 11 i) (.tup [])):I_ l a b K:=by
 obtain⟨⟨aq,aC,jf,ae,ar⟩,ab⟩:=h
 obtain⟨A,rfl⟩:=asx aC
 obtain⟨B,rfl⟩:=asx (atJ aC jf)
 unfold I_
 rw[bl (x:=(B:Int)-A) (by omega),show(B:Int)-A=((B-A:Nat):Int) by omega]
 refine⟨fun h=> ?_,fun h=>ab l ⟨aq,permIn_refl _ _ _⟩⟩
 have h:=asC h
 refine⟨by omega, ?_⟩
 rw[asu]
 have g_:=WB (n:=B-A) (by omega)
 have j3:=Xu (B-A)
 rintro _ rfl
 generalize 2^cL (B-A)=M at g_ j3
 have cm:Int.tdiv ((B-A:Nat):Int) 4=(((B-A)/4:Nat):Int):=rfl
 rw[cm,bl (x:=(((B-A)/4:Nat):Int)) (by omega),bl (x:=(((B-A)/4:Nat):Int)*2) (by omega),bl (x:=(A:Int)+(((B-A)/4:Nat):Int)*2) (by omega)]
 rw[bl (x:=(A:Int)+(((B-A)/4:Nat):Int)*2-1) (by omega),bl (x:=(A:Int)+(((B-A)/4:Nat):Int)*2+1) (by omega),cl (x:=(M:Int)-1) (by omega),cl (x:=((B-A:Nat):Int)) (by omega)]
 have h8:A<A+(B-A)/4*2:=by omega
 have lO:A+(B-A)/4*2+1<B:=by omega
 rw[show(A:Int)+(((B-A)/4:Nat):Int)*2=((A+(B-A)/4*2:Nat):Int) by omega]
 generalize A+(B-A)/4*2=C at h8 lO
 refine⟨fun v o r=>(A:Int)<=v/\v<=(C:Int)+2/\0<=r/\r<18446744073709551616/\cQ o/\o.length=l.length/\PermIn A B l.toArray o.toArray,fun v _ _=>((C:Int)+2-v).toNat,⟨by omega,by omega,by omega,by omega,aq,rfl,permIn_refl _ _ _⟩, ?_⟩
 rintro v o r ⟨g1,g2,g3,g4,g5,g6,g7⟩
 obtain⟨V,rfl⟩:=asx (a:=v) (by omega)
 refine⟨fun h=> ?_,fun h=>ab o ⟨g5,g7⟩⟩
 have h:=asC h
 refine⟨⟨g3,g4⟩,fun i hi=> ?_⟩
 have aC:=Xw i (b:=M-1) (by omega)
 rw[show((M-1:Nat):Int)=(M:Int)-1 by omega]at aC
 generalize bk .and .u64 i ((M:Int)-1)=q at aC
 rw[bl (x:=q) (by omega)]
 refine⟨fun cO bZ=>bZ=o/\0<=cO/\cO<((B-A:Nat):Int),⟨fun aa=> ?_,fun aa=> ?_⟩, ?_⟩
 ·have aa:=asC aa
  rw[bl (x:=q-((B-A:Nat):Int)) (by omega)]
  exact⟨rfl,rfl,by omega,by omega⟩
 ·have aa:=asE aa
  exact⟨rfl,rfl,by omega,by omega⟩
 rintro cO bZ ⟨rfl,j2,kB⟩
 obtain⟨W,rfl⟩:=asx j2
 rw[bl (x:=(A:Int)+W) (by omega),bl (x:=(V:Int)+1) (by omega),show(A:Int)+W=((A+W:Nat):Int) by omega]
 simp only[asu,asJ]
 rw[show(bZ.set V (bZ.getD (A+W) [])).set (A+W) (bZ.getD V [])=dk bZ V (A+W)from rfl]
 have cn:V<bZ.length:=by omega
 have cF:A+W<bZ.length:=by omega
 exact⟨by omega,by omega,g5.len cF,by omega,by omega,g5.len cn,by omega,by omega,by omega,by omega,
  ⟨by omega,by omega,hi.1,hi.2,g5.dk cn cF,by simpa using g6,permIn_trans _ _ _ _ _ g7 (Xx (by omega) (by omega) (by omega) (by omega) (by omega))⟩,by omega⟩
theorem Pu {n:Nat}{l o cp:Rows}{A B c9 df P:Nat}{v3:Int}{aD:Int->Int->Int->Bool->Bool->Rows->Prop}{m:Int->Int->Int->Bool->Bool->Rows->Nat}{K:ad->J->Prop}
 (fH:∀v1 v2 v3 w p o,((A:Int)<=v1/\v1<=v2/\v2<=B/\0<=v3/\v3<=64/\cQ o/\o.length=l.length/\Below aX v1.toNat v2.toNat o.toArray/\
   ∀bp:Rows,cQ bp->PermIn v1.toNat v2.toNat o.toArray bp.toArray->SortedIn aX v1.toNat v2.toNat bp.toArray->K (.rows 11 bp) (.tup []))->aD v1 v2 v3 w p o)
 (hm:∀v1 v2 v3 w p o,m v1 v2 v3 w p o=(v2-v1:Int).toNat)
 (eU:A<=c9) (eG:df<=B) (ajk:B<=l.length) (ar:l.length<1000000000000000) (j5:B-A<n+1) (tQ:c9<=P) (tR:P<df) (aM:0<=v3/\v3<=64)
 (al:cQ cp) (hlen:cp.length=l.length) (nG:Below aX c9 df cp.toArray)
 (jM:∀bp:Rows,cQ bp->PermIn c9 df cp.toArray bp.toArray->SortedIn aX c9 df bp.toArray->K (.rows 11 bp) (.tup [])) (w' m6:Bool) (RQ:Int) (k:Nat) (ab:k=m c9 df RQ w' m6 o):
 0<cp.length/\(fe cp c9 df/\(c9:Int)<=P/\(P:Int)<df)/\∀x:Rows,x=(partition aX cp.toArray c9 df P).2.2.toList->∀fG:Int,fG=(partition aX cp.toArray c9 df P).1->∀na:Bool,na=(partition aX cp.toArray c9 df P).2.1->
  (decide (IntKind.wrap .i64 (fG-c9)<IntKind.wrap .i64 ((df:Int)-fG))=true->(fe x c9 fG/\fG-c9<(n:Int)/\(0<=v3/\v3<=64)/\Below aX c9 fG.toNat x.toArray)/\
    ∀i,kQ x c9 fG i->aD (IntKind.wrap .i64 (fG+1)) df v3 (decide (IntKind.wrap .i64 (Int.tdiv (IntKind.wrap .i64 ((df:Int)-c9)) 8)<=IntKind.wrap .i64 (fG-c9))) na i/\
     m (IntKind.wrap .i64 (fG+1)) df v3 (decide (IntKind.wrap .i64 (Int.tdiv (IntKind.wrap .i64 ((df:Int)-c9)) 8)<=IntKind.wrap .i64 (fG-c9))) na i<k)/\
  (decide (IntKind.wrap .i64 (fG-c9)<IntKind.wrap .i64 ((df:Int)-fG))=false->(fe x (IntKind.wrap .i64 (fG+1)) df/\(df:Int)-IntKind.wrap .i64 (fG+1)<(n:Int)/\(0<=v3/\v3<=64)/\Below aX (IntKind.wrap .i64 (fG+1)).toNat df x.toArray)/\
    ∀i,kQ x (IntKind.wrap .i64 (fG+1)) df i->aD c9 fG v3 (decide (IntKind.wrap .i64 (Int.tdiv (IntKind.wrap .i64 ((df:Int)-c9)) 8)<=IntKind.wrap .i64 ((df:Int)-fG))) na i/\
     m c9 fG v3 (decide (IntKind.wrap .i64 (Int.tdiv (IntKind.wrap .i64 ((df:Int)-c9)) 8)<=IntKind.wrap .i64 ((df:Int)-fG))) na i<k):=by
 refine⟨by omega,⟨⟨al,by omega,by omega,by omega,by omega⟩,by omega,by omega⟩, ?_⟩
 obtain⟨dt,dD,iD,qX,ug,Ed,abl⟩:= @round_part Row _ aX p5 (partition_holds aX) cp.toArray (partition aX cp.toArray c9 df P).2.2 c9 df P (partition aX cp.toArray c9 df P).1 (partition aX cp.toArray c9 df P).2.1 tQ tR (by simp;omega) nG rfl
 have IW:=(partition_holds aX p5 cp.toArray c9 df P tQ tR (by simp;omega)).2.2.1
 have wj:=sC al (by omega) IW
 generalize (partition aX cp.toArray c9 df P).2.2=d4 at*
 generalize (partition aX cp.toArray c9 df P).1=zu at*
 have RR:d4.toList.length=l.length:=wj.2.trans hlen
 rintro _ rfl _ rfl na-
 rw[bl (x:=(zu:Int)+1) (by omega),show(zu:Int)+1=((zu+1:Nat):Int) by omega]
 subst ab
 simp only[hm,asu]
 refine⟨fun _=>⟨⟨⟨wj.1,by omega,by omega,by omega,by omega⟩,by omega,aM,qX⟩, ?_⟩,fun _=>⟨⟨⟨wj.1,by omega,by omega,by omega,by omega⟩,by omega,aM,ug⟩, ?_⟩⟩
 ·rintro i ⟨⟨i1,i2⟩,i3⟩
  simp only[asu]at i2 i3
  obtain⟨aU,a_⟩:=Ed i.toArray i2 i3
  have bF:i.length=l.length:=(show i.length=d4.toList.length by have:=i2.1;simpa using this).trans RR
  refine⟨fH _ _ _ _ _ _ ⟨by omega,by omega,by omega,aM.1,aM.2,i1,bF,aU,fun bp c3 cP cJ=> ?_⟩,by omega⟩
  obtain⟨sv,uh⟩:=a_ bp.toArray cP cJ
  exact jM bp c3 sv uh
 ·rintro i ⟨⟨i1,i2⟩,i3⟩
  simp only[asu]at i2 i3
  obtain⟨aU,a_⟩:=abl i.toArray i2 i3
  have bF:i.length=l.length:=(show i.length=d4.toList.length by have:=i2.1;simpa using this).trans RR
  refine⟨fH _ _ _ _ _ _ ⟨by omega,by omega,by omega,aM.1,aM.2,i1,bF,aU,fun bp c3 cP cJ=> ?_⟩,by omega⟩
  obtain⟨sv,uh⟩:=a_ bp.toArray cP cJ
  exact jM bp c3 sv uh
theorem abV (n:Nat)(l:Rows)(a b m:Int)(K:ad->J->Prop)
 (h:(fe l a b/\b-a<((n+1:Nat):Int)/\(0<=m/\m<=64)/\Below aX a.toNat b.toNat l.toArray)/\∀i,kQ l a b i->K (.rows 11 i) (.tup [])):Jl n l a b m K:=by
 obtain⟨⟨⟨aq,aC,jf,ae,ar⟩,DT,hm,eG⟩,ab⟩:=h
 obtain⟨A,rfl⟩:=asx aC
 obtain⟨B,rfl⟩:=asx (atJ aC jf)
 unfold Jl
 refine⟨fun v1 v2 v3 _ _ o=>(A:Int)<=v1/\v1<=v2/\v2<=B/\0<=v3/\v3<=64/\cQ o/\o.length=l.length/\Below aX v1.toNat v2.toNat o.toArray/\
  ∀bp:Rows,cQ bp->PermIn v1.toNat v2.toNat o.toArray bp.toArray->SortedIn aX v1.toNat v2.toNat bp.toArray->K (.rows 11 bp) (.tup []),fun v1 v2 _ _ _ _=>(v2-v1:Int).toNat,
  ⟨by omega,jf,by omega,hm.1,hm.2,aq,rfl,eG,fun bp U aa al=>ab bp ⟨⟨U,aa⟩,al⟩⟩, ?_⟩
 rintro v1 v2 v3 w p o ⟨q1,cb,cu,fM,dm,hO,gm,nb,wk⟩
 obtain⟨c9,rfl⟩:=asx (a:=v1) (by omega)
 obtain⟨df,rfl⟩:=asx (a:=v2) (by omega)
 have nb:Below aX c9 df o.toArray:=nb
 have wk:∀bp:Rows,cQ bp->PermIn c9 df o.toArray bp.toArray->SortedIn aX c9 df bp.toArray->K (.rows 11 bp) (.tup []):=wk
 simp only[asu]
 have eA:df<=o.toArray.size:=by simp;omega
 have ca:∀{x y:Rows},PermIn c9 df x.toArray y.toArray->y.length=x.length:=fun h=>by have:=h.1;simpa using this
 refine⟨fun h=> ?_,fun h=> ?_⟩
 ·refine⟨⟨hO,by omega,by omega,by omega,by omega⟩, ?_⟩
  rintro _ rfl
  obtain⟨an,az⟩:=insertionSort_holds p5 o.toArray c9 df (by omega) eA
  exact wk _ (sC hO (by omega) an).1 an az
 have h:=asE h
 rw[bl (x:=(df:Int)-c9) (by omega)]at h
 refine⟨fun aE=> ?_,fun aE=> ?_⟩
 ·refine⟨by omega,⟨⟨hO,by omega,by omega,by omega,by omega⟩,by omega⟩, ?_⟩
  rintro _ rfl
  obtain⟨an,az⟩:=heapSort_holds p5 o.toArray c9 df (by omega) eA
  exact wk _ (sC hO (by omega) an).1 an az
 have aE:=asE aE
 refine⟨fun v bn=>0<=v/\v<=64/\cQ bn/\PermIn c9 df o.toArray bn.toArray,⟨fun _=> ?_,fun _=> ?_⟩, ?_⟩
 ·rw[bl (x:=v3-1) (by omega)]
  exact⟨by omega,⟨hO,by omega,by omega,by omega,by omega⟩,fun i hi=>⟨by omega,by omega,hi.1,hi.2⟩⟩
 ·exact⟨fM,dm,hO,permIn_refl _ _ _⟩
 rintro RQ bn ⟨j2,kB,ds,IX⟩
 have cj:=ca IX
 refine⟨⟨⟨ds,by omega,by omega,by omega,by omega⟩,by omega⟩, ?_⟩
 have ay:=choosePivot_holds aX bn.toArray c9 df (by omega)
 rintro _ rfl nQ-
 show∃a8:Int->Int->Rows->Prop,_
 generalize (choosePivot aX bn.toArray c9 df).1=C at ay
 refine⟨fun gY _ ba=>(c9:Int)<=gY/\gY<df/\cQ ba/\PermIn c9 df o.toArray ba.toArray,⟨fun _=> ?_,fun _=> ?_⟩, ?_⟩
 ·refine⟨by omega,⟨ds,by omega,by omega,by omega,by omega⟩, ?_⟩
  rintro _ rfl
  rw[bl (x:=(df:Int)-1) (by omega),bl (x:=(C:Int)-c9) (by omega),bl (x:=(df:Int)-1-((C:Int)-c9)) (by omega)]
  have an:=reverseRange_holds bn.toArray c9 df (by omega) (by simp;omega)
  exact⟨by omega,by omega,(sC ds (by omega) an).1,permIn_trans _ _ _ _ _ IX an⟩
 ·exact⟨by omega,by omega,ds,IX⟩
 rintro gY nQ ba ⟨oI,z2,z3,z4⟩
 obtain⟨P,rfl⟩:=asx (a:=gY) (by omega)
 have db:=ca z4
 refine⟨fun cp=>cQ cp/\PermIn c9 df o.toArray cp.toArray,⟨fun _=>⟨fun _=>⟨fun _=> ?_,fun _=>⟨z3,z4⟩⟩,fun _=>⟨z3,z4⟩⟩,fun _=>⟨z3,z4⟩⟩, ?_⟩
 ·refine⟨by omega,⟨⟨z3,by omega,by omega,by omega,by omega⟩,by omega⟩, ?_⟩
  rintro _ rfl fG rfl
  obtain⟨an,az⟩:=partialInsertionSort_holds p5 ba.toArray c9 df (by omega) (by simp;omega) (nb.perm eA z4)
  have bK:=permIn_trans _ _ _ _ _ z4 an
  have cm:=(sC z3 (by omega) an).1
  exact⟨fun h=>wk _ cm bK (az h),fun _=>⟨cm,bK⟩⟩
 rintro cp ⟨t1,t2⟩
 have Sl:=ca t2
 have nG:=nb.perm eA t2
 have tQ:c9<=P:=by omega
 have tR:P<df:=by omega
 have jM:∀bp:Rows,cQ bp->PermIn c9 df cp.toArray bp.toArray->SortedIn aX c9 df bp.toArray->K (.rows 11 bp) (.tup []):=fun bp c3 cP cJ=>wk bp c3 (permIn_trans _ _ _ _ _ t2 cP) cJ
 simp only[asu]
 refine⟨fun tI=> ?_,fun _=> ?pt⟩
 case pt=>exact Pu (l:=l) (A:=A) (B:=B) (o:=o) (fun _ _ _ _ _ _ h=>h) (fun _ _ _ _ _ _=>rfl) (by omega) (by omega) (by omega) ar (by omega) tQ tR ⟨j2,kB⟩ t1 (by omega) nG jM w p v3 _ rfl
 have tI:=asC tI
 rw[bl (x:=(c9:Int)-1) (by omega),show(c9:Int)-1=((c9-1:Nat):Int) by omega]
 simp only[asu]
 have cn:c9-1<cp.length:=by omega
 have cF:P<cp.length:=by omega
 refine⟨by omega,by omega,t1.len cn,by omega,by omega,t1.len cF,⟨t1.get cn,t1.get cF⟩, ?_⟩
 rintro _ rfl
 refine⟨fun jh=> ?_,fun _=> ?pt2⟩
 case pt2=>exact Pu (l:=l) (A:=A) (B:=B) (o:=o) (fun _ _ _ _ _ _ h=>h) (fun _ _ _ _ _ _=>rfl) (by omega) (by omega) (by omega) ar (by omega) tQ tR ⟨j2,kB⟩ t1 (by omega) nG jM w p v3 _ rfl
 have kv:aX cp.toArray[c9-1]! cp.toArray[P]! =false:=by rw[iZ];simpa using jh
 refine⟨by omega,⟨⟨t1,by omega,by omega,by omega,by omega⟩,by omega,by omega⟩, ?_⟩
 rintro _ rfl _ rfl
 obtain⟨dt,dD,iD,qX,ug⟩:= @round_eq Row _ aX p5 (partitionEqual_holds aX) cp.toArray (partitionEqual aX cp.toArray c9 df P).2 c9 df P (partitionEqual aX cp.toArray c9 df P).1 (by omega) tQ tR (by simp;omega) nG kv rfl
 have Ed:=permIn_all cp.toArray cp.toArray c9 df (fun _=>True) (by simp;omega) (permIn_refl _ _ _) (fun _ _ _=>trivial)
 have iz:∀i,c9<=i->i<df->aX cp.toArray[i]! cp.toArray[P]! =false:=fun i hi dH=>by
  rcases nG with aE|nG
  ·omega
  ·exact p5.ntrans _ _ _ (nG i hi dH) kv
 have IW:=(partitionEqual_holds aX p5 cp.toArray c9 df P tQ tR (by simp;omega) iz).2.2.1
 have wj:=sC t1 (by omega) IW
 generalize (partitionEqual aX cp.toArray c9 df P).2=d4 at*
 generalize (partitionEqual aX cp.toArray c9 df P).1=zu at*
 refine⟨⟨by omega,by omega,by omega,j2,kB,wj.1,wj.2.trans (by omega),qX,fun bp c3 cP cJ=> ?_⟩, ?_⟩
 ·obtain⟨sv,uh⟩:=ug bp.toArray cP cJ
  exact jM bp c3 sv uh
 ·show((df:Int)-zu).toNat<((df:Int)-c9).toNat
  omega
theorem abO (l:Rows)(K:ad->J->Prop)(h:(cQ l/\l.length<1000000000000000)/\∀i,kQ l 0 l.length i->K (.rows 11 i) (.tup [])):Je l K:=by
 obtain⟨⟨aq,ar⟩,ab⟩:=h
 unfold Je
 rw[cl (x:=(l.length:Int)) (by omega)]
 refine⟨by omega, ?_⟩
 rintro _ rfl
 have:=uS (n:=(l.length:Int).toNat) (k:=64) (by omega)
 exact⟨⟨⟨aq,by omega,by omega,by omega,ar⟩,by omega, .inl rfl⟩,ab⟩
end I
end
section
open Go Go.bG
namespace I
def dn.cap (q:dn):List J:=match q.desc with|true=>[.agg [.bt]]|false=>[.agg [.d (.int .i64 8)]]
theorem dn.ly {q:dn}{g:Nat}{c:List J}(h:q.is g c=true):g=q.g/\c=q.cap:=by
 unfold dn.is at h
 unfold dn.cap
 split at h
 ·rename_i U aa;exact⟨ast U,by rw[aa]⟩
 ·rename_i U aa;exact⟨ast U,by rw[aa]⟩
 ·cases h
theorem ahB (q:dn){M:J->ad->List J->(ad->J->Prop)->Prop}(H:∀(l:I.Rows) (a b:Int) K,G9.T q (.vec 0) (.rows 11 l) [.d (.int .i64 a), .d (.int .i64 b), .cls q.g q.cap] K->M (.vec 0) (.rows 11 l) [.d (.int .i64 a), .d (.int .i64 b), .cls q.g q.cap] K)(a0:J)(bW:ad)(args:List J)(K:ad->J->Prop)(hyp:G9.T q a0 bW args K):M a0 bW args K:=by
 have e:∃l a b,a0= .vec 0/\bW= .rows 11 l/\args=[.d (.int .i64 a), .d (.int .i64 b), .cls q.g q.cap]:=by
  unfold G9.T eO at hyp
  split at hyp
  ·rename_i he
   simp only at he
   split at he
   ·split at he
    ·rename_i aE U aN
     obtain rfl:=ast aE
     obtain rfl:=ast U
     obtain⟨rfl,rfl⟩:=dn.ly aN
     exact⟨_,_,_,rfl,rfl,rfl⟩
    ·cases he
   ·cases he
  ·exact hyp.elim
 obtain⟨l,a,b,bE,an,az⟩:=e
 subst bE an az
 exact H l a b K hyp
theorem agr (q:dn){M:J->ad->List J->(ad->J->Prop)->Prop}(H:∀(l:I.Rows) (lo hi f:Int) K,GQ.T q (.vec 0) (.rows 11 l) [.d (.int .i64 lo), .d (.int .i64 hi), .d (.int .i64 f), .cls q.g q.cap] K->M (.vec 0) (.rows 11 l) [.d (.int .i64 lo), .d (.int .i64 hi), .d (.int .i64 f), .cls q.g q.cap] K)(a0:J)(bW:ad)(args:List J)(K:ad->J->Prop)(hyp:GQ.T q a0 bW args K):M a0 bW args K:=by
 have e:∃l lo hi f,a0= .vec 0/\bW= .rows 11 l/\args=[.d (.int .i64 lo), .d (.int .i64 hi), .d (.int .i64 f), .cls q.g q.cap]:=by
  unfold GQ.T eO at hyp
  split at hyp
  ·rename_i he
   simp only at he
   split at he
   ·split at he
    ·rename_i aE U aN
     obtain rfl:=ast aE
     obtain rfl:=ast U
     obtain⟨rfl,rfl⟩:=dn.ly aN
     exact⟨_,_,_,_,rfl,rfl,rfl⟩
    ·cases he
   ·cases he
  ·exact hyp.elim
 obtain⟨l,lo,hi,f,bE,an,az⟩:=e
 subst bE an az
 exact H l lo hi f K hyp
theorem ags (q:dn){M:J->ad->List J->(ad->J->Prop)->Prop}(H:∀(l:I.Rows) (a b:Int) K,GR.T q (.vec 0) (.rows 11 l) [.d (.int .i64 a), .d (.int .i64 b), .cls q.g q.cap] K->M (.vec 0) (.rows 11 l) [.d (.int .i64 a), .d (.int .i64 b), .cls q.g q.cap] K)(a0:J)(bW:ad)(args:List J)(K:ad->J->Prop)(hyp:GR.T q a0 bW args K):M a0 bW args K:=by
 have e:∃l a b,a0= .vec 0/\bW= .rows 11 l/\args=[.d (.int .i64 a), .d (.int .i64 b), .cls q.g q.cap]:=by
  unfold GR.T eO at hyp
  split at hyp
  ·rename_i he
   simp only at he
   split at he
   ·split at he
    ·rename_i aE U aN
     obtain rfl:=ast aE
     obtain rfl:=ast U
     obtain⟨rfl,rfl⟩:=dn.ly aN
     exact⟨_,_,_,rfl,rfl,rfl⟩
    ·cases he
   ·cases he
  ·exact hyp.elim
 obtain⟨l,a,b,bE,an,az⟩:=e
 subst bE an az
 exact H l a b K hyp
theorem agt (q:dn){M:J->ad->List J->(ad->J->Prop)->Prop}(H:∀(l:I.Rows) (a b p:Int) K,GS.T q (.vec 0) (.rows 11 l) [.d (.int .i64 a), .d (.int .i64 b), .d (.int .i64 p), .cls q.g q.cap] K->M (.vec 0) (.rows 11 l) [.d (.int .i64 a), .d (.int .i64 b), .d (.int .i64 p), .cls q.g q.cap] K)(a0:J)(bW:ad)(args:List J)(K:ad->J->Prop)(hyp:GS.T q a0 bW args K):M a0 bW args K:=by
 have e:∃l a b p,a0= .vec 0/\bW= .rows 11 l/\args=[.d (.int .i64 a), .d (.int .i64 b), .d (.int .i64 p), .cls q.g q.cap]:=by
  unfold GS.T eO at hyp
  split at hyp
  ·rename_i he
   simp only at he
   split at he
   ·split at he
    ·rename_i aE U aN
     obtain rfl:=ast aE
     obtain rfl:=ast U
     obtain⟨rfl,rfl⟩:=dn.ly aN
     exact⟨_,_,_,_,rfl,rfl,rfl⟩
    ·cases he
   ·cases he
  ·exact hyp.elim
 obtain⟨l,a,b,p,bE,an,az⟩:=e
 subst bE an az
 exact H l a b p K hyp
theorem aeM (q:dn){M:J->ad->List J->(ad->J->Prop)->Prop}(H:∀(l:I.Rows) (a b p:Int) K,F2.T q (.vec 0) (.rows 11 l) [.d (.int .i64 a), .d (.int .i64 b), .d (.int .i64 p), .cls q.g q.cap] K->M (.vec 0) (.rows 11 l) [.d (.int .i64 a), .d (.int .i64 b), .d (.int .i64 p), .cls q.g q.cap] K)(a0:J)(bW:ad)(args:List J)(K:ad->J->Prop)(hyp:F2.T q a0 bW args K):M a0 bW args K:=by
 have e:∃l a b p,a0= .vec 0/\bW= .rows 11 l/\args=[.d (.int .i64 a), .d (.int .i64 b), .d (.int .i64 p), .cls q.g q.cap]:=by
  unfold F2.T eO at hyp
  split at hyp
  ·rename_i he
   simp only at he
   split at he
   ·split at he
    ·rename_i aE U aN
     obtain rfl:=ast aE
     obtain rfl:=ast U
     obtain⟨rfl,rfl⟩:=dn.ly aN
     exact⟨_,_,_,_,rfl,rfl,rfl⟩
    ·cases he
   ·cases he
  ·exact hyp.elim
 obtain⟨l,a,b,p,bE,an,az⟩:=e
 subst bE an az
 exact H l a b p K hyp
theorem aeg (q:dn){M:J->ad->List J->(ad->J->Prop)->Prop}(H:∀(l:I.Rows) (a b:Int) K,Fw.T q (.vec 0) (.rows 11 l) [.d (.int .i64 a), .d (.int .i64 b), .cls q.g q.cap] K->M (.vec 0) (.rows 11 l) [.d (.int .i64 a), .d (.int .i64 b), .cls q.g q.cap] K)(a0:J)(bW:ad)(args:List J)(K:ad->J->Prop)(hyp:Fw.T q a0 bW args K):M a0 bW args K:=by
 have e:∃l a b,a0= .vec 0/\bW= .rows 11 l/\args=[.d (.int .i64 a), .d (.int .i64 b), .cls q.g q.cap]:=by
  unfold Fw.T eO at hyp
  split at hyp
  ·rename_i he
   simp only at he
   split at he
   ·split at he
    ·rename_i aE U aN
     obtain rfl:=ast aE
     obtain rfl:=ast U
     obtain⟨rfl,rfl⟩:=dn.ly aN
     exact⟨_,_,_,rfl,rfl,rfl⟩
    ·cases he
   ·cases he
  ·exact hyp.elim
 obtain⟨l,a,b,bE,an,az⟩:=e
 subst bE an az
 exact H l a b K hyp
theorem ahC (q:dn){M:J->ad->List J->(ad->J->Prop)->Prop}(H:∀(l:I.Rows) (a b:Int) K,G_.T q (.vec 0) (.rows 11 l) [.d (.int .i64 a), .d (.int .i64 b), .cls q.g q.cap] K->M (.vec 0) (.rows 11 l) [.d (.int .i64 a), .d (.int .i64 b), .cls q.g q.cap] K)(a0:J)(bW:ad)(args:List J)(K:ad->J->Prop)(hyp:G_.T q a0 bW args K):M a0 bW args K:=by
 have e:∃l a b,a0= .vec 0/\bW= .rows 11 l/\args=[.d (.int .i64 a), .d (.int .i64 b), .cls q.g q.cap]:=by
  unfold G_.T eO at hyp
  split at hyp
  ·rename_i he
   simp only at he
   split at he
   ·split at he
    ·rename_i aE U aN
     obtain rfl:=ast aE
     obtain rfl:=ast U
     obtain⟨rfl,rfl⟩:=dn.ly aN
     exact⟨_,_,_,rfl,rfl,rfl⟩
    ·cases he
   ·cases he
  ·exact hyp.elim
 obtain⟨l,a,b,bE,an,az⟩:=e
 subst bE an az
 exact H l a b K hyp
theorem agu (q:dn){M:J->ad->List J->(ad->J->Prop)->Prop}(H:∀(l:I.Rows) (a b s:Int) K,GU.T q (.ptr 0 0) (.cells [.d (.int .i64 s)]) [.d (.rows 11 l), .d (.int .i64 a), .d (.int .i64 b), .cls q.g q.cap] K->M (.ptr 0 0) (.cells [.d (.int .i64 s)]) [.d (.rows 11 l), .d (.int .i64 a), .d (.int .i64 b), .cls q.g q.cap] K)(a0:J)(bW:ad)(args:List J)(K:ad->J->Prop)(hyp:GU.T q a0 bW args K):M a0 bW args K:=by
 have e:∃l a b s,a0= .ptr 0 0/\bW= .cells [.d (.int .i64 s)]/\args=[.d (.rows 11 l), .d (.int .i64 a), .d (.int .i64 b), .cls q.g q.cap]:=by
  unfold GU.T eO at hyp
  split at hyp
  ·rename_i he
   simp only at he
   split at he
   ·split at he
    ·rename_i aE U aa aN
     obtain rfl:=ast aE
     obtain rfl:=ast U
     obtain rfl:=ast aa
     obtain⟨rfl,rfl⟩:=dn.ly aN
     exact⟨_,_,_,_,rfl,rfl,rfl⟩
    ·cases he
   ·cases he
  ·exact hyp.elim
 obtain⟨l,a,b,s,bE,an,az⟩:=e
 subst bE an az
 exact H l a b s K hyp
theorem ahD (q:dn){M:J->ad->List J->(ad->J->Prop)->Prop}(H:∀(l:I.Rows) (a b e s:Int) K,Ha.T q (.ptr 0 0) (.cells [.d (.int .i64 s)]) [.d (.rows 11 l), .d (.int .i64 a), .d (.int .i64 b), .d (.int .i64 e), .cls q.g q.cap] K->M (.ptr 0 0) (.cells [.d (.int .i64 s)]) [.d (.rows 11 l), .d (.int .i64 a), .d (.int .i64 b), .d (.int .i64 e), .cls q.g q.cap] K)(a0:J)(bW:ad)(args:List J)(K:ad->J->Prop)(hyp:Ha.T q a0 bW args K):M a0 bW args K:=by
 have e:∃l a b e s,a0= .ptr 0 0/\bW= .cells [.d (.int .i64 s)]/\args=[.d (.rows 11 l), .d (.int .i64 a), .d (.int .i64 b), .d (.int .i64 e), .cls q.g q.cap]:=by
  unfold Ha.T eO at hyp
  split at hyp
  ·rename_i he
   simp only at he
   split at he
   ·split at he
    ·rename_i aE U aa aN
     obtain rfl:=ast aE
     obtain rfl:=ast U
     obtain rfl:=ast aa
     obtain⟨rfl,rfl⟩:=dn.ly aN
     exact⟨_,_,_,_,_,rfl,rfl,rfl⟩
    ·cases he
   ·cases he
  ·exact hyp.elim
 obtain⟨l,a,b,e,s,bE,an,az⟩:=e
 subst bE an az
 exact H l a b e s K hyp
theorem aeN (q:dn){M:J->ad->List J->(ad->J->Prop)->Prop}(H:∀(l:I.Rows) (a s:Int) K,F3.T q (.ptr 0 0) (.cells [.d (.int .i64 s)]) [.d (.rows 11 l), .d (.int .i64 a), .cls q.g q.cap] K->M (.ptr 0 0) (.cells [.d (.int .i64 s)]) [.d (.rows 11 l), .d (.int .i64 a), .cls q.g q.cap] K)(a0:J)(bW:ad)(args:List J)(K:ad->J->Prop)(hyp:F3.T q a0 bW args K):M a0 bW args K:=by
 have e:∃l a s,a0= .ptr 0 0/\bW= .cells [.d (.int .i64 s)]/\args=[.d (.rows 11 l), .d (.int .i64 a), .cls q.g q.cap]:=by
  unfold F3.T eO at hyp
  split at hyp
  ·rename_i he
   simp only at he
   split at he
   ·split at he
    ·rename_i aE U aa aN
     obtain rfl:=ast aE
     obtain rfl:=ast U
     obtain rfl:=ast aa
     obtain⟨rfl,rfl⟩:=dn.ly aN
     exact⟨_,_,_,rfl,rfl,rfl⟩
    ·cases he
   ·cases he
  ·exact hyp.elim
 obtain⟨l,a,s,bE,an,az⟩:=e
 subst bE an az
 exact H l a s K hyp
theorem afB (q:dn){M:List J->(J->Prop)->Prop}(H:∀(l:I.Rows) (a b:Int) K,Gx.T q [.d (.rows 11 l), .d (.int .i64 a), .d (.int .i64 b), .cls q.g q.cap] K->M [.d (.rows 11 l), .d (.int .i64 a), .d (.int .i64 b), .cls q.g q.cap] K)(args:List J)(K:J->Prop)(hyp:Gx.T q args K):M args K:=by
 have e:∃l a b,args=[.d (.rows 11 l), .d (.int .i64 a), .d (.int .i64 b), .cls q.g q.cap]:=by
  unfold Gx.T spec at hyp
  split at hyp
  ·rename_i he
   simp only at he
   split at he
   ·split at he
    ·rename_i aE aN
     obtain rfl:=ast aE
     obtain⟨rfl,rfl⟩:=dn.ly aN
     exact⟨_,_,_,rfl⟩
    ·cases he
   ·cases he
  ·exact hyp.elim
 obtain⟨l,a,b,bE⟩:=e
 subst bE
 exact H l a b K hyp
theorem afC (q:dn){M:J->ad->List J->(ad->J->Prop)->Prop}(H:∀(l:I.Rows) (a b:Int) K,B_.T q (.vec 0) (.rows 11 l) [.d (.int .i64 a), .d (.int .i64 b), .cls q.g q.cap] K->M (.vec 0) (.rows 11 l) [.d (.int .i64 a), .d (.int .i64 b), .cls q.g q.cap] K)(a0:J)(bW:ad)(args:List J)(K:ad->J->Prop)(hyp:B_.T q a0 bW args K):M a0 bW args K:=by
 have e:∃l a b,a0= .vec 0/\bW= .rows 11 l/\args=[.d (.int .i64 a), .d (.int .i64 b), .cls q.g q.cap]:=by
  unfold B_.T kL at hyp
  split at hyp
  ·rename_i he
   simp only at he
   split at he
   ·split at he
    ·rename_i aE U aN
     obtain rfl:=ast aE
     obtain rfl:=ast U
     obtain⟨rfl,rfl⟩:=dn.ly aN
     exact⟨_,_,_,rfl,rfl,rfl⟩
    ·cases he
   ·cases he
  ·exact hyp.elim
 obtain⟨l,a,b,bE,an,az⟩:=e
 subst bE an az
 exact H l a b K hyp
theorem Xq (q:dn)(n:Nat){M:J->ad->List J->(ad->J->Prop)->Prop}(H:∀(l:I.Rows) (a b m:Int) K,qv.T q n (.vec 0) (.rows 11 l) [.d (.int .i64 a), .d (.int .i64 b), .d (.int .i64 m), .cls q.g q.cap] K->M (.vec 0) (.rows 11 l) [.d (.int .i64 a), .d (.int .i64 b), .d (.int .i64 m), .cls q.g q.cap] K)(a0:J)(bW:ad)(args:List J)(K:ad->J->Prop)(hyp:qv.T q n a0 bW args K):M a0 bW args K:=by
 have e:∃l a b m,a0= .vec 0/\bW= .rows 11 l/\args=[.d (.int .i64 a), .d (.int .i64 b), .d (.int .i64 m), .cls q.g q.cap]:=by
  unfold qv.T kL at hyp
  split at hyp
  ·rename_i he
   simp only at he
   split at he
   ·split at he
    ·rename_i aE U aN
     obtain rfl:=ast aE
     obtain rfl:=ast U
     obtain⟨rfl,rfl⟩:=dn.ly aN
     exact⟨_,_,_,_,rfl,rfl,rfl⟩
    ·cases he
   ·cases he
  ·exact hyp.elim
 obtain⟨l,a,b,m,bE,an,az⟩:=e
 subst bE an az
 exact H l a b m K hyp
theorem Wv (q:dn){M:J->ad->List J->(ad->J->Prop)->Prop}(H:∀(l:I.Rows) (a b m:Int) K,vc.T q (.vec 0) (.rows 11 l) [.d (.int .i64 a), .d (.int .i64 b), .d (.int .i64 m), .cls q.g q.cap] K->M (.vec 0) (.rows 11 l) [.d (.int .i64 a), .d (.int .i64 b), .d (.int .i64 m), .cls q.g q.cap] K)(a0:J)(bW:ad)(args:List J)(K:ad->J->Prop)(hyp:vc.T q a0 bW args K):M a0 bW args K:=by
 have e:∃l a b m,a0= .vec 0/\bW= .rows 11 l/\args=[.d (.int .i64 a), .d (.int .i64 b), .d (.int .i64 m), .cls q.g q.cap]:=by
  unfold vc.T kL at hyp
  split at hyp
  ·rename_i he
   simp only at he
   split at he
   ·split at he
    ·rename_i aE U aN
     obtain rfl:=ast aE
     obtain rfl:=ast U
     obtain⟨rfl,rfl⟩:=dn.ly aN
     exact⟨_,_,_,_,rfl,rfl,rfl⟩
    ·cases he
   ·cases he
  ·exact hyp.elim
 obtain⟨l,a,b,m,bE,an,az⟩:=e
 subst bE an az
 exact H l a b m K hyp
theorem agv (q:dn){M:J->ad->List J->(ad->J->Prop)->Prop}(H:∀(l:I.Rows) K,CM.T q (.vec 0) (.rows 11 l) [.cls q.g q.cap] K->M (.vec 0) (.rows 11 l) [.cls q.g q.cap] K)(a0:J)(bW:ad)(args:List J)(K:ad->J->Prop)(hyp:CM.T q a0 bW args K):M a0 bW args K:=by
 have e:∃l,a0= .vec 0/\bW= .rows 11 l/\args=[.cls q.g q.cap]:=by
  unfold CM.T kL at hyp
  split at hyp
  ·rename_i he
   simp only at he
   split at he
   ·split at he
    ·rename_i aE U aN
     obtain rfl:=ast aE
     obtain rfl:=ast U
     obtain⟨rfl,rfl⟩:=dn.ly aN
     exact⟨_,rfl,rfl,rfl⟩
    ·cases he
   ·cases he
  ·exact hyp.elim
 obtain⟨l,bE,an,az⟩:=e
 subst bE an az
 exact H l K hyp
theorem afD {M:List J->(J->Prop)->Prop}(H:∀(x:Int) K,xq.T [.d (.int .u64 x)] K->M [.d (.int .u64 x)] K)(args:List J)(K:J->Prop)(hyp:xq.T args K):M args K:=by
 have e:∃x,args=[.d (.int .u64 x)]:=by
  unfold xq.T spec at hyp
  split at hyp
  ·rename_i he
   simp only at he
   split at he
   ·exact⟨_,rfl⟩
   ·cases he
  ·exact hyp.elim
 obtain⟨x,bE⟩:=e
 subst bE
 exact H x K hyp
theorem ahE {M:List J->(J->Prop)->Prop}(H:∀(x:Int) K,Dk.T [.d (.int .i64 x)] K->M [.d (.int .i64 x)] K)(args:List J)(K:J->Prop)(hyp:Dk.T args K):M args K:=by
 have e:∃x,args=[.d (.int .i64 x)]:=by
  unfold Dk.T spec at hyp
  split at hyp
  ·rename_i he
   simp only at he
   split at he
   ·exact⟨_,rfl⟩
   ·cases he
  ·exact hyp.elim
 obtain⟨x,bE⟩:=e
 subst bE
 exact H x K hyp
theorem ahF {M:J->ad->List J->(ad->J->Prop)->Prop}(H:∀(x:Int) K,Dl.T (.ptr 0 0) (.cells [.d (.int .u64 x)]) [] K->M (.ptr 0 0) (.cells [.d (.int .u64 x)]) [] K)(a0:J)(bW:ad)(args:List J)(K:ad->J->Prop)(hyp:Dl.T a0 bW args K):M a0 bW args K:=by
 have e:∃x,a0= .ptr 0 0/\bW= .cells [.d (.int .u64 x)]/\args=[]:=by
  unfold Dl.T kL at hyp
  split at hyp
  ·rename_i he
   simp only at he
   split at he
   ·split at he
    ·rename_i aE U
     obtain rfl:=ast aE
     obtain rfl:=ast U
     exact⟨_,rfl,rfl,rfl⟩
    ·cases he
   ·cases he
  ·exact hyp.elim
 obtain⟨x,bE,an,az⟩:=e
 subst bE an az
 exact H x K hyp
theorem agw {M:List J->(J->Prop)->Prop}(H:∀(a b:Int) K,CN.T [.d (.int .i64 a), .d (.int .i64 b)] K->M [.d (.int .i64 a), .d (.int .i64 b)] K)(args:List J)(K:J->Prop)(hyp:CN.T args K):M args K:=by
 have e:∃a b,args=[.d (.int .i64 a), .d (.int .i64 b)]:=by
  unfold CN.T spec at hyp
  split at hyp
  ·rename_i he
   simp only at he
   split at he
   ·exact⟨_,_,rfl⟩
   ·cases he
  ·exact hyp.elim
 obtain⟨a,b,bE⟩:=e
 subst bE
 exact H a b K hyp
theorem afE {M:List J->(J->Prop)->Prop}(H:∀(a:Int) K,Ca.T [.d (.int .i64 a)] K->M [.d (.int .i64 a)] K)(args:List J)(K:J->Prop)(hyp:Ca.T args K):M args K:=by
 have e:∃a,args=[.d (.int .i64 a)]:=by
  unfold Ca.T spec at hyp
  split at hyp
  ·rename_i he
   simp only at he
   split at he
   ·exact⟨_,rfl⟩
   ·cases he
  ·exact hyp.elim
 obtain⟨a,bE⟩:=e
 subst bE
 exact H a K hyp
theorem aeh {M:List J->(J->Prop)->Prop}(H:∀(a b:List Int) K,AW.T [.d (.ints .i64 a), .d (.ints .i64 b)] K->M [.d (.ints .i64 a), .d (.ints .i64 b)] K)(args:List J)(K:J->Prop)(hyp:AW.T args K):M args K:=by
 have e:∃a b,args=[.d (.ints .i64 a), .d (.ints .i64 b)]:=by
  unfold AW.T spec at hyp
  split at hyp
  ·rename_i he
   simp only at he
   split at he
   ·exact⟨_,_,rfl⟩
   ·cases he
  ·exact hyp.elim
 obtain⟨a,b,bE⟩:=e
 subst bE
 exact H a b K hyp
theorem ahG {M:List J->(J->Prop)->Prop}(H:∀(a:List Int) K,Dn.T [.d (.ints .i64 a)] K->M [.d (.ints .i64 a)] K)(args:List J)(K:J->Prop)(hyp:Dn.T args K):M args K:=by
 have e:∃a,args=[.d (.ints .i64 a)]:=by
  unfold Dn.T spec at hyp
  split at hyp
  ·rename_i he
   simp only at he
   split at he
   ·exact⟨_,rfl⟩
   ·cases he
  ·exact hyp.elim
 obtain⟨a,bE⟩:=e
 subst bE
 exact H a K hyp
theorem afF {M:List J->(J->Prop)->Prop}(H:∀(a b:I.Row) K,Cb.T [.rw 8 a, .rw 8 b] K->M [.rw 8 a, .rw 8 b] K)(args:List J)(K:J->Prop)(hyp:Cb.T args K):M args K:=by
 have e:∃a b,args=[.rw 8 a, .rw 8 b]:=by
  unfold Cb.T spec at hyp
  split at hyp
  ·rename_i he
   simp only at he
   split at he
   ·split at he
    ·rename_i aE U
     obtain rfl:=ast aE
     obtain rfl:=ast U
     exact⟨_,_,rfl⟩
    ·cases he
   ·cases he
  ·exact hyp.elim
 obtain⟨a,b,bE⟩:=e
 subst bE
 exact H a b K hyp
theorem afG {M:List J->(J->Prop)->Prop}(H:∀(r:I.Row) K,Cd.T [.rw 11 r] K->M [.rw 11 r] K)(args:List J)(K:J->Prop)(hyp:Cd.T args K):M args K:=by
 have e:∃r,args=[.rw 11 r]:=by
  unfold Cd.T spec at hyp
  split at hyp
  ·rename_i he
   simp only at he
   split at he
   ·split at he
    ·rename_i aE
     obtain rfl:=ast aE
     exact⟨_,rfl⟩
    ·cases he
   ·cases he
  ·exact hyp.elim
 obtain⟨r,bE⟩:=e
 subst bE
 exact H r K hyp
theorem aeO (g:Nat){M:List J->(J->Prop)->Prop}(H:∀(l:I.Rows) K,xh.T g [.d (.rows 11 l), .fn g] K->M [.d (.rows 11 l), .fn g] K)(args:List J)(K:J->Prop)(hyp:xh.T g args K):M args K:=by
 have e:∃l,args=[.d (.rows 11 l), .fn g]:=by
  unfold xh.T spec at hyp
  split at hyp
  ·rename_i he
   simp only at he
   split at he
   ·split at he
    ·rename_i aE U
     obtain rfl:=ast aE
     obtain rfl:=ast U
     exact⟨_,rfl⟩
    ·cases he
   ·cases he
  ·exact hyp.elim
 obtain⟨l,bE⟩:=e
 subst bE
 exact H l K hyp
theorem agx (g:Nat){M:ad->List J->(ad->Prop)->Prop}(H:∀(l:I.Rows) K,xG.T g (.rows 11 l) [.fn g] K->M (.rows 11 l) [.fn g] K)(bW:ad)(args:List J)(K:ad->Prop)(hyp:xG.T g bW args K):M bW args K:=by
 have e:∃l,bW= .rows 11 l/\args=[.fn g]:=by
  unfold xG.T vd at hyp
  split at hyp
  ·rename_i he
   simp only at he
   split at he
   ·split at he
    ·rename_i aE U
     obtain rfl:=ast aE
     obtain rfl:=ast U
     exact⟨_,rfl,rfl⟩
    ·cases he
   ·cases he
  ·exact hyp.elim
 obtain⟨l,bE,an⟩:=e
 subst bE an
 exact H l K hyp
theorem afH {M:List J->(ad->Prop)->Prop}(H:∀(l:I.Rows) K,Cc.T [.d (.rows 11 l)] K->M [.d (.rows 11 l)] K)(args:List J)(K:ad->Prop)(hyp:Cc.T args K):M args K:=by
 have e:∃l,args=[.d (.rows 11 l)]:=by
  unfold Cc.T lr at hyp
  split at hyp
  ·rename_i he
   simp only at he
   split at he
   ·split at he
    ·rename_i aE
     obtain rfl:=ast aE
     exact⟨_,rfl⟩
    ·cases he
   ·cases he
  ·exact hyp.elim
 obtain⟨l,bE⟩:=e
 subst bE
 exact H l K hyp
theorem aei {M:List J->(J->Prop)->Prop}(H:∀(l:I.Rows) K,sK.T [.d (.rows 11 l)] K->M [.d (.rows 11 l)] K)(args:List J)(K:J->Prop)(hyp:sK.T args K):M args K:=by
 have e:∃l,args=[.d (.rows 11 l)]:=by
  unfold sK.T spec at hyp
  split at hyp
  ·rename_i he
   simp only at he
   split at he
   ·split at he
    ·rename_i aE
     obtain rfl:=ast aE
     exact⟨_,rfl⟩
    ·cases he
   ·cases he
  ·exact hyp.elim
 obtain⟨l,bE⟩:=e
 subst bE
 exact H l K hyp
theorem agz {M:List J->(J->Prop)->Prop}(H:∀(p q:I.Rows) K,CP.T [.d (.rows 11 p), .d (.rows 11 q)] K->M [.d (.rows 11 p), .d (.rows 11 q)] K)(args:List J)(K:J->Prop)(hyp:CP.T args K):M args K:=by
 have e:∃p q,args=[.d (.rows 11 p), .d (.rows 11 q)]:=by
  unfold CP.T spec at hyp
  split at hyp
  ·rename_i he
   simp only at he
   split at he
   ·split at he
    ·rename_i aE U
     obtain rfl:=ast aE
     obtain rfl:=ast U
     exact⟨_,_,rfl⟩
    ·cases he
   ·cases he
  ·exact hyp.elim
 obtain⟨p,q,bE⟩:=e
 subst bE
 exact H p q K hyp
theorem aeP {M:List J->(J->Prop)->Prop}(H:∀(p:I.Rows) (s:Bool) (a b:List Int) K,BB.T [.d (.rows 11 p), .agg [.d (.bool s), .d (.ints .u32 a), .d (.ints .u32 b)]] K->M [.d (.rows 11 p), .agg [.d (.bool s), .d (.ints .u32 a), .d (.ints .u32 b)]] K)(args:List J)(K:J->Prop)(hyp:BB.T args K):M args K:=by
 have e:∃p s a b,args=[.d (.rows 11 p), .agg [.d (.bool s), .d (.ints .u32 a), .d (.ints .u32 b)]]:=by
  unfold BB.T spec at hyp
  split at hyp
  ·rename_i he
   simp only at he
   split at he
   ·split at he
    ·rename_i aE
     obtain rfl:=ast aE
     exact⟨_,_,_,_,rfl⟩
    ·cases he
   ·cases he
  ·exact hyp.elim
 obtain⟨p,s,a,b,bE⟩:=e
 subst bE
 exact H p s a b K hyp
theorem agA {M:List J->(J->Prop)->Prop}(H:∀(p:I.Rows) K,CQ.T [.d (.rows 11 p)] K->M [.d (.rows 11 p)] K)(args:List J)(K:J->Prop)(hyp:CQ.T args K):M args K:=by
 have e:∃p,args=[.d (.rows 11 p)]:=by
  unfold CQ.T spec at hyp
  split at hyp
  ·rename_i he
   simp only at he
   split at he
   ·split at he
    ·rename_i aE
     obtain rfl:=ast aE
     exact⟨_,rfl⟩
    ·cases he
   ·cases he
  ·exact hyp.elim
 obtain⟨p,bE⟩:=e
 subst bE
 exact H p K hyp
theorem agB {M:List J->(J->Prop)->Prop}(H:∀(p q:I.Rows) K,CR.T [.d (.rows 11 p), .d (.rows 11 q)] K->M [.d (.rows 11 p), .d (.rows 11 q)] K)(args:List J)(K:J->Prop)(hyp:CR.T args K):M args K:=by
 have e:∃p q,args=[.d (.rows 11 p), .d (.rows 11 q)]:=by
  unfold CR.T spec at hyp
  split at hyp
  ·rename_i he
   simp only at he
   split at he
   ·split at he
    ·rename_i aE U
     obtain rfl:=ast aE
     obtain rfl:=ast U
     exact⟨_,_,rfl⟩
    ·cases he
   ·cases he
  ·exact hyp.elim
 obtain⟨p,q,bE⟩:=e
 subst bE
 exact H p q K hyp
theorem agC {M:List J->(J->Prop)->Prop}(H:∀(p q:I.Rows) K,CS.T [.d (.rows 11 p), .d (.rows 11 q)] K->M [.d (.rows 11 p), .d (.rows 11 q)] K)(args:List J)(K:J->Prop)(hyp:CS.T args K):M args K:=by
 have e:∃p q,args=[.d (.rows 11 p), .d (.rows 11 q)]:=by
  unfold CS.T spec at hyp
  split at hyp
  ·rename_i he
   simp only at he
   split at he
   ·split at he
    ·rename_i aE U
     obtain rfl:=ast aE
     obtain rfl:=ast U
     exact⟨_,_,rfl⟩
    ·cases he
   ·cases he
  ·exact hyp.elim
 obtain⟨p,q,bE⟩:=e
 subst bE
 exact H p q K hyp
theorem agD {M:List J->(J->Prop)->Prop}(H:∀(p:I.Rows) (v:Int) K,CT.T [.d (.rows 11 p), .d (.int .i64 v)] K->M [.d (.rows 11 p), .d (.int .i64 v)] K)(args:List J)(K:J->Prop)(hyp:CT.T args K):M args K:=by
 have e:∃p v,args=[.d (.rows 11 p), .d (.int .i64 v)]:=by
  unfold CT.T spec at hyp
  split at hyp
  ·rename_i he
   simp only at he
   split at he
   ·split at he
    ·rename_i aE
     obtain rfl:=ast aE
     exact⟨_,_,rfl⟩
    ·cases he
   ·cases he
  ·exact hyp.elim
 obtain⟨p,v,bE⟩:=e
 subst bE
 exact H p v K hyp
theorem agE {M:List J->(J->Prop)->Prop}(H:∀(p:I.Rows) K,CU.T [.d (.rows 11 p)] K->M [.d (.rows 11 p)] K)(args:List J)(K:J->Prop)(hyp:CU.T args K):M args K:=by
 have e:∃p,args=[.d (.rows 11 p)]:=by
  unfold CU.T spec at hyp
  split at hyp
  ·rename_i he
   simp only at he
   split at he
   ·split at he
    ·rename_i aE
     obtain rfl:=ast aE
     exact⟨_,rfl⟩
    ·cases he
   ·cases he
  ·exact hyp.elim
 obtain⟨p,bE⟩:=e
 subst bE
 exact H p K hyp
theorem agF {M:List J->(J->Prop)->Prop}(H:∀(p:I.Rows) (v:Int) K,CV.T [.d (.rows 11 p), .d (.int .i64 v)] K->M [.d (.rows 11 p), .d (.int .i64 v)] K)(args:List J)(K:J->Prop)(hyp:CV.T args K):M args K:=by
 have e:∃p v,args=[.d (.rows 11 p), .d (.int .i64 v)]:=by
  unfold CV.T spec at hyp
  split at hyp
  ·rename_i he
   simp only at he
   split at he
   ·split at he
    ·rename_i aE
     obtain rfl:=ast aE
     exact⟨_,_,rfl⟩
    ·cases he
   ·cases he
  ·exact hyp.elim
 obtain⟨p,v,bE⟩:=e
 subst bE
 exact H p v K hyp
theorem afJ {M:List J->(J->Prop)->Prop}(H:∀(p:I.Rows) K,u7.T [.d (.rows 11 p)] K->M [.d (.rows 11 p)] K)(args:List J)(K:J->Prop)(hyp:u7.T args K):M args K:=by
 have e:∃p,args=[.d (.rows 11 p)]:=by
  unfold u7.T spec at hyp
  split at hyp
  ·rename_i he
   simp only at he
   split at he
   ·split at he
    ·rename_i aE
     obtain rfl:=ast aE
     exact⟨_,rfl⟩
    ·cases he
   ·cases he
  ·exact hyp.elim
 obtain⟨p,bE⟩:=e
 subst bE
 exact H p K hyp
theorem aej {M:List J->(J->Prop)->Prop}(H:∀(p:I.Rows) K,AY.T [.d (.rows 11 p)] K->M [.d (.rows 11 p)] K)(args:List J)(K:J->Prop)(hyp:AY.T args K):M args K:=by
 have e:∃p,args=[.d (.rows 11 p)]:=by
  unfold AY.T spec at hyp
  split at hyp
  ·rename_i he
   simp only at he
   split at he
   ·split at he
    ·rename_i aE
     obtain rfl:=ast aE
     exact⟨_,rfl⟩
    ·cases he
   ·cases he
  ·exact hyp.elim
 obtain⟨p,bE⟩:=e
 subst bE
 exact H p K hyp
theorem afK {M:List J->(J->Prop)->Prop}(H:∀(p:I.Rows) K,Cg.T [.d (.rows 11 p)] K->M [.d (.rows 11 p)] K)(args:List J)(K:J->Prop)(hyp:Cg.T args K):M args K:=by
 have e:∃p,args=[.d (.rows 11 p)]:=by
  unfold Cg.T spec at hyp
  split at hyp
  ·rename_i he
   simp only at he
   split at he
   ·split at he
    ·rename_i aE
     obtain rfl:=ast aE
     exact⟨_,rfl⟩
    ·cases he
   ·cases he
  ·exact hyp.elim
 obtain⟨p,bE⟩:=e
 subst bE
 exact H p K hyp
theorem agG {M:List J->(J->Prop)->Prop}(H:∀(v:Int) K,CW.T [.d (.int .i64 v)] K->M [.d (.int .i64 v)] K)(args:List J)(K:J->Prop)(hyp:CW.T args K):M args K:=by
 have e:∃v,args=[.d (.int .i64 v)]:=by
  unfold CW.T spec at hyp
  split at hyp
  ·rename_i he
   simp only at he
   split at he
   ·exact⟨_,rfl⟩
   ·cases he
  ·exact hyp.elim
 obtain⟨v,bE⟩:=e
 subst bE
 exact H v K hyp
theorem agH (g:Nat){M:List J->(J->Prop)->Prop}(H:∀(p q:I.Rows) K,xH.T g [.d (.rows 11 p), .d (.rows 11 q), .fn g] K->M [.d (.rows 11 p), .d (.rows 11 q), .fn g] K)(args:List J)(K:J->Prop)(hyp:xH.T g args K):M args K:=by
 have e:∃p q,args=[.d (.rows 11 p), .d (.rows 11 q), .fn g]:=by
  unfold xH.T spec at hyp
  split at hyp
  ·rename_i he
   simp only at he
   split at he
   ·split at he
    ·rename_i aE U aa
     obtain rfl:=ast aE
     obtain rfl:=ast U
     obtain rfl:=ast aa
     exact⟨_,_,rfl⟩
    ·cases he
   ·cases he
  ·exact hyp.elim
 obtain⟨p,q,bE⟩:=e
 subst bE
 exact H p q K hyp
theorem agI (g:Nat){M:List J->(J->Prop)->Prop}(H:∀(p q:I.Rows) K,xI.T g [.d (.rows 11 p), .d (.rows 11 q), .fn g] K->M [.d (.rows 11 p), .d (.rows 11 q), .fn g] K)(args:List J)(K:J->Prop)(hyp:xI.T g args K):M args K:=by
 have e:∃p q,args=[.d (.rows 11 p), .d (.rows 11 q), .fn g]:=by
  unfold xI.T spec at hyp
  split at hyp
  ·rename_i he
   simp only at he
   split at he
   ·split at he
    ·rename_i aE U aa
     obtain rfl:=ast aE
     obtain rfl:=ast U
     obtain rfl:=ast aa
     exact⟨_,_,rfl⟩
    ·cases he
   ·cases he
  ·exact hyp.elim
 obtain⟨p,q,bE⟩:=e
 subst bE
 exact H p q K hyp
theorem agJ {M:List J->(J->Prop)->Prop}(H:∀(p q:I.Rows) K,CX.T [.d (.rows 11 p), .d (.rows 11 q)] K->M [.d (.rows 11 p), .d (.rows 11 q)] K)(args:List J)(K:J->Prop)(hyp:CX.T args K):M args K:=by
 have e:∃p q,args=[.d (.rows 11 p), .d (.rows 11 q)]:=by
  unfold CX.T spec at hyp
  split at hyp
  ·rename_i he
   simp only at he
   split at he
   ·split at he
    ·rename_i aE U
     obtain rfl:=ast aE
     obtain rfl:=ast U
     exact⟨_,_,rfl⟩
    ·cases he
   ·cases he
  ·exact hyp.elim
 obtain⟨p,q,bE⟩:=e
 subst bE
 exact H p q K hyp
theorem agK {M:List J->(J->Prop)->Prop}(H:∀(p q:I.Rows) K,CY.T [.d (.rows 11 p), .d (.rows 11 q)] K->M [.d (.rows 11 p), .d (.rows 11 q)] K)(args:List J)(K:J->Prop)(hyp:CY.T args K):M args K:=by
 have e:∃p q,args=[.d (.rows 11 p), .d (.rows 11 q)]:=by
  unfold CY.T spec at hyp
  split at hyp
  ·rename_i he
   simp only at he
   split at he
   ·split at he
    ·rename_i aE U
     obtain rfl:=ast aE
     obtain rfl:=ast U
     exact⟨_,_,rfl⟩
    ·cases he
   ·cases he
  ·exact hyp.elim
 obtain⟨p,q,bE⟩:=e
 subst bE
 exact H p q K hyp
theorem agL {M:List J->(J->Prop)->Prop}(H:∀(p:I.Rows) (n:Int) (q:I.Rows) K,CZ.T [.d (.rows 11 p), .d (.int .i64 n), .d (.rows 11 q)] K->M [.d (.rows 11 p), .d (.int .i64 n), .d (.rows 11 q)] K)(args:List J)(K:J->Prop)(hyp:CZ.T args K):M args K:=by
 have e:∃p n q,args=[.d (.rows 11 p), .d (.int .i64 n), .d (.rows 11 q)]:=by
  unfold CZ.T spec at hyp
  split at hyp
  ·rename_i he
   simp only at he
   split at he
   ·split at he
    ·rename_i aE U
     obtain rfl:=ast aE
     obtain rfl:=ast U
     exact⟨_,_,_,rfl⟩
    ·cases he
   ·cases he
  ·exact hyp.elim
 obtain⟨p,n,q,bE⟩:=e
 subst bE
 exact H p n q K hyp
theorem agM {M:List J->(J->Prop)->Prop}(H:∀(p q:I.Rows) K,C0.T [.d (.rows 11 p), .d (.rows 11 q)] K->M [.d (.rows 11 p), .d (.rows 11 q)] K)(args:List J)(K:J->Prop)(hyp:C0.T args K):M args K:=by
 have e:∃p q,args=[.d (.rows 11 p), .d (.rows 11 q)]:=by
  unfold C0.T spec at hyp
  split at hyp
  ·rename_i he
   simp only at he
   split at he
   ·split at he
    ·rename_i aE U
     obtain rfl:=ast aE
     obtain rfl:=ast U
     exact⟨_,_,rfl⟩
    ·cases he
   ·cases he
  ·exact hyp.elim
 obtain⟨p,q,bE⟩:=e
 subst bE
 exact H p q K hyp
theorem afL {M:List J->(J->Prop)->Prop}(H:∀(p:I.Rows) (v:Int) K,Ch.T [.d (.rows 11 p), .d (.int .i64 v)] K->M [.d (.rows 11 p), .d (.int .i64 v)] K)(args:List J)(K:J->Prop)(hyp:Ch.T args K):M args K:=by
 have e:∃p v,args=[.d (.rows 11 p), .d (.int .i64 v)]:=by
  unfold Ch.T spec at hyp
  split at hyp
  ·rename_i he
   simp only at he
   split at he
   ·split at he
    ·rename_i aE
     obtain rfl:=ast aE
     exact⟨_,_,rfl⟩
    ·cases he
   ·cases he
  ·exact hyp.elim
 obtain⟨p,v,bE⟩:=e
 subst bE
 exact H p v K hyp
theorem agO {M:List J->(J->Prop)->Prop}(H:∀(p:I.Rows) (v:Int) K,C2.T [.d (.rows 11 p), .d (.int .i64 v)] K->M [.d (.rows 11 p), .d (.int .i64 v)] K)(args:List J)(K:J->Prop)(hyp:C2.T args K):M args K:=by
 have e:∃p v,args=[.d (.rows 11 p), .d (.int .i64 v)]:=by
  unfold C2.T spec at hyp
  split at hyp
  ·rename_i he
   simp only at he
   split at he
   ·split at he
    ·rename_i aE
     obtain rfl:=ast aE
     exact⟨_,_,rfl⟩
    ·cases he
   ·cases he
  ·exact hyp.elim
 obtain⟨p,v,bE⟩:=e
 subst bE
 exact H p v K hyp
theorem afM {M:List J->(J->Prop)->Prop}(H:∀(p q:I.Rows) K,Ci.T [.d (.rows 11 p), .d (.rows 11 q)] K->M [.d (.rows 11 p), .d (.rows 11 q)] K)(args:List J)(K:J->Prop)(hyp:Ci.T args K):M args K:=by
 have e:∃p q,args=[.d (.rows 11 p), .d (.rows 11 q)]:=by
  unfold Ci.T spec at hyp
  split at hyp
  ·rename_i he
   simp only at he
   split at he
   ·split at he
    ·rename_i aE U
     obtain rfl:=ast aE
     obtain rfl:=ast U
     exact⟨_,_,rfl⟩
    ·cases he
   ·cases he
  ·exact hyp.elim
 obtain⟨p,q,bE⟩:=e
 subst bE
 exact H p q K hyp
theorem Us {M:List J->(J->Prop)->Prop}(H:∀(p:I.Rows) K,BC.T [.d (.rows 11 p)] K->M [.d (.rows 11 p)] K)(args:List J)(K:J->Prop)(hyp:BC.T args K):M args K:=by
 have e:∃p,args=[.d (.rows 11 p)]:=by
  unfold BC.T spec at hyp
  split at hyp
  ·rename_i he
   simp only at he
   split at he
   ·split at he
    ·rename_i aE
     obtain rfl:=ast aE
     exact⟨_,rfl⟩
    ·cases he
   ·cases he
  ·exact hyp.elim
 obtain⟨p,bE⟩:=e
 subst bE
 exact H p K hyp
theorem TU {M:List J->(J->Prop)->Prop}(H:∀(p:I.Rows) K,AZ.T [.d (.rows 11 p)] K->M [.d (.rows 11 p)] K)(args:List J)(K:J->Prop)(hyp:AZ.T args K):M args K:=by
 have e:∃p,args=[.d (.rows 11 p)]:=by
  unfold AZ.T spec at hyp
  split at hyp
  ·rename_i he
   simp only at he
   split at he
   ·split at he
    ·rename_i aE
     obtain rfl:=ast aE
     exact⟨_,rfl⟩
    ·cases he
   ·cases he
  ·exact hyp.elim
 obtain⟨p,bE⟩:=e
 subst bE
 exact H p K hyp
theorem Vh {M:List J->(J->Prop)->Prop}(H:∀(s:Bool) (a b:List Int) K,Cj.T [.agg [.d (.bool s), .d (.ints .u32 a), .d (.ints .u32 b)]] K->M [.agg [.d (.bool s), .d (.ints .u32 a), .d (.ints .u32 b)]] K)(args:List J)(K:J->Prop)(hyp:Cj.T args K):M args K:=by
 have e:∃s a b,args=[.agg [.d (.bool s), .d (.ints .u32 a), .d (.ints .u32 b)]]:=by
  unfold Cj.T spec at hyp
  split at hyp
  ·rename_i he
   simp only at he
   split at he
   ·exact⟨_,_,_,rfl⟩
   ·cases he
  ·exact hyp.elim
 obtain⟨s,a,b,bE⟩:=e
 subst bE
 exact H s a b K hyp
theorem Ww {M:List J->(J->Prop)->Prop}(H:∀(n:Int) K,C3.T [.d (.int .i64 n)] K->M [.d (.int .i64 n)] K)(args:List J)(K:J->Prop)(hyp:C3.T args K):M args K:=by
 have e:∃n,args=[.d (.int .i64 n)]:=by
  unfold C3.T spec at hyp
  split at hyp
  ·rename_i he
   simp only at he
   split at he
   ·exact⟨_,rfl⟩
   ·cases he
  ·exact hyp.elim
 obtain⟨n,bE⟩:=e
 subst bE
 exact H n K hyp
theorem Ut {M:List J->(J->Prop)->Prop}(H:∀(s:Bool) (a b:List Int) (t:Bool) (c d:List Int) K,BD.T [.agg [.d (.bool s), .d (.ints .u32 a), .d (.ints .u32 b)], .agg [.d (.bool t), .d (.ints .u32 c), .d (.ints .u32 d)]] K->M [.agg [.d (.bool s), .d (.ints .u32 a), .d (.ints .u32 b)], .agg [.d (.bool t), .d (.ints .u32 c), .d (.ints .u32 d)]] K)(args:List J)(K:J->Prop)(hyp:BD.T args K):M args K:=by
 have e:∃s a b t c d,args=[.agg [.d (.bool s), .d (.ints .u32 a), .d (.ints .u32 b)], .agg [.d (.bool t), .d (.ints .u32 c), .d (.ints .u32 d)]]:=by
  unfold BD.T spec at hyp
  split at hyp
  ·rename_i he
   simp only at he
   split at he
   ·exact⟨_,_,_,_,_,_,rfl⟩
   ·cases he
  ·exact hyp.elim
 obtain⟨s,a,b,t,c,d,bE⟩:=e
 subst bE
 exact H s a b t c d K hyp
theorem aek {M:List J->(J->Prop)->Prop}(H:∀K,A2.T [] K->M [] K)(args:List J)(K:J->Prop)(hyp:A2.T args K):M args K:=by
 have e:args=[]:=by
  unfold A2.T spec at hyp
  split at hyp
  ·rename_i he
   simp only at he
   split at he
   ·exact rfl
   ·cases he
  ·exact hyp.elim
 have bE:=e
 subst bE
 exact H K hyp
theorem aqN {M:J->ad->List J->(ad->J->Prop)->Prop}(H:∀(l:List Int) (a s v n:Int) K,ao3.T (.ptr 0 0) (.cells [.d (.ints .i64 l), .d (.int .i64 a), .d (.int .i64 s)]) [.d (.int .i64 v), .d (.int .i64 n)] K->M (.ptr 0 0) (.cells [.d (.ints .i64 l), .d (.int .i64 a), .d (.int .i64 s)]) [.d (.int .i64 v), .d (.int .i64 n)] K)(a0:J)(bW:ad)(args:List J)(K:ad->J->Prop)(hyp:ao3.T a0 bW args K):M a0 bW args K:=by
 have e:∃l a s v n,a0= .ptr 0 0/\bW= .cells [.d (.ints .i64 l), .d (.int .i64 a), .d (.int .i64 s)]/\args=[.d (.int .i64 v), .d (.int .i64 n)]:=by
  unfold ao3.T eO at hyp
  split at hyp
  ·rename_i he
   simp only at he
   split at he
   ·split at he
    ·rename_i aE U
     obtain rfl:=ast aE
     obtain rfl:=ast U
     exact⟨_,_,_,_,_,rfl,rfl,rfl⟩
    ·cases he
   ·cases he
  ·exact hyp.elim
 obtain⟨l,a,s,v,n,bE,an,az⟩:=e
 subst bE an az
 exact H l a s v n K hyp
theorem aqO {M:List J->(J->Prop)->Prop}(H:∀(l:List Int) K,ao4.T [.d (.ints .i64 l)] K->M [.d (.ints .i64 l)] K)(args:List J)(K:J->Prop)(hyp:ao4.T args K):M args K:=by
 have e:∃l,args=[.d (.ints .i64 l)]:=by
  unfold ao4.T spec at hyp
  split at hyp
  ·rename_i he
   simp only at he
   split at he
   ·exact⟨_,rfl⟩
   ·cases he
  ·exact hyp.elim
 obtain⟨l,bE⟩:=e
 subst bE
 exact H l K hyp
theorem aqJ {M:List J->(J->Prop)->Prop}(H:∀(l:List Int) (v w:Int) K,ao0.T [.d (.ints .i64 l), .d (.int .u8 v), .d (.int .u8 w)] K->M [.d (.ints .i64 l), .d (.int .u8 v), .d (.int .u8 w)] K)(args:List J)(K:J->Prop)(hyp:ao0.T args K):M args K:=by
 have e:∃l v w,args=[.d (.ints .i64 l), .d (.int .u8 v), .d (.int .u8 w)]:=by
  unfold ao0.T spec at hyp
  split at hyp
  ·rename_i he
   simp only at he
   split at he
   ·exact⟨_,_,_,rfl⟩
   ·cases he
  ·exact hyp.elim
 obtain⟨l,v,w,bE⟩:=e
 subst bE
 exact H l v w K hyp
theorem A3 {l:Rows}{a b:Int}(h:fe l a b):∃o,kQ l a b o:=by
 obtain⟨U,aa,al,aL,bo⟩:=h
 obtain⟨an,az⟩:=Go.Sort.insertionSort_holds p5 l.toArray a.toNat b.toNat (by omega) (by simp;omega)
 exact⟨(Go.Sort.insertionSort aX l.toArray a.toNat b.toNat).toList,⟨(sC U (by omega) an).1,by simpa using an⟩,by simpa using az⟩
theorem agP (q:dn):jB (B_.T q):=wY _ fun a o args p bp f g h aw=>by
 split at h
 ·split at h
  ·simp only[asM,asO]at h
   obtain⟨rfl,rfl,rfl,rfl⟩:=h
   obtain⟨o,U,aa⟩:=A3 aw
   exact⟨o,U⟩
  ·cases h
 ·cases h
theorem ait (q:dn)(n:Nat):jB (qv.T q n):=wY _ fun a o args p bp f g h aw=>by
 split at h
 ·split at h
  ·simp only[asM,asO]at h
   obtain⟨rfl,rfl,rfl,rfl⟩:=h
   exact A3 aw.1
  ·cases h
 ·cases h
theorem ahH (q:dn):jB (vc.T q):=wY _ fun a o args p bp f g h aw=>by
 split at h
 ·split at h
  ·simp only[asM,asO]at h
   obtain⟨rfl,rfl,rfl,rfl⟩:=h
   exact A3 aw.1
  ·cases h
 ·cases h
theorem ahI (q:dn):jB (CM.T q):=wY _ fun a o args p bp f g h aw=>by
 split at h
 ·split at h
  ·simp only[asM,asO]at h
   obtain⟨rfl,rfl,rfl,rfl⟩:=h
   exact A3 ⟨aw.1,Int.le_refl _,by omega,by omega,aw.2⟩
  ·cases h
 ·cases h
theorem aiu:jB Dl.T:=wY _ fun a o args p bp f g h aw=>by
 split at h
 ·split at h
  ·simp only[asM,asO]at h
   obtain⟨rfl,rfl,rfl,rfl⟩:=h
   exact⟨0,by decide,by decide⟩
  ·cases h
 ·cases h
theorem agQ (g:Nat){M:List J->(J->Prop)->Prop}(H:∀(a b:Row) K,pf.T ⟨g,true⟩ [.agg [.d (.bool true)], .rw 11 a, .rw 11 b] K->M [.agg [.d (.bool true)], .rw 11 a, .rw 11 b] K)(args:List J)(K:J->Prop)(hyp:pf.T ⟨g,true⟩ args K):M args K:=by
 have e:∃a b,args=[.agg [.d (.bool true)], .rw 11 a, .rw 11 b]:=by
  unfold pf.T spec at hyp
  split at hyp
  ·rename_i he
   simp only at he
   split at he
   ·split at he
    ·rename_i aE U _
     obtain rfl:=ast aE
     obtain rfl:=ast U
     exact⟨_,_,rfl⟩
    ·rename_i al;cases al
    ·cases he
   ·cases he
  ·exact hyp.elim
 obtain⟨a,b,rfl⟩:=e
 exact H a b K hyp
theorem agR (g:Nat){M:List J->(J->Prop)->Prop}(H:∀(a b:Row) K,pf.T ⟨g,false⟩ [.agg [.d (.int .i64 8)], .rw 11 a, .rw 11 b] K->M [.agg [.d (.int .i64 8)], .rw 11 a, .rw 11 b] K)(args:List J)(K:J->Prop)(hyp:pf.T ⟨g,false⟩ args K):M args K:=by
 have e:∃a b,args=[.agg [.d (.int .i64 8)], .rw 11 a, .rw 11 b]:=by
  unfold pf.T spec at hyp
  split at hyp
  ·rename_i he
   simp only at he
   split at he
   ·split at he
    ·rename_i al;cases al
    ·rename_i aE U _
     obtain rfl:=ast aE
     obtain rfl:=ast U
     exact⟨_,_,rfl⟩
    ·cases he
   ·cases he
  ·exact hyp.elim
 obtain⟨a,b,rfl⟩:=e
 exact H a b K hyp
theorem aiv {P:Program}{f:FuncId}{ps:List aO}{T zs:List J->(J->Prop)->Prop}(h:e6 P f (gh ps T))(bj:∀args K,zs args K->T args K):e6 P f (gh ps zs):=by
 refine⟨h.1,fun N ρ own w args vals K ay=>h.2 N ρ own w args vals K ?_⟩
 unfold gh at ay⊢
 split
 ·rename_i U aa
  rw[U,aa]at ay
  exact bj _ _ ay
 ·rename_i ar
  split at ay
  ·rename_i U aa;exact(ar U aa).elim
  ·exact ay
theorem agS {P:Program}{f:FuncId}{m:Nat}{ps:List aO}{T:Nat->J->ad->List J->(ad->J->Prop)->Prop}{zs:J->ad->List J->(ad->J->Prop)->Prop}(h:∀n,e6 P f (kb m ps (T n)))
 (bj:∀a o args K,zs a o args K->∃n,T n a o args K):e6 P f (kb m ps zs):=by
 refine⟨(h 0).1,fun N ρ own w args vals K ay=> ?_⟩
 have ar:∃n,kb m ps (T n) args own K:=by
  unfold kb at ay
  split at ay
  rotate_left
  ·exact ay.elim
  rename_i ae
  unfold n1 at ay
  split at ay
  ·exact ay.elim
  ·rename_i a0 rest aC
   split at ay
   ·exact ay.elim
   ·rename_i id de
    split at ay
    rotate_left
    ·exact ay.elim
    rename_i U aa al aL
    obtain⟨n,ar⟩:=bj _ _ _ _ ay
    refine⟨n, ?_⟩
    unfold kb
    rw[ae]
    show n1 ps (T n) (xr m args) own K
    unfold n1
    rw[aC]
    simp only[de,U,aa,al,aL]
    exact ar
 obtain⟨n,ar⟩:=ar
 exact(h n).2 N ρ own w args vals K ar
theorem agT {P:Program}{f:FuncId}{m:Nat}{ps:List aO}(q:dn)(aQ:∃fn,P.funcs[f]? =some fn/\fn.body.isNone=false/\(fn.name== "runtime.NumGoroutine")=false):e6 P f (kb m ps (qv.T q 0)):=by
 refine⟨aQ,fun N ρ own w args vals K ay=> ?_⟩
 exfalso
 unfold kb at ay
 split at ay
 rotate_left
 ·exact ay
 unfold n1 at ay
 split at ay
 ·exact ay
 split at ay
 ·exact ay
 split at ay
 rotate_left
 ·exact ay
 refine Xq q 0 (M:=fun _ _ _ _=>False) (fun l a b m K h=> ?_) _ _ _ _ ay
 have h:(fe l a b/\b-a<((0:Nat):Int)/\(0<=m/\m<=64)/\Go.Sort.Below aX a.toNat b.toNat l.toArray)/\True:=by
  unfold qv.T kL at h
  simp only[ato]at h
  split at h
  ·rename_i he
   split at he
   ·simp only[asM,asO]at he
    obtain⟨rfl,_⟩:=he
    exact⟨h.1,True.intro⟩
   ·cases he
  ·exact h.elim
 have U:=h.1.1.2.2.1
 have aa:=h.1.2.1
 omega
theorem ahJ (q:dn)(a0:J)(bW:ad)(args:List J)(K:ad->J->Prop)(hyp:vc.T q a0 bW args K):∃n,qv.T q n a0 bW args K:=by
 refine Wv q (M:=fun a0 bW args K=>∃n,qv.T q n a0 bW args K) (fun l a b m K h=> ?_) a0 bW args K hyp
 refine⟨(b-a).toNat+1, ?_⟩
 unfold vc.T kL at h
 unfold qv.T kL
 simp only[ato]at h⊢
 split at h
 ·rename_i he
  split at he
  ·rename_i al
   simp only[asM,asO]at he
   obtain⟨rfl,rfl,rfl,rfl⟩:=he
   exact⟨⟨h.1.1,by omega,h.1.2⟩,h.2⟩
  ·cases he
 ·exact h.elim
def yb:List bu:=[(dX 0 2,1),(dX 1 2,-1)]
theorem Po:bP yb=qw:=by
 show[dG (dX 0 2)++[.bool (bh 1), .ints .u32 (bm 1), .ints .u32 (bg 1)],dG (dX 1 2)++[.bool (bh (-1)), .ints .u32 (bm (-1)), .ints .u32 (bg (-1))]]=_
 rw[A4,Cl,F9,F_];rfl
theorem Cm:dA 1024 yb:=xK (by decide+kernel)
theorem P0:aoi 1 yb:=ao5 (by decide)
theorem X8:ag false [1] [1]=1:=by
 have:=h2 1
 rwa [A4,Cl]at this
theorem YF:ag true [1] [1]=-1:=by
 have:=h2 (-1)
 rwa [F9,F_]at this
theorem Cn:av 1000000 [1]:=⟨.mk (by decide) .nil,by decide⟩
theorem QD:aF [1]:=⟨.mk (by decide) .nil,by decide⟩
theorem aiw (args:List J)(K:J->Prop)(hyp:BC.T args K):u7.T args K:=by
 refine Us (M:=u7.T) (fun p K h=> ?_) args K hyp
 obtain⟨rfl,ab⟩:=h
 rw[<-Po]
 refine⟨uU P0 Cm (by decide), ?_⟩
 rw[A5 Cm];exact ab
theorem ahK (args:List J)(K:J->Prop)(hyp:AZ.T args K):sK.T args K:=by
 refine TU (M:=sK.T) (fun p K h=> ?_) args K hyp
 obtain⟨rfl,ab⟩:=h
 rw[<-Po]at ab⊢
 refine⟨wX (c:=2) P0 (asz _) (Cm.nR (by decide)) (fun m=>apx m _) (by decide) (by decide) (by decide), ?_⟩
 rw[hf Cm.len,show nrm yb=yb by decide+kernel];exact ab
theorem aiM (args:List J)(K:J->Prop)(hyp:Cj.T args K):va.T args K:=by
 refine Vh (M:=va.T) (fun s a b K h=> ?_) args K hyp
 obtain⟨⟨rfl,rfl⟩,ab⟩:=h
 refine⟨⟨QD,QD⟩, ?_⟩
 cases s
 ·rw[X8];exact ab
 ·rw[YF];exact ab
theorem aiV (args:List J)(K:J->Prop)(hyp:C3.T args K):td.T args K:=by
 refine Ww (M:=td.T) (fun n K h=> ?_) args K hyp
 obtain⟨rfl,ab⟩:=h
 refine⟨⟨by decide,by decide⟩, ?_⟩
 show K (.agg [.d (.bool (bh 1)), .d (.ints .u32 (bm 1)), .d (.ints .u32 (bg 1))])
 rw[A4,Cl];exact ab
theorem aix (args:List J)(K:J->Prop)(hyp:BD.T args K):sT.T args K:=by
 refine Ut (M:=sT.T) (fun s a b t c d K h=> ?_) args K hyp
 obtain⟨⟨⟨rfl,rfl⟩,rfl,rfl,rfl,rfl⟩,ab⟩:=h
 refine⟨⟨Cn,Cn,Cn,Cn⟩, ?_⟩
 rw[at0 rfl];exact ab
theorem ahL (args:List J)(K:J->Prop)(hyp:u9.T args K):args=[.d (.int .i64 2)]/\u9.T [.d (.int .i64 2)] K:=by
 have e:∃n,args=[.d (.int .i64 n)]:=by
  unfold u9.T spec at hyp
  split at hyp
  ·rename_i he
   simp only at he
   split at he
   ·exact⟨_,rfl⟩
   ·cases he
  ·exact hyp.elim
 obtain⟨n,rfl⟩:=e
 obtain⟨rfl,ab⟩:=hyp
 exact⟨rfl,rfl,ab⟩
theorem afN (args:List J)(K:J->Prop)(hyp:A0.T args K):args=[.d (.int .i64 2), .d (.int .i64 10)]/\A0.T [.d (.int .i64 2), .d (.int .i64 10)] K:=by
 have e:∃n b,args=[.d (.int .i64 n), .d (.int .i64 b)]:=by
  unfold A0.T spec at hyp
  split at hyp
  ·rename_i he
   simp only at he
   split at he
   ·exact⟨_,_,rfl⟩
   ·cases he
  ·exact hyp.elim
 obtain⟨n,b,rfl⟩:=e
 obtain⟨⟨rfl,rfl⟩,ab⟩:=hyp
 exact⟨rfl,⟨rfl,rfl⟩,ab⟩
theorem ahM (args:List J)(K:J->Prop)(hyp:Ck.T args K):∃x s,args=[.d (.rows 1 [[.str x]]), .d (.str s)]/\Ck.T [.d (.rows 1 [[.str x]]), .d (.str s)] K:=by
 have e:∃x s,args=[.d (.rows 1 [[.str x]]), .d (.str s)]:=by
  unfold Ck.T spec at hyp
  split at hyp
  ·rename_i he
   simp only at he
   split at he
   ·split at he
    ·rename_i aE
     obtain rfl:=ast aE
     exact⟨_,_,rfl⟩
    ·cases he
   ·cases he
  ·exact hyp.elim
 obtain⟨x,s,rfl⟩:=e
 exact⟨x,s,rfl,hyp⟩
theorem afO (args:List J)(K:J->Prop)(hyp:A1.T args K):args=[.d (.rows 11 qw), .d (.rows 1 Dp)]/\A1.T [.d (.rows 11 qw), .d (.rows 1 Dp)] K:=by
 have e:∃p n,args=[.d (.rows 11 p), .d (.rows 1 n)]:=by
  unfold A1.T spec at hyp
  split at hyp
  ·rename_i he
   simp only at he
   split at he
   ·split at he
    ·rename_i aE U
     obtain rfl:=ast aE
     obtain rfl:=ast U
     exact⟨_,_,rfl⟩
    ·cases he
   ·cases he
  ·exact hyp.elim
 obtain⟨p,n,rfl⟩:=e
 obtain⟨⟨rfl,rfl⟩,ab⟩:=hyp
 exact⟨rfl,⟨rfl,rfl⟩,ab⟩
end I
end
