/- Helpers for the statements: facts about numbers, fractions and polynomials as lists, and the proofs of the conditions. Condition: none. -/
import Derived.Test.YtmeonjefiioegaaGreatDoorB1
section
open Go Go.al
namespace ab
theorem Vg (a b:Row)(K:J->Prop)(h:Cj.T [.rw 8 a, .rw 8 b] K):Lb a b K:=by
 obtain⟨⟨⟨m,rfl,hm⟩,n,rfl,av⟩,ae⟩:=h;unfold Lb ah;rw[qX,qX]at ae;refine⟨fun v=>∃i:Nat,v=i/\i<=8/\∀j,j<i->m.getD j 0=n.getD j 0,fun v=>8-v.toNat,⟨rfl,rfl,0,rfl,by omega,fun j aI=>by omega⟩, ?_⟩;rintro _ ⟨i,rfl,U,aa⟩;simp only[ao1,aoC,aoB];have e:=we i (by omega:i<=m.length) (by omega:i<=n.length) aa;refine⟨fun aW=> ?_,fun aW=> ?_⟩
 ·have hi:i<8:=by omega
  simp only[yx m i (by omega),yx n i (by omega),R.toInt];have aR:i<m.length:=by omega
  have ag:i<n.length:=by omega
  rw[apU (i:=i) aR,apU (i:=i) (l:=n) ag,ez]at e;have g1:m.getD i 0=m[i]:=by simp[aoA,aR]
  have g2:n.getD i 0=n[i]:=by simp[aoA,ag]
  rw[<-g1,<-g2]at e;refine⟨by omega,by omega,rfl,by omega,by omega,rfl,fun bA=>⟨by omega,by omega,rfl,by omega,by omega,rfl, ?_⟩,fun bA=> ?_⟩
  ·have bA:¬m.getD i 0=n.getD i 0:=by simpa using bA
   have:decide (ez m n=1)=decide (n.getD i 0<m.getD i 0):=by
    rw[aqs,e];split
    ·omega
    ·split<;>omega
   rw[<-this];exact ae
  ·have bA:m.getD i 0=n.getD i 0:=by simpa using bA
   rw[dX (by omega) (by omega)];refine⟨trivial,trivial,⟨i+1,rfl,by omega,fun j aI=> ?_⟩,by omega⟩
   by_cases q:j=i
   ·rw[q];exact bA
   ·exact aa j (by omega)
 ·rw[aqw (by omega:m.length<=i),aqw (by omega:n.length<=i),ez]at e;rw[e]at ae;exact ae
theorem Vc (p:Rows)(v:Int)(K:J->Prop)(h:En.T [.d (.ar 11 p), .d (.int .i64 v)] K):K9 p v K:=by
 obtain⟨⟨⟨bs,ax⟩,jb,ny⟩,ae⟩:=h;unfold K9 ah aO List.aG;refine⟨fun d w=>∃i:Nat,w=i/\i<=p.length/\d=jq v.toNat (-1) ((p.take i).map aM),fun _ w=>p.length-w.toNat,⟨0,rfl,by omega,rfl⟩, ?_⟩;rintro _ _ ⟨i,rfl,U,rfl⟩;simp only[ao1,aoC,aoB];refine⟨fun aW=> ?_,fun aW=> ?_⟩
 ·have hi:i<p.length:=by omega
  have an:=bs.get hi;rw[an.at (by omega)];refine⟨by omega,aW,jb,ny,rfl,⟨i+1,dX (by omega) (by omega),by omega, ?_⟩,by rw[dX (by omega) (by omega)];omega⟩;rw[mJ hi,apd];exact(H9 v.toNat ((p.take i).map aM) (-1) (aM (p.getD i []))).symm
 ·have:i=p.length:=by omega
  rw[this,apG];exact ae
theorem Vp (p:Rows)(K:J->Prop)(h:CU.T [.d (.ar 11 p)] K):Lk p K:=by
 obtain⟨⟨bs,ax⟩,ae⟩:=h;unfold Lk ah aO List.aG;refine⟨fun w=>∃i:Nat,w=i/\i<=p.length/\∀j,j<i->tw (dq (p.getD j []))=true,fun w=>p.length-w.toNat,⟨0,rfl,by omega,fun j aI=>by omega⟩, ?_⟩;rintro _ ⟨i,rfl,U,aa⟩;simp only[ao1,aoC,aoB];refine⟨fun aW=> ?_,fun aW=> ?_⟩
 ·have hi:i<p.length:=by omega
  have an:=bs.get hi;have dc:=(an.E2 (v:=0) (by omega)).2.2.2;refine⟨fun w=>∃k:Nat,w=k/\k<=8/\∀j,j<k->0<=(dq (p.getD i [])).getD j 0/\(dq (p.getD i [])).getD j 0<=1024,fun w=>8-w.toNat,⟨0,rfl,by omega,fun j aI=>by omega⟩, ?_⟩;rintro _ ⟨k,rfl,a6,bj⟩;simp only[aoB];refine⟨fun bA=> ?_,fun bA=> ?_⟩
  ·have As:k<8:=by omega
   have hx:=ln (m:=dq (p.getD i [])) (i:=k) (by omega);rw[an.at As];simp only[R.toInt];refine⟨by omega,by omega,by omega,by omega,rfl,fun bZ=> ?_,fun bZ=>⟨by omega,by omega,by omega,by omega,rfl,fun fo=> ?_,fun fo=>⟨⟨k+1,dX (by omega) (by omega),by omega,fun j aI=> ?_⟩,by rw[dX (by omega) (by omega)];omega⟩⟩⟩
   ·rw[BS (jR hi) hx (.inl bZ)]at ae;exact ae
   ·rw[BS (jR hi) hx (.inr fo)]at ae;exact ae
   ·by_cases q:j=k
    ·rw[q];omega
    ·exact bj j (by omega)
  ·obtain rfl:k=8:=by omega
   refine⟨⟨i+1,dX (by omega) (by omega),by omega,fun j aI=> ?_⟩,by rw[dX (by omega) (by omega)];omega⟩
   by_cases q:j=i
   ·rw[q,tw,aoR];intro x ai;obtain⟨n,av,rfl⟩:=aqu ai;have:=bj n (by omega);rw[aoA,aoM av]at this;simpa using this
   ·exact aa j (by omega)
 ·have:hK p=true:=aoR.2 fun r an=>by
   obtain⟨n,av,rfl⟩:=aqu an;have:=aa n (by omega);rwa [aoA,aoM av]at this
  rw[this]at ae;exact ae
theorem VB (v:Int)(K:J->Prop)(h:Eo.T [.d (.int .i64 v)] K):Lv v K:=by
 obtain⟨_,ae⟩:=h;unfold Lv;simp only[ao1,aoC];refine⟨fun h=> ?_,fun h=>⟨fun aa=> ?_,fun aa=>⟨by unfold i64;omega, ?_⟩⟩⟩
 ·rw[aox (by omega),aox (by omega)]at ae;exact ae
 ·rw[aox (by omega),aox (by omega)]at ae;exact ae
 ·rintro _ rfl _ rfl _ rfl;rw[aoy (by omega),aoy (by omega)]at ae;have e:([R.int .i64 (0:Int),R.int .i64 (0:Int),R.int .i64 (0:Int),R.int .i64 (0:Int),R.int .i64 (0:Int),R.int .i64 (0:Int),R.int .i64 (0:Int),R.int .i64 (0:Int)]++[R.bool (cl (IntCast.intCast 1)),R.ad .u32 (cj (IntCast.intCast 1)),R.ad .u32 (ca (IntCast.intCast 1))]:Row)=et df (cl kk) (cj kk) (ca kk):=rfl;rw[e,CX Ip (by omega)];exact⟨by omega,by omega,jT (by rw[aoI];rfl),ae⟩
def mH:ba:=([],0)
theorem OY {P:List ba}{j:Nat}(h:j<P.length):(br P).getD j []=hS (P.getD j mH):=by
 rw[P0 (t:=P.getD j mH)];rw[aoM h,aoA,aoM h];rfl
theorem Hr {P:List ba}{j:Nat}(h:j<P.length):P.getD j mH∈P:=by
 rw[aoA,aoM h];exact apF h
theorem acy {x y:List Int}(h:jr x y)(g:jr y x):False:=OE _ (vZ _ _ _ h g)
theorem RJ {t:ba}:∀{P:List ba} {lo:Nat},hC P->lo<=P.length->(∀j,j<lo->jr (P.getD j mH).1 t.1)->(∀j,lo<=j->j<P.length->¬jr (P.getD j mH).1 t.1)->
 ins t P=if lo<P.length/\(P.getD lo mH).1=t.1 then P.take lo++((if t.2+(P.getD lo mH).2=0 then[]else[(t.1,t.2+(P.getD lo mH).2)])++P.drop (lo+1))else P.take lo++((if t.2=0 then[]else[t])++P.drop lo)
 |[],lo,_,h,_,_=>by
  have:lo=0:=by simpa using h
  subst this;rw[aox (by simp),ins];split<;>rfl
 |u::P,0,av,_,_,aa=>by
  have h:=aa 0 (by omega) (by simp);simp only[aqz]at h⊢;rw[ins]
  by_cases e:t.1=u.1
  ·rw[aoy e,aoy (show 0<(u::P).length/\u.1=t.1 from⟨by simp,e.symm⟩),Rat.add_comm u.2 t.2,e];split<;>simp
  ·have g:ez t.1 u.1=1:=(Cc e).resolve_right h;rw[aox e,aoy g,aox (show ¬(0<(u::P).length/\u.1=t.1)from fun x=>e x.2.symm)];split<;>simp
 |u::P,lo+1,av,ax,U,aa=>by
  have g:jr u.1 t.1:=by simpa using U 0 (by omega)
  have bF:=RJ (t:=t) (P:=P) (lo:=lo) av.tail (by simpa using ax) (fun j aI=>by simpa using U (j+1) (by omega)) fun j aI hB=>by simpa using aa (j+1) (by omega) (by simpa using hB)
  rw[ins,aox fun e=>ID g e.symm,aox fun e=>acy g e,bF];simp only[List.getD_cons_succ,apq,Nat.add_lt_add_iff_right,List.take_succ_cons,List.drop_succ_cons,apO];split<;>rfl
theorem RK {P:List ba}(h:hC P){i j:Nat}(vb:i<j)(aI:j<P.length):jr (P.getD i mH).1 (P.getD j mH).1:=by
 have:=List.pairwise_iff_getElem.1 h.1 i j (by omega) aI vb;rwa [aoA,aoA,aoM (by omega:i<P.length),aoM aI]
theorem RL {t:ba}(h:t.1.length=8):(hS t).getD 8 .undef= .bool (cl t.2)/\(hS t).getD 9 .undef= .ad .u32 (cj t.2)/\(hS t).getD 10 .undef= .ad .u32 (ca t.2)/\(hS t).length=11/\(hS t).take 8=dZ t.1:=by
 rw[yJ];exact⟨jj h,jk h,jh h,jT h,n3 h⟩
theorem Vk (p:Rows)(t:Row)(K:J->Prop)(h:CS.T [.d (.ar 11 p), .rw 11 t] K):Lf p t K:=by
 obtain⟨⟨⟨P,rfl,fM,dc,l1,r4⟩,m,s,a,b,rfl,hm,aR,ag⟩,ae⟩:=h;rw[fb dc,kO hm]at ae;unfold Lf ah aO List.aG List.eV List.eb List.ec;simp only[fI,jT hm,n3 hm,qX,jj hm,jk hm,jh hm,R.toBool,R.b2]
 refine⟨fun v w=>∃lo hi:Nat,v=lo/\w=hi/\lo<=hi/\hi<=P.length/\(∀j,j<lo->jr (P.getD j mH).1 m)/\∀j,hi<=j->j<P.length->¬jr (P.getD j mH).1 m,fun v w=>(w-v).toNat,
  ⟨trivial,0,P.length,rfl,rfl,by omega,by omega,fun j aI=>by omega,fun j aI hB=>by omega⟩, ?_⟩
 rintro _ _ ⟨lo,hi,rfl,rfl,U,aa,az,aW⟩;simp only[ao1,aoC,aoB];refine⟨fun bA=> ?_,fun bA=> ?_⟩
 ·have bG:lo<hi:=by omega
  have aA:IntKind.wrap .i64 ((lo:Int)+hi)=((lo+hi:Nat):Int):=by rw[dX (by omega) (by omega)];omega
  have aL:IntKind.wrap .i64 (((lo+hi:Nat):Int).tdiv 2)=(((lo+hi)/2:Nat):Int):=by
   rw[aqY (by omega),dX (by omega) (by omega)];omega
  rw[aA,aL];simp only[aoB];generalize anS:(lo+hi)/2=oz;have q1:lo<=oz/\oz<hi:=by omega
  have FG:oz<P.length:=by omega
  obtain⟨dC,dD,dR,la,AY⟩:=RL (dc _ (Hr FG));simp only[OY FG,la,AY,qX];refine⟨by omega,by omega,trivial,trivial,⟨⟨_,rfl,dc _ (Hr FG)⟩,m,rfl,hm⟩, ?_⟩;rintro _ rfl;simp only[ao1,aoC]
  refine⟨fun bZ=>⟨trivial,⟨oz+1,hi,dX (by omega) (by omega),rfl,by omega,aa,fun j aI=> ?_,aW⟩,by rw[dX (by omega) (by omega)];omega⟩,
   fun bZ=>⟨trivial,⟨lo,oz,rfl,rfl,by omega,by omega,az,fun j aI hB g=> ?_⟩,by omega⟩⟩
  ·by_cases q:j=oz
   ·rw[q];exact bZ
   ·exact vZ _ _ _ (RK fM (by omega:j<oz) FG) bZ
  ·by_cases q:j=oz
   ·rw[q]at g;exact bZ g
   ·exact bZ (vZ _ _ _ (RK fM (by omega:oz<j) hB) g)
 ·obtain rfl:lo=hi:=by omega
  have cF:=RJ (t:=(m,bb s a b)) fM aa az aW;have FE:((br P).take lo).length=lo:=by rw[ao3,fI];omega
  have xw:dp 900000 (bb s a b):= .of aR ag (by omega);rw[FE]
  refine⟨by omega,by omega,by omega,fun v o bz=>∃(H:Nat) (fL:Bool) (b5 ed:List Int),v=H/\H<=P.length/\o=[et m fL b5 ed]/\bz=(br P).take lo/\bO 2000000 b5/\bO 2000000 ed/\dp 2000000 (bb fL b5 ed)/\
   ins (m,bb s a b) P=P.take lo++((if bb fL b5 ed=0 then[]else[(m,bb fL b5 ed)])++P.drop H), ?_, ?_⟩
  ·refine⟨fun bZ=> ?_,fun bZ=>⟨lo,s,a,b,rfl,aa,by simp,by simp,aR.mono (by decide),ag.mono (by decide),xw.mono (by decide),by rw[cF,aox (by omega)]⟩⟩;have hJ:lo<P.length:=by omega
   have rD:=Hr hJ;obtain⟨dC,dD,dR,la,AY⟩:=RL (dc _ rD);have hu:=l1 _ rD;rw[OY hJ,la,AY,nS,nS];simp only[dC,dD,dR,R.toBool,R.b2,lp];refine⟨by omega,by omega,trivial,trivial,fun x ai=> ?_,fun x ai=> ?_,fun fo=> ?_,fun fo=>⟨lo,s,a,b,rfl,aa,by simp,by simp,aR.mono (by decide),ag.mono (by decide),xw.mono (by decide),by rw[cF,aox fun q=>fo q.2]⟩⟩
   ·obtain⟨y,_,rfl⟩:=aoQ.1 ai;rfl
   ·obtain⟨y,_,rfl⟩:=aoQ.1 ai;rfl
   ·refine⟨trivial,rfl,rfl,by omega,by omega,trivial,rfl,rfl,⟨aR.mono (by decide),ag.mono (by decide),hu.num.mono (by decide),hu.den.mono (by decide)⟩, ?_⟩;rintro _ rfl _ rfl _ rfl;have ay:=xw.add hu;rw[wQ hm];refine⟨lo+1,cl (bb s a b+(P.getD lo mH).2),cj (bb s a b+(P.getD lo mH).2),ca (bb s a b+(P.getD lo mH).2),dX (by omega) (by omega),by omega,by simp,by simp,ay.num.mono (by decide),ay.den.mono (by decide),by rw[lp];exact ay.mono (by decide), ?_⟩;rw[cF,aoy ⟨hJ,fo⟩,lp]
  ·rintro _ _ _ ⟨H,fL,b5,ed,rfl,g1,rfl,rfl,g2,g3,g4,g5⟩;simp only[aqz,List.set_cons_zero,jj hm,jk hm,jh hm,R.toBool,R.b2,aoB];refine⟨trivial,rfl,rfl,⟨g2.mono (by decide),g3.mono (by decide)⟩, ?_⟩;rintro _ rfl _ rfl _ rfl;rw[wQ hm,FE];simp only[jj hm,jk hm,jh hm,R.toBool,R.b2,lp,jT hm,apL];have a8:((br P).drop H).length=P.length-H:=by rw[apI,fI]
   refine⟨trivial,rfl,rfl,⟨g4.num.mono (by decide),g4.den.mono (by decide)⟩, ?_⟩;rintro _ rfl;rw[g5]at ae;refine⟨fun bZ=> ?_,fun bZ=> ?_⟩
   ·have bZ:¬bb fL b5 ed=0:=fun e=>by rw[e]at bZ;simp[sq.2 rfl]at bZ
    rw[aox bZ,qY,qY]at ae;refine⟨trivial,by omega,by omega,by omega,by rw[ao0,FE,a8,apL];omega, ?_⟩;rw[aqk];simpa[br,yJ,aqA,List.map_drop]using ae
   ·have bZ:bb fL b5 ed=0:=by
     have:k1 (bb fL b5 ed)=0:=by simpa using bZ
     exact sq.1 this
    rw[aoy bZ,List.nil_append,qY]at ae;refine⟨by omega,by omega,by rw[a8];omega, ?_⟩;simpa[br,aqA,List.map_drop]using ae
theorem OZ:∀(p acc:List ba),hC acc->p.foldl (fun a t=>ins t a) acc=nrm (acc++p)
 |[],acc,h=>by rw[aqa,DB h];rfl
 |t::p,acc,h=>by
  rw[aqS,OZ p _ (H2 t h)];refine oO fun m=> ?_;rw[mN,mN,jQ,HG,<-jQ];rw[c2,dl];split<;>grind
theorem P4 (p:List ba)(t:ba):ins t (nrm p)=nrm (p++[t]):=by
 have:=OZ [t] (nrm p) (ih p);rw[aqS,List.foldl_nil]at this;rw[this];exact oO fun m=>by rw[mN,mN,mM]
theorem Raw.part {K n:Nat}{a b:Rows}(h:Raw K n (a++b)):Raw K n a:=by
 obtain⟨k,c,U,aa,az,aW,bA,bZ⟩:=h;exact⟨k,c,U,fun r an=>aa r (by simp[an]),fun m=>by have:=az m;rw[uh]at this;omega,aW,bA,by rw[ao0]at bZ;omega⟩
theorem Raw.E3 {K n:Nat}{a:Rows}(h:Raw K n a):∀t∈a.map aM,t.1.length=8:=fun t au=>by
 obtain⟨r,an,rfl⟩:=aoQ.1 au;exact(h.ar r an).len
theorem pX {p:List ba}(h:∀t∈p,t.1.length=8):∀t∈nrm p,t.1.length=8:=fun t au=>by
 obtain⟨u,hu,e⟩:=wJ au;rw[<-e];exact h u hu
theorem Raw.U0 {n:Nat}{a:Rows}(h:Raw 900000 n a)(av:n<1000000000):pI (br (nrm (a.map aM))):=
 ⟨_,rfl,ih _,pX h.E3,h.gn,by have:=h.m2;omega⟩
theorem Vl (p:Rows)(K:J->Prop)(h:Ck.T [.d (.ar 11 p)] K):Lg p K:=by
 obtain⟨dH,ae⟩:=h;have ax:=dH.len;unfold Lg ah aO List.aG;refine⟨fun o v=>∃i:Nat,v=i/\i<=p.length/\o=br (nrm ((p.take i).map aM)),fun _ v=>p.length-v.toNat,⟨0,rfl,by omega,rfl⟩, ?_⟩;rintro _ _ ⟨i,rfl,U,rfl⟩;simp only[ao1,aoC,aoB];refine⟨fun aW=> ?_,fun aW=> ?_⟩
 ·have hi:i<p.length:=by omega
  have an:=dH.ar _ (jR hi);have aE:Raw 900000 999999999 (p.take i):=Raw.part (b:=p.drop i) (by rw[List.take_append_drop];exact dH);refine⟨by omega,by omega,an.row.len,⟨aE.U0 (by decide),an⟩, ?_⟩;rintro _ rfl;refine⟨⟨i+1,dX (by omega) (by omega),by omega, ?_⟩,by rw[dX (by omega) (by omega)];omega⟩;rw[fb (pX aE.E3),P4,mJ hi,apd];rfl
 ·obtain rfl:i=p.length:=by omega
  rw[apG];exact ae
theorem VC (p q:Rows)(K:J->Prop)(h:Em.T [.d (.ar 11 p), .d (.ar 11 q)] K):Lu p q K:=by
 obtain⟨⟨⟨P,rfl,fM,dc,l1,r4⟩,dH⟩,ae⟩:=h;have ax:=dH.len;rw[ao0]at ax;unfold Lu ah aO List.aG;refine⟨fun o v=>∃i:Nat,v=i/\i<=q.length/\o=br (nrm ((br P++q.take i).map aM)),fun _ v=>q.length-v.toNat,⟨0,rfl,by omega,by rw[List.take_zero,aqa,fb dc,DB fM]⟩, ?_⟩;rintro _ _ ⟨i,rfl,U,rfl⟩;simp only[ao1,aoC,aoB];refine⟨fun aW=> ?_,fun aW=> ?_⟩
 ·have hi:i<q.length:=by omega
  have an:=dH.ar _ (List.mem_append_right _ (jR hi));have aE:Raw 900000 999999999 (br P++q.take i):=Raw.part (b:=q.drop i) (by rw[aqk,List.take_append_drop];exact dH);refine⟨by omega,by omega,an.row.len,⟨aE.U0 (by decide),an⟩, ?_⟩;rintro _ rfl;refine⟨⟨i+1,dX (by omega) (by omega),by omega, ?_⟩,by rw[dX (by omega) (by omega)];omega⟩;rw[fb (pX aE.E3),P4,mJ hi,<-aqk,apd (l₂:=[q.getD i []])];rfl
 ·obtain rfl:i=q.length:=by omega
  rw[apG,apd];exact ae
theorem uO {a b:List Int}(aR:a.length=8)(ag:b.length=8):(gi a b).length=8:=by rw[yy _ _ (by omega)];exact aR
theorem P5 (t:ba)(p:List ba)(u:ba):kv t (p++[u])=kv t p++(if u.2*t.2=0 then[]else[(gi u.1 t.1,u.2*t.2)]):=by
 rw[kv,kv,apd,aqq]
 congr 1
 by_cases h:u.2*t.2=0
 ·rw[aoy h];simp[h]
 ·rw[aox h];simp[h]
theorem Q0 (t:ba)(p:List ba):(kv t p).length<=p.length:=by
 rw[kv];exact aoS (aqi _ _) (by simp)
theorem Vq (p:Rows)(t:Row)(K:J->Prop)(h:CT.T [.d (.ar 11 p), .rw 11 t] K):Lj p t K:=by
 obtain⟨⟨bs,au,cW,ey,r4⟩,ae⟩:=h;obtain⟨m,s,a,b,rfl,hm,hU,aR,ag⟩:=au.bP;rw[kO hm]at ae ey;unfold Lj ah aO List.aG List.eV List.eb List.ec;simp only[jj hm,jk hm,jh hm,R.toBool,R.b2];refine⟨fun v o=>∃i:Nat,v=i/\i<=p.length/\o=br (kv (m,bb s a b) ((p.take i).map aM)),fun v _=>p.length-v.toNat,⟨trivial,0,rfl,by omega,rfl⟩, ?_⟩;rintro _ _ ⟨i,rfl,U,rfl⟩;simp only[ao1,aoC,aoB];refine⟨fun aW=> ?_,fun aW=> ?_⟩
 ·have hi:i<p.length:=by omega
  have Ar:=jR hi;obtain⟨n,fL,b5,ed,e,av,tg,vn,gD⟩:=(bs _ Ar).bP;have ep:=(cW (n,bb fL b5 ed) (by rw[<-kO av,<-e];exact aqQ Ar)).2
  have hlen:(br (kv (m,bb s a b) ((p.take i).map aM))).length<=i:=by
   have:=Q0 (m,bb s a b) ((p.take i).map aM);rw[aoF,ao3]at this;rw[fI];omega
  rw[e]
  refine⟨by omega,by omega,jT av,fun v o bl=>∃k:Nat,∃x:List Int,v=k/\k<=8/\o=br (kv (m,bb s a b) ((p.take i).map aM))/\bl=[et x fL b5 ed]/\x.length=8/\∀j,x.getD j 0=if j<k then n.getD j 0+m.getD j 0 else n.getD j 0,fun v _ _=>8-v.toNat,
   ⟨trivial,0,n,rfl,by omega,rfl,rfl,av,fun j=>by rw[aox (by omega)]⟩, ?_⟩
  rintro _ _ _ ⟨k,x,rfl,a6,rfl,rfl,ai,bj⟩;simp only[aqz,List.set_cons_zero,jj ai,jk ai,jh ai,R.toBool,R.b2,aoB];refine⟨fun bA=> ?_,fun bA=> ?_⟩
  ·have As:k<8:=by omega
   simp only[Sd ai As,Sd hm As,R.toInt,CX ai As];have g1:=ep _ (ln (m:=n) (i:=k) (by omega));have g2:=ey _ (ln (m:=m) (i:=k) (by omega));have g3:x.getD k 0=n.getD k 0:=by rw[bj,aox (by omega)]
   refine⟨by omega,by omega,rfl,by omega,by omega,rfl,by omega,by omega,trivial,⟨k+1,x.set k (n.getD k 0+m.getD k 0),dX (by omega) (by omega),by omega,trivial,by rw[g3,bR (by omega)],by rw[aoI,ai],fun j=> ?_⟩,by rw[dX (by omega) (by omega)];omega⟩;rw[eu]
   by_cases q:k=j
   ·subst q;rw[aoy ⟨rfl,by omega⟩,aoy (by omega)]
   ·rw[aox (fun z=>q z.1),bj]
    by_cases z:j<k
    ·rw[aoy z,aoy (by omega)]
    ·rw[aox z,aox (by omega)]
  ·obtain rfl:k=8:=by omega
   have FD:x=gi n m:=zA (by rw[uO av hm,ai]) fun j aI=>by rw[bj,aoy (by omega),yz _ _ _ (by omega) (by omega)]
   subst FD;have dC:dp 400000 (bb fL b5 ed):= .of vn gD (by omega);have dD:dp 400000 (bb s a b):= .of aR ag (by omega);have dR:=dC.mul dD (by omega);refine⟨trivial,rfl,rfl,trivial,rfl,rfl,⟨vn.mono (by decide),gD.mono (by decide),aR.mono (by decide),ag.mono (by decide)⟩, ?_⟩;rintro _ rfl _ rfl _ rfl;rw[wQ ai];simp only[jj ai,jk ai,jh ai,R.toBool,R.b2,lp,jT ai,apL];refine⟨trivial,rfl,rfl,⟨dR.num.mono (by decide),dR.den.mono (by decide)⟩, ?_⟩;rintro _ rfl;have vs:(p.take (i+1)).map aM=(p.take i).map aM++[(n,bb fL b5 ed)]:=by rw[mJ hi,apd,e,aqG,kO av]
   refine⟨fun bZ=> ?_,fun bZ=> ?_⟩
   ·have bZ:¬bb fL b5 ed*bb s a b=0:=fun q=>by rw[q]at bZ;simp[sq.2 rfl]at bZ
    refine⟨trivial,by omega,trivial,⟨i+1,dX (by omega) (by omega),by omega, ?_⟩,by rw[dX (by omega) (by omega)];omega⟩;rw[vs,P5,aox bZ,qY];rfl
   ·have bZ:bb fL b5 ed*bb s a b=0:=sq.1 (by simpa using bZ);refine⟨trivial,⟨i+1,dX (by omega) (by omega),by omega, ?_⟩,by rw[dX (by omega) (by omega)];omega⟩;rw[vs,P5,aoy bZ,aqa]
 ·obtain rfl:i=p.length:=by omega
  rw[apG];exact ae
theorem Vr (s:Bool)(a b:List Int)(K:J->Prop)(h:DC.T [.agg [.d (.bool s), .d (.ad .u32 a), .d (.ad .u32 b)]] K):Ll s a b K:=by
 obtain⟨⟨aR,ag⟩,ae⟩:=h;unfold Ll;simp only[RF];refine⟨⟨400000,1,by decide,fun r an=> ?_,fun m=> ?_,by decide,by decide,by simp⟩, ?_⟩
 ·rw[apo.1 an];exact⟨df,s,a,b,rfl,rfl,aR,ag⟩
 ·rw[fw,fw];split<;>omega
 ·rintro _ rfl;rw[aqG,kO Ip];exact ae
theorem Vd (p:Rows)(K:J->Prop)(h:BR.T [.d (.ar 11 p)] K):K_ p K:=by
 obtain⟨⟨aU,dH⟩,ae⟩:=h;unfold K_;rw[zE]at ae;refine⟨aU, ?_⟩;rintro _ rfl;refine⟨fun h=> ?_,fun h=> ?_⟩
 ·rw[h,aqK]at ae;refine⟨dH, ?_⟩;rintro _ rfl;refine⟨⟨fun r an=>(dH.ar r an).mono (by decide),fun r an=>(l9 dH.gn (pX dH.E3) r an).mono (by decide),aU.2,by rw[fI];have:=dH.m2;omega⟩, ?_⟩;rintro _ rfl;exact ae
 ·rw[h,Bool.false_and]at ae;exact ae
theorem VK (p:Rows)(v:Int)(K:J->Prop)(h:CW.T [.d (.ar 11 p), .d (.int .i64 v)] K):LB p v K:=by
 obtain⟨⟨hP,jM⟩,ae⟩:=h;unfold LB;refine⟨⟨hP,jM.mono (aoE _) (by decide)⟩, ?_⟩;rintro _ rfl _ rfl;refine⟨fun h=> ?_,fun h=> ?_⟩
 ·have h:¬gI p v=0:=by simpa using h
  rw[aox h]at ae;exact ae
 ·have h:gI p v=0:=by simpa using h
  obtain⟨U,aa,az⟩:=RI h;rw[aoy h,h]at ae;rw[aoy h];have hG:=nk U hP.1;have ix:=hG.nrm;have av:=jM.m2;refine⟨⟨⟨aa,az⟩,ui jM.gn ix.len (by omega),by rw[fb ix.len];exact ix.mono (by decide),yl jM.gn (by decide) (ix.oK (by decide)) (fun x=>(ih (p.map aM)).ku x) (by decide) (by decide) (by omega)⟩, ?_⟩;rintro _ rfl;rw[fb ix.len];exact ae
theorem Iq (t:ba)(p:List ba):kv t p=(gv t p).filter fun u=> !decide (u.2=0):=by
 rw[kv,gv]
 congr 1
 exact aqD fun u _=>by rw[Hj,Rat.mul_comm]
theorem Nk (m:List Int)(f:ba->Bool):∀p:List ba,ea m (p.filter f)<=ea m p
 |[]=>aoE _
 |t::p=>by
  have bF:=Nk m f p;rw[apW];split
  ·rw[ea,ea];omega
  ·rw[ea];omega
theorem aaT {t:ba}{p:List ba}(h:t.1.length=8)(dc:∀u∈p,u.1.length=8):∀u∈gv t p,u.1.length=8:=fun u hu=>by
 obtain⟨v,aP,rfl⟩:=aoQ.1 hu;exact uO h (dc v aP)
theorem O0 {p q:List ba}(h:∀u∈p,u.1.length=8)(g:∀u∈q,u.1.length=8):∀u∈da p q,u.1.length=8:=fun t au=>by
 obtain⟨u,hu,v,aP,rfl⟩:=Ci au;exact uO (h u hu) (g v aP)
theorem acz (t:ba)(p:List ba)(m:List Int):c2 (kv t p) m=c2 (gv t p) m:=by rw[Iq,Bu]
theorem acA (t:ba)(q:List ba)(m:List Int):c2 (da [t] q) m=c2 (gv t q) m:=by rw[jQ,jQ,qS,Hi,dU,dU];grind
theorem Zf (p r q:List ba)(m:List Int):c2 (da (p++r) q) m=c2 (da p q) m+c2 (da r q) m:=by
 rw[jQ,jQ,jQ,qS,qS,qS,Cd]
theorem Vh (p q:Rows)(K:J->Prop)(h:DG.T [.d (.ar 11 p), .d (.ar 11 q)] K):Lc p q K:=by
 obtain⟨⟨k,j,a6,tE,aE,a_,cW,nM,aC,ay,av⟩,ae⟩:=h;have FF:k+j+2<=400000:=aoS (Nat.le_mul_of_pos_left _ (by omega)) ay;have ir:p.length<1000000000:=ap4 (Nat.le_mul_of_pos_right _ (by omega)) av;have u6:q.length+1<=400000:=aoS (Nat.le_mul_of_pos_right _ (by omega)) ay
 have tO:∀t∈p.map aM,t.1.length=8:=cW.len
 have k_:∀t∈q.map aM,t.1.length=8:=nM.len
 have T6:dA k (p.map aM):=ux (fun r an=>(aE r an).xI) a6;have T7:dA j (q.map aM):=ux (fun r an=>(a_ r an).xI) tE;unfold Lc ah aO List.aG;refine⟨fun o v=>∃i:Nat,v=i/\i<=q.length/\o=br (nrm (da ((q.take i).map aM) (p.map aM))),fun _ v=>q.length-v.toNat,⟨0,rfl,by omega,rfl⟩, ?_⟩;rintro _ _ ⟨i,rfl,U,rfl⟩;simp only[ao1,aoC,aoB];refine⟨fun aW=> ?_,fun aW=> ?_⟩
 ·have hi:i<q.length:=by omega
  have J4:=jR hi;have tf:aM (q.getD i [])∈q.map aM:=aqQ J4
  have sub:∀t∈(q.take i).map aM,t∈q.map aM:=fun t au=>by
   obtain⟨r,an,rfl⟩:=aoQ.1 au;exact aqQ (List.mem_of_mem_take an)
  have i8:∀t∈(q.take i).map aM,t.1.length=8:=fun t au=>k_ t (sub t au)
  have aj2:((q.take i).map aM).length=i:=by rw[aoF,ao3];omega
  have tP:=O0 i8 tO
  have T8:dA (i*(k+j+1)) (nrm (da ((q.take i).map aM) (p.map aM))):=by
   have w:dA (k+j) (da ((q.take i).map aM) (p.map aM)):=(dA.mul tE (fun t au=>T7 t (sub t au)) T6).mono (by omega);exact w.nrm fun m=>by have:=yk m tO aC i8;omega
  have anT:(nrm (da ((q.take i).map aM) (p.map aM))).length<=i*p.length:=by
   refine wq ?_;rw[yD,aj2,aoF];exact aoE _
  have vG:∀t∈kv (aM (q.getD i [])) (p.map aM),t.1.length=8:=fun t au=>by
   rw[Iq]at au;exact aaT (k_ _ tf) tO t (apn.1 au).1
  have aj3:dA (k+j) (kv (aM (q.getD i [])) (p.map aM)):=fun t au=>by
   rw[kv]at au;obtain⟨u,hu,rfl⟩:=aoQ.1 (apn.1 au).1;exact(T6 u hu).mul (T7 _ tf) (by omega)
  have c4:=Q0 (aM (q.getD i [])) (p.map aM);rw[aoF]at c4
  have bound:(i+1)*(k+j+1)+1<=400000:=by
   have aA:(i+1)*(k+j+1)<=(q.length+1)*(k+j+1):=aoP _ (by omega);have aL:(q.length+1)*(k+j+2)=(q.length+1)*(k+j+1)+(q.length+1):=by rw[show k+j+2=(k+j+1)+1 from rfl,aoO,ao6]
   omega
  have b3:i*(k+j+1)<=(i+1)*(k+j+1):=aoP _ (by omega);have cX:k+j+1<=(i+1)*(k+j+1):=Nat.le_mul_of_pos_left _ (by omega)
  have anU:i*p.length+p.length<=999999999:=by
   have hn:(i+1)*p.length<=(q.length+1)*p.length:=aoP _ (by omega);rw[ao9 (q.length+1),aoT,apM]at hn;omega
  refine⟨by omega,by omega,(a_ _ J4).row.len,⟨fun r an=>(aE r an).mono (by omega),(a_ _ J4).mono (by omega),cW,fun x ai=> ?_,ir⟩, ?_⟩
  ·have:=(nM _ tf).2 x ai;omega
  rintro _ rfl
  have lI:Raw 900000 999999999 (br (nrm (da ((q.take i).map aM) (p.map aM)))++br (kv (aM (q.getD i [])) (p.map aM))):=by
   refine⟨(i+1)*(k+j+1),2,by omega,fun r an=> ?_,fun m=> ?_,by omega,by omega,by rw[ao0,fI,fI];omega⟩
   ·rcases apV.1 an with an|an
    ·exact(l9 T8 (pX tP) r an).mono (by omega)
    ·exact(l9 aj3 vG r an).mono (by omega)
   ·rw[uh,oP (pX tP),oP vG];have e3:=(ih (da ((q.take i).map aM) (p.map aM))).ku m;have eY:=Nk m (fun u=> !decide (u.2=0)) (gv (aM (q.getD i [])) (p.map aM));rw[<-Iq]at eY;have j7:=OW (k_ _ tf) m tO aC;omega
  refine⟨⟨⟨_,rfl,ih _,pX tP,T8.mono (by omega),by omega⟩,lI⟩, ?_⟩;rintro _ rfl;refine⟨⟨i+1,dX (by omega) (by omega),by omega, ?_⟩,by rw[dX (by omega) (by omega)];omega⟩;rw[fb (pX tP),fb vG,mJ hi,apd,aqG]
  congr 1
  exact oO fun m=>by rw[mN,mM,acz,Zf,acA]
 ·obtain rfl:i=q.length:=by omega
  rw[apG,oO (OH (q.map aM) (p.map aM))];exact ae
theorem O1 {p:List ba}(h:∀t∈p,t.1.length=8):∀n,∀t∈nv p n,t.1.length=8
 |0=>pX fun t au=>by rw[apo.1 au];rfl
 |n+1=>pX (O0 (O1 h n) h)
theorem Vs (p:Rows)(n:Int)(K:J->Prop)(h:CV.T [.d (.ar 11 p), .d (.int .i64 n)] K):Lm p n K:=by
 obtain⟨⟨av,hW⟩,ae⟩:=h;unfold Lm ah;refine⟨by unfold i64;omega, ?_⟩;rintro _ rfl _ rfl _ rfl;have one:dp 1 ((1:Int):Rat):=dp.one;refine⟨⟨one.num.mono (by decide),one.den.mono (by decide)⟩, ?_⟩;rintro _ rfl;rw[lp];refine⟨fun o v=>∃i:Nat,v=i/\i<=n.toNat/\o=br (nv (p.map aM) i),fun _ v=>n.toNat-v.toNat,⟨0,rfl,by omega,rfl⟩, ?_⟩;rintro _ _ ⟨i,rfl,U,rfl⟩;simp only[ao1,aoC,aoB];refine⟨fun aW=> ?_,fun aW=> ?_⟩
 ·have hi:i<n.toNat:=by omega
  have tO:∀t∈p.map aM,t.1.length=8:=by obtain⟨_,_,_,_,_,_,_,nM,_⟩:=hW i hi;exact nM.len
  refine⟨hW i hi, ?_⟩;rintro _ rfl;refine⟨⟨i+1,dX (by omega) (by omega),by omega, ?_⟩,by rw[dX (by omega) (by omega)];omega⟩;rw[fb (O1 tO i),nv]
 ·obtain rfl:i=n.toNat:=by omega
  exact ae
end ab
end
section
open Go Go.al
namespace ab
def KY:List Int->Int->(J->Prop)->Prop:=
 fun l v K=>True/\∀x,x=List.take (1000:Nat) l->∀aV,aV=(0:Int)->∀aS,aS=(0:Int)->(dQ x aV/\((0:Int)<=(3:Int)/\(3:Int)<=(8:Int))/\(0:Int)<=(6:Int)/\(6:Int)<=(1000:Int))/\∀bo,bo=x->∀cp,cp=(oa x aV (3:Int) (6:Int)).snd->∀c8,c8=aS->∀c5,c5=(oa x aV (3:Int) (6:Int)).fst->(cI c5/\Raw (400000:Nat) (999999999:Nat) c5)/\∀x,(x=if gI c5 (ah (v.tmod (4:Int)))=(0:Int)then np (mq (ah (v.tmod (4:Int))).toNat (nrm (List.map aM c5)))else[])->∀dm,dm=gI c5 (ah (v.tmod (4:Int)))->(cI c5/\Raw (400000:Nat) (1000000000:Nat) c5)/\∀dx,(dx=if gI c5 (ah (v.tmod (4:Int)))=(0:Int)then fG (nrm (List.map aM c5)) (ah (v.tmod (4:Int))).toNat else(0:Int))->∀dN,dN=gI c5 (ah (v.tmod (4:Int)))->((!decide (dm=(0:Int)))=true->K (J.d (R.bool false)))/\((!decide (dm=(0:Int)))=false->((!decide (dN=(0:Int)))=true->K (J.d (R.bool false)))/\((!decide (dN=(0:Int)))=false->((!decide (dx=ah (↑x.length-(1:Int))))=true->K (J.d (R.bool false)))/\((!decide (dx=ah (↑x.length-(1:Int))))=false->True/\∀eK,eK=br (if(0:Int)<=ah (v.tmod (4:Int))/\ah (v.tmod (4:Int))<(8:Int)then[(df.set (ah (v.tmod (4:Int))).toNat (1:Int),kk)]else[])->∀fQ,(fQ=if(0:Int)<=ah (v.tmod (4:Int))/\ah (v.tmod (4:Int))<(8:Int)then(0:Int)else(1:Int))->∃(aK:List (List R)->Int->Prop),∃(m:List (List R)->Int->Nat),((false,af.cells [J.d (R.ad .i64 bo),J.d (R.int .i64 cp),J.d (R.int .i64 c8)])=(false,af.cells [J.d (R.ad .i64 bo),J.d (R.int .i64 cp),J.d (R.int .i64 c8)])/\aK [] (0:Int))/\∀(b4:List (List R)) (cV:Int),aK b4 cV->(decide (cV<↑x.length)=true->(0:Int)<=cV/\cV<↑x.length/\((x.aG cV).getD (0:Nat) R.undef).q8 (11:Nat)/\(cI ((x.aG cV).getD (0:Nat) R.undef).lr/\Raw (900000:Nat) (999999999:Nat) ((x.aG cV).getD (0:Nat) R.undef).lr)/\∀fC,fC=zE ((x.aG cV).getD (0:Nat) R.undef).lr->((!fC)=true->K (J.d (R.bool false)))/\((!fC)=false->(0:Int)<=cV/\cV<↑x.length/\((x.aG cV).getD (0:Nat) R.undef).q8 (11:Nat)/\(cI ((x.aG cV).getD (0:Nat) R.undef).lr/\(0:Int)<=ah (v.tmod (4:Int))/\ah (v.tmod (4:Int))<(8:Int))/\∀im,im=fG (List.map aM ((x.aG cV).getD (0:Nat) R.undef).lr) (ah (v.tmod (4:Int))).toNat->(decide ((0:Int)<im)=true->K (J.d (R.bool false)))/\(decide ((0:Int)<im)=false->(decide (cV=dx)=true->(0:Int)<=cV/\cV<↑x.length/\((x.aG cV).getD (0:Nat) R.undef).q8 (11:Nat)/\(decide (↑((x.aG cV).getD (0:Nat) R.undef).lr.length=(0:Int))=true->K (J.d (R.bool false)))/\(decide (↑((x.aG cV).getD (0:Nat) R.undef).lr.length=(0:Int))=false->(0:Int)<=cV/\cV<↑x.length/\((x.aG cV).getD (0:Nat) R.undef).q8 (11:Nat)/\(cV<=(1000:Int)/\∀(i:Nat),i<cV.toNat->nu (br (nv (List.map aM eK) i)) eK)/\∀h2,h2=br (nv (List.map aM eK) cV.toNat)->nu ((x.aG cV).getD (0:Nat) R.undef).lr h2/\∀lK,lK=br (nrm (da (List.map aM ((x.aG cV).getD (0:Nat) R.undef).lr) (List.map aM h2)))->(pI b4/\Raw (900000:Nat) (999999999:Nat) (b4++lK))/\∀x,x=br (nrm (List.map aM b4++List.map aM lK))->(false,af.cells [J.d (R.ad .i64 bo),J.d (R.int .i64 cp),J.d (R.int .i64 c8)])=(false,af.cells [J.d (R.ad .i64 bo),J.d (R.int .i64 cp),J.d (R.int .i64 c8)])/\aK x (ah (cV+(1:Int)))/\m x (ah (cV+(1:Int)))<m b4 cV))/\(decide (cV=dx)=false->(0:Int)<=cV/\cV<↑x.length/\((x.aG cV).getD (0:Nat) R.undef).q8 (11:Nat)/\(cV<=(1000:Int)/\∀(i:Nat),i<cV.toNat->nu (br (nv (List.map aM eK) i)) eK)/\∀h2,h2=br (nv (List.map aM eK) cV.toNat)->nu ((x.aG cV).getD (0:Nat) R.undef).lr h2/\∀lK,lK=br (nrm (da (List.map aM ((x.aG cV).getD (0:Nat) R.undef).lr) (List.map aM h2)))->(pI b4/\Raw (900000:Nat) (999999999:Nat) (b4++lK))/\∀x,x=br (nrm (List.map aM b4++List.map aM lK))->(false,af.cells [J.d (R.ad .i64 bo),J.d (R.int .i64 cp),J.d (R.int .i64 c8)])=(false,af.cells [J.d (R.ad .i64 bo),J.d (R.int .i64 cp),J.d (R.int .i64 c8)])/\aK x (ah (cV+(1:Int)))/\m x (ah (cV+(1:Int)))<m b4 cV))))/\(decide (cV<↑x.length)=false->Raw (900000:Nat) (999999999:Nat) c5/\∀x,x=br (nrm (List.map aM c5))->((∀(r:List R),r∈b4->gF (1000000:Nat) r)/\(∀(r:List R),r∈x->gF (1000000:Nat) r)/\b4.length<(1000000000:Nat)/\x.length<(1000000000:Nat))/\∀fC,fC=decide (List.map iq b4=List.map iq x)->(fC=true->True/\∀x,x=true->K (J.d (R.bool x)))/\(fC=false->K (J.d (R.bool false)))))))
end ab
end
section
open Go Go.al
namespace ab
def hz (v k:Nat)(p:List ba):List ba:=(p.filter fun t=>decide (t.1.getD v 0=(k:Int))).map fun t=>(t.1.set v 0,t.2)
def nq (v k:Nat)(p:List ba):List ba:=p.filter fun t=>decide (t.1.getD v 0=(k:Int))
def jA (v k:Nat)(p:List ba):List ba:=p.filter fun t=>decide (t.1.getD v 0<(k:Int))
def fa (v k:Nat):ba:=(df.set v (k:Int),1)
theorem aaU {v k:Nat}{p:List ba}(h:k<(fG p v+1).toNat):(mq v p).getD k []=nrm (hz v k p):=by
 simp[mq,aoA,h,hz]
theorem aaV {L:List (List ba)}{k:Nat}(h:k<L.length):(np L).getD k []=[.ar 11 (br (L.getD k []))]:=by
 simp[np,aoA,h]
theorem Ir (j:Nat):df.getD j 0=0:=by
 match j with
 |0|1|2|3|4|5|6|7=>rfl
 |n+8=>rfl
theorem aeD {m:List Int}(hm:m.length=8){v k:Nat}(aP:v<8)(h:m.getD v 0=(k:Int)):gi (m.set v 0) (df.set v (k:Int))=m:=by
 have U:(m.set v 0).length=8:=by rw[aoI,hm]
 have aa:(df.set v (k:Int)).length=8:=by rw[aoI];rfl
 refine zA (by rw[uO U aa,hm]) fun j aI=> ?_;rw[uO U aa]at aI;rw[yz _ _ _ (by omega) (by omega),eu,eu]
 by_cases e:v=j
 ·subst e;rw[aoy ⟨rfl,by omega⟩,aoy ⟨rfl,by show v<8;exact aP⟩,h];omega
 ·rw[aox fun q=>e q.1,aox fun q=>e q.1,Ir];omega
theorem P6 {v k:Nat}(aP:v<8):∀{p:List ba},(∀t∈p,t.1.length=8)->da (hz v k p) [fa v k]=nq v k p
 |[],_=>rfl
 |t::p,h=>by
  have bF:=P6 aP (k:=k) fun u hu=>h u (apQ _ hu);unfold hz nq at bF⊢;rw[apW]
  by_cases e:t.1.getD v 0=(k:Int)
  ·rw[aoy (by simpa using e),aoX,da,bF,gv,fa];simp only[aoX,aqo,List.singleton_append];rw[aeD (h t (by simp)) aP e,Rat.mul_one]
  ·rw[aox (by simpa using e),bF]
theorem hC.filter {p:List ba}(h:hC p)(f:ba->Bool):hC (p.filter f):=⟨h.1.sublist List.filter_sublist,fun t au=>h.2 t (apn.1 au).1⟩
theorem acB {v k:Nat}{p:List ba}(h:hC p):nrm (jA v k p++nq v k p)=jA v (k+1) p:=by
 refine(DA (h.filter _) fun m=> ?_).symm;rw[mN];unfold jA nq;clear h
 induction p with
 |nil=>simp only[List.filter_nil,c2];grind
 |cons t p bF=>
  by_cases U:t.1.getD v 0<(k:Int)
  ·have aa:¬t.1.getD v 0=(k:Int):=by omega
   have az:t.1.getD v 0<((k+1:Nat):Int):=by omega
   rw[aq2 (p:=fun t:ba=>decide (t.1.getD v 0<((k+1:Nat):Int))) (by simpa using az),aq2 (p:=fun t:ba=>decide (t.1.getD v 0<(k:Int))) (by simpa using U),
    aq3 (p:=fun t:ba=>decide (t.1.getD v 0=(k:Int))) (by simpa using aa),c2,c2,bF]
   grind
  ·have e9:=aq3 (p:=fun t:ba=>decide (t.1.getD v 0<(k:Int))) (a:=t) (l:=p) (by simpa using U)
   by_cases aa:t.1.getD v 0=(k:Int)
   ·have az:t.1.getD v 0<((k+1:Nat):Int):=by omega
    rw[aq2 (p:=fun t:ba=>decide (t.1.getD v 0<((k+1:Nat):Int))) (by simpa using az),e9,
     aq2 (p:=fun t:ba=>decide (t.1.getD v 0=(k:Int))) (by simpa using aa),c2,c2,bF]
    grind
   ·have az:¬t.1.getD v 0<((k+1:Nat):Int):=by omega
    rw[aq3 (p:=fun t:ba=>decide (t.1.getD v 0<((k+1:Nat):Int))) (by simpa using az),e9,
     aq3 (p:=fun t:ba=>decide (t.1.getD v 0=(k:Int))) (by simpa using aa),bF]
theorem SM {v:Nat}(aP:v<8):∀k:Nat,nv [fa v 1] k=[fa v k]
 |0=>by
  have:fa v 0=(df,1):=by
   rw[fa]
   congr 1
   exact zA (by rw[aoI]) fun j _=>by
    rw[eu];split
    ·rw[Ir];rfl
    ·rfl
  rw[nv,this];rfl
 |k+1=>by
  have e:da [fa v k] [fa v 1]=[fa v (k+1)]:=by
   rw[da,da,gv,fa,fa,fa];simp only[aoX,aqo,aqa,aqc,aoZ,and_true];refine⟨?_,by grind⟩;have U:(df.set v (k:Int)).length=8:=by rw[aoI];rfl
   have aa:(df.set v ((1:Nat):Int)).length=8:=by rw[aoI];rfl
   refine zA (by rw[uO U aa,aoI];rfl) fun j aI=> ?_;rw[uO U aa]at aI;rw[yz _ _ _ (by omega) (by omega),eu,eu,eu]
   by_cases q:v=j
   ·rw[aoy ⟨q,by show v<8;exact aP⟩,aoy ⟨q,by show v<8;exact aP⟩,aoy ⟨q,by show v<8;exact aP⟩];omega
   ·rw[aox fun z=>q z.1,aox fun z=>q z.1,aox fun z=>q z.1,Ir];rfl
  rw[nv,SM aP k,e];rfl
theorem IF {v:Nat}:∀{p:List ba} {d:Int},jq v d p=d\/∃t∈p,t.1.getD v 0=jq v d p
 |[],d=> .inl rfl
 |t::p,d=>by
  rw[jq];split
  ·rcases IF (v:=v) (p:=p) (d:=t.1.getD v 0)with h|⟨u,hu,h⟩
   ·exact .inr ⟨t,by simp,h.symm⟩
   ·exact .inr ⟨u,by simp[hu],h⟩
  ·rcases IF (v:=v) (p:=p) (d:=d)with h|⟨u,hu,h⟩
   ·exact .inl h
   ·exact .inr ⟨u,by simp[hu],h⟩
theorem Co {v k:Nat}{p:List ba}{t:ba}(h:t∈hz v k p):∃u∈p,u.1.getD v 0=(k:Int)/\t=(u.1.set v 0,u.2):=by
 obtain⟨u,hu,rfl⟩:=aoQ.1 h;obtain⟨U,aa⟩:=apn.1 hu;exact⟨u,U,aoJ aa,rfl⟩
theorem agy {v:Int}(bc:0<=v)(U:v<256):IntKind.wrap .i64 (Int.tmod v 4)=v%4/\0<=v%4/\v%4<8:=by
 rw[aqL bc];exact⟨bR (by omega),by omega,by omega⟩
theorem acC {p:List ba}(he:de 1024 p):zE (br (nrm p))=true:=by
 rw[zE,Cn he.nrm,fb he.nrm.len,adX];simp
theorem aaW {v k:Nat}(aP:v<8){N:List ba}(fM:hC N)(he:de 2 N)(aC:dA 31 N)(ax:N.length<=6):
 de 2 (nrm (hz v k N))/\dA 192 (nrm (hz v k N))/\(nrm (hz v k N)).length<=6/\(∀t∈nrm (hz v k N),t.1.getD v 0=0)/\nrm (da (nrm (hz v k N)) [fa v k])=nq v k N:=by
 have aA:de 2 (hz v k N):=fun t au=>by
  obtain⟨u,hu,_,rfl⟩:=Co au;obtain⟨g1,g2⟩:=he u hu;refine⟨by rw[aoI];exact g1,fun x ai=> ?_⟩;rcases ap9 ai with h|rfl
  ·exact g2 x h
  ·omega
 have aL:dA 31 (hz v k N):=fun t au=>by
  obtain⟨u,hu,_,rfl⟩:=Co au;exact aC u hu
 have b3:(hz v k N).length<=6:=by
  rw[hz,aoF];exact aoS (aqi _ _) ax
 refine⟨aA.nrm,aL.nrm fun m=>aoS (yM m _) b3,wq b3,fun t au=> ?_, ?_⟩
 ·obtain⟨u,hu,e⟩:=wJ au;obtain⟨w,hw,_,rfl⟩:=Co hu;rw[<-e,eu,aoy ⟨rfl,by rw[(he w hw).1];exact aP⟩]
 ·have:nrm (da (nrm (hz v k N)) [fa v k])=nrm (da (hz v k N) [fa v k]):=oO (NS (mM _) fun _=>rfl);rw[this,P6 aP he.len,nq,DB (fM.filter _)]
theorem aeE (v k:Nat):(fa v k).1.length=8:=by rw[fa,aoI];rfl
theorem w3 {v k:Nat}(ae:k<=10):de 10 [fa v k]:=fun t au=>by
 rw[apo.1 au];refine⟨aeE v k,fun x ai=> ?_⟩;rcases ap9 ai with h|rfl
 ·have:x=0:=by simp[df]at h;exact h
  omega
 ·omega
theorem aeF {v k:Nat}(ae:k<=10):∀r∈br [fa v k],fg 1 r:=wu (fun t au=>by rw[apo.1 au];exact dp.one) ((w3 ae).oK (by decide))
theorem RM {v k:Nat}(ae:k<=10){L:List ba}(he:de 10 L)(aC:dA 192 L)(av:∀m,ea m L<=1)(ax:L.length<=6):nu (br L) (br [fa v k]):=by
 refine⟨192,1,by decide,by decide,wu aC (he.oK (by decide)),aeF ae, ?_, ?_, ?_,by rw[fI];simp, ?_⟩
 ·rw[fb he.len];exact he.mono (by decide)
 ·rw[fb (w3 ae).len];exact(w3 ae).mono (by decide)
 ·rw[fb he.len];exact av
 ·rw[fI,fI];simp;omega
theorem U9 (l:List Int)(v:Int)(K:J->Prop)(h:Cm.T [.d (.ad .i64 l), .d (.int .u8 v)] K):KY l v K:=by
 obtain⟨⟨ax,v0,v1⟩,ae⟩:=h;unfold KY ah List.aG;have aY:=agy v0 v1;simp only[aY.1];generalize v%4=i at aY;obtain⟨_,rT,kp⟩:=aY
 obtain⟨w,rfl⟩:∃w:Nat,i=w:=⟨i.toNat,by omega⟩
 have hw:w<8:=by omega
 simp only[aoB];refine⟨trivial, ?_⟩;rintro L rfl _ rfl _ rfl;have aq:=dQ.new ax;obtain⟨bz,aE⟩:=fp.drawn (v:=3) (n:=6) (k:=6) aq rfl (by decide);refine⟨⟨aq,by decide,by decide⟩, ?_⟩;rintro _ rfl _ rfl _ rfl p rI;rw[<-rI]at aE;have aU:=aE.aU (by decide);have bc:gI p (w:Int)=0:=by rw[gI,aoy (aE.a8 (by decide)),aoy ⟨rT,kp⟩]
 simp only[bc,aoy (show(0:Int)<=(w:Int)/\(w:Int)<8 from⟨rT,kp⟩),true_implies,ao_];generalize FH:nrm (p.map aM)=N;have fM:hC N:=FH▸ih _;have r8:de 2 N:=FH▸aE.hF.nrm;have AZ:dA 31 N:=FH▸aE.raw.gn.mono (by decide);have Ku:N.length<=6:=FH▸aE.raw.m2;refine⟨⟨aU,aE.raw.mono (by decide) (by decide)⟩, ?_⟩;rintro c rfl _ rfl;refine⟨⟨aU,aE.raw.mono (by decide) (by decide)⟩, ?_⟩;rintro d rfl _ rfl;have d0:-1<=fG N w:=(DI (v:=w) (p:=N) (d:=-1)).1
 have d1:∀t∈N,t.1.getD w 0<=fG N w:=(DI (v:=w) (p:=N) (d:=-1)).2
 have d2:fG N w<=2:=Ep (by decide) r8 (by decide) hw;have jo:(np (mq w N)).length=(fG N w+1).toNat:=by rw[np,mq];simp
 have anV:(mq w N).length=(fG N w+1).toNat:=by rw[mq];simp
 have amu:fG N w=IntKind.wrap .i64 (((np (mq w N)).length:Int)-1):=by rw[jo,bR (by omega)];omega
 refine T5 rfl (T5 rfl ⟨fun h=>by simp[<-amu]at h,fun _=>⟨trivial, ?_⟩⟩);rintro x rfl _ rfl;have amv:[((df.set w 1,kk):ba)]=[fa w 1]:=rfl;rw[amv];have amw:=(w3 (v:=w) (k:=1) (by decide)).len;simp only[fb amw,SM hw,jo];refine⟨fun o z=>∃k:Nat,z=k/\k<=(fG N w+1).toNat/\o=br (jA w k N),fun _ z=>(fG N w+1).toNat-z.toNat,⟨trivial,0,rfl,by omega, ?_⟩, ?_⟩
 ·have:jA w 0 N=[]:=List.filter_eq_nil_iff.2 fun t au=>by
   have:=(r8 t au).2 _ (ln (m:=t.1) (i:=w) (by rw[(r8 t au).1];exact hw));exact fun h=>by have:=aoJ h;omega
  rw[this];rfl
 rintro _ _ ⟨k,rfl,a6,rfl⟩;simp only[ao1,aoC,aoB];have A0:de 2 (jA w k N):=fun t au=>r8 t (apn.1 au).1;have U1:dA 31 (jA w k N):=fun t au=>AZ t (apn.1 au).1;have aoq:(jA w k N).length<=6:=aoS (aqi _ _) Ku;have U2:hC (jA w k N):=fM.filter _;refine⟨fun aW=> ?_,fun aW=> ?_⟩
 ·have qn:k<(fG N w+1).toNat:=by omega
  have aA:(np (mq w N)).getD k []=[.ar 11 (br (nrm (hz w k N)))]:=by rw[aaV (by omega),aaU qn]
  obtain⟨f1,f2,f3,f4,f5⟩:=aaW (k:=k) hw fM r8 AZ Ku;simp only[aA,aqz,R.lr,fb f1.len];have g1:R.q8 (.ar 11 (br (nrm (hz w k N)))) 11:=rfl;have EV:cI (br (nrm (hz w k N))):=ui f2 f1.len (by omega);have agz:=(ih (hz w k N)).ku;have Kv:de 2 (nq w k N):=fun t au=>r8 t (apn.1 au).1;have amx:dA 31 (nq w k N):=fun t au=>AZ t (apn.1 au).1;have aor:(nq w k N).length<=6:=aoS (aqi _ _) Ku;have amy:hC (nq w k N):=fM.filter _
  have pow:∀i,i<k->nu (br [fa w i]) (br [fa w 1]):=fun i hi=>RM (by decide) (w3 (by omega)) (fun t au=>by rw[apo.1 au];exact dp.one.mono (by decide)) (fun m=>yM m _) (by simp)
  have mul:nu (br (nrm (hz w k N))) (br [fa w k]):=RM (by omega) (f1.mono (by decide)) f2 agz f3
  have sum:pI (br (jA w k N))/\Raw 900000 999999999 (br (jA w k N)++br (nq w k N)):=by
   refine⟨⟨_,rfl,U2,A0.len,U1.mono (by decide),by omega⟩,31,2,by decide,fun r an=> ?_,fun m=> ?_,by decide,by decide,by rw[ao0,fI,fI];omega⟩
   ·rcases apV.1 an with an|an
    ·exact l9 U1 A0.len r an
    ·exact l9 amx Kv.len r an
   ·rw[uh,oP A0.len,oP Kv.len];have:=U2.ku m;have:=amy.ku m;omega
  have aj4:=(w3 (v:=w) (k:=k) (by omega)).len
  have fin:nu (br (nrm (hz w k N))) (br [fa w k])/\∀x,x=br (nrm (da (nrm (hz w k N)) [fa w k]))->(pI (br (jA w k N))/\Raw 900000 999999999 (br (jA w k N)++x))/\∀y,y=br (nrm ((br (jA w k N)).map aM++x.map aM))->
   ∃j:Nat,IntKind.wrap .i64 ((k:Int)+1)=j/\j<=(fG N w+1).toNat/\y=br (jA w j N):=by
   refine⟨mul, ?_⟩;rintro _ rfl;rw[f5];refine⟨sum, ?_⟩;rintro _ rfl;exact⟨k+1,dX (by omega) (by omega),by omega,by rw[fb A0.len,fb Kv.len,acB fM]⟩
  have SN:((k:Int)<=1000/\∀i,i<k->nu (br [fa w i]) (br [fa w 1]))/\∀x,x=br [fa w k]->nu (br (nrm (hz w k N))) x/\∀y,y=br (nrm (da (nrm (hz w k N)) (x.map aM)))->(pI (br (jA w k N))/\Raw 900000 999999999 (br (jA w k N)++y))/\
   ∀z,z=br (nrm ((br (jA w k N)).map aM++y.map aM))->True/\(∃j:Nat,IntKind.wrap .i64 ((k:Int)+1)=j/\j<=(fG N w+1).toNat/\z=br (jA w j N))/\(fG N w+1).toNat-(IntKind.wrap .i64 ((k:Int)+1)).toNat<(fG N w+1).toNat-k:=by
   refine⟨⟨by omega,pow⟩, ?_⟩;rintro _ rfl;rw[fb aj4];refine⟨fin.1,fun y bp=>⟨(fin.2 y bp).1,fun z bq=>⟨trivial,(fin.2 y bp).2 z bq,by rw[dX (by omega) (by omega)];omega⟩⟩⟩
  refine⟨by omega,aW,g1,⟨EV,H5 (l9 f2 f1.len) (by decide) (by rw[fI];exact f3) (by decide)|>.mono (by decide) (by decide)⟩, ?_⟩;rintro b rfl;refine okB (acC ?_) ⟨by omega,aW,g1,⟨EV,rT,kp⟩, ?_⟩
  ·intro t au;obtain⟨u,hu,_,rfl⟩:=Co au;obtain⟨g1,g2⟩:=r8 u hu;refine⟨by rw[aoI];exact g1,fun x ai=> ?_⟩;rcases ap9 ai with h|rfl
   ·have:=g2 x h;omega
   ·omega
  rintro b rfl;have b3:fG (nrm (hz w k N)) w<=0:=(DH (a:=-1) (b:=0) (v:=w) (p:=nrm (hz w k N)) (d:=-1) (fun t au=>by rw[f4 t au];omega) (by omega) (by omega)).2;refine⟨fun bA=>by omega,fun bA=>⟨fun bZ=>⟨by omega,aW,g1,fun fo=> ?_,fun fo=> ?_⟩,fun bZ=> ?_⟩⟩
  ·exfalso;have cX:nrm (hz w k N)=[]:=aqd (by rw[fI]at fo;omega);rw[cX]at f5;have:nq w k N=[]:=f5.symm;rcases IF (v:=w) (p:=N) (d:=-1)with dc|⟨t,au,dc⟩
   ·have:fG N w=-1:=dc;omega
   ·have ky:t∈nq w k N:=apn.2 ⟨au,ap_ (by rw[dc];exact bZ.symm)⟩;rw[this]at ky;cases ky
  ·exact⟨by omega,aW,g1,SN⟩
  ·exact⟨by omega,aW,g1,SN⟩
 ·obtain rfl:k=(fG N w+1).toNat:=by omega
  have:jA w (fG N w+1).toNat N=N:=List.filter_eq_self.2 fun t au=>by
   have:=d1 t au;exact ap_ (by omega)
  rw[this];refine⟨aE.raw.mono (by decide) (by decide), ?_⟩;rintro _ rfl;refine⟨⟨fun r an=>(l9 AZ r8.len r an).mono (by decide),fun r an=>(l9 AZ r8.len r an).mono (by decide),by rw[fI];omega,by rw[fI];omega⟩, ?_⟩;rintro b rfl;refine aj1 (by simp) ⟨trivial, ?_⟩;rintro _ rfl;exact ae
end ab
end
section
open Go Go.al
theorem ab.ad5 {args:List J}{K:J->Prop}(aX:ab.EL.T args K):∃s a b,args=[.agg [.d (.bool s), .d (.ad .u32 a), .d (.ad .u32 b)]]:=by unfold ab.EL.T bg at aX;grind [Go.al.aq4]
theorem ab.Zi {args:List J}{K:J->Prop}(aX:ab.CI.T args K):∃s a b,args=[.d (.bool s), .d (.ad .u32 a), .d (.ad .u32 b)]:=by unfold ab.CI.T bg at aX;grind [Go.al.aq4]
theorem ab.Zj {args:List J}{K:J->Prop}(aX:ab.CJ.T args K):∃a,args=[.d (.ad .u32 a)]:=by unfold ab.CJ.T bg at aX;grind [Go.al.aq4]
theorem ab.N7 {args:List J}{K:J->Prop}(aX:ab.wC.T args K):∃s a b,args=[.agg [.d (.bool s), .d (.ad .u32 a), .d (.ad .u32 b)]]:=by unfold ab.wC.T bg at aX;grind [Go.al.aq4]
theorem ab.ad6 {args:List J}{K:J->Prop}(aX:ab.EM.T args K):∃a,args=[.d (.ad .u32 a)]:=by unfold ab.EM.T bg at aX;grind [Go.al.aq4]
theorem ab.WM {args:List J}{K:J->Prop}(aX:ab.Bz.T args K):∃n,args=[.d (.int .i64 n)]:=by unfold ab.Bz.T bg at aX;grind [Go.al.aq4]
theorem ab.P8 {args:List J}{K:J->Prop}(aX:ab.sU.T args K):∃n,args=[.d (.int .i64 n)]:=by unfold ab.sU.T bg at aX;grind [Go.al.aq4]
theorem ab.acD {args:List J}{K:J->Prop}(aX:ab.DW.T args K):∃n d,args=[.d (.int .i64 n), .d (.int .i64 d)]:=by unfold ab.DW.T bg at aX;grind [Go.al.aq4]
theorem ab.X4 {args:List J}{K:J->Prop}(aX:ab.B5.T args K):∃s a t b d,args=[.d (.bool s), .d (.ad .u32 a), .d (.bool t), .d (.ad .u32 b), .d (.ad .u32 d)]:=by unfold ab.B5.T bg at aX;grind [Go.al.aq4]
theorem ab.P9 {args:List J}{K:J->Prop}(aX:ab.wY.T args K):∃s a b t c d,args=[.agg [.d (.bool s), .d (.ad .u32 a), .d (.ad .u32 b)], .agg [.d (.bool t), .d (.ad .u32 c), .d (.ad .u32 d)]]:=by unfold ab.wY.T bg at aX;grind [Go.al.aq4]
theorem ab.acE {args:List J}{K:J->Prop}(aX:ab.DX.T args K):∃s a b,args=[.agg [.d (.bool s), .d (.ad .u32 a), .d (.ad .u32 b)]]:=by unfold ab.DX.T bg at aX;grind [Go.al.aq4]
theorem ab.acF {args:List J}{K:J->Prop}(aX:ab.DY.T args K):∃s a b t c d,args=[.agg [.d (.bool s), .d (.ad .u32 a), .d (.ad .u32 b)], .agg [.d (.bool t), .d (.ad .u32 c), .d (.ad .u32 d)]]:=by unfold ab.DY.T bg at aX;grind [Go.al.aq4]
theorem ab.P_ {args:List J}{K:J->Prop}(aX:ab.wZ.T args K):∃s a b t c d,args=[.agg [.d (.bool s), .d (.ad .u32 a), .d (.ad .u32 b)], .agg [.d (.bool t), .d (.ad .u32 c), .d (.ad .u32 d)]]:=by unfold ab.wZ.T bg at aX;grind [Go.al.aq4]
theorem ab.aa1 {args:List J}{K:J->Prop}(aX:ab.wM.T args K):∃s a b,args=[.agg [.d (.bool s), .d (.ad .u32 a), .d (.ad .u32 b)]]:=by unfold ab.wM.T bg at aX;grind [Go.al.aq4]
theorem ab.acG {args:List J}{K:J->Prop}(aX:ab.DZ.T args K):∃s a b t c d,args=[.agg [.d (.bool s), .d (.ad .u32 a), .d (.ad .u32 b)], .agg [.d (.bool t), .d (.ad .u32 c), .d (.ad .u32 d)]]:=by unfold ab.DZ.T bg at aX;grind [Go.al.aq4]
theorem ab.Zk {args:List J}{K:J->Prop}(aX:ab.wD.T args K):∃s a b t c d,args=[.agg [.d (.bool s), .d (.ad .u32 a), .d (.ad .u32 b)], .agg [.d (.bool t), .d (.ad .u32 c), .d (.ad .u32 d)]]:=by unfold ab.wD.T bg at aX;grind [Go.al.aq4]
theorem ab.X5 {args:List J}{K:J->Prop}(aX:ab.B6.T args K):∃s a b,args=[.agg [.d (.bool s), .d (.ad .u32 a), .d (.ad .u32 b)]]:=by unfold ab.B6.T bg at aX;grind [Go.al.aq4]
theorem ab.Zl {args:List J}{K:J->Prop}(aX:ab.CK.T args K):∃s a b,args=[.d (.bool s), .d (.ad .u32 a), .d (.ad .u32 b)]:=by unfold ab.CK.T bg at aX;grind [Go.al.aq4]
theorem ab.X6 {args:List J}{K:J->Prop}(aX:ab.B7.T args K):∃s a b,args=[.agg [.d (.bool s), .d (.ad .u32 a), .d (.ad .u32 b)]]:=by unfold ab.B7.T bg at aX;grind [Go.al.aq4]
theorem ab.aa2 {args:List J}{K:J->Prop}(aX:ab.Dn.T args K):∃s a b,args=[.agg [.d (.bool s), .d (.ad .u32 a), .d (.ad .u32 b)]]:=by unfold ab.Dn.T bg at aX;grind [Go.al.aq4]
theorem ab.aa3 {args:List J}{K:J->Prop}(aX:ab.Dm.T args K):∃s a b t c d,args=[.agg [.d (.bool s), .d (.ad .u32 a), .d (.ad .u32 b)], .agg [.d (.bool t), .d (.ad .u32 c), .d (.ad .u32 d)]]:=by unfold ab.Dm.T bg at aX;grind [Go.al.aq4]
theorem ab.X7 {a0:J}{cb:af}{args:List J}{K:af->J->Prop}(aX:ab.B8.T a0 cb args K):∃l a s x y,a0= .ptr 0 0/\cb= .cells [.d (.ad .i64 l), .d (.int .i64 a), .d (.int .i64 s)]/\args=[.d (.int .i64 x), .d (.int .i64 y)]:=by unfold ab.B8.T fm at aX;grind [Go.al.aq4]
theorem ab.aa4 {a0:J}{cb:af}{args:List J}{K:af->J->Prop}(aX:ab.Dp.T a0 cb args K):∃l a s,a0= .ptr 0 0/\cb= .cells [.d (.ad .i64 l), .d (.int .i64 a), .d (.int .i64 s)]/\args=[]:=by unfold ab.Dp.T fm at aX;grind [Go.al.aq4]
theorem ab.X8 {a0:J}{cb:af}{args:List J}{K:af->J->Prop}(aX:ab.B9.T a0 cb args K):∃l a s,a0= .ptr 0 0/\cb= .cells [.d (.ad .i64 l), .d (.int .i64 a), .d (.int .i64 s)]/\args=[]:=by unfold ab.B9.T fm at aX;grind [Go.al.aq4]
end
section
namespace ab
open Go Go.al
end ab
end
section
open Go Go.al
namespace ab
end ab
end
section
open Go Go.al
namespace ab
end ab
end
section
open Go Go.al
namespace ab
theorem WN (n:Int)(K:J->Prop)(h:Bs.T [.d (.int .i64 n)] K):L4 n K:=by
 obtain⟨⟨U,aa⟩,ae⟩:=h;unfold L4 bX;refine⟨fun h=> ?_,fun h=> ?_⟩
 ·simp only[aoD]at h;rw[aoy h,aoy h]at ae;exact ae
 ·simp only[aoC]at h;rw[aox h,aox h]at ae
  obtain⟨q,rfl⟩:∃q:Nat,n=q:=⟨n.toNat,by omega⟩
  have e:cL .and .i64 (q:Int) 4294967295=((q%4294967296:Nat):Int):=ae4 q 32 (by omega) (by decide);have aL:Int.fdiv (q:Int) 4294967296=((q/4294967296:Nat):Int):=by rw[apg _ (by omega)];omega
  rw[e,aL,h1 (x:=((q%4294967296:Nat):Int)) (by omega),h1 (x:=((q/4294967296:Nat):Int)) (by omega)];have ax:bK [((q%4294967296:Nat):Int),((q/4294967296:Nat):Int)]:= .mk (by omega) (.mk (by omega) .nil);refine⟨⟨ax,by simp⟩, ?_⟩;rw[Sx ax,aoB,aoB,Nat.mod_add_div];rw[aoB]at ae;exact ae
theorem aa5 (a b:List Int)(K:J->Prop)(h:CF.T [.d (.ad .u32 a), .d (.ad .u32 b)] K):NP a b K:=by
 obtain⟨⟨aR,ag⟩,ae⟩:=h;have hb:=ju aR;have k2:=ju ag;have kW:=aR.2;have ep:=ag.2;unfold NP ah aT bX
 have pq:cmp (val a) (val b)<0↔val a<val b:=by
  unfold cmp;split
  ·simp[*]
  ·split<;>simp[*]
 refine⟨⟨aR,ag⟩,fun h=> ?_,fun h=>⟨aR,ag, ?_⟩⟩
 ·simp only[aoD]at h;rw[aoy (pq.1 h),aoy (pq.1 h)]at ae;exact ae
 ·simp only[aoC]at h;have ja:¬val a<val b:=fun ai=>h (pq.2 ai);rw[aox ja,aox ja]at ae
  have JF:(aQ (val b)).length<=(aQ (val a)).length:=by
   rw[hQ];have:=hQ.1 (aoE (aQ (val a)).length);omega
  have dE:=gq (val a);have ey:=gq (val b);have nE:=ef (val a);have m8:=ef (val b);rw[<-nE,<-m8]at ae ja;generalize aQ (val a)=A at*;generalize aQ (val b)=B at*;refine⟨fun c i o bz=>bz=B/\bK o/\o.length=A.length/\∃C i0:Nat,c=C/\i=i0/\i0<=A.length/\C<=1/\val o+dt B i0=val A+4294967296^i0*C,fun c i o bz=>A.length-i.toNat,⟨rfl,dE,rfl,0,0,rfl,rfl,by omega,by omega,by rw[iC,ao4]⟩, ?_⟩;rintro c i o bz ⟨rfl,aF,gf,C,n,rfl,rfl,av,l1,ay⟩;rw[gf];refine⟨fun h=> ?_,fun h=> ?_⟩
  ·simp only[aoD]at h;have aA:IntKind.wrap .i64 ((n:Int)+1)=((n+1:Nat):Int):=by rw[bR (by omega)];omega
   simp only[aA,aoB,ik ey,ik aF];have ai:=fO aF n;have bp:=fO ey n;have Aw:¬n<bz.length->lm bz n=0:=fun h=>by unfold lm;rw[yw (by omega)];rfl
   obtain⟨x,hk⟩:∃x,lm o n=x:=⟨_,rfl⟩
   obtain⟨y,nF⟩:∃x,lm bz n=x:=⟨_,rfl⟩
   rw[hk]at ai;rw[nF]at bp Aw;simp only[hk,nF];refine⟨fun v=>v=((C+y:Nat):Int),⟨fun U=> ?_,fun U=> ?_⟩, ?_⟩
   ·simp only[aoD]at U;refine⟨by omega,U,by first|rfl|trivial,by first|rfl|trivial, ?_⟩;rw[cP (x:=(y:Int)) (by omega),cP (by omega)];omega
   ·simp only[aoC]at U;refine⟨by first|rfl|trivial,by first|rfl|trivial, ?_⟩;rw[Aw (by omega)];rfl
   rintro v rfl;have w1:IntKind.wrap .u64 (x:Int)=(x:Int):=cP (by omega);have db:IntKind.wrap .u64 ((x:Int)+4294967296)=(x:Int)+4294967296:=cP (by omega);simp only[w1,db]
   have key:∀st ng:Nat,st<4294967296->ng<=1->st+y+C=x+4294967296*ng->
    val (o.set n (st:Int))+dt bz (n+1)=val A+4294967296^(n+1)*ng:=fun st ng U aa az=>by
    have ks:=l_ o n (st:Int) (by omega);rw[show(o.getD n 0).toNat=x from hk,aoB]at ks;have aW:=apb (4294967296^n*·) az;simp only[aoO]at aW;rw[gr,show(bz.getD n 0).toNat=y from nF,ao2,apa];omega
   refine⟨by omega,by omega,fun aa=>⟨by omega,by omega, ?_, ?_⟩,fun aa=>⟨by omega,by omega, ?_, ?_⟩⟩
   ·simp only[aoD]at aa
    have bX:IntKind.wrap .u32 (IntKind.wrap .u64 ((x:Int)+4294967296-((C+y:Nat):Int)))=((x+4294967296-C-y:Nat):Int):=by
     rw[cP (by omega),h1 (by omega)];omega
    rw[bX];exact⟨by first|rfl|trivial,aF.set _ ⟨by omega,by omega⟩,by rw[aoI];exact gf,1,n+1,rfl,rfl,by omega,by omega,key _ 1 (by omega) (by omega) (by omega)⟩
   ·show A.length-((n+1:Nat):Int).toNat<A.length-(n:Int).toNat;omega
   ·simp only[aoC]at aa
    have bX:IntKind.wrap .u32 (IntKind.wrap .u64 ((x:Int)-((C+y:Nat):Int)))=((x-C-y:Nat):Int):=by
     rw[cP (by omega),h1 (by omega)];omega
    rw[bX];exact⟨by first|rfl|trivial,aF.set _ ⟨by omega,by omega⟩,by rw[aoI];exact gf,0,n+1,rfl,rfl,by omega,by omega,key _ 0 (by omega) (by omega) (by omega)⟩
   ·show A.length-((n+1:Nat):Int).toNat<A.length-(n:Int).toNat;omega
  ·simp only[aoC]at h;obtain rfl:n=A.length:=by omega
   refine⟨⟨aF,by omega⟩, ?_⟩;rw[ht bz JF]at ay;have bG:=iD aF;rw[gf]at bG
   have Ai:C=0:=by
    rcases ap6 C with bc|bc
    ·exact bc
    ·obtain rfl:C=1:=by omega
     rw[ao6]at ay;omega
   rw[Ai,ao4,aoW]at ay;have:val o=val A-val bz:=by omega
   rw[this];exact ae
theorem afb (p q s:Nat)(a_:q<2^s)(h:p*2^s+q<18446744073709551616):cL .or .u64 ((p*2^s:Nat):Int) (q:Int)=((p*2^s+q:Nat):Int):=IZ p q s a_ h
theorem X9 (a:List Int)(k:Int)(K:af->Prop)(h:BN.T [.d (.ad .u32 a), .d (.int .i64 k)] K):MR a k K:=by
 obtain⟨⟨aR,tp,iN⟩,ae⟩:=h;have hb:=aR.2
 obtain⟨s,rfl⟩:∃n:Nat,k=n:=⟨k.toNat,by omega⟩
 rw[aoB]at ae;unfold MR ah aT bX aO;have hG:IntKind.wrap .i64 ((Nat.cast:Nat->Int) a.length+1)=((a.length+1:Nat):Int):=by rw[bR (by omega)];omega
 have bV:IntKind.wrap .u64 (s:Int)=(s:Int):=cP (by omega);rw[hG];simp only[bV,aoB,show min s 64=s by omega];have Fw:2^s<=2147483648:=apf (show 0<2 by decide) (show s<=31 by omega);have aE:=apw s;refine⟨by omega,by omega,by omega,fun c i o=>bK o/\o.length=a.length+1/\∃C n:Nat,c=C/\i=n/\n<=a.length/\C<2^s/\dt o n+4294967296^n*C=dt a n*2^s,fun c i o=>a.length-i.toNat,⟨bK.nm _,by simp,0,0,rfl,rfl,by omega,aE,by rw[iC,iC,ao4,apT]⟩, ?_⟩;rintro c i o ⟨aF,gf,C,n,rfl,rfl,av,l1,ay⟩;refine⟨fun h=> ?_,fun h=> ?_⟩
 ·simp only[aoD]at h;have aA:IntKind.wrap .i64 ((n:Int)+1)=((n+1:Nat):Int):=by rw[bR (by omega)];omega
  simp only[aA,aoB,ik aR.1];have a8:=fO aR.1 n;have kt:(a.getD n 0).toNat=lm a n:=rfl
  obtain⟨d,iI⟩:∃d,lm a n=d:=⟨_,rfl⟩
  rw[iI]at a8 kt;simp only[iI];have bG:d*2^s<4294967296*2^s:=aqO a8 aE;have je:(2:Int)^s=((2^s:Nat):Int):=by simp
  have lI:d*2^s+C<4294967296*2^s:=by
   have:=aoP (2^s) (show d+1<=4294967296 by omega);rw[aoT,apM]at this;omega
  have w1:cL .or .u64 (IntKind.wrap .u64 (IntKind.wrap .u64 (d:Int)*(2:Int)^s)) (C:Int)=((d*2^s+C:Nat):Int):=by
   rw[cP (x:=(d:Int)) (by omega),je,<-apK,cP ⟨apx _,by omega⟩];exact afb d C s l1 (by omega)
  simp only[w1]
  obtain⟨S,h7,TF⟩:∃S,d*2^s+C=S/\S<4294967296*2^s:=⟨_,rfl,lI⟩
  simp only[h7];have db:IntKind.wrap .u32 (S:Int)=((S%4294967296:Nat):Int):=by rw[ke];omega
  have bX:Int.fdiv (S:Int) 4294967296=((S/4294967296:Nat):Int):=by rw[apg _ (by omega)];omega
  simp only[db,bX];have bs:S/4294967296<2^s:=aqm TF;refine⟨by omega,by omega,by omega,by omega,by omega,⟨aF.set _ ⟨by omega,by omega⟩,by rw[aoI];exact gf,S/4294967296,n+1,rfl,rfl,by omega,bs, ?_⟩,by show a.length-((n+1:Nat):Int).toNat<a.length-(n:Int).toNat;omega⟩;rw[gr,rf _ _ _ _ (aoE _),eu,aoy ⟨rfl,by omega⟩,aoB,gr,kt,aoT,<-ay,apa,ao2,apa]
  have bA:4294967296^n*(d*2^s)+4294967296^n*C=4294967296^n*(S%4294967296)+4294967296^n*(4294967296*(S/4294967296)):=by
   rw[<-aoO,<-aoO,h7,Nat.mod_add_div]
  omega
 ·simp only[aoC]at h;obtain rfl:n=a.length:=by omega
  have db:IntKind.wrap .u32 (C:Int)=(C:Int):=h1 (by omega);simp only[db,aoB];rw[ht a (aoE _)]at ay
  have aP:val (o.set a.length (C:Int))=val a*2^s:=by
   rw[<-ht (o.set a.length (C:Int)) (i:=a.length+1) (by rw[aoI];omega),gr,rf _ _ _ _ (aoE _),eu,aoy ⟨rfl,by omega⟩,aoB];exact ay
  have ax:(o.set a.length (C:Int)).length=a.length+1:=by rw[aoI];exact gf
  rw[<-aP,<-ax,HV _ (aF.set _ ⟨by omega,by omega⟩) rfl]at ae;exact⟨by omega,by omega,ae⟩
theorem afc (p q s:Nat)(a_:q<2^s)(h:p*2^s+q<18446744073709551616):cL .or .u64 (q:Int) ((p*2^s:Nat):Int)=((p*2^s+q:Nat):Int):=by
 rw[Oz];exact IZ p q s a_ h
theorem WO (a:List Int)(k:Int)(K:J->Prop)(h:Bt.T [.d (.ad .u32 a), .d (.int .i64 k)] K):L3 a k K:=by
 obtain⟨⟨pf,tp,iN⟩,ae⟩:=h;have aR:=pf.1;have hb:=pf.2
 obtain⟨s,rfl⟩:∃n:Nat,k=n:=⟨k.toNat,by omega⟩
 rw[aoB]at ae;unfold L3 ah aT bX aO;have bV:IntKind.wrap .u64 (s:Int)=(s:Int):=cP (by omega);have agI:s<32:=by omega
 simp only[bV,aoB,show min s 64=s by omega,ik aR];refine⟨by omega,by omega,by omega,fun i o=>bK o/\o.length=a.length/\∃n:Nat,i=n/\n<=a.length/\dt o n=val a/2^s%4294967296^n,fun i o=>a.length-i.toNat,⟨bK.nm _,by simp,0,rfl,by omega,by rw[iC,aqg,Nat.mod_one]⟩, ?_⟩;rintro i o ⟨aF,gf,n,rfl,av,aP⟩;refine⟨fun h=> ?_,fun h=> ?_⟩
 ·simp only[aoD]at h;have aA:IntKind.wrap .i64 ((n:Int)+1)=((n+1:Nat):Int):=by rw[bR (by omega)];omega
  simp only[aA,aoB];have ai:=fO aR n;have bp:=fO aR (n+1);have Aw:¬n+1<a.length->lm a (n+1)=0:=fun h=>by unfold lm;rw[yw (by omega)];rfl
  have Ka:ew a n=lm a n+4294967296*(lm a (n+1)+4294967296*ew a (n+2)):=by rw[mo a n,mo a (n+1)]
  obtain⟨x,hk⟩:∃x,lm a n=x:=⟨_,rfl⟩
  obtain⟨y,nF⟩:∃x,lm a (n+1)=x:=⟨_,rfl⟩
  rw[hk]at ai Ka;rw[nF]at bp Aw Ka;simp only[hk,nF];have er:IntKind.wrap .u64 (x:Int)=(x:Int):=cP (by omega)
  have w1:IntKind.wrap .u64 (IntKind.wrap .u64 (y:Int)*4294967296)=((y*2^32:Nat):Int):=by
   have tn:(2:Nat)^32=4294967296:=rfl;rw[cP (x:=(y:Int)) (by omega),cP (by omega),tn];omega
  have db:cL .or .u64 (x:Int) ((y*2^32:Nat):Int)=((y*4294967296+x:Nat):Int):=afc y x 32 (by have tn:(2:Nat)^32=4294967296:=rfl;omega) (by have tn:(2:Nat)^32=4294967296:=rfl;omega);simp only[er,w1,db];refine⟨by omega,by omega,fun v=>v=((y*4294967296+x:Nat):Int),⟨fun U=> ?_,fun U=> ?_⟩, ?_⟩
  ·simp only[aoD]at U;exact⟨by omega,U,by first|rfl|trivial,rfl⟩
  ·simp only[aoC]at U;refine⟨by first|rfl|trivial, ?_⟩;rw[Aw (by omega),apT,ao8]
  rintro v rfl;have je:(2:Int)^s=((2^s:Nat):Int):=by simp
  have bX:Int.fdiv ((y*4294967296+x:Nat):Int) ((2:Int)^s)=(((y*4294967296+x)/2^s:Nat):Int):=by
   rw[je,apg _ (apx _),aqr]
  have j_:IntKind.wrap .u32 (((y*4294967296+x)/2^s:Nat):Int)=(((y*4294967296+x)/2^s%4294967296:Nat):Int):=by
   rw[ke,aqM];rfl
  simp only[bX,j_]
  have IB:(y*4294967296+x)/2^s%4294967296=val a/2^s/4294967296^n%4294967296:=by
   rw[MP (A:=ew a (n+2)) agI,<-Ka,<-Im aR n,Nat.div_div_eq_div_mul,Nat.div_div_eq_div_mul,ao9]
  rw[IB];have ic:val a/2^s/4294967296^n%4294967296<4294967296:=aph _ (by decide);refine⟨by omega,by omega,by omega,⟨aF.set _ ⟨apx _,by omega⟩,by rw[aoI];exact gf,n+1,rfl,by omega, ?_⟩,by show a.length-((n+1:Nat):Int).toNat<a.length-(n:Int).toNat;omega⟩;rw[gr,rf _ _ _ _ (aoE _),eu,aoy ⟨rfl,by omega⟩,aoB,aP,ao2,Nat.mod_mul]
 ·simp only[aoC]at h;obtain rfl:n=a.length:=by omega
  rw[ht o (by omega),apv (ap4 (aqZ _ _) (iD aR))]at aP;refine⟨⟨aF,by omega⟩, ?_⟩;rw[aP];exact ae
end ab
end
section
open Go Go.al
namespace ab
def Ln:(J->Prop)->Prop:=
 fun K=>True/\∀x,x=br (if(0:Int)<=(0:Int)/\(0:Int)<(8:Int)then[(df.set (0:Nat) (1:Int),kk)]else[])->∀aV,aV=(0:Int)->True/\∀aS,aS=br (if(0:Int)<=(1:Int)/\(1:Int)<(8:Int)then[(df.set (1:Nat) (1:Int),kk)]else[])->∀bo,bo=(0:Int)->o4 x aS/\∀cp,cp=br (if eT x aS=true then nrm (List.map aM x++List.map aM aS)else[])->∀c8,(c8=if eT x aS=true then(0:Int)else(2:Int))->o4 x aS/\∀c5,c5=br (if eT x aS=true then nrm (List.map aM x++eN (-1:Rat) (List.map aM aS))else[])->∀dm,(dm=if eT x aS=true then(0:Int)else(2:Int))->Ei cp c5/\∀x,x=br (if rB cp c5=true then nrm (da (List.map aM cp) (List.map aM c5))else[])->∀dx,(dx=if eT cp c5=true then if na (nrm (List.map aM cp)) (nrm (List.map aM c5))=true then(9:Int)else(0:Int)else(2:Int))->(x=[[R.int .i64 (2:Int),R.int .i64 (0:Int),R.int .i64 (0:Int),R.int .i64 (0:Int),R.int .i64 (0:Int),R.int .i64 (0:Int),R.int .i64 (0:Int),R.int .i64 (0:Int),R.bool false,R.ad .u32 [(1:Int)],R.ad .u32 [(1:Int)]],[R.int .i64 (0:Int),R.int .i64 (2:Int),R.int .i64 (0:Int),R.int .i64 (0:Int),R.int .i64 (0:Int),R.int .i64 (0:Int),R.int .i64 (0:Int),R.int .i64 (0:Int),R.bool true,R.ad .u32 [(1:Int)],R.ad .u32 [(1:Int)]]]/\[[R.str [(112:Int)]],[R.str [(113:Int)]]]=[[R.str [(112:Int)]],[R.str [(113:Int)]]])/\∀x,x=[(112:Int),(94:Int),(50:Int),(32:Int),(45:Int),(32:Int),(113:Int),(94:Int),(50:Int)]->∀dN,dN=(0:Int)->(decide (aV=(0:Int))=true->(decide (bo=(0:Int))=true->(decide (c8=(0:Int))=true->(decide (dm=(0:Int))=true->(decide (dx=(0:Int))=true->(decide (dN=(0:Int))=true->K (J.d (R.bool (decide (x=[(112:Int),(94:Int),(50:Int),(32:Int),(45:Int),(32:Int),(113:Int),(94:Int),(50:Int)])))))/\(decide (dN=(0:Int))=false->K (J.d (R.bool false))))/\(decide (dx=(0:Int))=false->K (J.d (R.bool false))))/\(decide (dm=(0:Int))=false->K (J.d (R.bool false))))/\(decide (c8=(0:Int))=false->K (J.d (R.bool false))))/\(decide (bo=(0:Int))=false->K (J.d (R.bool false))))/\(decide (aV=(0:Int))=false->K (J.d (R.bool false)))
end ab
end
section
open Go Go.al
namespace ab
def Gm:(J->Prop)->Prop:=
 fun K=>(0:Int)<=(2:Int)/\(2:Int)<=(3:Int)/\(3:Int)<=(36:Int)/\K (J.d (R.str (List.drop (2:Nat) (List.take (3:Nat) (have y:=have y:=have y:=[(118:Int),(119:Int),(120:Int),(121:Int),(122:Int)];(114:Int)::(115:Int)::(116:Int)::(117:Int)::y;have y:=(109:Int)::(110:Int)::(111:Int)::(112:Int)::(113:Int)::y;(105:Int)::(106:Int)::(107:Int)::(108:Int)::y;have y:=have y:=(100:Int)::(101:Int)::(102:Int)::(103:Int)::(104:Int)::y;(57:Int)::(97:Int)::(98:Int)::(99:Int)::y;have y:=(52:Int)::(53:Int)::(54:Int)::(55:Int)::(56:Int)::y;(48:Int)::(49:Int)::(50:Int)::(51:Int)::y)))))
def LY:(J->Prop)->Prop:=
 fun K=>(2:Int)=(2:Int)/\K (J.d (R.str [(50:Int)]))
def Ld:(J->Prop)->Prop:=
 fun K=>((2:Int)=(2:Int)/\(10:Int)=(10:Int))/\K (J.d (R.str [(50:Int)]))
def Gl:(J->Prop)->Prop:=
 fun K=>(2:Int)=(2:Int)/\K (J.d (R.str [(50:Int)]))
def Gp:List Int->List Int->(J->Prop)->Prop:=
 fun x s K=>(0:Int)<=(0:Int)/\(0:Int)<↑[[R.str x]].length/\([R.str x].getD (0:Nat) R.undef).isStr/\K (J.d (R.str x))
def Gn:(J->Prop)->Prop:=
 fun K=>[gK,gL]=[gK,gL]/\[gK,gL]=[gK,gL]/\(0:Int)<=(0:Int)/\(0:Int)<(2:Int)/\(11:Nat)=(11:Nat)/\(List.getD gK (8:Nat) R.undef).isBool/\(List.getD gK (9:Nat) R.undef).eJ .u32/\(List.getD gK (10:Nat) R.undef).eJ .u32/\([(1:Int)]=[(1:Int)]/\[(1:Int)]=[(1:Int)])/\(List.getD gK (8:Nat) R.undef).isBool/\(List.getD gK (9:Nat) R.undef).eJ .u32/\(List.getD gK (10:Nat) R.undef).eJ .u32/\(11:Nat)=(11:Nat)/\(∀(x:R),x∈List.take (8:Nat) gK->x.dd .i64)/\(∀(x:R),x∈[R.int .i64 (0:Int),R.int .i64 (0:Int),R.int .i64 (0:Int),R.int .i64 (0:Int),R.int .i64 (0:Int),R.int .i64 (0:Int),R.int .i64 (0:Int),R.int .i64 (0:Int)]->x.dd .i64)/\(decide (List.map R.toInt (List.take (8:Nat) gK)=List.map R.toInt [R.int .i64 (0:Int),R.int .i64 (0:Int),R.int .i64 (0:Int),R.int .i64 (0:Int),R.int .i64 (0:Int),R.int .i64 (0:Int),R.int .i64 (0:Int),R.int .i64 (0:Int)])=true->(bO (1000000:Nat) [(1:Int)]/\bO (1000000:Nat) [(1:Int)])/\(16:Int)<=(70368744177664:Int)/\(11:Nat)=(11:Nat)/\(0:Int)<=(0:Int)/\(0:Int)<(8:Int)/\((List.take (8:Nat) gK).getD (0:Nat) R.undef).dd .i64/\(0:Int)<=(0:Int)/\(0:Int)<(2:Int)/\([R.str [(112:Int)]].getD (0:Nat) R.undef).isStr/\((List.take (8:Nat) gK).getD (0:Nat) R.undef).toInt=(2:Int)/\(2:Int)<=(9223372036854775807:Int)/\(3:Int)<=(9223372036854775807:Int)/\(32:Int)<=(70368744177664:Int)/\(0:Int)<=(1:Int)/\(1:Int)<(8:Int)/\((List.take (8:Nat) gK).getD (1:Nat) R.undef).dd .i64/\(0:Int)<=(2:Int)/\(2:Int)<(8:Int)/\((List.take (8:Nat) gK).getD (2:Nat) R.undef).dd .i64/\(0:Int)<=(3:Int)/\(3:Int)<(8:Int)/\((List.take (8:Nat) gK).getD (3:Nat) R.undef).dd .i64/\(0:Int)<=(4:Int)/\(4:Int)<(8:Int)/\((List.take (8:Nat) gK).getD (4:Nat) R.undef).dd .i64/\(0:Int)<=(5:Int)/\(5:Int)<(8:Int)/\((List.take (8:Nat) gK).getD (5:Nat) R.undef).dd .i64/\(0:Int)<=(6:Int)/\(6:Int)<(8:Int)/\((List.take (8:Nat) gK).getD (6:Nat) R.undef).dd .i64/\(0:Int)<=(7:Int)/\(7:Int)<(8:Int)/\((List.take (8:Nat) gK).getD (7:Nat) R.undef).dd .i64/\False)/\(decide (List.map R.toInt (List.take (8:Nat) gK)=List.map R.toInt [R.int .i64 (0:Int),R.int .i64 (0:Int),R.int .i64 (0:Int),R.int .i64 (0:Int),R.int .i64 (0:Int),R.int .i64 (0:Int),R.int .i64 (0:Int),R.int .i64 (0:Int)])=false->(1:Int)=(1:Int)/\((false=false/\false=false)/\[(1:Int)]=[(1:Int)]/\[(1:Int)]=[(1:Int)]/\[(1:Int)]=[(1:Int)]/\[(1:Int)]=[(1:Int)])/\(11:Nat)=(11:Nat)/\(0:Int)<=(0:Int)/\(0:Int)<(8:Int)/\((List.take (8:Nat) gK).getD (0:Nat) R.undef).dd .i64/\(0:Int)<=(0:Int)/\(0:Int)<(2:Int)/\([R.str [(112:Int)]].getD (0:Nat) R.undef).isStr/\((List.take (8:Nat) gK).getD (0:Nat) R.undef).toInt=(2:Int)/\(2:Int)<=(9223372036854775807:Int)/\(3:Int)<=(9223372036854775807:Int)/\(16:Int)<=(70368744177664:Int)/\(0:Int)<=(1:Int)/\(1:Int)<(8:Int)/\((List.take (8:Nat) gK).getD (1:Nat) R.undef).dd .i64/\(0:Int)<=(2:Int)/\(2:Int)<(8:Int)/\((List.take (8:Nat) gK).getD (2:Nat) R.undef).dd .i64/\(0:Int)<=(3:Int)/\(3:Int)<(8:Int)/\((List.take (8:Nat) gK).getD (3:Nat) R.undef).dd .i64/\(0:Int)<=(4:Int)/\(4:Int)<(8:Int)/\((List.take (8:Nat) gK).getD (4:Nat) R.undef).dd .i64/\(0:Int)<=(5:Int)/\(5:Int)<(8:Int)/\((List.take (8:Nat) gK).getD (5:Nat) R.undef).dd .i64/\(0:Int)<=(6:Int)/\(6:Int)<(8:Int)/\((List.take (8:Nat) gK).getD (6:Nat) R.undef).dd .i64/\(0:Int)<=(7:Int)/\(7:Int)<(8:Int)/\((List.take (8:Nat) gK).getD (7:Nat) R.undef).dd .i64/\True/\(3:Nat)<=(1000000000:Nat)/\(0:Int)<=(1:Int)/\(1:Int)<(2:Int)/\(11:Nat)=(11:Nat)/\(List.getD gL (8:Nat) R.undef).isBool/\(List.getD gL (9:Nat) R.undef).eJ .u32/\(List.getD gL (10:Nat) R.undef).eJ .u32/\([(1:Int)]=[(1:Int)]/\[(1:Int)]=[(1:Int)])/\(6:Nat)<=(1000000000:Nat)/\(List.getD gL (8:Nat) R.undef).isBool/\(List.getD gL (9:Nat) R.undef).eJ .u32/\(List.getD gL (10:Nat) R.undef).eJ .u32/\(11:Nat)=(11:Nat)/\(∀(x:R),x∈List.take (8:Nat) gL->x.dd .i64)/\(∀(x:R),x∈[R.int .i64 (0:Int),R.int .i64 (0:Int),R.int .i64 (0:Int),R.int .i64 (0:Int),R.int .i64 (0:Int),R.int .i64 (0:Int),R.int .i64 (0:Int),R.int .i64 (0:Int)]->x.dd .i64)/\(decide (List.map R.toInt (List.take (8:Nat) gL)=List.map R.toInt [R.int .i64 (0:Int),R.int .i64 (0:Int),R.int .i64 (0:Int),R.int .i64 (0:Int),R.int .i64 (0:Int),R.int .i64 (0:Int),R.int .i64 (0:Int),R.int .i64 (0:Int)])=true->(bO (1000000:Nat) [(1:Int)]/\bO (1000000:Nat) [(1:Int)])/\(16:Int)<=(70368744177664:Int)/\(11:Nat)=(11:Nat)/\(0:Int)<=(0:Int)/\(0:Int)<(8:Int)/\((List.take (8:Nat) gL).getD (0:Nat) R.undef).dd .i64/\(0:Int)<=(1:Int)/\(1:Int)<(8:Int)/\((List.take (8:Nat) gL).getD (1:Nat) R.undef).dd .i64/\(0:Int)<=(1:Int)/\(1:Int)<(2:Int)/\([R.str [(113:Int)]].getD (0:Nat) R.undef).isStr/\((List.take (8:Nat) gL).getD (1:Nat) R.undef).toInt=(2:Int)/\(2:Int)<=(9223372036854775807:Int)/\(3:Int)<=(9223372036854775807:Int)/\(32:Int)<=(70368744177664:Int)/\(0:Int)<=(2:Int)/\(2:Int)<(8:Int)/\((List.take (8:Nat) gL).getD (2:Nat) R.undef).dd .i64/\(0:Int)<=(3:Int)/\(3:Int)<(8:Int)/\((List.take (8:Nat) gL).getD (3:Nat) R.undef).dd .i64/\(0:Int)<=(4:Int)/\(4:Int)<(8:Int)/\((List.take (8:Nat) gL).getD (4:Nat) R.undef).dd .i64/\(0:Int)<=(5:Int)/\(5:Int)<(8:Int)/\((List.take (8:Nat) gL).getD (5:Nat) R.undef).dd .i64/\(0:Int)<=(6:Int)/\(6:Int)<(8:Int)/\((List.take (8:Nat) gL).getD (6:Nat) R.undef).dd .i64/\(0:Int)<=(7:Int)/\(7:Int)<(8:Int)/\((List.take (8:Nat) gL).getD (7:Nat) R.undef).dd .i64/\False)/\(decide (List.map R.toInt (List.take (8:Nat) gL)=List.map R.toInt [R.int .i64 (0:Int),R.int .i64 (0:Int),R.int .i64 (0:Int),R.int .i64 (0:Int),R.int .i64 (0:Int),R.int .i64 (0:Int),R.int .i64 (0:Int),R.int .i64 (0:Int)])=false->(1:Int)=(1:Int)/\((false=false/\false=false)/\[(1:Int)]=[(1:Int)]/\[(1:Int)]=[(1:Int)]/\[(1:Int)]=[(1:Int)]/\[(1:Int)]=[(1:Int)])/\(11:Nat)=(11:Nat)/\(0:Int)<=(0:Int)/\(0:Int)<(8:Int)/\((List.take (8:Nat) gL).getD (0:Nat) R.undef).dd .i64/\(0:Int)<=(1:Int)/\(1:Int)<(8:Int)/\((List.take (8:Nat) gL).getD (1:Nat) R.undef).dd .i64/\(0:Int)<=(1:Int)/\(1:Int)<(2:Int)/\([R.str [(113:Int)]].getD (0:Nat) R.undef).isStr/\((List.take (8:Nat) gL).getD (1:Nat) R.undef).toInt=(2:Int)/\(2:Int)<=(9223372036854775807:Int)/\(3:Int)<=(9223372036854775807:Int)/\(16:Int)<=(70368744177664:Int)/\(0:Int)<=(2:Int)/\(2:Int)<(8:Int)/\((List.take (8:Nat) gL).getD (2:Nat) R.undef).dd .i64/\(0:Int)<=(3:Int)/\(3:Int)<(8:Int)/\((List.take (8:Nat) gL).getD (3:Nat) R.undef).dd .i64/\(0:Int)<=(4:Int)/\(4:Int)<(8:Int)/\((List.take (8:Nat) gL).getD (4:Nat) R.undef).dd .i64/\(0:Int)<=(5:Int)/\(5:Int)<(8:Int)/\((List.take (8:Nat) gL).getD (5:Nat) R.undef).dd .i64/\(0:Int)<=(6:Int)/\(6:Int)<(8:Int)/\((List.take (8:Nat) gL).getD (6:Nat) R.undef).dd .i64/\(0:Int)<=(7:Int)/\(7:Int)<(8:Int)/\((List.take (8:Nat) gL).getD (7:Nat) R.undef).dd .i64/\True/\(9:Nat)<=(1000000000:Nat)/\¬[]++([(112:Int)]++([(94:Int)]++[(50:Int)]))++[(32:Int),(45:Int),(32:Int)]++([(113:Int)]++([(94:Int)]++[(50:Int)]))=[]/\K (J.tup [J.d (R.str ([]++([(112:Int)]++([(94:Int)]++[(50:Int)]))++[(32:Int),(45:Int),(32:Int)]++([(113:Int)]++([(94:Int)]++[(50:Int)])))),J.d (R.int .i64 (0:Int))])))
end ab
end
section
open Go Go.al
namespace ab
theorem Ve (K:J->Prop)(h:rh.T [.d (.int .i64 2)] K):Gm K:=by
 obtain⟨_,ae⟩:=h;unfold Gm;exact⟨by decide,by decide,by decide,ae⟩
theorem V6 (K:J->Prop)(h:rh.T [.d (.int .i64 2)] K):LY K:=h
theorem Vi (K:J->Prop)(h:rh.T [.d (.int .i64 2)] K):Ld K:=⟨⟨rfl,rfl⟩,h.2⟩
theorem Va (K:J->Prop)(h:yB.T [.d (.int .i64 2), .d (.int .i64 10)] K):Gl K:=by
 obtain⟨_,ae⟩:=h;unfold Gl;simpa using ae
theorem V7 (x s:List Int)(K:J->Prop)(h:y1.T [.d (.ar 1 [[.str x]]), .d (.str s)] K):Gp x s K:=by
 obtain⟨_,ae⟩:=h;unfold Gp;simpa[R.isStr]using ae
theorem VD (K:J->Prop)(h:yC.T [.d (.ar 11 qi), .d (.ar 1 zD)] K):Gn K:=by
 obtain⟨_,ae⟩:=h;unfold Gn;simp[R.dd,R.isBool,R.eJ,R.isStr,R.toInt];exact ae
end ab
end
section
open Go Go.al
namespace ab
theorem Cp:cj 1=[1]:=by unfold cj;exact pN
theorem DL:ca 1=[1]:=by unfold ca;exact pN
theorem H_:cj (-1)=[1]:=by unfold cj;exact pN
theorem Ia:ca (-1)=[1]:=by unfold ca;exact pN
theorem Vt (K:J->Prop)(h:Cl.T [] K):Ln K:=by
 obtain⟨_,ae⟩:=h;unfold Ln;rw[aoy (show(0:Int)<=0/\(0:Int)<8 by decide),aoy (show(0:Int)<=1/\(1:Int)<8 by decide)];refine⟨trivial, ?_⟩;rintro _ rfl _ rfl;refine⟨trivial, ?_⟩;rintro _ rfl _ rfl;have er:dA 1 [(df.set 0 1,kk)]:=yO (by decide);have w1:dA 1 [(df.set 1 1,kk)]:=yO (by decide);have hG:de 1024 [(df.set 0 1,kk)]:=zg (by decide);have aA:de 1024 [(df.set 1 1,kk)]:=zg (by decide);have e9:nrm ([(df.set 0 1,kk)]++[(df.set 1 1,kk)])=[(df.set 0 1,1),(df.set 1 1,1)]:=by decide+kernel
 have hM:nrm ([(df.set 0 1,kk)]++eN (-1) [(df.set 1 1,kk)])=[(df.set 0 1,1),(df.set 1 1,-1)]:=by decide+kernel
 have xR:nrm (da [(df.set 0 1,(1:Rat)),(df.set 1 1,1)] [(df.set 0 1,1),(df.set 1 1,-1)])=[(df.set 0 2,1),(df.set 1 2,-1)]:=by decide+kernel
 have ni:nrm [(df.set 0 1,(1:Rat)),(df.set 1 1,1)]=[(df.set 0 1,1),(df.set 1 1,1)]:=by decide+kernel
 have oI:nrm [(df.set 0 1,(1:Rat)),(df.set 1 1,-1)]=[(df.set 0 1,1),(df.set 1 1,-1)]:=by decide+kernel
 have db:dA 1 [(df.set 0 1,(1:Rat)),(df.set 1 1,1)]:=yO (by decide);have bX:dA 1 [(df.set 0 1,(1:Rat)),(df.set 1 1,-1)]:=yO (by decide);have aL:de 1024 [(df.set 0 1,(1:Rat)),(df.set 1 1,1)]:=zg (by decide);have b3:de 1024 [(df.set 0 1,(1:Rat)),(df.set 1 1,-1)]:=zg (by decide);have v1:=QX hG aA;have v2:=QX aL b3;have a0:=fb hG.len;have a1:=fb aA.len;have a2:=fb aL.len;have a3:=fb b3.len;have b6:na [(df.set 0 1,(1:Rat)),(df.set 1 1,1)] [(df.set 0 1,1),(df.set 1 1,-1)]=false:=by decide+kernel
 refine⟨QW er hG w1 aA (by decide) (by decide), ?_⟩;simp only[v1,ao_,a0,a1,e9,hM];rintro _ rfl _ rfl;refine⟨QW er hG w1 aA (by decide) (by decide), ?_⟩;rintro _ rfl _ rfl;refine⟨ad0 db aL bX b3 (by decide) (by decide), ?_⟩;simp only[rB,v2,a2,a3,ni,oI,b6,xR,Bool.not_false,Bool.and_true,ao_]
 have xN:br [(df.set 0 2,(1:Rat)),(df.set 1 2,-1)]=qi:=by
  show[dZ (df.set 0 2)++[.bool (cl 1), .ad .u32 (cj 1), .ad .u32 (ca 1)],dZ (df.set 1 2)++[.bool (cl (-1)), .ad .u32 (cj (-1)), .ad .u32 (ca (-1))]]=_;rw[Cp,DL,H_,Ia];rfl
 rintro x ai _ rfl;refine⟨⟨ai.trans xN,trivial⟩, ?_⟩;rintro _ rfl _ rfl;simpa using ae
def Gj (i:Nat)(x:Int):List Int:=df.set i x
end ab
end
section
namespace ab
open Go Go.al Go.Sort
theorem SP (v:BitVec 64):(0:Int)<=(v.toNat:Int)/\(v.toNat:Int)<18446744073709551616:=by have:=v.isLt;omega
theorem agJ (a b:Int):cL .xor .u64 a b=((BitVec.ofInt 64 a^^^BitVec.ofInt 64 b).toNat:Int):=cP (SP _)
theorem agK (a b:Int):cL .and .u64 a b=((BitVec.ofInt 64 a&&&BitVec.ofInt 64 b).toNat:Int):=cP (SP _)
theorem ad7 (a b:Int):0<=cL .xor .u64 a b/\cL .xor .u64 a b<18446744073709551616:=by
 rw[agJ];have:=(BitVec.ofInt 64 a^^^BitVec.ofInt 64 b).isLt;omega
theorem ad8 (a:Int){b:Nat}(ag:b<18446744073709551616):0<=cL .and .u64 a b/\cL .and .u64 a b<=b:=by
 rw[agK,BitVec.toNat_and]
 have h:(BitVec.ofInt 64 (b:Int)).toNat=b:=by
  rw[aqt,aqN];exact apv ag
 rw[h];have:= @Nat.and_le_right (BitVec.ofInt 64 a).toNat b;omega
theorem Vy (x:Int)(K:af->J->Prop)(h:(0<=x/\x<18446744073709551616)/\∀y:Int,(0<=y/\y<18446744073709551616)->K (.cells [.d (.int .u64 y)]) (.d (.int .u64 y))):Vm x K:=
 h.2 _ (ad7 _ _)
theorem K6 (l:Rows)(a b s:Int)(K:af->J->Prop)
 (h:(c7 l/\0<=a/\a<(l.length:Int)/\0<=b/\b<(l.length:Int)/\0<=s/\s<1000)/\
   K (.cells [.d (.int .i64 (Go.Sort.order2 bk l.toArray a.toNat b.toNat s.toNat).2.2)]) (.tup [.d (.int .i64 (Go.Sort.order2 bk l.toArray a.toNat b.toNat s.toNat).1), .d (.int .i64 (Go.Sort.order2 bk l.toArray a.toNat b.toNat s.toNat).2.1)])):K2 l a b s K:=by
 obtain⟨⟨ax,aR,vn,ag,gD,ay,gd⟩,ae⟩:=h;obtain⟨A,rfl⟩:=aoG aR;obtain⟨B,rfl⟩:=aoG ag;obtain⟨S,rfl⟩:=aoG ay;simp only[aoB]at ae;unfold K2 ah aO List.aG;rw[bR (x:=(S:Int)+1) (by omega)];simp only[aoB];refine⟨ag,gD,ax.len (by omega),aR,vn,ax.len (by omega),⟨ax.get (by omega),ax.get (by omega)⟩, ?_⟩;rintro _ rfl;unfold order2 at ae;rw[jz]at ae;refine⟨fun h=> ?_,fun h=> ?_⟩
 ·rw[h]at ae;exact ae
 ·rw[h]at ae;exact ae
theorem SQ (l:Array Row){a b s n:Nat}(aR:a<n)(ag:b<n):(order2 bk l a b s).1<n/\(order2 bk l a b s).2.1<n:=by
 rcases order2_mem bk l a b s with⟨U,aa⟩|⟨U,aa⟩<;>rw[U,aa]<;>exact⟨by omega,by omega⟩
theorem K7 (l:Rows)(a b e s:Int)(K:af->J->Prop)
 (h:(c7 l/\(0<=a/\a<(l.length:Int))/\(0<=b/\b<(l.length:Int))/\(0<=e/\e<(l.length:Int))/\0<=s/\s<900)/\
   K (.cells [.d (.int .i64 (Go.Sort.median bk l.toArray a.toNat b.toNat e.toNat s.toNat).2)]) (.d (.int .i64 (Go.Sort.median bk l.toArray a.toNat b.toNat e.toNat s.toNat).1))):K3 l a b e s K:=by
 obtain⟨⟨ax,⟨aR,vn⟩,⟨ag,gD⟩,⟨he,JA⟩,ay,gd⟩,ae⟩:=h;obtain⟨A,rfl⟩:=aoG aR;obtain⟨B,rfl⟩:=aoG ag;obtain⟨E,rfl⟩:=aoG he;obtain⟨S,rfl⟩:=aoG ay;simp only[aoB]at ae;unfold median at ae;unfold K3 aO;simp only[aoB];have e3:=order2_count bk l.toArray A B S;have dC:= @SQ l.toArray A B S l.length (by omega) (by omega);refine⟨⟨ax,aR,vn,ag,gD,ay,by omega⟩, ?_⟩;rintro _ rfl _ rfl _ rfl;simp only[aoB];show(c7 l/\0<=(((order2 bk l.toArray A B S).2.1:Nat):Int)/\_)/\_;have eY:=order2_count bk l.toArray (order2 bk l.toArray A B S).2.1 E (order2 bk l.toArray A B S).2.2;have dD:= @SQ l.toArray (order2 bk l.toArray A B S).2.1 E (order2 bk l.toArray A B S).2.2 l.length dC.2 (by omega);refine⟨⟨ax,by omega, ?_,he,JA,by omega, ?_⟩, ?_⟩
 ·exact ap8.2 dC.2
 ·show(((order2 bk l.toArray A B S).2.2:Nat):Int)<1000;omega
 rintro _ rfl _ rfl _ rfl;simp only[aoB];refine⟨⟨ax,by omega,ap8.2 dC.1,by omega,ap8.2 dD.1,by omega, ?_⟩, ?_⟩
 ·show(((order2 bk l.toArray (order2 bk l.toArray A B S).2.1 E (order2 bk l.toArray A B S).2.2).2.2:Nat):Int)<1000;omega
 rintro _ rfl _ rfl _ rfl;exact ae
theorem KI (l:Rows)(a s:Int)(K:af->J->Prop)
 (h:(c7 l/\0<a/\a+1<(l.length:Int)/\l.length<1000000000000000/\0<=s/\s<900)/\
   K (.cells [.d (.int .i64 (Go.Sort.medianAdjacent bk l.toArray a.toNat s.toNat).2)]) (.d (.int .i64 (Go.Sort.medianAdjacent bk l.toArray a.toNat s.toNat).1))):KD l a s K:=by
 obtain⟨⟨ax,aR,vn,av,ay,gd⟩,ae⟩:=h;obtain⟨A,rfl⟩:=aoG (Int.le_of_lt aR);obtain⟨S,rfl⟩:=aoG ay;simp only[aoB]at ae;unfold medianAdjacent at ae;unfold KD ah aO;rw[bR (x:=(A:Int)-1) (by omega),bR (x:=(A:Int)+1) (by omega)];rw[show(A:Int)-1=((A-1:Nat):Int) by omega,show(A:Int)+1=((A+1:Nat):Int) by omega];simp only[aoB];refine⟨⟨ax,⟨by omega,by omega⟩,⟨by omega,by omega⟩,⟨by omega,by omega⟩,ay,gd⟩, ?_⟩;rintro _ rfl _ rfl;exact ae
theorem IH (l:Array Row){a s n:Nat}(aR:a+1<n):(medianAdjacent bk l a s).1<n:=by
 rcases medianAdjacent_mem bk l a s with h|h|h<;>omega
theorem aeH {K:J->Prop}{p s:Nat}(h:K (.tup [.d (.int .i64 p), .d (.int .i64 (hintCode (hintOf s)))])):
 (decide ((s:Int)=0)=true->K (.tup [.d (.int .i64 p), .d (.int .i64 1)]))/\(decide ((s:Int)=0)=false->
   (decide ((s:Int)=12)=true->K (.tup [.d (.int .i64 p), .d (.int .i64 2)]))/\(decide ((s:Int)=12)=false->K (.tup [.d (.int .i64 p), .d (.int .i64 0)]))):=by
 unfold hintOf at h;refine⟨fun U=> ?_,fun U=>⟨fun aa=> ?_,fun aa=> ?_⟩⟩<;>simp only[aoD,aoC]at*
 ·rw[aoy (by omega)]at h;exact h
 ·rw[aox (by omega),aoy (by omega)]at h;exact h
 ·rw[aox (by omega),aox (by omega)]at h;exact h
theorem KQ (l:Rows)(a b:Int)(K:J->Prop)
 (h:(fP l a b/\a<b)/\K (.tup [.d (.int .i64 (Go.Sort.choosePivot bk l.toArray a.toNat b.toNat).1), .d (.int .i64 (Go.Sort.hintCode (Go.Sort.choosePivot bk l.toArray a.toNat b.toNat).2))])):KM l a b K:=by
 obtain⟨⟨⟨ax,aR,-,ag,av⟩,jD⟩,ae⟩:=h;obtain⟨A,rfl⟩:=aoG aR;obtain⟨B,rfl⟩:=aoG (apY aR (Int.le_of_lt jD));simp only[aoB]at ae;rw[choosePivot_eq]at ae;unfold KM ah aO;rw[bR (x:=(B:Int)-A) (by omega)]
 have cX:Int.tdiv ((B:Int)-A) 4=(((B-A)/4:Nat):Int):=by
  rw[show(B:Int)-A=((B-A:Nat):Int) by omega];rfl
 rw[cX,bR (x:=(((B-A)/4:Nat):Int)) (by omega),bR (x:=(((B-A)/4:Nat):Int)*1) (by omega),bR (x:=(((B-A)/4:Nat):Int)*2) (by omega),bR (x:=(((B-A)/4:Nat):Int)*3) (by omega)];rw[bR (x:=(A:Int)+(((B-A)/4:Nat):Int)*1) (by omega),bR (x:=(A:Int)+(((B-A)/4:Nat):Int)*2) (by omega),bR (x:=(A:Int)+(((B-A)/4:Nat):Int)*3) (by omega)];rw[show(A:Int)+(((B-A)/4:Nat):Int)*1=((A+(B-A)/4*1:Nat):Int) by omega,show(A:Int)+(((B-A)/4:Nat):Int)*2=((A+(B-A)/4*2:Nat):Int) by omega,show(A:Int)+(((B-A)/4:Nat):Int)*3=((A+(B-A)/4*3:Nat):Int) by omega];have q1:8<=B-A->A<A+(B-A)/4*1/\A+(B-A)/4*3+1<B:=fun h=>by omega
 have cE:A+(B-A)/4*1<=A+(B-A)/4*2:=by omega
 have cS:A+(B-A)/4*2<=A+(B-A)/4*3:=by omega
 refine⟨fun p s=>∃fL:Nat,s=fL/\rawPivot bk l.toArray A B=(p.toNat,fL)/\0<=p, ?_, ?_⟩
 ·generalize E_:A+(B-A)/4*1=i1 at*;generalize Kb:A+(B-A)/4*2=i2 at*;generalize Uf:A+(B-A)/4*3=i3 at*;refine⟨fun h=> ?_,fun h=> ?_⟩
  ·have h:=aoJ h;obtain⟨q1,gx⟩:=q1 (by omega);refine⟨fun i j k s=>∃qB fS cy fL:Nat,i=qB/\j=fS/\k=cy/\s=fL/\qB<l.length/\fS<l.length/\cy<l.length/\fL<10/\rawPivot bk l.toArray A B=median bk l.toArray qB fS cy fL,⟨fun bA=> ?_,fun bA=> ?_⟩, ?_⟩
   ·have bA:=aoJ bA;have e3:=medianAdjacent_count bk l.toArray i1 0;refine⟨⟨ax,by omega,by omega,av,by omega,by omega⟩, ?_⟩;rintro _ rfl _ rfl;simp only[aoB];have eY:=medianAdjacent_count bk l.toArray i2 (medianAdjacent bk l.toArray i1 0).2;have j7:=medianAdjacent_count bk l.toArray i3 (medianAdjacent bk l.toArray i2 (medianAdjacent bk l.toArray i1 0).2).2;refine⟨⟨ax,by omega,by omega,av,by omega, ?_⟩, ?_⟩
    ·show(((medianAdjacent bk l.toArray i1 0).2:Nat):Int)<900;omega
    rintro _ rfl _ rfl;simp only[aoB];refine⟨⟨ax,by omega,by omega,av,by omega, ?_⟩, ?_⟩
    ·show(((medianAdjacent bk l.toArray i2 (medianAdjacent bk l.toArray i1 0).2).2:Nat):Int)<900;omega
    rintro _ rfl _ rfl;refine⟨_,_,_,_,rfl,rfl,rfl,rfl,IH _ (by omega),IH _ (by omega),IH _ (by omega), ?_, ?_⟩
    ·show(medianAdjacent bk l.toArray i3 (medianAdjacent bk l.toArray i2 (medianAdjacent bk l.toArray i1 0).2).2).2<10;omega
    unfold rawPivot;rw[E_,Kb,Uf,aoy (by omega),aoy (by omega)]
   ·have bA:=aoN bA;refine⟨_,_,_,0,rfl,rfl,rfl,rfl,by omega,by omega,by omega,by omega, ?_⟩;unfold rawPivot;rw[E_,Kb,Uf,aoy (by omega),aox (by omega)]
   rintro _ _ _ _ ⟨qB,fS,cy,fL,rfl,rfl,rfl,rfl,k9,z2,z3,z4,z5⟩;refine⟨⟨ax,⟨by omega,by omega⟩,⟨by omega,by omega⟩,⟨by omega,by omega⟩,by omega,by omega⟩, ?_⟩;rintro _ rfl _ rfl;simp only[aoB];exact⟨_,rfl,z5,apx _⟩
  ·have h:=aoN h;refine⟨0,rfl, ?_,by omega⟩;unfold rawPivot;rw[aox (by omega),Kb,aoB]
 ·rintro p _ ⟨s,rfl,e,aE⟩;obtain⟨P,rfl⟩:=aoG aE;rw[e,aoB]at ae;exact aeH ae
end ab
end
section
namespace ab
open Go Go.al Go.Sort
theorem ad9 {l:Rows}{A B i j:Nat}(ag:B<=l.length)(U:A<=i)(aa:i<B)(az:A<=j)(aW:j<B):PermIn A B l.toArray (dW l i j).toArray:=by
 rw[<-kK];exact swp_permIn l.toArray A B i j U aa az aW (by simpa using ag)
theorem KL (l:Rows)(a b:Int)(K:af->J->Prop)(h:fP l a b/\∀i,D4 l a b i->K (.ar 11 i) (.tup [])):KF l a b K:=by
 obtain⟨⟨ax,aR,jD,ag,av⟩,ae⟩:=h;obtain⟨A,rfl⟩:=aoG aR;obtain⟨B,rfl⟩:=aoG (apY aR jD);unfold KF ah aT List.aG;rw[bR (x:=(B:Int)-A) (by omega),show(B:Int)-A=((B-A:Nat):Int) by omega];refine⟨fun h=> ?_,fun h=>ae l ⟨ax,permIn_refl _ _ _⟩⟩;have h:=aoJ h;refine⟨by omega, ?_⟩;rw[aoB];have je:=ab4 (n:=B-A) (by omega);have lW:=adC (B-A);rintro _ rfl;generalize 2^c4 (B-A)=M at je lW;have cX:Int.tdiv ((B-A:Nat):Int) 4=(((B-A)/4:Nat):Int):=rfl;rw[cX,bR (x:=(((B-A)/4:Nat):Int)) (by omega),bR (x:=(((B-A)/4:Nat):Int)*2) (by omega),bR (x:=(A:Int)+(((B-A)/4:Nat):Int)*2) (by omega)];rw[bR (x:=(A:Int)+(((B-A)/4:Nat):Int)*2-1) (by omega),bR (x:=(A:Int)+(((B-A)/4:Nat):Int)*2+1) (by omega),cP (x:=(M:Int)-1) (by omega),cP (x:=((B-A:Nat):Int)) (by omega)];have hJ:A<A+(B-A)/4*2:=by omega
 have mv:A+(B-A)/4*2+1<B:=by omega
 rw[show(A:Int)+(((B-A)/4:Nat):Int)*2=((A+(B-A)/4*2:Nat):Int) by omega];generalize A+(B-A)/4*2=C at hJ mv;refine⟨fun v o r=>(A:Int)<=v/\v<=(C:Int)+2/\0<=r/\r<18446744073709551616/\c7 o/\o.length=l.length/\PermIn A B l.toArray o.toArray,fun v _ _=>((C:Int)+2-v).toNat,⟨by omega,by omega,by omega,by omega,ax,rfl,permIn_refl _ _ _⟩, ?_⟩;rintro v o r ⟨g1,g2,g3,g4,g5,g6,g7⟩;obtain⟨V,rfl⟩:=aoG (a:=v) (by omega);refine⟨fun h=> ?_,fun h=>ae o ⟨g5,g7⟩⟩;have h:=aoJ h;refine⟨⟨g3,g4⟩,fun i hi=> ?_⟩;have aR:=ad8 i (b:=M-1) (by omega);rw[show((M-1:Nat):Int)=(M:Int)-1 by omega]at aR;generalize cL .and .u64 i ((M:Int)-1)=q at aR;rw[bR (x:=q) (by omega)];refine⟨fun c6 cc=>cc=o/\0<=c6/\c6<((B-A:Nat):Int),⟨fun aa=> ?_,fun aa=> ?_⟩, ?_⟩
 ·have aa:=aoJ aa;rw[bR (x:=q-((B-A:Nat):Int)) (by omega)];exact⟨rfl,rfl,by omega,by omega⟩
 ·have aa:=aoN aa;exact⟨rfl,rfl,by omega,by omega⟩
 rintro c6 cc ⟨rfl,kz,lb⟩;obtain⟨W,rfl⟩:=aoG kz;rw[bR (x:=(A:Int)+W) (by omega),bR (x:=(V:Int)+1) (by omega),show(A:Int)+W=((A+W:Nat):Int) by omega];simp only[aoB,aoI];rw[show(cc.set V (cc.getD (A+W) [])).set (A+W) (cc.getD V [])=dW cc V (A+W)from rfl];have cZ:V<cc.length:=by omega
 have di:A+W<cc.length:=by omega
 exact⟨by omega,by omega,g5.len di,by omega,by omega,g5.len cZ,by omega,by omega,by omega,by omega,
  ⟨by omega,by omega,hi.1,hi.2,g5.dW cZ di,by simpa using g6,permIn_trans _ _ _ _ _ g7 (ad9 (by omega) (by omega) (by omega) (by omega) (by omega))⟩,by omega⟩
theorem Q3 {n:Nat}{l o cO:Rows}{A B dv dS P:Nat}{v3:Int}{aK:Int->Int->Int->Bool->Bool->Rows->Prop}{m:Int->Int->Int->Bool->Bool->Rows->Nat}{K:af->J->Prop}
 (fs:∀v1 v2 v3 w p o,((A:Int)<=v1/\v1<=v2/\v2<=B/\0<=v3/\v3<=64/\c7 o/\o.length=l.length/\Below bk v1.toNat v2.toNat o.toArray/\
   ∀bD:Rows,c7 bD->PermIn v1.toNat v2.toNat o.toArray bD.toArray->SortedIn bk v1.toNat v2.toNat bD.toArray->K (.ar 11 bD) (.tup []))->aK v1 v2 v3 w p o)
 (hm:∀v1 v2 v3 w p o,m v1 v2 v3 w p o=(v2-v1:Int).toNat)
 (dE:A<=dv) (ey:dS<=B) (aoa:B<=l.length) (av:l.length<1000000000000000) (fM:B-A<n+1) (vp:dv<=P) (vq:P<dS) (aP:0<=v3/\v3<=64)
 (az:c7 cO) (hlen:cO.length=l.length) (ot:Below bk dv dS cO.toArray)
 (kj:∀bD:Rows,c7 bD->PermIn dv dS cO.toArray bD.toArray->SortedIn bk dv dS bD.toArray->K (.ar 11 bD) (.tup [])) (w' F8:Bool) (Ug:Int) (k:Nat) (ae:k=m dv dS Ug w' F8 o):
 0<cO.length/\(fP cO dv dS/\(dv:Int)<=P/\(P:Int)<dS)/\∀x:Rows,x=(partition bk cO.toArray dv dS P).2.2.toList->∀cz:Int,cz=(partition bk cO.toArray dv dS P).1->∀ei:Bool,ei=(partition bk cO.toArray dv dS P).2.1->
  (decide (IntKind.wrap .i64 (cz-dv)<IntKind.wrap .i64 ((dS:Int)-cz))=true->(fP x dv cz/\cz-dv<(n:Int)/\(0<=v3/\v3<=64)/\Below bk dv cz.toNat x.toArray)/\
    ∀i,lD x dv cz i->aK (IntKind.wrap .i64 (cz+1)) dS v3 (decide (IntKind.wrap .i64 (Int.tdiv (IntKind.wrap .i64 ((dS:Int)-dv)) 8)<=IntKind.wrap .i64 (cz-dv))) ei i/\
     m (IntKind.wrap .i64 (cz+1)) dS v3 (decide (IntKind.wrap .i64 (Int.tdiv (IntKind.wrap .i64 ((dS:Int)-dv)) 8)<=IntKind.wrap .i64 (cz-dv))) ei i<k)/\
  (decide (IntKind.wrap .i64 (cz-dv)<IntKind.wrap .i64 ((dS:Int)-cz))=false->(fP x (IntKind.wrap .i64 (cz+1)) dS/\(dS:Int)-IntKind.wrap .i64 (cz+1)<(n:Int)/\(0<=v3/\v3<=64)/\Below bk (IntKind.wrap .i64 (cz+1)).toNat dS x.toArray)/\
    ∀i,lD x (IntKind.wrap .i64 (cz+1)) dS i->aK dv cz v3 (decide (IntKind.wrap .i64 (Int.tdiv (IntKind.wrap .i64 ((dS:Int)-dv)) 8)<=IntKind.wrap .i64 ((dS:Int)-cz))) ei i/\
     m dv cz v3 (decide (IntKind.wrap .i64 (Int.tdiv (IntKind.wrap .i64 ((dS:Int)-dv)) 8)<=IntKind.wrap .i64 ((dS:Int)-cz))) ei i<k):=by
 refine⟨by omega,⟨⟨az,by omega,by omega,by omega,by omega⟩,by omega,by omega⟩, ?_⟩;obtain⟨e3,eY,j7,pD,pE,tH,AX⟩:= @round_part Row _ bk q5 (partition_holds bk) cO.toArray (partition bk cO.toArray dv dS P).2.2 dv dS P (partition bk cO.toArray dv dS P).1 (partition bk cO.toArray dv dS P).2.1 vp vq (by simp;omega) ot rfl;have r_:=(partition_holds bk q5 cO.toArray dv dS P vp vq (by simp;omega)).2.2.1;have tS:=tY az (by omega) r_;generalize (partition bk cO.toArray dv dS P).2.2=d4 at*;generalize (partition bk cO.toArray dv dS P).1=A4 at*;have Uh:d4.toList.length=l.length:=tS.2.trans hlen;rintro _ rfl _ rfl ei-;rw[bR (x:=(A4:Int)+1) (by omega),show(A4:Int)+1=((A4+1:Nat):Int) by omega];subst ae;simp only[hm,aoB];refine⟨fun _=>⟨⟨⟨tS.1,by omega,by omega,by omega,by omega⟩,by omega,aP,pD⟩, ?_⟩,fun _=>⟨⟨⟨tS.1,by omega,by omega,by omega,by omega⟩,by omega,aP,pE⟩, ?_⟩⟩
 ·rintro i ⟨⟨i1,i2⟩,i3⟩;simp only[aoB]at i2 i3;obtain⟨a6,bj⟩:=tH i.toArray i2 i3;have bH:i.length=l.length:=(show i.length=d4.toList.length by have:=i2.1;simpa using this).trans Uh;refine⟨fs _ _ _ _ _ _ ⟨by omega,by omega,by omega,aP.1,aP.2,i1,bH,a6,fun bD dC dD dR=> ?_⟩,by omega⟩;obtain⟨oD,pC⟩:=bj bD.toArray dD dR;exact kj bD dC oD pC
 ·rintro i ⟨⟨i1,i2⟩,i3⟩;simp only[aoB]at i2 i3;obtain⟨a6,bj⟩:=AX i.toArray i2 i3;have bH:i.length=l.length:=(show i.length=d4.toList.length by have:=i2.1;simpa using this).trans Uh;refine⟨fs _ _ _ _ _ _ ⟨by omega,by omega,by omega,aP.1,aP.2,i1,bH,a6,fun bD dC dD dR=> ?_⟩,by omega⟩;obtain⟨oD,pC⟩:=bj bD.toArray dD dR;exact kj bD dC oD pC
theorem K4 (n:Nat)(l:Rows)(a b m:Int)(K:af->J->Prop)
 (h:(fP l a b/\b-a<((n+1:Nat):Int)/\(0<=m/\m<=64)/\Below bk a.toNat b.toNat l.toArray)/\∀i,lD l a b i->K (.ar 11 i) (.tup [])):KZ n l a b m K:=by
 obtain⟨⟨⟨ax,aR,jD,ag,av⟩,Ff,hm,ey⟩,ae⟩:=h;obtain⟨A,rfl⟩:=aoG aR;obtain⟨B,rfl⟩:=aoG (apY aR jD);unfold KZ ah List.aG
 refine⟨fun v1 v2 v3 _ _ o=>(A:Int)<=v1/\v1<=v2/\v2<=B/\0<=v3/\v3<=64/\c7 o/\o.length=l.length/\Below bk v1.toNat v2.toNat o.toArray/\
  ∀bD:Rows,c7 bD->PermIn v1.toNat v2.toNat o.toArray bD.toArray->SortedIn bk v1.toNat v2.toNat bD.toArray->K (.ar 11 bD) (.tup []),fun v1 v2 _ _ _ _=>(v2-v1:Int).toNat,
  ⟨by omega,jD,by omega,hm.1,hm.2,ax,rfl,ey,fun bD U aa az=>ae bD ⟨⟨U,aa⟩,az⟩⟩, ?_⟩
 rintro v1 v2 v3 w p o ⟨q1,cE,cS,gx,dV,h9,gT,k_,xX⟩;obtain⟨dv,rfl⟩:=aoG (a:=v1) (by omega);obtain⟨dS,rfl⟩:=aoG (a:=v2) (by omega);have k_:Below bk dv dS o.toArray:=k_
 have xX:∀bD:Rows,c7 bD->PermIn dv dS o.toArray bD.toArray->SortedIn bk dv dS bD.toArray->K (.ar 11 bD) (.tup []):=xX
 simp only[aoB];have ft:dS<=o.toArray.size:=by simp;omega
 have cq:∀{x y:Rows},PermIn dv dS x.toArray y.toArray->y.length=x.length:=fun h=>by have:=h.1;simpa using this
 refine⟨fun h=> ?_,fun h=> ?_⟩
 ·refine⟨⟨h9,by omega,by omega,by omega,by omega⟩, ?_⟩;rintro _ rfl;obtain⟨aA,aL⟩:=insertionSort_holds q5 o.toArray dv dS (by omega) ft;exact xX _ (tY h9 (by omega) aA).1 aA aL
 have h:=aoN h;rw[bR (x:=(dS:Int)-dv) (by omega)]at h;refine⟨fun bc=> ?_,fun bc=> ?_⟩
 ·refine⟨by omega,⟨⟨h9,by omega,by omega,by omega,by omega⟩,by omega⟩, ?_⟩;rintro _ rfl;obtain⟨aA,aL⟩:=heapSort_holds q5 o.toArray dv dS (by omega) ft;exact xX _ (tY h9 (by omega) aA).1 aA aL
 have bc:=aoN bc;refine⟨fun v bz=>0<=v/\v<=64/\c7 bz/\PermIn dv dS o.toArray bz.toArray,⟨fun _=> ?_,fun _=> ?_⟩, ?_⟩
 ·rw[bR (x:=v3-1) (by omega)];exact⟨by omega,⟨h9,by omega,by omega,by omega,by omega⟩,fun i hi=>⟨by omega,by omega,hi.1,hi.2⟩⟩
 ·exact⟨gx,dV,h9,permIn_refl _ _ _⟩
 rintro Ug bz ⟨kz,lb,ej,KA⟩;have dh:=cq KA;refine⟨⟨⟨ej,by omega,by omega,by omega,by omega⟩,by omega⟩, ?_⟩;have aC:=choosePivot_holds bk bz.toArray dv dS (by omega);rintro _ rfl cH-
 show∃bm:Int->Int->Rows->Prop,_
 generalize (choosePivot bk bz.toArray dv dS).1=C at aC;refine⟨fun vD _ bl=>(dv:Int)<=vD/\vD<dS/\c7 bl/\PermIn dv dS o.toArray bl.toArray,⟨fun _=> ?_,fun _=> ?_⟩, ?_⟩
 ·refine⟨by omega,⟨ej,by omega,by omega,by omega,by omega⟩, ?_⟩;rintro _ rfl;rw[bR (x:=(dS:Int)-1) (by omega),bR (x:=(C:Int)-dv) (by omega),bR (x:=(dS:Int)-1-((C:Int)-dv)) (by omega)];have aA:=reverseRange_holds bz.toArray dv dS (by omega) (by simp;omega);exact⟨by omega,by omega,(tY ej (by omega) aA).1,permIn_trans _ _ _ _ _ KA aA⟩
 ·exact⟨by omega,by omega,ej,KA⟩
 rintro vD cH bl ⟨k9,z2,z3,z4⟩;obtain⟨P,rfl⟩:=aoG (a:=vD) (by omega);have l2:=cq z4;refine⟨fun cO=>c7 cO/\PermIn dv dS o.toArray cO.toArray,⟨fun _=>⟨fun _=>⟨fun _=> ?_,fun _=>⟨z3,z4⟩⟩,fun _=>⟨z3,z4⟩⟩,fun _=>⟨z3,z4⟩⟩, ?_⟩
 ·refine⟨by omega,⟨⟨z3,by omega,by omega,by omega,by omega⟩,by omega⟩, ?_⟩;rintro _ rfl cz rfl;obtain⟨aA,aL⟩:=partialInsertionSort_holds q5 bl.toArray dv dS (by omega) (by simp;omega) (k_.perm ft z4);have b3:=permIn_trans _ _ _ _ _ z4 aA;have cX:=(tY z3 (by omega) aA).1;exact⟨fun h=>xX _ cX b3 (aL h),fun _=>⟨cX,b3⟩⟩
 rintro cO ⟨t1,t2⟩;have l5:=cq t2;have ot:=k_.perm ft t2;have vp:dv<=P:=by omega
 have vq:P<dS:=by omega
 have kj:∀bD:Rows,c7 bD->PermIn dv dS cO.toArray bD.toArray->SortedIn bk dv dS bD.toArray->K (.ar 11 bD) (.tup []):=fun bD dC dD dR=>xX bD dC (permIn_trans _ _ _ _ _ t2 dD) dR
 simp only[aoB];refine⟨fun pg=> ?_,fun _=> ?pt⟩
 case pt=>exact Q3 (l:=l) (A:=A) (B:=B) (o:=o) (fun _ _ _ _ _ _ h=>h) (fun _ _ _ _ _ _=>rfl) (by omega) (by omega) (by omega) av (by omega) vp vq ⟨kz,lb⟩ t1 (by omega) ot kj w p v3 _ rfl
 have pg:=aoJ pg;rw[bR (x:=(dv:Int)-1) (by omega),show(dv:Int)-1=((dv-1:Nat):Int) by omega];simp only[aoB];have cZ:dv-1<cO.length:=by omega
 have di:P<cO.length:=by omega
 refine⟨by omega,by omega,t1.len cZ,by omega,by omega,t1.len di,⟨t1.get cZ,t1.get di⟩, ?_⟩;rintro _ rfl;refine⟨fun rF=> ?_,fun _=> ?pt2⟩
 case pt2=>exact Q3 (l:=l) (A:=A) (B:=B) (o:=o) (fun _ _ _ _ _ _ h=>h) (fun _ _ _ _ _ _=>rfl) (by omega) (by omega) (by omega) av (by omega) vp vq ⟨kz,lb⟩ t1 (by omega) ot kj w p v3 _ rfl
 have kX:bk cO.toArray[dv-1]! cO.toArray[P]! =false:=by rw[jz];simpa using rF
 refine⟨by omega,⟨⟨t1,by omega,by omega,by omega,by omega⟩,by omega,by omega⟩, ?_⟩;rintro _ rfl _ rfl;obtain⟨e3,eY,j7,pD,pE⟩:= @round_eq Row _ bk q5 (partitionEqual_holds bk) cO.toArray (partitionEqual bk cO.toArray dv dS P).2 dv dS P (partitionEqual bk cO.toArray dv dS P).1 (by omega) vp vq (by simp;omega) ot kX rfl;have tH:=permIn_all cO.toArray cO.toArray dv dS (fun _=>True) (by simp;omega) (permIn_refl _ _ _) (fun _ _ _=>trivial)
 have ja:∀i,dv<=i->i<dS->bk cO.toArray[i]! cO.toArray[P]! =false:=fun i hi eL=>by
  rcases ot with bc|ot
  ·omega
  ·exact q5.ntrans _ _ _ (ot i hi eL) kX
 have r_:=(partitionEqual_holds bk q5 cO.toArray dv dS P vp vq (by simp;omega) ja).2.2.1;have tS:=tY t1 (by omega) r_;generalize (partitionEqual bk cO.toArray dv dS P).2=d4 at*;generalize (partitionEqual bk cO.toArray dv dS P).1=A4 at*;refine⟨⟨by omega,by omega,by omega,kz,lb,tS.1,tS.2.trans (by omega),pD,fun bD dC dD dR=> ?_⟩, ?_⟩
 ·obtain⟨oD,pC⟩:=pE bD.toArray dD dR;exact kj bD dC oD pC
 ·show((dS:Int)-A4).toNat<((dS:Int)-dv).toNat;omega
theorem KU (l:Rows)(K:af->J->Prop)(h:(c7 l/\l.length<1000000000000000)/\∀i,lD l 0 l.length i->K (.ar 11 i) (.tup [])):KP l K:=by
 obtain⟨⟨ax,av⟩,ae⟩:=h;unfold KP aT aO;rw[cP (x:=(l.length:Int)) (by omega)];refine⟨by omega, ?_⟩;rintro _ rfl;have:=wE (n:=(l.length:Int).toNat) (k:=64) (by omega);exact⟨⟨⟨ax,by omega,by omega,by omega,av⟩,by omega, .inl rfl⟩,ae⟩
end ab
end
section
open Go Go.al
namespace ab
def ee.cap (q:ee):List J:=match q.desc with|true=>[.agg [.bt]]|false=>[.agg [.d (.int .i64 8)]]
theorem ee.mr {q:ee}{g:Nat}{c:List J}(h:q.is g c=true):g=q.g/\c=q.cap:=by
 unfold ee.is at h;unfold ee.cap;split at h
 ·rename_i U aa;exact⟨aoz U,by rw[aa]⟩
 ·rename_i U aa;exact⟨aoz U,by rw[aa]⟩
 ·cases h
theorem Q4 (q:ee){a0:J}{cb:af}{args:List J}{K:af->J->Prop}(aX:EN.T q a0 cb args K):∃l a b,a0= .vec 0/\cb= .ar 11 l/\args=[.d (.int .i64 a), .d (.int .i64 b), .cls q.g q.cap]:=by unfold EN.T fm at aX;grind [Go.al.aq4,ee.mr]
theorem Qa (q:ee){a0:J}{cb:af}{args:List J}{K:af->J->Prop}(aX:D0.T q a0 cb args K):∃l lo hi f,a0= .vec 0/\cb= .ar 11 l/\args=[.d (.int .i64 lo), .d (.int .i64 hi), .d (.int .i64 f), .cls q.g q.cap]:=by unfold D0.T fm at aX;grind [Go.al.aq4,ee.mr]
theorem Qb (q:ee){a0:J}{cb:af}{args:List J}{K:af->J->Prop}(aX:D1.T q a0 cb args K):∃l a b,a0= .vec 0/\cb= .ar 11 l/\args=[.d (.int .i64 a), .d (.int .i64 b), .cls q.g q.cap]:=by unfold D1.T fm at aX;grind [Go.al.aq4,ee.mr]
theorem Qc (q:ee){a0:J}{cb:af}{args:List J}{K:af->J->Prop}(aX:D2.T q a0 cb args K):∃l a b p,a0= .vec 0/\cb= .ar 11 l/\args=[.d (.int .i64 a), .d (.int .i64 b), .d (.int .i64 p), .cls q.g q.cap]:=by unfold D2.T fm at aX;grind [Go.al.aq4,ee.mr]
theorem N8 (q:ee){a0:J}{cb:af}{args:List J}{K:af->J->Prop}(aX:CL.T q a0 cb args K):∃l a b p,a0= .vec 0/\cb= .ar 11 l/\args=[.d (.int .i64 a), .d (.int .i64 b), .d (.int .i64 p), .cls q.g q.cap]:=by unfold CL.T fm at aX;grind [Go.al.aq4,ee.mr]
theorem Nl (q:ee){a0:J}{cb:af}{args:List J}{K:af->J->Prop}(aX:B_.T q a0 cb args K):∃l a b,a0= .vec 0/\cb= .ar 11 l/\args=[.d (.int .i64 a), .d (.int .i64 b), .cls q.g q.cap]:=by unfold B_.T fm at aX;grind [Go.al.aq4,ee.mr]
theorem Q5 (q:ee){a0:J}{cb:af}{args:List J}{K:af->J->Prop}(aX:EO.T q a0 cb args K):∃l a b,a0= .vec 0/\cb= .ar 11 l/\args=[.d (.int .i64 a), .d (.int .i64 b), .cls q.g q.cap]:=by unfold EO.T fm at aX;grind [Go.al.aq4,ee.mr]
theorem Qd (q:ee){a0:J}{cb:af}{args:List J}{K:af->J->Prop}(aX:D3.T q a0 cb args K):∃l a b s,a0= .ptr 0 0/\cb= .cells [.d (.int .i64 s)]/\args=[.d (.ar 11 l), .d (.int .i64 a), .d (.int .i64 b), .cls q.g q.cap]:=by unfold D3.T fm at aX;grind [Go.al.aq4,ee.mr]
theorem Q6 (q:ee){a0:J}{cb:af}{args:List J}{K:af->J->Prop}(aX:ES.T q a0 cb args K):∃l a b e s,a0= .ptr 0 0/\cb= .cells [.d (.int .i64 s)]/\args=[.d (.ar 11 l), .d (.int .i64 a), .d (.int .i64 b), .d (.int .i64 e), .cls q.g q.cap]:=by unfold ES.T fm at aX;grind [Go.al.aq4,ee.mr]
theorem N9 (q:ee){a0:J}{cb:af}{args:List J}{K:af->J->Prop}(aX:CM.T q a0 cb args K):∃l a s,a0= .ptr 0 0/\cb= .cells [.d (.int .i64 s)]/\args=[.d (.ar 11 l), .d (.int .i64 a), .cls q.g q.cap]:=by unfold CM.T fm at aX;grind [Go.al.aq4,ee.mr]
theorem O3 (q:ee){args:List J}{K:J->Prop}(aX:Dq.T q args K):∃l a b,args=[.d (.ar 11 l), .d (.int .i64 a), .d (.int .i64 b), .cls q.g q.cap]:=by unfold Dq.T bg at aX;grind [Go.al.aq4,ee.mr]
theorem O4 (q:ee){a0:J}{cb:af}{args:List J}{K:af->J->Prop}(aX:yX.T q a0 cb args K):∃l a b,a0= .vec 0/\cb= .ar 11 l/\args=[.d (.int .i64 a), .d (.int .i64 b), .cls q.g q.cap]:=by unfold yX.T lC at aX;grind [Go.al.aq4,ee.mr]
theorem Ib (q:ee)(n:Nat){a0:J}{cb:af}{args:List J}{K:af->J->Prop}(aX:kS.T q n a0 cb args K):∃l a b m,a0= .vec 0/\cb= .ar 11 l/\args=[.d (.int .i64 a), .d (.int .i64 b), .d (.int .i64 m), .cls q.g q.cap]:=by unfold kS.T lC at aX;grind [Go.al.aq4,ee.mr]
theorem acH (q:ee){a0:J}{cb:af}{args:List J}{K:af->J->Prop}(aX:sV.T q a0 cb args K):∃l a b m,a0= .vec 0/\cb= .ar 11 l/\args=[.d (.int .i64 a), .d (.int .i64 b), .d (.int .i64 m), .cls q.g q.cap]:=by unfold sV.T lC at aX;grind [Go.al.aq4,ee.mr]
theorem Qe (q:ee){a0:J}{cb:af}{args:List J}{K:af->J->Prop}(aX:y_.T q a0 cb args K):∃l,a0= .vec 0/\cb= .ar 11 l/\args=[.cls q.g q.cap]:=by unfold y_.T lC at aX;grind [Go.al.aq4,ee.mr]
theorem O5 {args:List J}{K:J->Prop}(aX:wP.T args K):∃x,args=[.d (.int .u64 x)]:=by unfold wP.T bg at aX;grind [Go.al.aq4]
theorem ad_ {args:List J}{K:J->Prop}(aX:EP.T args K):∃x,args=[.d (.int .i64 x)]:=by unfold EP.T bg at aX;grind [Go.al.aq4]
theorem aea {a0:J}{cb:af}{args:List J}{K:af->J->Prop}(aX:ER.T a0 cb args K):∃x,a0= .ptr 0 0/\cb= .cells [.d (.int .u64 x)]/\args=[]:=by unfold ER.T lC at aX;grind [Go.al.aq4]
theorem acI {args:List J}{K:J->Prop}(aX:D6.T args K):∃a b,args=[.d (.int .i64 a), .d (.int .i64 b)]:=by unfold D6.T bg at aX;grind [Go.al.aq4]
theorem aa6 {args:List J}{K:J->Prop}(aX:Ds.T args K):∃a,args=[.d (.int .i64 a)]:=by unfold Ds.T bg at aX;grind [Go.al.aq4]
theorem X_ {args:List J}{K:J->Prop}(aX:Ca.T args K):∃a b,args=[.d (.ad .i64 a), .d (.ad .i64 b)]:=by unfold Ca.T bg at aX;grind [Go.al.aq4]
theorem aeb {args:List J}{K:J->Prop}(aX:EU.T args K):∃a,args=[.d (.ad .i64 a)]:=by unfold EU.T bg at aX;grind [Go.al.aq4]
theorem aa7 {args:List J}{K:J->Prop}(aX:Dt.T args K):∃a b,args=[.rw 8 a, .rw 8 b]:=by unfold Dt.T bg at aX;grind [Go.al.aq4]
theorem aa8 {args:List J}{K:J->Prop}(aX:Dv.T args K):∃r,args=[.rw 11 r]:=by unfold Dv.T bg at aX;grind [Go.al.aq4]
theorem Zm (g:Nat){args:List J}{K:J->Prop}(aX:yI.T g args K):∃l,args=[.d (.ar 11 l), .fn g]:=by unfold yI.T bg at aX;grind [Go.al.aq4]
theorem acJ (g:Nat){cb:af}{args:List J}{K:af->Prop}(aX:za.T g cb args K):∃l,cb= .ar 11 l/\args=[.fn g]:=by unfold za.T w0 at aX;grind [Go.al.aq4]
theorem aa9 {args:List J}{K:af->Prop}(aX:Du.T args K):∃l,args=[.d (.ar 11 l)]:=by unfold Du.T mW at aX;grind [Go.al.aq4]
theorem Nn {args:List J}{K:J->Prop}(aX:so.T args K):∃l,args=[.d (.ar 11 l)]:=by unfold so.T bg at aX;grind [Go.al.aq4]
theorem aa_ {args:List J}{K:J->Prop}(aX:DC.T args K):∃s a b,args=[.agg [.d (.bool s), .d (.ad .u32 a), .d (.ad .u32 b)]]:=by unfold DC.T bg at aX;grind [Go.al.aq4]
theorem acK {args:List J}{K:J->Prop}(aX:D9.T args K):∃p q,args=[.d (.ar 11 p), .d (.ar 11 q)]:=by unfold D9.T bg at aX;grind [Go.al.aq4]
theorem Zn {args:List J}{K:J->Prop}(aX:CQ.T args K):∃p s a b,args=[.d (.ar 11 p), .agg [.d (.bool s), .d (.ad .u32 a), .d (.ad .u32 b)]]:=by unfold CQ.T bg at aX;grind [Go.al.aq4]
theorem acL {args:List J}{K:J->Prop}(aX:D_.T args K):∃p,args=[.d (.ar 11 p)]:=by unfold D_.T bg at aX;grind [Go.al.aq4]
theorem acM {args:List J}{K:J->Prop}(aX:Ea.T args K):∃p q,args=[.d (.ar 11 p), .d (.ar 11 q)]:=by unfold Ea.T bg at aX;grind [Go.al.aq4]
theorem acN {args:List J}{K:J->Prop}(aX:Eb.T args K):∃p q,args=[.d (.ar 11 p), .d (.ar 11 q)]:=by unfold Eb.T bg at aX;grind [Go.al.aq4]
theorem acO {args:List J}{K:J->Prop}(aX:Ec.T args K):∃p v,args=[.d (.ar 11 p), .d (.int .i64 v)]:=by unfold Ec.T bg at aX;grind [Go.al.aq4]
theorem acP {args:List J}{K:J->Prop}(aX:Ed.T args K):∃p,args=[.d (.ar 11 p)]:=by unfold Ed.T bg at aX;grind [Go.al.aq4]
theorem aba {args:List J}{K:J->Prop}(aX:wR.T args K):∃p,args=[.d (.ar 11 p)]:=by unfold wR.T bg at aX;grind [Go.al.aq4]
theorem Ya {args:List J}{K:J->Prop}(aX:Ch.T args K):∃p,args=[.d (.ar 11 p)]:=by unfold Ch.T bg at aX;grind [Go.al.aq4]
theorem acQ {args:List J}{K:J->Prop}(aX:Ee.T args K):∃v,args=[.d (.int .i64 v)]:=by unfold Ee.T bg at aX;grind [Go.al.aq4]
theorem acR (g:Nat){args:List J}{K:J->Prop}(aX:zc.T g args K):∃p q,args=[.d (.ar 11 p), .d (.ar 11 q), .fn g]:=by unfold zc.T bg at aX;grind [Go.al.aq4]
theorem acS (g:Nat){args:List J}{K:J->Prop}(aX:zd.T g args K):∃p q,args=[.d (.ar 11 p), .d (.ar 11 q), .fn g]:=by unfold zd.T bg at aX;grind [Go.al.aq4]
theorem acT {args:List J}{K:J->Prop}(aX:Ef.T args K):∃p q,args=[.d (.ar 11 p), .d (.ar 11 q)]:=by unfold Ef.T bg at aX;grind [Go.al.aq4]
theorem acU {args:List J}{K:J->Prop}(aX:Eg.T args K):∃p q,args=[.d (.ar 11 p), .d (.ar 11 q)]:=by unfold Eg.T bg at aX;grind [Go.al.aq4]
theorem acV {args:List J}{K:J->Prop}(aX:Eh.T args K):∃p n q,args=[.d (.ar 11 p), .d (.int .i64 n), .d (.ar 11 q)]:=by unfold Eh.T bg at aX;grind [Go.al.aq4]
theorem acW {args:List J}{K:J->Prop}(aX:Ej.T args K):∃p q,args=[.d (.ar 11 p), .d (.ar 11 q)]:=by unfold Ej.T bg at aX;grind [Go.al.aq4]
theorem abb {args:List J}{K:J->Prop}(aX:DD.T args K):∃p v,args=[.d (.ar 11 p), .d (.int .i64 v)]:=by unfold DD.T bg at aX;grind [Go.al.aq4]
theorem acX {args:List J}{K:J->Prop}(aX:Ek.T args K):∃p v,args=[.d (.ar 11 p), .d (.int .i64 v)]:=by unfold Ek.T bg at aX;grind [Go.al.aq4]
theorem abc {args:List J}{K:J->Prop}(aX:DE.T args K):∃p q,args=[.d (.ar 11 p), .d (.ar 11 q)]:=by unfold DE.T bg at aX;grind [Go.al.aq4]
theorem Zo {args:List J}{K:J->Prop}(aX:yK.T args K):∃p,args=[.d (.ar 11 p)]:=by unfold yK.T bg at aX;grind [Go.al.aq4]
theorem Yb {args:List J}{K:J->Prop}(aX:yA.T args K):∃p,args=[.d (.ar 11 p)]:=by unfold yA.T bg at aX;grind [Go.al.aq4]
theorem abd {args:List J}{K:J->Prop}(aX:y0.T args K):∃s a b,args=[.agg [.d (.bool s), .d (.ad .u32 a), .d (.ad .u32 b)]]:=by unfold y0.T bg at aX;grind [Go.al.aq4]
theorem acY {args:List J}{K:J->Prop}(aX:ze.T args K):∃n,args=[.d (.int .i64 n)]:=by unfold ze.T bg at aX;grind [Go.al.aq4]
theorem Zp {args:List J}{K:J->Prop}(aX:yL.T args K):∃s a b t c d,args=[.agg [.d (.bool s), .d (.ad .u32 a), .d (.ad .u32 b)], .agg [.d (.bool t), .d (.ad .u32 c), .d (.ad .u32 d)]]:=by unfold yL.T bg at aX;grind [Go.al.aq4]
theorem Yc {args:List J}{K:J->Prop}(aX:Cl.T args K):args=[]:=by unfold Cl.T bg at aX;grind [Go.al.aq4]
theorem Zq {a0:J}{cb:af}{args:List J}{K:af->J->Prop}(aX:CR.T a0 cb args K):∃l a s v n,a0= .ptr 0 0/\cb= .cells [.d (.ad .i64 l), .d (.int .i64 a), .d (.int .i64 s)]/\args=[.d (.int .i64 v), .d (.int .i64 n)]:=by unfold CR.T fm at aX;grind [Go.al.aq4]
theorem Yd {args:List J}{K:J->Prop}(aX:Cm.T args K):∃l v,args=[.d (.ad .i64 l), .d (.int .u8 v)]:=by unfold Cm.T bg at aX;grind [Go.al.aq4]
theorem abe {args:List J}{K:J->Prop}(aX:DF.T args K):∃p v,args=[.d (.ar 11 p), .d (.int .i64 v)]:=by unfold DF.T bg at aX;grind [Go.al.aq4]
theorem Ye {args:List J}{K:J->Prop}(aX:Cj.T args K):∃a b,args=[.rw 8 a, .rw 8 b]:=by unfold Cj.T bg at aX;grind [Go.al.aq4]
theorem Zr {args:List J}{K:J->Prop}(aX:CS.T args K):∃p t,args=[.d (.ar 11 p), .rw 11 t]:=by unfold CS.T bg at aX;grind [Go.al.aq4]
theorem Yf {args:List J}{K:J->Prop}(aX:Ck.T args K):∃p,args=[.d (.ar 11 p)]:=by unfold Ck.T bg at aX;grind [Go.al.aq4]
theorem acZ {args:List J}{K:J->Prop}(aX:Em.T args K):∃p q,args=[.d (.ar 11 p), .d (.ar 11 q)]:=by unfold Em.T bg at aX;grind [Go.al.aq4]
theorem Zs {args:List J}{K:J->Prop}(aX:CT.T args K):∃p t,args=[.d (.ar 11 p), .rw 11 t]:=by unfold CT.T bg at aX;grind [Go.al.aq4]
theorem abf {args:List J}{K:J->Prop}(aX:DG.T args K):∃p q,args=[.d (.ar 11 p), .d (.ar 11 q)]:=by unfold DG.T bg at aX;grind [Go.al.aq4]
theorem Zt {args:List J}{K:J->Prop}(aX:CV.T args K):∃p n,args=[.d (.ar 11 p), .d (.int .i64 n)]:=by unfold CV.T bg at aX;grind [Go.al.aq4]
theorem Xs {args:List J}{K:J->Prop}(aX:BR.T args K):∃p,args=[.d (.ar 11 p)]:=by unfold BR.T bg at aX;grind [Go.al.aq4]
theorem Zu {args:List J}{K:J->Prop}(aX:CW.T args K):∃p v,args=[.d (.ar 11 p), .d (.int .i64 v)]:=by unfold CW.T bg at aX;grind [Go.al.aq4]
theorem ac0 {args:List J}{K:J->Prop}(aX:En.T args K):∃p v,args=[.d (.ar 11 p), .d (.int .i64 v)]:=by unfold En.T bg at aX;grind [Go.al.aq4]
theorem Zv {args:List J}{K:J->Prop}(aX:CU.T args K):∃p,args=[.d (.ar 11 p)]:=by unfold CU.T bg at aX;grind [Go.al.aq4]
theorem ac1 {args:List J}{K:J->Prop}(aX:Eo.T args K):∃v,args=[.d (.int .i64 v)]:=by unfold Eo.T bg at aX;grind [Go.al.aq4]
theorem Cq {l:Rows}{a b:Int}(h:fP l a b):∃o,lD l a b o:=by
 obtain⟨U,aa,az,aW,bA⟩:=h;obtain⟨aA,aL⟩:=Go.Sort.insertionSort_holds q5 l.toArray a.toNat b.toNat (by omega) (by simp;omega);exact⟨(Go.Sort.insertionSort bk l.toArray a.toNat b.toNat).toList,⟨(tY U (by omega) aA).1,by simpa using aA⟩,by simpa using aL⟩
theorem Qf (q:ee):kr (yX.T q):=yi _ fun a o args p bD f g h aE=>by
 split at h
 ·split at h
  ·simp only[aoU,aoZ]at h;obtain⟨rfl,rfl,rfl,rfl⟩:=h;obtain⟨o,U,aa⟩:=Cq aE;exact⟨o,U⟩
  ·cases h
 ·cases h
theorem DM (q:ee)(n:Nat):kr (kS.T q n):=yi _ fun a o args p bD f g h aE=>by
 split at h
 ·split at h
  ·simp only[aoU,aoZ]at h;obtain⟨rfl,rfl,rfl,rfl⟩:=h;exact Cq aE.1
  ·cases h
 ·cases h
theorem Q7 (q:ee):kr (sV.T q):=yi _ fun a o args p bD f g h aE=>by
 split at h
 ·split at h
  ·simp only[aoU,aoZ]at h;obtain⟨rfl,rfl,rfl,rfl⟩:=h;exact Cq aE.1
  ·cases h
 ·cases h
theorem Q8 (q:ee):kr (y_.T q):=yi _ fun a o args p bD f g h aE=>by
 split at h
 ·split at h
  ·simp only[aoU,aoZ]at h;obtain⟨rfl,rfl,rfl,rfl⟩:=h;exact Cq ⟨aE.1,Int.le_refl _,by omega,by omega,aE.2⟩
  ·cases h
 ·cases h
theorem aeI:kr ER.T:=yi _ fun a o args p bD f g h aE=>by
 split at h
 ·split at h
  ·simp only[aoU,aoZ]at h;obtain⟨rfl,rfl,rfl,rfl⟩:=h;exact⟨0,by decide,by decide⟩
  ·cases h
 ·cases h
theorem ac2 (g:Nat){args:List J}{K:J->Prop}(aX:qf.T ⟨g,true⟩ args K):∃a b,args=[.agg [.d (.bool true)], .rw 11 a, .rw 11 b]:=by unfold qf.T bg at aX;grind [Go.al.aq4]
theorem ac3 (g:Nat){args:List J}{K:J->Prop}(aX:qf.T ⟨g,false⟩ args K):∃a b,args=[.agg [.d (.int .i64 8)], .rw 11 a, .rw 11 b]:=by unfold qf.T bg at aX;grind [Go.al.aq4]
theorem y2 {P:Program}{f:FuncId}{ps:List a7}{T A5:List J->(J->Prop)->Prop}(h:ie P f (iB ps T))(bs:∀args K,A5 args K->T args K):ie P f (iB ps A5):=by
 refine⟨h.1,fun N ρ I w args cm K aC=>h.2 N ρ I w args cm K ?_⟩;unfold iB at aC⊢;split
 ·rename_i U aa;rw[U,aa]at aC;exact bs _ _ aC
 ·rename_i av;split at aC
  ·rename_i U aa;exact(av U aa).elim
  ·exact aC
theorem Qg {P:Program}{f:FuncId}{m:Nat}{ps:List a7}{T:Nat->J->af->List J->(af->J->Prop)->Prop}{A5:J->af->List J->(af->J->Prop)->Prop}(h:∀n,ie P f (l6 m ps (T n)))
 (bs:∀a o args K,A5 a o args K->∃n,T n a o args K):ie P f (l6 m ps A5):=by
 refine⟨(h 0).1,fun N ρ I w args cm K aC=> ?_⟩
 have av:∃n,l6 m ps (T n) args I K:=by
  unfold l6 at aC;split at aC;rotate_left
  ·exact aC.elim
  rename_i ag;unfold oR at aC;split at aC
  ·exact aC.elim
  ·rename_i a0 bM aR;split at aC
   ·exact aC.elim
   ·rename_i id dJ;split at aC;rotate_left
    ·exact aC.elim
    rename_i U aa az aW;obtain⟨n,av⟩:=bs _ _ _ _ aC;refine⟨n, ?_⟩;unfold l6;rw[ag];show oR ps (T n) (yV m args) I K;unfold oR;rw[aR];simp only[dJ,U,aa,az,aW];exact av
 obtain⟨n,av⟩:=av;exact(h n).2 N ρ I w args cm K av
theorem Qh {P:Program}{f:FuncId}{m:Nat}{ps:List a7}(q:ee)(aU:∃fn,P.funcs[f]? =some fn/\fn.body.isNone=false/\(fn.name== "runtime.NumGoroutine")=false):ie P f (l6 m ps (kS.T q 0)):=by
 refine⟨aU,fun N ρ I w args cm K aC=> ?_⟩;exfalso;unfold l6 at aC;split at aC;rotate_left
 ·exact aC
 unfold oR at aC;split at aC
 ·exact aC
 split at aC
 ·exact aC
 split at aC;rotate_left
 ·exact aC
 refine nc (T:=kS.T q 0) (Ib q 0) (M:=fun _ _ _ _=>False) (fun l a b m K h=> ?_) _ _ _ _ aC
 have h:(fP l a b/\b-a<((0:Nat):Int)/\(0<=m/\m<=64)/\Go.Sort.Below bk a.toNat b.toNat l.toArray)/\True:=by
  unfold kS.T lC at h;simp only[apz]at h;split at h
  ·rename_i he;split at he
   ·simp only[aoU,aoZ]at he;obtain⟨rfl,_⟩:=he;exact⟨h.1,True.intro⟩
   ·cases he
  ·exact h.elim
 have U:=h.1.1.2.2.1;have aa:=h.1.2.1;omega
theorem Q9 (q:ee)(a0:J)(cb:af)(args:List J)(K:af->J->Prop)(aX:sV.T q a0 cb args K):∃n,kS.T q n a0 cb args K:=by
 refine nc (T:=sV.T q) (acH q) (M:=fun a0 cb args K=>∃n,kS.T q n a0 cb args K) (fun l a b m K h=> ?_) a0 cb args K aX;refine⟨(b-a).toNat+1, ?_⟩;unfold sV.T lC at h;unfold kS.T lC;simp only[apz]at h⊢;split at h
 ·rename_i he;split at he
  ·rename_i az;simp only[aoU,aoZ]at he;obtain⟨rfl,rfl,rfl,rfl⟩:=he;exact⟨⟨h.1.1,by omega,h.1.2⟩,h.2⟩
  ·cases he
 ·exact h.elim
def zH:List ba:=[(Gj 0 2,1),(Gj 1 2,-1)]
theorem Q_:br zH=qi:=by
 show[dZ (Gj 0 2)++[.bool (cl 1), .ad .u32 (cj 1), .ad .u32 (ca 1)],dZ (Gj 1 2)++[.bool (cl (-1)), .ad .u32 (cj (-1)), .ad .u32 (ca (-1))]]=_;rw[Cp,DL,H_,Ia];rfl
theorem DN:de 1024 zH:=zg (by decide+kernel)
theorem RQ:dA 1 zH:=yO (by decide)
theorem aeJ:bb false [1] [1]=1:=by
 have:=lp 1;rwa [Cp,DL]at this
theorem afd:bb true [1] [1]=-1:=by
 have:=lp (-1);rwa [H_,Ia]at this
theorem DO:bO 1000000 [1]:=⟨.mk (by decide) .nil,by decide⟩
theorem Sf:bC [1]:=⟨.mk (by decide) .nil,by decide⟩
theorem aeK (args:List J)(K:J->Prop)(aX:yK.T args K):wR.T args K:=by
 refine gl (T:=yK.T) Zo (M:=wR.T) (fun p K h=> ?_) args K aX;obtain⟨rfl,ae⟩:=h;rw[<-Q_];refine⟨yN RQ DN (by decide), ?_⟩;rw[Cn DN];exact ae
theorem aec (args:List J)(K:J->Prop)(aX:yA.T args K):so.T args K:=by
 refine gl (T:=yA.T) Yb (M:=so.T) (fun p K h=> ?_) args K aX;obtain⟨rfl,ae⟩:=h;rw[<-Q_]at ae⊢;refine⟨yl (c:=2) RQ (aoE _) (DN.oK (by decide)) (fun m=>yM m _) (by decide) (by decide) (by decide), ?_⟩;rw[fb DN.len,show nrm zH=zH by decide+kernel];exact ae
theorem afe (args:List J)(K:J->Prop)(aX:y0.T args K):wM.T args K:=by
 refine kx (T:=y0.T) abd (M:=wM.T) (fun s a b K h=> ?_) args K aX;obtain⟨⟨rfl,rfl⟩,ae⟩:=h;refine⟨⟨Sf,Sf⟩, ?_⟩;cases s
 ·rw[aeJ];exact ae
 ·rw[afd];exact ae
theorem agL (args:List J)(K:J->Prop)(aX:ze.T args K):sU.T args K:=by
 refine gl (T:=ze.T) acY (M:=sU.T) (fun n K h=> ?_) args K aX;obtain⟨rfl,ae⟩:=h;refine⟨⟨by decide,by decide⟩, ?_⟩;show K (.agg [.d (.bool (cl 1)), .d (.ad .u32 (cj 1)), .d (.ad .u32 (ca 1))]);rw[Cp,DL];exact ae
theorem aeL (args:List J)(K:J->Prop)(aX:yL.T args K):wD.T args K:=by
 refine r2 (T:=yL.T) Zp (M:=wD.T) (fun s a b t c d K h=> ?_) args K aX;obtain⟨⟨⟨rfl,rfl⟩,rfl,rfl,rfl,rfl⟩,ae⟩:=h;refine⟨⟨DO,DO,DO,DO⟩, ?_⟩;rw[ap_ rfl];exact ae
theorem Ic (args:List J)(K:J->Prop)(aX:rh.T args K):args=[.d (.int .i64 2)]/\rh.T [.d (.int .i64 2)] K:=by
 have e:∃n,args=[.d (.int .i64 n)]:=by
  unfold rh.T bg at aX;split at aX
  ·rename_i he;simp only at he;split at he
   ·exact⟨_,rfl⟩
   ·cases he
  ·exact aX.elim
 obtain⟨n,rfl⟩:=e;obtain⟨rfl,ae⟩:=aX;exact⟨rfl,rfl,ae⟩
theorem abg (args:List J)(K:J->Prop)(aX:yB.T args K):args=[.d (.int .i64 2), .d (.int .i64 10)]/\yB.T [.d (.int .i64 2), .d (.int .i64 10)] K:=by
 have e:∃n b,args=[.d (.int .i64 n), .d (.int .i64 b)]:=by
  unfold yB.T bg at aX;split at aX
  ·rename_i he;simp only at he;split at he
   ·exact⟨_,_,rfl⟩
   ·cases he
  ·exact aX.elim
 obtain⟨n,b,rfl⟩:=e;obtain⟨⟨rfl,rfl⟩,ae⟩:=aX;exact⟨rfl,⟨rfl,rfl⟩,ae⟩
theorem aed (args:List J)(K:J->Prop)(aX:y1.T args K):∃x s,args=[.d (.ar 1 [[.str x]]), .d (.str s)]/\y1.T [.d (.ar 1 [[.str x]]), .d (.str s)] K:=by
 have e:∃x s,args=[.d (.ar 1 [[.str x]]), .d (.str s)]:=by
  unfold y1.T bg at aX;split at aX
  ·rename_i he;simp only at he;split at he
   ·split at he
    ·rename_i bc;obtain rfl:=aoz bc;exact⟨_,_,rfl⟩
    ·cases he
   ·cases he
  ·exact aX.elim
 obtain⟨x,s,rfl⟩:=e;exact⟨x,s,rfl,aX⟩
theorem abh (args:List J)(K:J->Prop)(aX:yC.T args K):args=[.d (.ar 11 qi), .d (.ar 1 zD)]/\yC.T [.d (.ar 11 qi), .d (.ar 1 zD)] K:=by
 have e:∃p n,args=[.d (.ar 11 p), .d (.ar 1 n)]:=by
  unfold yC.T bg at aX;split at aX
  ·rename_i he;simp only at he;split at he
   ·split at he
    ·rename_i bc U;obtain rfl:=aoz bc;obtain rfl:=aoz U;exact⟨_,_,rfl⟩
    ·cases he
   ·cases he
  ·exact aX.elim
 obtain⟨p,n,rfl⟩:=e;obtain⟨⟨rfl,rfl⟩,ae⟩:=aX;exact⟨rfl,⟨rfl,rfl⟩,ae⟩
end ab
end
