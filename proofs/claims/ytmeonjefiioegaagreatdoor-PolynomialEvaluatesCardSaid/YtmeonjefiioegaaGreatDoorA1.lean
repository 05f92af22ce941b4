/- Helpers for the statements: conditions under which code does what is wanted, and proofs that they suffice. Condition: none. -/
import Derived.Test.YtmeonjefiioegaaGreatDoorA0
section
namespace Go.ak
open Go.WideMaps
section
variable {P:Program} {N:Nat->Prop} {ρ:List Loc} {I:aD} {w:World}
def rM (l:List Int):Value:= .agg ((l.map (Value.int .i64)).toArray)
theorem acp {a b:List Int}(h:rM a=rM b):a=b:=by
 unfold rM at h;injection h with h;have h:a.map (Value.int .i64)=b.map (Value.int .i64):=by simpa using h
 exact(List.map_inj_right (fun x y e=>by injection e)).1 h
theorem Rn {Z:Nat->Prop}{r:List U}{u:Value}(h:n3 Z w r u)(ag:ke r):u=rM (r.map U.toInt):=by
 rw[HX h fun x aj=>(ag x aj).1,rM,aq2];rfl
theorem mapM_some {α β:Type}{f:α->Option β}:∀{l:List α},(∀i∈l,∃y,f i=some y)->∃jU,l.mapM f=some jU
 |[],_=>⟨[],rfl⟩
 |x::r,h=>by
  obtain⟨y,bo⟩:=h x (by simp);obtain⟨jU,Kf⟩:=mapM_some (f:=f) (l:=r) fun i hi=>h i (by simp[hi]);exact⟨y::jU,by rw[List.mapM_cons,bo,Kf];rfl⟩
theorem Qa {hO q:TypeId}{n:Nat}(A:ArrKey P hO q n)(a6:P.underlying q=some (.int .i64))(cx:∃m,P.types.size=m+1){l:List Int}(ax:l.length=n)(ag:∀x∈l,-9223372036854775808<=x/\x<=9223372036854775807):
 ∃vU,keyOf P hO (rM l)=some vU:=by
 have ajY:=A.keyType cx;obtain⟨m,hm⟩:=cx;unfold keyOf;simp only[A.hu];rw[apz (by simp[ajY,rM,Value.formed,A.hu,A.size,ax]),hm];unfold Program.keyLits;simp only[A.hu,rM,Value.cells];rw[apz (by simp[A.size,ax])]
 obtain⟨jU,Kf⟩:=mapM_some (f:=fun i=>P.keyLits (m+1) q (((l.map (Value.int .i64)).toArray.toList.drop (i*P.cellsOf q)).take (P.cellsOf q))) (l:=List.range n) (fun i hi=>by
  have hi:i<l.length:=by rw[ax];simpa using hi
  have aj:=ag l[i] (aqA hi)
  have az:(((l.map (Value.int .i64)).toArray.toList.drop (i*P.cellsOf q)).take (P.cellsOf q))=[Value.int .i64 l[i]]:=by
   rw[A.one,ap8]
   have a_:(l.map (Value.int .i64)).drop i=Value.int .i64 l[i]::(l.map (Value.int .i64)).drop (i+1):=by
    rw[aqU (by simpa using hi)];simp
   simp only[a_,List.take_succ_cons,List.take_zero]
  rw[az];unfold Program.keyLits;rw[a6]
  have hw:(Lit.int .i64 l[i]).wf=true:=by
   simp only[Lit.wf,apM,apE];exact⟨aj.1,aj.2⟩
  exact⟨[.int .i64 l[i]],by simp[hw]⟩)
 rw[Kf];exact⟨_,rfl⟩
theorem yB {n:Nat}{z:List U}{k:List Int}:∀{l:List (List U)},(∀r∈l,js n r≠k)->dv n z l k=z/\mV n l k=false/\∀key v,key.map U.toInt=k->ma n key v l=l++[key++v]
 |[],_=>⟨rfl,rfl,fun _ _ _=>rfl⟩
 |r::l,h=>by
  obtain⟨ab,ad,aA⟩:=yB (n:=n) (z:=z) (k:=k) (l:=l) fun r ao=>h r (by simp[ao]);have bc:=h r (by simp);refine⟨by rw[dv,apy bc,ab],by rw[mV,apy bc,ad],fun key v ag=> ?_⟩;rw[ma,apy (by rw[ag];exact bc),aA key v ag];rfl
theorem wG {n:Nat}{z:List U}{k:List Int}:∀{l:List (List U)} {j:Nat} {r:List U},(l.map (js n)).Nodup->l[j]? =some r->js n r=k->
 dv n z l k=r.drop n/\mV n l k=true/\∀key v,key.map U.toInt=k->ma n key v l=l.set j (key++v)
 |[],j,r,_,h,_=>by simp at h
 |x::l,0,r,_,h,ag=>by
  obtain rfl:x=r:=by simpa using h
  exact⟨by rw[dv,apz ag],by rw[mV,apz ag],fun key v e=>by rw[ma,apz (by rw[e];exact ag)];rfl⟩
 |x::l,j+1,r,a_,h,ag=>by
  have h:l[j]? =some r:=by simpa using h
  simp only[ap2,arV]at a_;have aj:js n x≠k:=fun e=>a_.1 (apQ.2 ⟨r,aq4 h,by rw[ag,e]⟩);obtain⟨ab,ad,aA⟩:=wG (z:=z) a_.2 h ag;refine⟨by rw[dv,apy aj,ab],by rw[mV,apy aj,ad],fun key v e=> ?_⟩;rw[ma,apy (by rw[e];exact aj),aA key v e];rfl
theorem HA {tb:TypeId->b7}{t:TypeId}(h:sV P tb t=true){n:Nat}{hO e:TypeId}(hm:(tb t).mp=some (n,hO,e)):
 ∃q,P.underlying t=some (.map hO e)/\ArrKey P hO q n/\P.underlying q=some (.int .i64)/\(∃m,P.types.size=m+1)/\uZ (tb e).ty=true/\0<(tb e).ty.size/\∃g,P.info? e=some g/\Jg (tb e).ty g.zero=true:=by
 unfold sV at h;rw[hm]at h;simp only at h;split at h
 ·rename_i k v m q hu ag;simp only[apM]at h;obtain⟨⟨⟨⟨⟨⟨⟨⟨⟨ab,ad⟩,aA⟩,ba⟩,bJ⟩,cu⟩,gO⟩,dq⟩,mG⟩,FM⟩:=h;obtain rfl:=apC ab;obtain rfl:=apC ad;obtain rfl:=apC aA
  have a6:P.underlying q=some (.int .i64):=by
   split at cu
   ·rename_i a6;exact a6
   ·cases cu
  refine⟨q,hu,⟨ag,by unfold Program.plainKey;rw[a6],apC ba,apC bJ⟩,a6, ?_,mG, ?_, ?_⟩
  ·have:0+1<=P.types.size:=apZ gO;exact⟨P.types.size-1,by omega⟩
  ·have:0+1<=(tb v).ty.size:=apZ dq;omega
  ·split at FM
   ·rename_i g bh;exact⟨g,bh,FM⟩
   ·cases FM
 ·cases h
theorem Ho {t:aZ}(h:uZ t=true):(∃s,t= .aG s)\/∃bW cs,t= .struct bW cs/\cs.length<=8/\cs.length≠1:=by
 cases t with
 |aG s=>exact .inl ⟨s,rfl⟩
 |struct bW cs=>
  refine .inr ⟨bW,cs,rfl, ?_⟩;unfold uZ at h;simp only at h;split at h
  ·rename_i ab ad;rw[cI]at ab ad;constructor
   ·exact Nat.le_of_not_lt fun bL=>by
     have:Nat.blt 8 cs.length=true:=Nat.ble_eq_true_of_le bL;rw[this]at ab;cases ab
   ·intro e;rw[e]at ad;cases ad
  ·cases h
 |_=>cases h
theorem X3 {t:aZ}(aw:uZ t=true){r:List U}{u:Value}(ao:rl (aK N ρ I) w r u)(ax:r.length=t.size){s:List Prop}{v:R}(h:DB t r=some (s,v))(ay:∀p∈s,p):
 iv (aK N ρ I) w ρ I v u:=by
 rcases Ho aw with⟨st,rfl⟩|⟨bW,cs,rfl,dq,ab⟩
 ·simp only[DB,apX,ap5]at h;obtain⟨rfl,rfl⟩:=h;rcases ao with⟨x,rfl,aj⟩|⟨dn,_⟩
  ·exact .c7 (ui aj (ay _ (by simp)))
  ·exact absurd ax dn
 ·have ax:r.length=cs.length:=by rw[ax];simp[aZ.size,cI]
  have nB:(aZ.struct bW cs).jh=false:=by
   cases ah:(aZ.struct bW cs).jh with
   |false=>rfl
   |true=>
    have:8+1<=bS cs:=apZ ah;rw[cI]at this;omega
  simp only[DB,nB,apX,ap5]at h;obtain⟨rfl,rfl⟩:=h;rcases ao with⟨x,rfl,aj⟩|⟨_,a,rfl,a1,a2⟩
  ·simp at ax;omega
  ·obtain⟨dh,eW⟩:=Hl (Z:=aK N ρ I) (w:=w) (ρ:=ρ) (I:=I) cs r 0 (fun m=>a.getD m undef) (fun m hm=>by rw[ap3];exact a2 m (by omega)) ay;exact⟨a,rfl,by omega,fun i hi=>eW i (by omega)⟩
theorem acq {t:aZ}(aw:uZ t=true){v:R}{u:Value}{r:List U}(h:n7 I t v=some r)(aO:bH (aK N ρ I) w ρ I v u):r.length=t.size/\rl (aK N ρ I) w r u:=by
 have jw:t≠ .no:=fun e=>by rw[e]at aw;cases aw
 obtain⟨ab,ad,aA⟩:=GZ (Z:=aK N ρ I) h jw aO;refine⟨ab, ?_⟩;rcases Ho aw with⟨st,rfl⟩|⟨bW,cs,rfl,dq,dn⟩
 ·have ax:r.length=1:=ab;obtain⟨x,rfl⟩:=List.length_eq_one_iff.1 ax
  have a_:v.hl=true:=by
   simp only[n7]at h;split at h
   ·rename_i a_;exact a_
   ·cases h
  have aF:=(wo (GW a_) aO).2;have:=aA 0 (by simp[aZ.size]);rw[yN aF]at this;exact .inl ⟨x,rfl,by simpa using this⟩
 ·have ax:r.length=cs.length:=by rw[ab];simp[aZ.size,cI]
  have th:∃a,u= .agg a:=by
   simp only[n7]at h;split at h
   ·obtain⟨a,rfl,_⟩:=aO;exact⟨a,rfl⟩
   ·obtain⟨a,rfl,_⟩:=aO;exact⟨a,rfl⟩
   ·cases h
  obtain⟨a,rfl⟩:=th;refine .inr ⟨by omega,a,rfl, ?_,fun j aI=>aA j (by omega)⟩;have:a.size=(aZ.struct bW cs).size:=ad;omega
theorem acr {t:aZ}{e:TypeId}(aO:uZ t=true){g:TypeInfo}(bh:P.info? e=some g)(bm:Jg t g.zero=true)(Z:Nat->Prop):
 ∃z,(zeroValue e).run P w= .ok z w/\rl Z w (qa t) z/\(qa t).length=t.size:=by
 cases kq:g.zero with
 |none=>rw[kq]at bm;cases t<;>cases bm
 |some z=>
  rw[kq]at bm;refine⟨z,by simp[zeroValue,typeInfo,bh,kq], ?_⟩;rcases Ho aO with⟨st,rfl⟩|⟨bW,cs,rfl,dq,dn⟩
  ·exact⟨.inl ⟨_,rfl,Nl bm⟩,rfl⟩
  ·have hlen:(qa (.struct bW cs)).length=cs.length:=by simp[qa,aZ.cells,dP]
   cases z with
   |agg aH=>
    obtain⟨ab,ad⟩:=q3 (Z:=Z) (w:=w) (show mT cs aH.toList=true from bm);refine⟨.inr ⟨by omega,aH,rfl,by rw[hlen,<-ab];simp,fun j aI=> ?_⟩,by rw[hlen];simp[aZ.size,cI]⟩;have:=ad j (by omega);simpa[qa,aZ.cells,apH,apA]using this
   |_=>cases bm
theorem YE {tb:TypeId->b7}{t:TypeId}(iE:sV P tb t=true)(bM:cw N ρ I w){cq:List Prop}{v:R}{al:aD}(h:yE tb (tb t) I= .a8 cq v al):
 ∃u w' ρ',(Instr.makeMap t none).run P w= .ok u w'/\cv N ρ I w ρ' al w'/\bH (aK N ρ' al) w' ρ' al v u:=by
 unfold yE at h;split at h;rotate_left
 ·cases h
 rename_i n hO e hm;simp only[bT.a8.injEq]at h;obtain⟨rfl,rfl,rfl⟩:=h;obtain⟨q,_,_,_,_,_,ki,_⟩:=HA iE hm;rw[fC,cI];refine⟨_,_,_,by simp[Instr.makeMap],cv.alloc bM false (.map n (n+(tb e).ty.size) []) (.map #[] 0) 0 ⟨w.heap.size,#[],0,rfl,n1 w _,rfl,by omega,by simp,fun i hi=>by simp at hi⟩, .c7 ⟨_,w.heap.size,rh bM _,rfl,rfl⟩⟩
theorem Qb {hO q:TypeId}{n:Nat}(A:ArrKey P hO q n)(a6:P.underlying q=some (.int .i64))(cx:∃m,P.types.size=m+1){Z:Nat->Prop}{es:Array MapEntry}{l:List (List U)}(hlen:es.size=l.length)
 (FN:∀i,i<l.length->∃e,es[i]? =some e/\n<=(l.getD i []).length/\ke ((l.getD i []).take n)/\n3 Z w ((l.getD i []).take n) e.key) {key:List U} {u:Value} (ag:ke key) (ax:key.length=n) (hu:n3 Z w key u):
 (∀em,(Instr.checkKey em 10000 hO u).run P w= .ok () w)/\(Instr.keyThatStays u u).run P w= .ok u w/\
 (((Instr.findKey hO u es.toList).run P w= .ok none w/\∀r∈l,js n r≠key.map U.toInt)\/
   ∃j e r,(Instr.findKey hO u es.toList).run P w= .ok (some (j,e.val)) w/\es[j]? =some e/\e.key=u/\l[j]? =some r/\js n r=key.map U.toInt):=by
 have K:=A.law
 have AA:∀{r:List U},ke r->∀x∈r.map U.toInt,-9223372036854775808<=x/\x<=9223372036854775807:=fun h x aj=>by
  obtain⟨y,bo,rfl⟩:=apQ.1 aj;exact(h y bo).2
 have jz:=Rn hu ag;obtain⟨vU,tw⟩:=Qa A a6 cx (l:=key.map U.toInt) (by simp[ax]) (AA ag);rw[<-jz]at tw
 have each:∀i (hi:i<l.length),∃e,es[i]? =some e/\e.key=rM (js n l[i])/\∃vU,keyOf P hO e.key=some vU:=fun i hi=>by
  obtain⟨e,az,aJ,bX,cW⟩:=FN i hi;have bh:l.getD i []=l[i]:=by simp[apA,hi]
  rw[bh]at aJ bX cW;have:=Rn cW bX;refine⟨e,az,this, ?_⟩;rw[this];exact Qa A a6 cx (by simp;omega) (AA bX)
 have keys:∀e∈es.toList,∃vU,keyOf P hO e.key=some vU:=fun e he=>by
  obtain⟨i,hi⟩:=List.mem_iff_getElem?.1 he;have mC:i<l.length:=by have:=(aqp.1 hi).1;simp at this;omega
  obtain⟨cg,az,_,bX⟩:=each i mC;rw[arT,az]at hi;obtain rfl:=apK hi;exact bX
 refine⟨fun em=>K.check w em tw,K.stays w tw, ?_⟩;rcases K.find w tw es.toList keys with⟨ab,ad⟩|⟨j,e,ab,ad,aA⟩
 ·refine .inl ⟨ab,fun r ao tr=> ?_⟩;obtain⟨i,hi,rfl⟩:=List.mem_iff_getElem.1 ao;obtain⟨e,az,aJ,_⟩:=each i hi;exact ad e (aq4 (by rw[arT];exact az)) (by rw[aJ,tr,jz])
 ·rw[arT]at ad;have iR:j<l.length:=by have:=(arW.1 ad).1;omega
  obtain⟨cg,az,aJ,_⟩:=each j iR;rw[ad]at az;obtain rfl:=apK az;refine .inr ⟨j,e,l[j],ab,ad,aA,apT iR, ?_⟩;rw[aJ,jz]at aA;exact acp aA
theorem Zm {tb:TypeId->b7}{t:TypeId}(iE:sV P tb t=true)(bM:cw N ρ I w){m k:R}{Bl nn:Value}(hm:bH (aK N ρ I) w ρ I m Bl)(ag:bH (aK N ρ I) w ρ I k nn)
 {c:Bool} {cq:List Prop} {v:R} {al:aD} (h:oV tb (tb t) m k c I= .a8 cq v al) (ay:∀p∈cq,p):
 ∃u,al=I/\(Instr.lookup t Bl nn c).run P w= .ok u w/\bH (aK N ρ I) w ρ I v u:=by
 unfold oV at h;split at h;rotate_left
 ·cases h
 rename_i n hO e id Kg;split at h;rotate_left
 ·cases h
 rename_i n' an l key aF Jl;split at h;rotate_left
 ·cases h
 rename_i aV aB cx xV k5;simp only[bT.a8.injEq]at h;obtain⟨rfl,rfl,rfl⟩:=h;obtain rfl:=apC aB;have cx:=apC cx;have xV:=apC xV;obtain⟨q,hu,A,a6,j7,nJ,ki,g,bh,bm⟩:=HA iE Kg;have e5:ke key:=ay _ (arC ..);obtain⟨Bk,aY,bj,bG,di⟩:=wv Jl ag;have AB:n3 (aK N ρ I) w key nn:=⟨Bk,aY,by omega,fun j aI=>di j (by omega)⟩;obtain⟨av,b,ax,ah,rfl⟩:=hm;have ck:=bM.ob id av ax;rw[aF]at ck;obtain⟨fh,es,Bm,bD,bx,cH,jV,im,qW⟩:=ck;rw[ah]at bD;obtain rfl:=apK bD;obtain⟨z,lh,z2,z3⟩:=acr (w:=w) nJ bh bm (aK N ρ I)
 obtain⟨f1,f2,f3⟩:=Qb A a6 j7 cH (Z:=aK N ρ I) (w:=w) (fun i hi=>by
  obtain⟨cg,az,aJ,bX,cW,_⟩:=qW i hi
  exact⟨cg,az,by omega,bX,cW⟩) e5 (by omega) AB
 have jL:∃Bn ok,(Instr.lookup t (.map (some b)) nn c).run P w= .ok (if c then .tuple #[Bn, .bool ok]else Bn) w/\ok=mV n' l (key.map U.toInt)/\
  rl (aK N ρ I) w (dv n' (qa (tb e).ty) l (key.map U.toInt)) Bn/\(dv n' (qa (tb e).ty) l (key.map U.toInt)).length=(tb e).ty.size:=by
  rcases f3 with⟨g1,g2⟩|⟨j,cg,r,g1,g2,g3,g4,g5⟩
  ·obtain⟨dX,dU,_⟩:=yB (z:=qa (tb e).ty) g2;refine⟨z,false, ?_,dU.symm,by rw[dX];exact z2,by rw[dX];exact z3⟩;simp[Instr.lookup,run_underlying hu,MapKept.run_getObj_map bx,f1,g1,lh,Result.andThen]
  ·obtain⟨dX,dU,_⟩:=wG (z:=qa (tb e).ty) im g4 g5;have iR:=(aqp.1 g4).1;obtain⟨aJ,q1,cG,cV,gD,eb⟩:=qW j iR;rw[g2]at q1;obtain rfl:=apK q1;have pr:l.getD j []=r:=by rw[apA,g4];rfl
   rw[pr]at cG eb;refine⟨cg.val,true, ?_,dU.symm,by rw[dX];exact eb,by rw[dX,aqL];simp only[Nat.add_eq]at cx;omega⟩;simp[Instr.lookup,run_underlying hu,MapKept.run_getObj_map bx,f1,g1,Result.andThen]
 obtain⟨Bn,ok,v1,v2,v3,v4⟩:=jL;have fs:=X3 (ρ:=ρ) (I:=I) nJ v3 v4 (s:=aV.1) (v:=aV.2) k5 (fun p aE=>ay p (aqR _ aE));refine⟨_,rfl,v1, ?_⟩
 cases c with
 |false=>exact .hn fs
 |true=>
  refine⟨#[Bn, .bool ok],rfl,rfl,fun i hi=> ?_⟩
  match i,hi with
  |0,_=>exact fs
  |1,_=>exact .c7 (by rw[v2];exact bB.bool _)
theorem Xs {tb:TypeId->b7}{t:TypeId}(iE:sV P tb t=true)(bM:cw N ρ I w){m k x:R}{Bl nn tT:Value}(hm:bH (aK N ρ I) w ρ I m Bl)(ag:bH (aK N ρ I) w ρ I k nn)(aj:bH (aK N ρ I) w ρ I x tT)
 {cq:List Prop} {v:R} {al:aD} (h:sq tb (tb t) m k x I= .a8 cq v al) (ay:∀p∈cq,p):
 ∃w',v= .un/\(Instr.mapUpdate t Bl nn tT).run P w= .ok () w'/\cv N ρ I w ρ al w':=by
 unfold sq at h;split at h;rotate_left
 ·cases h
 rename_i n hO e id Kg;split at h;rotate_left
 ·cases h
 rename_i n' an l key r ep aF Jl qI;split at h;rotate_left
 ·cases h
 rename_i aB cx xV;simp only[bT.a8.injEq]at h;obtain⟨rfl,rfl,rfl⟩:=h;obtain rfl:=apC aB;have cx:=apC cx;simp only[Nat.add_eq]at cx;have xV:=apC xV;obtain⟨q,hu,A,a6,j7,nJ,ki,g,bh,bm⟩:=HA iE Kg;have e5:ke key:=ay _ (arC ..);obtain⟨Bk,aY,bj,bG,di⟩:=wv Jl ag;have AB:n3 (aK N ρ I) w key nn:=⟨Bk,aY,by omega,fun j aI=>di j (by omega)⟩;obtain⟨jq,lX⟩:=acq (w:=w) nJ qI aj;obtain⟨av,b,ax,ah,rfl⟩:=hm;have ck:=bM.ob id av ax;rw[aF]at ck;obtain⟨fh,es,Bm,bD,bx,cH,jV,im,qW⟩:=ck;rw[ah]at bD;obtain rfl:=apK bD
 obtain⟨f1,f2,f3⟩:=Qb A a6 j7 cH (Z:=aK N ρ I) (w:=w) (fun i hi=>by
  obtain⟨cg,az,aJ,bX,cW,_⟩:=qW i hi
  exact⟨cg,az,by omega,bX,cW⟩) e5 (by omega) AB
 have xA:b<w.heap.size:=bM.lt id av b ax ah
 have fin:∀(pv:Array MapEntry) (AD:Nat) (cm:List (List U)),ma n' key r l=cm->(Instr.mapUpdate t (.map (some b)) nn tT).run P w= .ok () {w with heap:=w.heap.setIfInBounds b (.map pv AD)}->
  pv.size=cm.length->(cm.map (js n')).Nodup->(∀i,i<cm.length->∃e,pv[i]? =some e/\(cm.getD i []).length=an/\ke ((cm.getD i []).take n')/\n3 (aK N ρ I) w ((cm.getD i []).take n') e.key/\rl (aK N ρ I) w ((cm.getD i []).drop n') e.val)->
  ∃w',R.un= .un/\(Instr.mapUpdate t (.map (some b)) nn tT).run P w= .ok () w'/\cv N ρ I w ρ (cK I id (false, .map n' an (ma n' key r l))) w':=by
  intro pv AD cm iT fq ab ad aA;rw[iT,eE]
  have mc:∀x,x≠b->({w with heap:=w.heap.setIfInBounds b (.map pv AD)}:World).heap[x]? =w.heap[x]? :=fun x aj=>by
   simp[arB,aql aj]
  have hm:∀x u,bB (aK N ρ I) w x u->bB (aK N ρ (I.set id (false, .map n' an cm))) {w with heap:=w.heap.setIfInBounds b (.map pv AD)} x u:=fun x u ao=>
   ao.mono fun df _ nd=>⟨mc df fun aJ=>nd (.inr ⟨id,av,ax,aJ▸ah,ep⟩),fun db=>nd (by
    rcases db with aB|⟨i,l2,ba,bJ,cu⟩
    ·exact .inl aB
    ·refine .inr ⟨i,l2,ba,bJ, ?_⟩;rw[h9]at cu
     by_cases aJ:id=i
     ·subst aJ;exact ep
     ·rwa [apy (by simp[aJ])]at cu)⟩
  refine⟨_,rfl,fq,cv.Sk bM id av b ax ah ep _ (by rw[aF];rfl) (by rw[aF];rfl) _ rfl rfl rfl (by simp) mc ⟨b,pv,AD,ah,by simp[xA],ab,jV,ad,fun i hi=> ?_⟩⟩;obtain⟨aJ,q1,cG,cV,gD,eb⟩:=aA i hi;exact⟨aJ,q1,cG,cV,gD.mono hm,eb.mono hm⟩
 have kj:(key++r).length=an/\(key++r).take n'=key/\(key++r).drop n'=r:=by
  have tw:key.length=n':=by omega
  refine⟨by simp;omega,by rw[List.take_append_of_le_length (by omega),aro (by omega)],by rw[List.drop_append_of_le_length (by omega),List.drop_of_length_le (by omega)];rfl⟩
 have Ur:js n' (key++r)=key.map U.toInt:=by unfold js;rw[kj.2.1]
 rcases f3 with⟨g1,g2⟩|⟨j,cg,ld,g1,g2,g3,g4,g5⟩
 ·obtain⟨_,_,dR⟩:=yB (z:=[]) g2;refine fin (es.push ⟨nn,tT,Bm⟩) (Bm+1) (l++[key++r]) (dR key r rfl) ?_ (by simp[cH]) ?_ fun i hi=> ?_
  ·simp[Instr.mapUpdate,run_underlying hu,MapKept.run_getObj_map bx,f1,g1,MapKept.run_setObj_map _ bx,Result.andThen]
  ·rw[aqo,List.map_singleton,List.nodup_append];refine⟨im,by simp,fun a aR c aC=> ?_⟩;simp only[aqy]at aC;subst aC;obtain⟨dU,vz,rfl⟩:=apQ.1 aR;rw[Ur];exact g2 dU vz
  ·by_cases mC:i<l.length
   ·obtain⟨aJ,q1,cG⟩:=qW i mC;have bh:(l++[key++r]).getD i []=l.getD i []:=by simp only[apA];rw[aqr mC]
    rw[bh];exact⟨aJ,by rw[Array.getElem?_push,apy (by omega)];exact q1,cG⟩
   ·have ajZ:i=l.length:=by simp at hi;omega
    subst ajZ;have bh:(l++[key++r]).getD l.length []=key++r:=by simp[apA]
    rw[bh,kj.2.1,kj.2.2];exact⟨⟨nn,tT,Bm⟩,by rw[Array.getElem?_push,apz cH.symm],kj.1,e5,AB,lX⟩
 ·obtain⟨_,_,dR⟩:=wG (z:=[]) im g4 g5;have iR:=(aqp.1 g4).1;refine fin (es.modify j fun aJ=>{aJ with key:=nn,val:=tT}) Bm (l.set j (key++r)) (dR key r rfl) ?_ (by simp[cH]) ?_ fun i hi=> ?_
  ·simp[Instr.mapUpdate,run_underlying hu,MapKept.run_getObj_map bx,f1,g1,g2,g3,f2,MapKept.run_setObj_map _ bx,Result.andThen]
  ·rw[art,Ur]
   have:(l.map (js n')).set j (key.map U.toInt)=l.map (js n'):=by
    apply List.ext_getElem?;intro i;rw[aqk];split
    ·rename_i aJ;subst aJ;rw[apz (by simpa using iR),aqv,g4,aqF,g5]
    ·rfl
   rw[this];exact im
  ·have mC:i<l.length:=by simpa using hi
   obtain⟨aJ,q1,cG⟩:=qW i mC
   by_cases AE:j=i
   ·subst AE;have bh:(l.set j (key++r)).getD j []=key++r:=by simp[apA,iR]
    rw[bh,kj.2.1,kj.2.2];exact⟨{aJ with key:=nn,val:=tT},by rw[arF,apz rfl,q1];rfl,kj.1,e5,AB,lX⟩
   ·have bh:(l.set j (key++r)).getD i []=l.getD i []:=by simp only[apA];rw[aqk,apy AE]
    rw[bh];exact⟨aJ,by rw[arF,apy AE];exact q1,cG⟩
end
end Go.ak
end
section
namespace Go.ak
section
variable {P:Program} {N:Nat->Prop} {ρ:List Loc} {I:aD} {w:World}
theorem CD {Z:Nat->Prop}{v:R}{u:Value}(ag:xw v=true)(h:eJ Z w ρ I v u):u=xh v:=by
 cases v with
 |d x=>
  cases x with
  |int k n=>have h:bB Z w _ u:=h;cases h;rfl
  |bool b=>have h:bB Z w _ u:=h;cases h;rfl
  |_=>cases ag
 |bt=>exact h
 |bf=>exact h
 |_=>cases ag
theorem ad0 {Z:Nat->Prop}{v:R}{u:Value}(ag:xJ v=true)(h:bH Z w ρ I v u):u=va v:=by
 cases v with
 |agg l=>
  obtain⟨a,rfl,ay,ao⟩:=h;have ag:ed xw l=true:=ag;rw[fD,apR]at ag;show Value.agg a=Value.agg (bE xh l).toArray
  congr 1
  apply Array.ext
  ·rw[dP];simpa using ay
  ·intro i ab ad;have hi:i<l.length:=by omega
   have aA:=CD (ag (l.getD i .un) (by simp[apA,hi])) (ao i hi);simp only[dP,List.getElem_toArray,List.getElem_map];simpa[apH,apA,ab,hi]using aA
 |d x=>exact CD (Z:=Z) (w:=w) (v:= .d x) (ρ:=ρ) (I:=I) ag h
 |bt=>exact CD (Z:=Z) (w:=w) (v:= .bt) (ρ:=ρ) (I:=I) rfl h
 |bf=>exact CD (Z:=Z) (w:=w) (v:= .bf) (ρ:=ρ) (I:=I) rfl h
 |_=>cases ag
theorem acs {Z:Nat->Prop}{bW:List R}{us:Array Value}(ag:ed xJ bW=true)(ax:bW.length=us.toList.length)(h:∀i,i<bW.length->bH Z w ρ I (bW.getD i .un) (us.toList.getD i undef)):us=(bE va bW).toArray:=by
 rw[fD,apR]at ag;apply Array.ext
 ·rw[dP];simpa using ax.symm
 ·intro i ab ad;have hi:i<bW.length:=by rw[ax];simpa using ab
  have aA:=ad0 (ag (bW.getD i .un) (by simp[apA,hi])) (h i hi);simp only[dP,List.getElem_toArray,List.getElem_map];simpa[apA,ab,hi]using aA
theorem X4 {s:TypeId}{i:b7}(hi:c5 P s i=true){bW:List (Nat×Nat×aZ)}{cs:List cb}(h:i.ty= .struct bW cs)(f:Nat)(aU:f<bW.length)(n:Nat)(r:List U){u:Value}
 (hu:bH (aK N ρ I) w ρ I (.rw n r) u) (ax:fB i.ty f+(kK i.ty f).size<=n) {cq:List Prop} {v:R} {al:aD}
 (he:(match kK i.ty f with
   | .aG s=>bT.a8 [s.ql (r.getD (fB i.ty f) .undef)] (s.take (r.getD (fB i.ty f) .undef)) I
   |t'=>
    (match t'.jh with
    |true=> .a8 [] (.rw t'.size (lB r (fB i.ty f) t'.size n)) I
    |false=> .a8 (m5 t'.cells r (fB i.ty f)).1 (.agg (m5 t'.cells r (fB i.ty f)).2) I))= .a8 cq v al) (ay:∀p∈cq,p):
 ∃c2,al=I/\(Instr.field s u f).run P w= .ok c2 w/\bH (aK N ρ I) w ρ I v c2:=by
 obtain⟨a,ab,ad⟩:=yA hi h;obtain⟨ek,g,aY,bj,bG,di,eK,gC⟩:=Hk ad f aU;have tt:a[f]? =some ek:=by simpa using aY
 obtain⟨arr,rfl,aR,Ax,ao⟩:=hu;have Jh:fB i.ty f=ek.offset:=by rw[h,fB,dW,<-bG]
 have cd:kK i.ty f=(bW.getD f (0,0, .no)).2.2:=by rw[h,kK,dW]
 rw[Jh,cd]at ax he;obtain⟨d,j4,ig⟩:=gC
 have Tv:∀m,m<g.size->ek.offset+g.size<=n->bB (aK N ρ I) w (r.getD (ek.offset+m) .undef) ((arr.extract ek.offset (ek.offset+g.size)).getD m undef):=fun m hm bh=>by
  have:=ao (ek.offset+m) (by omega)
  have az:(arr.extract ek.offset (ek.offset+g.size)).getD m undef=arr.getD (ek.offset+m) undef:=by
   rw[apH,apH,Array.getElem?_extract,apz (by omega)]
  rw[az];exact this
 have th:∀lN,(bW.getD f (0,0, .no)).2.2.isAgg=true->(bW.getD f (0,0, .no)).2.2.cells=lN->(bW.getD f (0,0, .no)).2.2.size=lN.length->
  (match(bW.getD f (0,0, .no)).2.2.jh with
    |true=>bT.a8 [] (.rw (bW.getD f (0,0, .no)).2.2.size (lB r ek.offset (bW.getD f (0,0, .no)).2.2.size n)) I
    |false=> .a8 (m5 (bW.getD f (0,0, .no)).2.2.cells r ek.offset).1 (.agg (m5 (bW.getD f (0,0, .no)).2.2.cells r ek.offset).2) I)= .a8 cq v al->
  ∃c2,al=I/\(Instr.field s (.agg arr) f).run P w= .ok c2 w/\bH (aK N ρ I) w ρ I v c2:=fun lN q1 cG cV he=>by
  rw[q1]at ig
  have fq:(Instr.field s (.agg arr) f).run P w= .ok (.agg (arr.extract ek.offset (ek.offset+g.size))) w:=by
   simp[Instr.field,underlying,ab,tt,asAgg,part,q_ j4,ig,lr bj]
  split at he
  ·simp only[bT.a8.injEq]at he;obtain⟨rfl,rfl,rfl⟩:=he;obtain⟨dh,eW⟩:=Hj (j:=ek.offset) (n:=(bW.getD f (0,0, .no)).2.2.size) Ax ax;refine⟨_,rfl,fq, .hn ⟨_,rfl,by rw[Array.size_extract];omega,dh,fun m hm=> ?_⟩⟩;rw[eW m hm];exact Tv m (by omega) (by omega)
  ·simp only[bT.a8.injEq]at he;obtain⟨rfl,rfl,rfl⟩:=he;rw[cG]at ay⊢;obtain⟨dh,eW⟩:=Hl (Z:=aK N ρ I) (w:=w) (ρ:=ρ) (I:=I) lN r ek.offset (fun m=>(arr.extract ek.offset (ek.offset+g.size)).getD m undef) (fun m hm=>Tv m (by omega) (by omega)) ay;exact⟨_,rfl,fq, .hn ⟨_,rfl,by rw[Array.size_extract];omega,fun m hm=>eW m (by omega)⟩⟩
 cases rE:(bW.getD f (0,0, .no)).2.2 with
 |aG st=>
  rw[rE]at ax ig di he;have bL:ek.offset<n:=by simp[aZ.size]at ax;omega
  have j1:ek.offset<arr.size:=by omega
  simp only[bT.a8.injEq]at he;obtain⟨rfl,rfl,rfl⟩:=he;refine⟨arr[ek.offset],rfl, ?_, ?_⟩
  ·simp[Instr.field,underlying,ab,tt,asAgg,part,q_ j4,ig,aZ.isAgg,j1]
  ·have:=ao ek.offset bL;simp only[apH,arn j1,aqz]at this;exact .c7 (ui this (ay _ (by simp)))
 |no=>
  rw[rE]at ax di;simp[aZ.size]at di;omega
 |struct FF lN=>rw[rE]at he th;exact th lN rfl rfl (by simp[aZ.size,cI]) he
 |arr n' cg lN=>rw[rE]at he th;exact th lN rfl rfl (by simp[aZ.size,cI]) he
theorem X5 {s:TypeId}{i:b7}(hi:c5 P s i=true){f:Nat}{x:R}{u:Value}(aj:bH (aK N ρ I) w ρ I x u){cq:List Prop}{v:R}{al:aD}
 (h:p5 i.ty f x I= .a8 cq v al) (ay:∀p∈cq,p):∃c2,al=I/\(Instr.field s u f).run P w= .ok c2 w/\bH (aK N ρ I) w ρ I v c2:=by
 unfold p5 at h;split at h
 ·cases h
 ·rename_i ff
  obtain⟨bW,cs,cd,aU⟩:∃bW cs,i.ty= .struct bW cs/\f<bW.length:=by
   cases cd:i.ty with
   |struct bW cs=>
    rw[cd]at ff;have:f+1<=bS bW:=by simpa[sI,Nat.blt]using ff
    rw[cI]at this;exact⟨bW,cs,rfl,by omega⟩
   |_=>rw[cd]at ff;simp[sI]at ff
  split at h
  ·rename_i l;split at h
   ·rename_i hle;simp only[bT.a8.injEq]at h;obtain⟨rfl,rfl,rfl⟩:=h;have hle:=apZ hle;rw[cI]at hle;obtain⟨u,ab,ad⟩:=aau (w:=w) hi cd f aU l aj hle;exact⟨u,rfl,ab,ad⟩
   ·cases h
  ·rename_i n r;split at h
   ·rename_i hle aB;exact X4 hi cd f aU n r aj (apZ hle) h ay
   ·cases h
  ·cases h
theorem C7 {tb:TypeId->b7}{t:TypeId}(h:qb P tb t=true):sV P tb t=true/\zv P (tb t) t=true:=by
 unfold qb at h;split at h
 ·rename_i ab;exact⟨ab,h⟩
 ·cases h
theorem aaI {tb:TypeId->b7}(bp:∀t,c5 P t (tb t)=true)(iE:∀t,qb P tb t=true){o:Oper}{tm:List R}{a:Act}(bM:cw N ρ I w)(aw:ei (aK N ρ I) w ρ I tm a.tmps)
 {cq:List Prop} {v:R} {al:aD} (h:e6 tb o tm I= .a8 cq v al) (ay:∀p∈cq,p):Good P N ρ I w (execOp a.eval o) v al:=by
 unfold e6 at h;unfold execOp
 cases bO:o.op with
 |move x=>
  simp only[bO]at h⊢;simp only[bT.a8.injEq]at h;obtain⟨rfl,rfl,rfl⟩:=h;exact .zw bM (ey aw x)
 |assign x=>
  simp only[bO]at h⊢;simp only[bT.a8.injEq]at h;obtain⟨rfl,rfl,rfl⟩:=h;exact .zw bM (ey aw x)
 |pick c x y=>
  simp only[bO]at h⊢;obtain⟨b,rfl,ah,aO⟩:=Yv aw h;refine⟨.value (if b then a.eval x else a.eval y),w,ρ,_, ?_, .inl rfl,cv.refl bM,aO⟩;rw[ah];cases b<;>rfl
 |alloc t=>
  simp only[bO]at h⊢;obtain⟨u,w',ρ',ab,ad,aA⟩:=Nn (bp t) bM h;exact nZ ab ad aA rfl
 |box t x=>
  simp only[bO]at h⊢;obtain⟨u,w',ρ',ab,ad,aA⟩:=Zk (P:=P) (t:=t) bM aw h;exact nZ ab ad aA rfl
 |build t bP=>
  simp only[bO]at h⊢;obtain⟨u,rfl,ab,ad⟩:=X0 (bp t) aw bP h;exact i_ bM ab ad rfl
 |buildSlice t n bP=>
  simp only[bO]at h⊢;split at h
  ·rename_i k cd;split at h
   ·rename_i l ax aB;obtain⟨u,w',ρ',ab,ad,aA⟩:=Ns (bp t) bM aw bP n cd ax (apZ aB);unfold sQ at h;split at h
    ·simp only[bT.a8.injEq]at h;obtain⟨rfl,rfl,rfl⟩:=h;obtain⟨aY,bj⟩:=forget bM ad aA (.inl ⟨k,l,rfl⟩);exact nZ ab aY (v:= .d _) bj rfl
    ·simp only[bT.a8.injEq]at h;obtain⟨rfl,rfl,rfl⟩:=h;rw[fC,cI];exact nZ ab ad aA rfl
   ·cases h
  ·rename_i an cd;split at h
   ·rename_i l ax aB;obtain⟨u,w',ρ',ab,ad,aA⟩:=G2 (bp t) bM aw bP n cd ax (apZ aB);unfold sQ at h;split at h
    ·simp only[bT.a8.injEq]at h;obtain⟨rfl,rfl,rfl⟩:=h;obtain⟨aY,bj⟩:=forget bM ad aA (.inr ⟨an,l,rfl⟩);exact nZ ab aY (v:= .d _) bj rfl
    ·simp only[bT.a8.injEq]at h;obtain⟨rfl,rfl,rfl⟩:=h;rw[fC,cI];exact nZ ab ad aA rfl
   ·cases h
  ·cases h
 |load t p=>
  simp only[bO]at h⊢;obtain⟨u,rfl,ab,ad⟩:=G7 (bp t) bM aw h ay;exact i_ bM ab ad rfl
 |store t p x=>
  simp only[bO]at h⊢;obtain⟨w',rfl,ab,ad⟩:=XZ (bp t) bM aw h ay;exact⟨.skip,w',ρ,undef,by simp[ab], .inr ⟨rfl,rfl⟩,ad,bH.un⟩
 |nilCheck x=>
  simp only[bO]at h⊢;have aj:=ey aw x;split at h
  ·rename_i id j he;simp only[bT.a8.injEq]at h;obtain⟨rfl,rfl,rfl⟩:=h;rw[he]at aj;have k6:=aj;obtain⟨av,b,ab,ad,aA,ba⟩:=aj;rw[ba]at k6⊢;exact .zw bM k6
  ·rename_i id n j he;simp only[bT.a8.injEq]at h;obtain⟨rfl,rfl,rfl⟩:=h;rw[he]at aj;have k6:=aj;obtain⟨av,b,ab,ad,aA,ba,bJ⟩:=aj;rw[ba]at k6⊢;exact .zw bM k6
  ·rename_i y n j he;simp only[bT.a8.injEq]at h;obtain⟨rfl,rfl,rfl⟩:=h;rw[he]at aj;have k6:=aj;obtain⟨b,off,cap,ab,ad,aA,ba⟩:=aj;rw[ba]at k6⊢;exact .zw bM k6
  ·cases h
 |binOp op t x y ty=>
  simp only[bO]at h⊢;unfold zt at h;split at h
  ·obtain⟨u,rfl,ab,ad⟩:=aaH (P:=P) (bp t) (C7 (iE t)).2 aw h ay;exact i_ bM ab ad rfl
  ·obtain⟨u,rfl,ab,ad⟩:=Zg (P:=P) (bp t) aw h ay;exact i_ bM ab ad rfl
 |unOp op t x=>
  simp only[bO]at h⊢;obtain⟨u,rfl,ab,ad⟩:=aar (P:=P) aw h;exact i_ bM ab ad rfl
 |convert src dst x=>
  simp only[bO]at h⊢;obtain⟨u,rfl,ab,ad⟩:=aco (bp src) (bp dst) bM aw h ay;exact i_ bM ab ad rfl
 |extract x i=>
  simp only[bO]at h⊢;split at h
  ·rename_i l he;split at h
   ·rename_i bL;simp only[bT.a8.injEq]at h;obtain⟨rfl,rfl,rfl⟩:=h;have bL:i+1<=bS l:=by simpa[Nat.blt]using bL
    rw[cI]at bL;obtain⟨u,ab,ad⟩:=Yw (P:=P) aw he bL;exact i_ bM ab ad rfl
   ·cases h
  ·cases h
 |fieldAddr s x f=>
  simp only[bO]at h⊢;split at h
  ·cases h
  ·rename_i ff;have aj:=ey aw x
   obtain⟨bW,cs,cd,aU⟩:∃bW cs,(tb s).ty= .struct bW cs/\f<bW.length:=by
    cases cd:(tb s).ty with
    |struct bW cs=>
     rw[cd]at ff;have:f+1<=bS bW:=by simpa[sI,Nat.blt]using ff
     rw[cI]at this;exact⟨bW,cs,rfl,by omega⟩
    |_=>rw[cd]at ff;simp[sI]at ff
   have fq:=fun b o=>Yz (w:=w) (bp s) cd f aU b o;split at h
   ·rename_i id off he;simp only[bT.a8.injEq]at h;obtain⟨rfl,rfl,rfl⟩:=h;rw[he]at aj;obtain⟨av,b,ab,ad,aA,ba⟩:=aj;refine i_ bM (by rw[ba];exact fq b off) ?_ rfl;exact .c7 ⟨av,b,ab,ad,aA,rfl⟩
   ·rename_i id n j he;simp only[bT.a8.injEq]at h;obtain⟨rfl,rfl,rfl⟩:=h;rw[he]at aj;obtain⟨av,b,ab,ad,aA,ba,bJ⟩:=aj;refine i_ bM (by rw[ba];exact fq b _) ?_ rfl;exact .c7 ⟨av,b,ab,ad,aA,by rw[aqs];rfl,bJ⟩
   ·rename_i y n j he;simp only[bT.a8.injEq]at h;obtain⟨rfl,rfl,rfl⟩:=h;rw[he]at aj;obtain⟨b,off,cap,ab,ad,aA,ba⟩:=aj;refine i_ bM (by rw[ba];exact fq b _) ?_ rfl;exact .c7 ⟨b,off,cap,ab,ad,aA,by rw[aqs];rfl⟩
   ·cases h
 |field s x f=>
  simp only[bO]at h⊢;obtain⟨u,rfl,ab,ad⟩:=X5 (w:=w) (bp s) (ey aw x) h ay;exact i_ bM ab ad rfl
 |indexAddr t x i=>
  simp only[bO]at h⊢;obtain⟨u,rfl,ab,ad⟩:=Xo (bp t) bM aw h ay;exact i_ bM ab ad rfl
 |index t x i=>
  simp only[bO]at h⊢;have aj:=ey aw x;have hi:=ey aw i;generalize aN tm x=am3 at*;generalize aN tm i=ii at*;unfold yX at h;split at h
  ·rename_i k n;split at h
   ·rename_i l cd;simp only[bT.a8.injEq]at h;obtain⟨rfl,rfl,rfl⟩:=h;have bc:0<=n:=ay _ (by simp);have ab:n<(l.length:Int):=ay _ (by simp);obtain⟨s,hu,ax⟩:=uq aj;have az:=jb hi;have vc:=sx (bp t) cd;have bL:n.toNat<s.data.size:=by rw[ax,apI,aqD]at ab;omega
    refine i_ bM (u:= .int .u8 (s.data[n.toNat]).toNat) ?_ ?_ rfl
    ·rw[hu,az]
     have bh:(if 0<=n then s[n.toNat]? else none)=some (s.data[n.toNat]):=by
      rw[apz bc];have:n.toNat<s.size:=bL;rw[getElem?_pos s n.toNat this];rfl
     simp only[Instr.index,asIntOf,Sem.run_bind,Sem.run_pure,Result.andThen_ok,run_underlying vc,bh]
    ·rw[ax]
     have:((s.data.toList.map fun b=>(b.toNat:Int)).getD n.toNat 0)=((s.data[n.toNat]).toNat:Int):=by
      rw[apA,aqv,arT,arn bL];rfl
     rw[this];exact oW _ _
   ·rename_i m s _ z r cd;split at h
    ·rename_i bm;obtain rfl:=apC bm;simp only[bT.a8.injEq]at h;obtain⟨rfl,rfl,rfl⟩:=h;have bc:0<=n:=ay _ (by simp);have ab:n<(z:Int):=ay _ (by simp);have az:=jb hi;obtain⟨el,g,d,q1,cG,cV,gD,eb⟩:=Zh (bp t) cd;have cV:g.size=1:=cV;have eb:o5 d=false:=eb;obtain⟨arr,hu,gj,jx,ao⟩:=aj;have bL:n.toNat<arr.size:=by omega
     refine i_ bM (u:=arr[n.toNat]) ?_ ?_ rfl
     ·rw[hu,az];simp[Instr.index,asIntOf,underlying,q1,bc,ab,lr cG,cV,part,q_ gD,eb,bL]
     ·have:=ao n.toNat (by omega);simp only[apH,arn bL,aqz]at this;exact .c7 (ui this (ay _ (by simp)))
    ·cases h
   ·cases h
  ·cases h
 |makeSlice t n c=>
  simp only[bO]at h⊢;obtain⟨u,w',ρ',ab,ad,aA⟩:=YB (bp t) bM aw h ay;exact nZ ab ad aA rfl
 |slice t x lo hi dp=>
  simp only[bO]at h⊢;obtain⟨u,ρ',ab,ad,aA⟩:=YD (bp t) bM aw h ay;exact nZ ab ad aA rfl
 |call c=>
  simp only[bO]at h;split at h
  ·rename_i b aC;obtain⟨consts,he⟩:=Nt (a:=a) bO aC;have:=Xr (P:=P) (N:=N) (ρ:=ρ) (w:=w) bp bM aw h ay o.type consts;rw[<-he]at this;unfold execOp at this;rw[bO]at this;exact this
  ·cases h
  ·unfold sJ at h;split at h<;>cases h
  ·cases h
 |makeFunc fn first cap=>
  simp only[bO]at h⊢;unfold zh at h;obtain⟨de,ab⟩:=Ip aw first
  obtain⟨l2,_⟩:=Ip aw cap;generalize bE (aN tm) first.toList=bW at h de ab
  generalize bE (aN tm) cap.toList=cs at h l2;split at h
  ·rename_i f
   have yi:cap.map a.eval=#[]:=by
    have:(cap.map a.eval).toList.length=0:=l2.symm;exact Array.eq_empty_of_size_eq_zero (by simpa using this)
   rw[yi];split at h
   ·simp only[bT.a8.injEq]at h;obtain⟨rfl,rfl,rfl⟩:=h
    have yj:first.map a.eval=#[]:=by
     have:(first.map a.eval).toList.length=0:=de.symm;exact Array.eq_empty_of_size_eq_zero (by simpa using this)
    rw[yj];exact i_ bM (u:= .func (.func f) #[] #[]) (v:= .fn f) rfl (.c7 rfl) rfl
   ·split at h
    ·rename_i ag;simp only[bT.a8.injEq]at h;obtain⟨rfl,rfl,rfl⟩:=h;have e:=acs ag de ab;exact i_ bM (u:= .func (.func f) (first.map a.eval) #[]) (v:= .cls f bW) rfl (.c7 ⟨by rw[e],ag⟩) rfl
    ·cases h
  ·cases h
 |makeMap t r=>
  cases r with
  |some x=>simp only[bO]at h;cases h
  |none=>
   simp only[bO]at h⊢;obtain⟨u,w',ρ',ab,ad,aA⟩:=YE (P:=P) (C7 (iE t)).1 bM h;exact nZ ab ad aA rfl
 |lookup t m k c=>
  simp only[bO]at h⊢;obtain⟨u,rfl,ab,ad⟩:=Zm (P:=P) (C7 (iE t)).1 bM (ey aw m) (ey aw k) h ay;exact i_ bM ab ad rfl
 |mapUpdate t m k x=>
  simp only[bO]at h⊢;obtain⟨w',rfl,ab,ad⟩:=Xs (P:=P) (C7 (iE t)).1 bM (ey aw m) (ey aw k) (ey aw x) h ay;exact⟨.skip,w',ρ,undef,by simp[ab], .inr ⟨rfl,rfl⟩,ad,bH.un⟩
 |panic x=>
  simp only[bO]at h;simp only[bT.a8.injEq]at h;obtain⟨rfl,_⟩:=h;exact(ay False (by simp)).elim
 |_=>simp only[bO]at h;cases h
end
end Go.ak
end
section
namespace Go.ak
def h1 (P:Program)(f:FuncId)(T:gu):Prop:=
 (∃fn,P.funcs[f]? =some fn/\fn.body.isNone=false/\(fn.name== "runtime.NumGoroutine")=false)/\
 ∀(N:Nat->Prop) (ρ:List Loc) (I:aD) (w:World) (args:List R) (cn:Array Value) (K:R->aD->Prop),T args I K->cw N ρ I w->
  args.length=cn.size->(∀i,i<args.length->bH (aK N ρ I) w ρ I (args.getD i .un) (cn.getD i undef))->
  Calls P f cn w fun e w'=>∃r al ρ' v,e= .returned v/\K r al/\cv N ρ I w ρ' al w'/\bH (aK N ρ' al) w' ρ' al r v
def Qc (P:Program)(f:FuncId)(T:gu):Prop:=
 ∀(N:Nat->Prop) (ρ:List Loc) (I:aD) (w:World) (args:List R) (cn:Array Value) (K:R->aD->Prop),T args I K->cw N ρ I w->
  args.length=cn.size->(∀i,i<args.length->bH (aK N ρ I) w ρ I (args.getD i .un) (cn.getD i undef))->
  ∃v w' r al ρ',(callFunc f cn).run P w= .ok (.value v) w'/\K r al/\cv N ρ I w ρ' al w'/\bH (aK N ρ' al) w' ρ' al r v
def yZ (P:Program)(f:FuncId)(T:gu):Prop:=h1 P f T\/Qc P f T
section
variable {P:Program} {N:Nat->Prop} {ρ:List Loc} {I:aD} {w:World}
theorem aaJ {N:Nat->Prop}{ρ:List Loc}{I cO:aD}{w:World}{A:Value->World->Prop}{v:R}{al:aD}{id:Nat}(h:cv N ρ I w ρ cO w)
 (k:∃u w' ρ',A u w'/\cw N ρ' al w'/\Fr ρ cO w ρ' al w'/\(∀i,i≠id->eQ ρ cO ρ' al i)/\bH (aK N ρ' al) w' ρ' al v u):
 ∃u w' ρ',A u w'/\cw N ρ' al w'/\Fr ρ I w ρ' al w'/\(∀i,i≠id->eQ ρ I ρ' al i)/\bH (aK N ρ' al) w' ρ' al v u:=by
 obtain⟨u,w',ρ',ab,ad,aA,ba,bJ⟩:=k;refine⟨u,w',ρ',ab,ad,h.toFr.trans aA,fun i hi=> ?_,bJ⟩;intro av ax;obtain⟨a1,a2,a3⟩:=h.same i av ax;obtain⟨ch,df,iD⟩:=ba i hi av a1;exact⟨ch,df.trans a2,iD.trans a3⟩
theorem Nw (t:aZ)(x:U)(i:Int)(j:Nat)(I:aD):loadData t x i j I= .bad\/∃s v,loadData t x i j I= .a8 s v I:=by
 unfold loadData;split
 ·split
  ·split
   ·exact .inr ⟨_,_,rfl⟩
   ·exact .inl rfl
  ·exact .inl rfl
 ·split
  ·split
   ·exact .inr ⟨_,_,rfl⟩
   ·split<;>exact .inr ⟨_,_,rfl⟩
   ·exact .inr ⟨_,_,rfl⟩
   ·exact .inl rfl
  ·exact .inl rfl
 ·exact .inl rfl
theorem Ou (t:aZ)(x:U)(i:Int)(j:Nat)(I:aD):loadAt t x i j I= .bad\/∃s v,loadAt t x i j I= .a8 s v I:=by
 unfold loadAt;split
 ·exact .inr ⟨_,_,rfl⟩
 ·exact .inl rfl
theorem Hb (t:aZ)(p:R)(I:aD):h2 t p I= .bad\/∃s v,h2 t p I= .a8 s v I:=by
 unfold h2;split
 ·split
  ·split<;>first|exact .inr ⟨_,_,rfl⟩|exact .inl rfl
  ·exact .inl rfl
 ·exact Nw _ _ _ _ _
 ·exact Nw _ _ _ _ _
 ·exact Ou _ _ _ _ _
 ·exact Ou _ _ _ _ _
 ·exact .inl rfl
theorem X6 (t:aZ)(p:R)(r:List U)(I:aD):re t p r I= .bad\/∃s v al,re t p r I= .a8 s v al:=by
 unfold re
 (repeat' split)<;>first|exact .inr ⟨_,_,_,rfl⟩|exact .inl rfl
theorem Xt (t:aZ)(id:Nat)(i:Int)(j:Nat)(v:R)(I:aD):q9 t id i j v I= .bad\/∃s c8 al,q9 t id i j v I= .a8 s c8 al:=by
 unfold q9
 (repeat' split)<;>first|exact .inr ⟨_,_,_,rfl⟩|exact .inl rfl
theorem X7 (t:aZ)(p v:R)(I:aD):ux t p v I= .bad\/∃s c8 al,ux t p v I= .a8 s c8 al:=by
 unfold ux
 (repeat' split)<;>first|exact .inr ⟨_,_,_,rfl⟩|exact .inl rfl
theorem Nx (t:aZ)(p v:R)(I:aD):p2 t p v I= .bad\/∃s c8 al,p2 t p v I= .a8 s c8 al:=by
 unfold p2;split
 ·exact X6 _ _ _ _
 ·split
  ·exact Xt _ _ _ _ _ _
  ·exact X7 _ _ _ _
def bT.fixed:bT->Prop
 | .bad=>True
 | .a8 ..=>True
 |_=>False
theorem Qd {r:bT}(h:r= .bad\/∃s v o,r= .a8 s v o):r.fixed:=by
 rcases h with rfl|⟨_,_,_,rfl⟩<;>trivial
theorem CE {r:bT}(h:r.fixed):r= .bad\/∃s v o,r= .a8 s v o:=by
 cases r<;>first|exact .inl rfl|exact .inr ⟨_,_,_,rfl⟩|exact h.elim
theorem Xu (t:aZ)(p:R)(I:aD):(h2 t p I).fixed:=Qd ((Hb t p I).imp id fun⟨s,v,h⟩=>⟨s,v,_,h⟩)
theorem Xa (t:aZ)(p v:R)(I:aD):(p2 t p v I).fixed:=Qd (Nx t p v I)
theorem aaK (t:aZ)(x:R)(n:Int)(I:aD):o_ t x n I= .bad\/∃s v,o_ t x n I= .a8 s v I:=by
 unfold o_
 (repeat' split)<;>first|exact .inr ⟨_,_,rfl⟩|exact .inl rfl
theorem YF (t:aZ)(x:R)(n:Int)(I:aD):(o_ t x n I).fixed:=by unfold o_;(repeat' split)<;>trivial
theorem WJ (t:aZ)(x i:R)(I:aD):(q4 t x i I).fixed:=by unfold q4;(repeat' split)<;>first|trivial|exact YF _ _ _ _
theorem Xb (t:aZ)(x i:R)(I:aD):(yX t x i I).fixed:=by unfold yX;(repeat' split)<;>trivial
theorem Xv (t:b7)(x i:R)(I:aD):(wX t x i I).fixed:=by unfold wX;(repeat' split)<;>trivial
theorem Xc (t:aZ)(x:R)(lo hi dp:Option R)(I:aD):(kI t x lo hi dp I).fixed:=by unfold kI;(repeat' split)<;>trivial
theorem Xd (t:aZ)(x:R)(lo hi dp:Option R)(I:aD):(sz t x lo hi dp I).fixed:=by
 unfold sz;split
 ·unfold p3;(repeat' split)<;>trivial
 ·exact Xc _ _ _ _ _ _
theorem M5 (t:b7)(x:R)(lo hi dp:Option R)(I:aD):(uG t x lo hi dp I).fixed:=by
 unfold uG;split
 ·unfold CB;(repeat' split)<;>trivial
 ·exact Xd _ _ _ _ _ _
theorem Xe (t:b7)(x:R)(I:aD):(wO t x I).fixed:=by unfold wO;(repeat' split)<;>trivial
theorem W1 (tb:TypeId->b7)(t:b7)(m k:R)(c:Bool)(I:aD):(oV tb t m k c I).fixed:=by unfold oV;(repeat' split)<;>trivial
theorem Ms (tb:TypeId->b7)(t:b7)(m k v:R)(I:aD):(sq tb t m k v I).fixed:=by unfold sq;(repeat' split)<;>trivial
theorem WX (tb:TypeId->b7)(t:b7)(I:aD):(yE tb t I).fixed:=by unfold yE;(repeat' split)<;>trivial
theorem YG (op:BinOp)(t:aZ)(x y:R)(I:aD):(qm op t x y I).fixed:=by unfold qm;(repeat' split)<;>trivial
theorem Xf (t:aZ)(f:Nat)(v:R)(I:aD):(p5 t f v I).fixed:=by unfold p5;(repeat' split)<;>trivial
theorem Xg (t:aZ)(ps:List (Nat×R))(I:aD):(p4 t ps I).fixed:=by unfold p4;(repeat' split)<;>trivial
theorem MR (t:aZ)(I:aD):(uy t I).fixed:=by unfold uy;(repeat' split)<;>trivial
theorem Ny (t:aZ)(v:R)(I:aD):(zs t v I).fixed:=by unfold zs;(repeat' split)<;>trivial
theorem X8 (b:Bool)(ob:ae)(I:aD):(sQ b ob I).fixed:=by unfold sQ;split<;>trivial
theorem Xw (c x y:R)(I:aD):(wW c x y I).fixed:=by unfold wW;(repeat' split)<;>trivial
theorem YH (op:UnOp)(x:R)(I:aD):(xg op x I).fixed:=by unfold xg;(repeat' split)<;>trivial
theorem Xx (s d:aZ)(x:R)(I:aD):(n6 s d x I).fixed:=by unfold n6;(repeat' split)<;>trivial
theorem Xy (fn:Fn)(first cap:List R)(I:aD):(zh fn first cap I).fixed:=by unfold zh;(repeat' split)<;>trivial
theorem Hp {op:BinOp}{t:aZ}{dC:Operand}{x y:R}{I:aD}{r:bT}(h:zt op t dC x y I=r)(ao:r.fixed->False):o2 op t dC x y I=r:=by
 unfold zt at h;split at h
 ·exact(ao (h▸YG _ _ _ _ _)).elim
 ·exact h
theorem Cn {t:b7}{x:R}{I:aD}{r:bT}(h:wO t x I=r)(ao:r.fixed->False):False:=ao (h▸Xe _ _ _)
def ad1:Op->Bool
 | .binOp ..=>false
 | .call _=>false
 |_=>true
theorem HY {tb:TypeId->b7}{o:Oper}{tm:List R}{I:aD}(aE:ad1 o.op=true):(e6 tb o tm I).fixed:=by
 unfold e6;split
 all_goals first
  |trivial
  |exact Xw _ _ _ _
  |exact MR _ _
  |exact Ny _ _ _
  |exact Xg _ _ _
  |exact Xu _ _ _
  |exact Xa _ _ _ _
  |exact YH _ _ _
  |exact Xx _ _ _ _
  |exact Xf _ _ _ _
  |exact WJ _ _ _ _
  |exact Xb _ _ _ _
  |exact Xv _ _ _ _
  |exact M5 _ _ _ _ _ _
  |exact WX _ _ _
  |exact W1 _ _ _ _ _ _
  |exact Ms _ _ _ _ _ _
  |exact Xy _ _ _ _
  |(rename_i he;rw[he]at aE;exact absurd aE aqM)
  |((repeat' split)<;>first|trivial|exact X8 _ _ _)
theorem M6 (v:R)(args:List R)(tys:List TypeId):sJ v args tys= .bad\/∃f a,sJ v args tys= .call f a tys:=by
 unfold sJ;split
 ·exact .inr ⟨_,_,rfl⟩
 ·exact .inr ⟨_,_,rfl⟩
 ·exact .inl rfl
theorem Pg {tb:TypeId->b7}{o:Oper}{tm:List R}{cq:List Prop}{v:R}{al:aD}{id:Nat}(h:e6 tb o tm I= .grow cq v al id):
 ∃c b,o.op= .call c/\c.callee= .builtin b/\kG tb b c.argTypes.toList (bE (aN tm) c.args.toList) I= .grow cq v al id:=by
 have bc:=h;unfold e6 at h
 cases bO:o.op with
 |call c=>
  simp only[bO]at h;split at h
  ·rename_i b aC;exact⟨c,b,rfl,aC,h⟩
  ·cases h
  ·rename_i t _;rcases M6 (b6 .un tm t) (bE (aN tm) c.args.toList) c.argTypes.toList with e|⟨_,_,e⟩<;>rw[e]at h<;>cases h
  ·cases h
 |binOp op t x y ty=>
  simp only[bO]at h
  replace h:=Hp h (fun h=>h)
  unfold o2 at h;split at h
  ·split at h
   ·cases h
   ·cases h
   ·split at h
    ·cases op<;>simp[oc]at h
    ·cases h
  ·split at h<;>cases h
  ·split at h<;>cases h
  ·split at h<;>cases h
  all_goals first|cases h|(unfold jF at h;split at h<;>cases h)
 |_=>have:=HY (tb:=tb) (o:=o) (tm:=tm) (I:=I) (by rw[bO];rfl);rw[bc]at this;exact this.elim
theorem Zn {tb:TypeId->b7}(bp:∀t,c5 P t (tb t)=true){o:Oper}{tm:List R}{a:Act}(bM:cw N ρ I w)(aw:ei (aK N ρ I) w ρ I tm a.tmps)
 {cq:List Prop} {v:R} {al:aD} {id:Nat} (h:e6 tb o tm I= .grow cq v al id) (ay:∀p∈cq,p):
 ∃u w' ρ',(execOp a.eval o).run P w= .ok (.value u) w'/\cw N ρ' (gF id al) w'/\Fr ρ I w ρ' (gF id al) w'/\(∀i,i≠id->eQ ρ I ρ' (gF id al) i)/\
  bH (aK N ρ' (gF id al)) w' ρ' (gF id al) v u:=by
 obtain⟨c,b,bO,aC,h⟩:=Pg h;obtain⟨consts,he⟩:=Nt (a:=a) bO aC;rw[he];unfold kG at h;split at h
 ·split at h
  ·cases h
  ·split at h<;>cases h
 ·rename_i x y fR;obtain⟨p,q,ry,aE,a6⟩:=HV fR;have aj:=ey aw p;have bo:=ey aw q;rw[aE]at aj;rw[a6]at bo;rw[ry];clear fR aE a6 ry;obtain⟨cS,bo⟩:=HW bM bo
  replace aj:=cS.kd aj
  refine aaJ cS ?_
  replace bM:=cS.rel
  clear cS aw;generalize lA I y=cO at*;generalize s4 I y=oL at*;split at h
  ·rename_i n kp ah;split at h
   ·rename_i ow;have ow:=apC ow;have vf:=Nu (tys:=c.argTypes) (by omega);obtain⟨cg,ag⟩:=q2 (bp _) kp
    have rY:0<(tb (b6 0 c.argTypes.toList 0)).bytes:=by
     have:1<=(tb (b6 0 c.argTypes.toList 0)).bytes:=by simpa[Nat.blt]using ah
     omega
    have oi:∀(u:Value) (w':World),(Builtin.append_ #[b6 0 c.argTypes.toList 0,b6 0 c.argTypes.toList 1] o.type #[a.eval p,a.eval q]).run P w= .ok u w'->
     (builtin .append c.argTypes o.type consts (#[p,q].map a.eval)).run P w= .ok (.value u) w':=by
     intro u w' ao;rw[vf];simp only[builtin,Sem.run_bind,arE,ap2,List.map_nil,ao,Result.andThen_ok,Sem.run_pure]
    unfold sv at h;split at h
    ·split at h<;>cases h
    ·split at h
     ·split at h<;>cases h
     ·cases h
    ·split at h<;>cases h
    ·rename_i j8 x;split at h
     ·rename_i aU ep;split at h
      ·rename_i k l cD m aF;split at h
       ·rename_i ox;simp only[bT.grow.injEq]at h;obtain⟨rfl,rfl,rfl,rfl⟩:=h;obtain rfl:=jD.1 ox
        obtain⟨u,w',ρ',ab,ad,aA,ba,bJ⟩:=MQ (P:=P) (N:=N) (ρ:=ρ) (I:=cO) (w:=w) (ty:=o.type) (bp _) bM ag aj bo aU ep (.af k (m++l)) (.inl ⟨k,l,m,rfl,aF,rfl⟩) rY
         (by rw[aF];have:=ay _ (aqy.2 rfl);exact this)
        rw[eE];exact⟨u,w',ρ',oi _ _ ab,ad,aA,ba,bJ⟩
       ·cases h
      ·rename_i an l ic m aF;split at h
       ·rename_i ox;simp only[bT.grow.injEq]at h;obtain⟨rfl,rfl,rfl,rfl⟩:=h;obtain rfl:=apC ox
        obtain⟨u,w',ρ',ab,ad,aA,ba,bJ⟩:=MQ (P:=P) (N:=N) (ρ:=ρ) (I:=cO) (w:=w) (ty:=o.type) (bp _) bM ag aj bo aU ep (.ar an (m++l)) (.inr ⟨an,l,m,rfl,aF,rfl⟩) rY
         (by rw[aF];have:=ay _ (aqy.2 rfl);exact this)
        rw[eE];exact⟨u,w',ρ',oi _ _ ab,ad,aA,ba,bJ⟩
       ·cases h
      ·cases h
     ·cases h
    ·cases h
   ·cases h
  ·cases h
 ·split at h<;>cases h
 ·split at h<;>cases h
 ·split at h
  ·exact(Cn h (fun h=>h)).elim
  ·cases h
 ·cases h
theorem Ro {tb:TypeId->b7}{o:Oper}{tm:List R}{p:Bool->Prop}(h:e6 tb o tm I= .fF p):(∃op t x y ty,o.op= .binOp op t x y ty/\o2 op (tb t).ty y (aN tm x) (aN tm y) I= .fF p):=by
 have bc:=h;unfold e6 at h
 cases bO:o.op with
 |binOp op t x y ty=>simp only[bO]at h;exact⟨op,t,x,y,ty,rfl,Hp h (fun h=>h)⟩
 |call c=>
  simp only[bO]at h;split at h
  ·unfold kG at h;split at h
   ·split at h
    ·cases h
    ·split at h<;>cases h
   ·split at h
    ·split at h
     ·unfold sv at h;split at h
      ·split at h<;>cases h
      ·split at h
       ·split at h<;>cases h
       ·cases h
      ·split at h<;>cases h
      ·split at h
       ·split at h
        ·split at h<;>cases h
        ·split at h<;>cases h
        ·cases h
       ·cases h
      ·cases h
     ·cases h
    ·cases h
   ·split at h<;>cases h
   ·split at h<;>cases h
   ·split at h
    ·exact(Cn h (fun h=>h)).elim
    ·cases h
   ·cases h
  ·cases h
  ·rename_i t _;rcases M6 (b6 .un tm t) (bE (aN tm) c.args.toList) c.argTypes.toList with e|⟨_,_,e⟩<;>rw[e]at h<;>cases h
  ·cases h
 |_=>have:=HY (tb:=tb) (o:=o) (tm:=tm) (I:=I) (by rw[bO];rfl);rw[bc]at this;exact this.elim
theorem Zo {tb:TypeId->b7}(bp:∀t,c5 P t (tb t)=true){o:Oper}{tm:List R}{a:Act}(aw:ei (aK N ρ I) w ρ I tm a.tmps)
 {p:Bool->Prop} (h:e6 tb o tm I= .fF p):∃b,p b/\(execOp a.eval o).run P w= .ok (.value (.bool b)) w:=by
 obtain⟨op,t,x,y,ty,aF,ah⟩:=Ro h;obtain⟨b,ab,ad⟩:=acn (P:=P) (bp t) aw ah;refine⟨b,ab, ?_⟩;unfold execOp;rw[aF];simp only[Sem.run_bind]at ad⊢
 cases bh:(eqGuard op t x y (a.eval x) (a.eval y)).run P w with
 |ok q w1=>
  rw[bh]at ad;simp only[Result.andThen_ok]at ad⊢;rw[ad];rfl
 |halt q w1=>rw[bh]at ad;cases ad
theorem ad2 {tb:TypeId->b7}{o:Oper}{tm:List R}{f:FuncId}{args:List R}{tys:List TypeId}(h:e6 tb o tm I= .call f args tys):
 ∃c,o.op= .call c/\((c.callee= .value (.func f)/\args=bE (aN tm) c.args.toList)\/∃t,c.callee= .value (.tmp t)/\
  ((b6 .un tm t= .fn f/\args=bE (aN tm) c.args.toList)\/∃l,b6 .un tm t= .cls f l/\args=ez l (bE (aN tm) c.args.toList))):=by
 have bc:=h;unfold e6 at h
 cases bO:o.op with
 |call c=>
  simp only[bO]at h;split at h
  ·exfalso;unfold kG at h;split at h
   ·split at h
    ·cases h
    ·split at h<;>cases h
   ·split at h
    ·split at h
     ·unfold sv at h;split at h
      ·split at h<;>cases h
      ·split at h
       ·split at h<;>cases h
       ·cases h
      ·split at h<;>cases h
      ·split at h
       ·split at h
        ·split at h<;>cases h
        ·split at h<;>cases h
        ·cases h
       ·cases h
      ·cases h
     ·cases h
    ·cases h
   ·split at h<;>cases h
   ·split at h<;>cases h
   ·split at h
    ·exact(Cn h (fun h=>h)).elim
    ·cases h
   ·cases h
  ·rename_i g aC;simp only[bT.call.injEq]at h;obtain⟨rfl,rfl,rfl⟩:=h;exact⟨c,rfl, .inl ⟨aC,rfl⟩⟩
  ·rename_i t aC;unfold sJ at h;split at h
   ·rename_i g aO;simp only[bT.call.injEq]at h;obtain⟨rfl,rfl,rfl⟩:=h;exact⟨c,rfl, .inr ⟨t,aC, .inl ⟨aO,rfl⟩⟩⟩
   ·rename_i g l aO;simp only[bT.call.injEq]at h;obtain⟨rfl,rfl,rfl⟩:=h;exact⟨c,rfl, .inr ⟨t,aC, .inr ⟨l,aO,rfl⟩⟩⟩
   ·cases h
  ·cases h
 |binOp op t x y ty=>
  simp only[bO]at h
  replace h:=Hp h (fun h=>h)
  unfold o2 at h;split at h
  ·split at h
   ·cases h
   ·cases h
   ·split at h
    ·cases op<;>simp[oc]at h
    ·cases h
  ·split at h<;>cases h
  ·split at h<;>cases h
  ·split at h<;>cases h
  all_goals first|cases h|(unfold jF at h;split at h<;>cases h)
 |_=>have:=HY (tb:=tb) (o:=o) (tm:=tm) (I:=I) (by rw[bO];rfl);rw[bc]at this;exact this.elim
end
end Go.ak
end
section
namespace Go.ak
def n9:Loc:=⟨none,1,none⟩
section
variable {P:Program} {N:Nat->Prop} {ρ:List Loc} {I:aD} {w:World}
theorem yF {Z:Nat->Prop}{t:R}{v:Value}{id:Nat}(aE:ρ[id]? =some n9)(h:eJ Z w ρ I t v)(aB:t.lE id):False:=by
 cases t<;>try exact aB
 case vec i=>
  obtain rfl:i=id:=aB;obtain⟨av,ab,_,aA⟩:=h;rw[aE]at ab;obtain rfl:=apK ab;have:=aA rfl;cases this
 case ptr i off=>
  obtain rfl:i=id:=aB;obtain⟨av,b,ab,ad,_⟩:=h;rw[aE]at ab;obtain rfl:=apK ab;cases ad
 case optr i x y=>
  obtain rfl:i=id:=aB;obtain⟨av,b,ab,ad,_⟩:=h;rw[aE]at ab;obtain rfl:=apK ab;cases ad
 case oat i x y=>
  obtain rfl:i=id:=aB;obtain⟨av,b,ab,ad,_⟩:=h;rw[aE]at ab;obtain rfl:=apK ab;cases ad
 case mp i=>
  obtain rfl:i=id:=aB;obtain⟨av,b,ab,ad,_⟩:=h;rw[aE]at ab;obtain rfl:=apK ab;cases ad
 case tail i x=>
  obtain rfl:i=id:=aB;obtain⟨av,b,ab,ad,_⟩:=h;rw[aE]at ab;obtain rfl:=apK ab;cases ad
theorem Ph {Z:Nat->Prop}{w:World}{ρ:List Loc}{I:aD}{t:R}{v:Value}(aB:∀l,t≠ .agg l)(ao:∀n r,t≠ .rw n r)(h:iv Z w ρ I t v):eJ Z w ρ I t v:=by
 cases t<;>first|exact h|exact absurd rfl (aB _)|exact absurd rfl (ao _ _)
theorem Qe {Z:Nat->Prop}{w:World}{ρ:List Loc}{I:aD}{t:R}{v:Value}(aB:∀l,t≠ .tup l)(h:bH Z w ρ I t v):iv Z w ρ I t v:=by
 cases t<;>first|exact h|exact absurd rfl (aB _)
theorem acu {t:TypeId}{i:b7}(hi:c5 P t i=true)(aB:i.ty≠ .no)(h:cw N ρ I w){id:Nat}(aE:ρ[id]? =some n9):
 ∃u w' ρ',(Instr.alloc t true (.tuple #[])).run P w= .ok u w'/\cw N ρ' (I.set id (false, .cells i.ty.zero)) w'/\Fr ρ I w ρ' (I.set id (false, .cells i.ty.zero)) w'/\
  (∀j,j≠id->eQ ρ I ρ' (I.set id (false, .cells i.ty.zero)) j)/\(∀fe v,bH (aK N ρ I) w ρ I fe v->bH (aK N ρ' (I.set id (false, .cells i.ty.zero))) w' ρ' (I.set id (false, .cells i.ty.zero)) fe v)/\
  bH (aK N ρ' (I.set id (false, .cells i.ty.zero))) w' ρ' (I.set id (false, .cells i.ty.zero)) (.ptr id 0) u:=by
 obtain⟨g,z,ab,ad,aA,ba⟩:=Hy (w:=w) (ρ:=ρ) (I:=I) hi aB;have bL:=h.j0 aE;have xi:id<ρ.length:=by rw[h.len];exact bL
 generalize ax:i.ty.zero=l at*
 have mc:∀b,b<w.heap.size->(w.alloc (.cells z.cells t)).heap[b]? =w.heap[b]? :=fun b ah=>heap_alloc_old w _ b ah
 have iw:∀b,gi (ρ.set id ⟨some ⟨w.heap.size,0,none⟩,0,some w.heap.size⟩) (I.set id (false, .cells l)) b->gi ρ I b\/b=w.heap.size:=fun b ⟨j,av,aY,bj,bG⟩=>by
  rw[aqk]at aY
  by_cases e:id=j
  ·subst e;rw[apz rfl,apz xi]at aY;obtain rfl:=apK aY;exact .inr (apK bj).symm
  ·rw[apy e]at aY;rw[h9,apy (by simp[e])]at bG;exact .inl ⟨j,av,aY,bj,bG⟩
 have cy:Fr ρ I w (ρ.set id ⟨some ⟨w.heap.size,0,none⟩,0,some w.heap.size⟩) (I.set id (false, .cells l)) (w.alloc (.cells z.cells t)):=by
  refine⟨rfl,rfl,rfl,by simp,fun b ah _=>mc b ah,fun b ah=> ?_⟩;rcases iw b ah with ah|rfl
  ·exact .inl ah
  ·exact .inr (apF _)
 have e1:∀j,j≠id->eQ ρ I (ρ.set id ⟨some ⟨w.heap.size,0,none⟩,0,some w.heap.size⟩) (I.set id (false, .cells l)) j:=fun j aI av dg=>by
  refine⟨by rw[aqk,apy (aql aI)];exact dg, ?_⟩;rw[gG,apy (by simp[aql aI])];exact⟨rfl,rfl⟩
 have uT:∀x u,bB (aK N ρ I) w x u->bB (aK N (ρ.set id ⟨some ⟨w.heap.size,0,none⟩,0,some w.heap.size⟩) (I.set id (false, .cells l))) (w.alloc (.cells z.cells t)) x u:=fun x u aj=>
  aj.mono fun b ah bm=>⟨mc b ah,fun db=>by
   rcases db with db|db
   ·exact bm (.inl db)
   ·rcases iw b db with db|rfl
    ·exact bm (.inr db)
    ·omega⟩
 have bc:∀fe v,eJ (aK N ρ I) w ρ I fe v->eJ (aK N (ρ.set id ⟨some ⟨w.heap.size,0,none⟩,0,some w.heap.size⟩) (I.set id (false, .cells l))) (w.alloc (.cells z.cells t)) (ρ.set id ⟨some ⟨w.heap.size,0,none⟩,0,some w.heap.size⟩) (I.set id (false, .cells l)) fe v:=
  fun fe v aw=>aw.mono uT fun j aI=>e1 j fun e=>yF aE aw (e▸aI)
 have tx:∀fe v,iv (aK N ρ I) w ρ I fe v->iv (aK N (ρ.set id ⟨some ⟨w.heap.size,0,none⟩,0,some w.heap.size⟩) (I.set id (false, .cells l))) (w.alloc (.cells z.cells t)) (ρ.set id ⟨some ⟨w.heap.size,0,none⟩,0,some w.heap.size⟩) (I.set id (false, .cells l)) fe v:=fun fe v aw=>by
  cases fe with
  |agg x=>
   obtain⟨a,az,aJ,bX⟩:=aw;exact⟨a,az,aJ,fun j aI=>bc _ _ (bX j aI)⟩
  |rw n r=>
   obtain⟨a,az,aJ,cW,bX⟩:=aw;exact⟨a,az,aJ,cW,fun j aI=>uT _ _ (bX j aI)⟩
  |_=>exact .c7 (bc _ _ (Ph (by intro l e;cases e) (by intro n l e;cases e) aw))
 have bM:cw N (ρ.set id ⟨some ⟨w.heap.size,0,none⟩,0,some w.heap.size⟩) (I.set id (false, .cells l)) (w.alloc (.cells z.cells t)):=by
  refine h.tp cy (by simp[h.len]) (fun j cA aI k idx ag lO=> ?_) (fun j av dg=> ?_)
  ·refine e1 idx fun e=> ?_
   have Jm:j<ρ.length:=by
    rcases aq5 j ρ.length with aj|aj
    ·exact aj
    ·rw[h.len]at aj;have:ae.at I j= .gone:=by simp[ae.at,dW,apA,aqc aj]
     rw[this]at aI;cases aI
   have ck:=h.ob j ρ[j] (by simp[Jm]);rw[aI]at ck;obtain⟨b,aH,cg,_,_,_,_,eK⟩:=ck;exact yF aE (eK k ag) (e▸lO)
  ·rw[aqk]at dg
   by_cases e:id=j
   ·subst e;rw[apz rfl,apz xi]at dg;obtain rfl:=apK dg;refine .inr ⟨fun b ah=> ?_, ?_⟩
    ·simp only[apX]at ah;subst ah;refine⟨by simp,fun aB=>absurd (h.e3 _ aB) (by omega),fun q kC a6 AF _=> ?_⟩;rw[aqk]at a6
     by_cases aJ:id=q
     ·exact aJ.symm
     ·rw[apy aJ]at a6;have:=h.lt q kC _ a6 AF;omega
    ·rw[gG,apz ⟨rfl,bL⟩];exact⟨w.heap.size,z.cells,t,rfl,rfl,n1 w _,aA,fun k ag=>bc _ _ (ba _ k ag)⟩
   ·rw[apy e]at dg;exact .inl ⟨dg,by rw[gG,apy (by simp[e])],fun aj=>by rwa [h9,apy (by simp[e])]at aj,fun b ah=>mc b (h.lt j av b dg ah)⟩
 refine⟨_,_,_,by simp[Instr.alloc,zeroValue,typeInfo,ab,ad,newVar,newRow],bM,cy,e1,fun fe v aw=> ?_, .c7 ⟨_,w.heap.size,by rw[aqk,apz rfl,apz xi],rfl,rfl,rfl⟩⟩
 cases fe with
 |tup x=>
  obtain⟨a,az,aJ,bX⟩:=aw;exact⟨a,az,aJ,fun j aI=>tx _ _ (bX j aI)⟩
 |_=>exact .hn (tx _ _ (Qe (by intro l e;cases e) aw))
theorem aaL {Z:Nat->Prop}{t:R}{v:Value}{id:Nat}(h:eJ Z w ρ I t v)(aB:t.lE id):∃av,ρ[id]? =some av:=by
 cases t<;>try exact aB.elim
 case vec i=>obtain rfl:i=id:=aB;obtain⟨av,ab,_⟩:=h;exact⟨av,ab⟩
 case ptr i off=>obtain rfl:i=id:=aB;obtain⟨av,b,ab,_⟩:=h;exact⟨av,ab⟩
 case optr i x y=>obtain rfl:i=id:=aB;obtain⟨av,b,ab,_⟩:=h;exact⟨av,ab⟩
 case oat i x y=>obtain rfl:i=id:=aB;obtain⟨av,b,ab,_⟩:=h;exact⟨av,ab⟩
 case mp i=>obtain rfl:i=id:=aB;obtain⟨av,b,ab,_⟩:=h;exact⟨av,ab⟩
 case tail i x=>obtain rfl:i=id:=aB;obtain⟨av,b,ab,_⟩:=h;exact⟨av,ab⟩
theorem Sn (h:cw N ρ I w){id:Nat}(aE:ρ[id]? =some n9){eo:List Loc}{ob:ae}{w':World}(ay:cv N ρ I w eo (I++[(false,ob)]) w')(ck:∀l,ob≠ .cells l){av:Loc}(az:eo[I.length]? =some av):
 ∃dF,cw N dF (I.set id (false,ob)) w'/\Fr ρ I w dF (I.set id (false,ob)) w'/\(∀j,j≠id->eQ ρ I dF (I.set id (false,ob)) j)/\
  (∀fe v,bH (aK N ρ I) w ρ I fe v->bH (aK N dF (I.set id (false,ob))) w' dF (I.set id (false,ob)) fe v)/\dF[id]? =some av/\id<I.length:=by
 have bL:=h.j0 aE;have xi:id<ρ.length:=by rw[h.len];exact bL
 have jy:∀j cA,ρ[j]? =some cA->eo[j]? =some cA:=fun j cA aI=>(ay.same j cA aI).1
 have dn:id≠I.length:=by omega
 have xB:∀j cA,(ρ.set id av)[j]? =some cA->(j=id/\cA=av)\/(j≠id/\ρ[j]? =some cA):=fun j cA aI=>by
  rw[aqk]at aI
  by_cases e:id=j
  ·subst e;rw[apz rfl,apz xi]at aI;exact .inl ⟨rfl,(apK aI).symm⟩
  ·rw[apy e]at aI;exact .inr ⟨fun h=>e h.symm,aI⟩
 have tz:∀j cA,ρ[j]? =some cA->j<I.length:=fun j cA aI=>h.j0 aI
 have iw:∀b,gi (ρ.set id av) (I.set id (false,ob)) b->gi eo (I++[(false,ob)]) b:=fun b ⟨j,cA,aY,bj,bG⟩=>by
  rcases xB j cA aY with⟨rfl,rfl⟩|⟨aI,aY⟩
  ·exact⟨I.length,cA,az,bj,by rw[jJ,apz rfl]⟩
  ·rw[h9,apy (by simp[aql aI])]at bG;exact⟨j,cA,jy j cA aY,bj,by rw[jJ,apy (by have:=tz j cA aY;omega)];exact bG⟩
 have cy:Fr ρ I w (ρ.set id av) (I.set id (false,ob)) w':=⟨ay.os,ay.tape,ay.output,ay.size,ay.aq,fun b ah=>ay.alive b (iw b ah)⟩
 have e1:∀j,j≠id->eQ ρ I (ρ.set id av) (I.set id (false,ob)) j:=fun j aI cA dg=>by
  refine⟨by rw[aqk,apy (aql aI)];exact dg, ?_⟩;rw[gG,apy (by simp[aql aI])];exact⟨rfl,rfl⟩
 have Iq:∀x v,bB (aK N eo (I++[(false,ob)])) w' x v->bB (aK N (ρ.set id av) (I.set id (false,ob))) w' x v:=fun x v aj=>
  aj.mono fun b _ bm=>⟨rfl,fun db=>by
   rcases db with db|db
   ·exact bm (.inl db)
   ·exact bm (.inr (iw b db))⟩
 have IL:∀j,j≠id->j<I.length->eQ eo (I++[(false,ob)]) (ρ.set id av) (I.set id (false,ob)) j:=fun j aI iR cA dg=>by
  have ahe:j<ρ.length:=by rw[h.len];exact iR
  have bh:ρ[j]? =some ρ[j]:=apT ahe;have:=jy j _ bh;rw[dg]at this;obtain rfl:=apK this;refine⟨by rw[aqk,apy (aql aI)];exact bh, ?_⟩;rw[gG,apy (by simp[aql aI]),fQ,apy (by omega)];exact⟨rfl,rfl⟩
 have names:∀j l,ae.at I j= .cells l->∀k idx,k<l.length->(l.getD k .un).lE idx->idx≠id/\idx<I.length:=fun j l aI k idx ag lO=>by
  have Jm:j<ρ.length:=by
   rcases aq5 j ρ.length with aj|aj
   ·exact aj
   ·rw[h.len]at aj;have:ae.at I j= .gone:=by simp[ae.at,dW,apA,aqc aj]
    rw[this]at aI;cases aI
  have ck:=h.ob j ρ[j] (by simp[Jm]);rw[aI]at ck;obtain⟨b,aH,cg,_,_,_,_,eK⟩:=ck;refine⟨fun e=>yF aE (eK k ag) (e▸lO), ?_⟩;obtain⟨Lc,aj⟩:=aaL (eK k ag) lO;exact h.j0 aj
 have bM:cw N (ρ.set id av) (I.set id (false,ob)) w':=by
  refine h.z1 cy (by simp[h.len]) (fun j l aI k idx ag lO=>e1 idx (names j l aI k idx ag lO).1) (fun j cA aI=> ?_)
  by_cases sp:j≠id/\hx I j
  ·obtain⟨s1,s2⟩:=sp;rcases xB j cA aI with⟨rfl,_⟩|⟨_,aY⟩
   ·exact absurd rfl s1
   ·exact .inl ⟨aY,by rw[gG,apy (by simp[aql s1])],fun aj=>by rwa [h9,apy (by simp[aql s1])]at aj,fun aj0=>absurd s2 aj0⟩
  have fresh:¬hx (I++[(false,ob)]) I.length:=lu (by rw[jJ,apz rfl])
  have kU:∀q,q<I.length->¬hx I q->¬hx (I++[(false,ob)]) q:=fun q a6 aB ⟨f,n,an,e⟩=>aB ⟨by rwa [jJ,apy (by omega)]at f,n,an,by rwa [fQ,apy (by omega)]at e⟩
  have SY:∀q,q≠id->¬hx (I.set id (false,ob)) q->¬hx I q:=fun q a6 aB ⟨f,n,an,e⟩=>aB ⟨by rw[h9,apy (by simp[aql a6])];exact f,n,an,by rw[gG,apy (by simp[aql a6])];exact e⟩
  refine .inr ⟨fun b ah=> ?_, ?_⟩
  ·have uniq:∀q kC,(ρ.set id av)[q]? =some kC->kC.bs=some b->¬hx (I.set id (false,ob)) q->q=j:=fun q kC a6 AF VH=>by
    rcases xB j cA aI with⟨rfl,rfl⟩|⟨h4,aY⟩<;>rcases xB q kC a6 with⟨rfl,rfl⟩|⟨pq,bj⟩
    ·rfl
    ·have:=ay.rel.inj q I.length kC cA b (jy q kC bj) az AF ah (kU q (tz q kC bj) (SY q pq VH)) fresh;have:=tz q kC bj;omega
    ·have:=ay.rel.inj j I.length cA kC b (jy j cA aY) az ah AF (kU j (tz j cA aY) fun s=>sp ⟨h4,s⟩) fresh;have:=tz j cA aY;omega
    ·exact ay.rel.inj q j kC cA b (jy q kC bj) (jy j cA aY) AF ah (kU q (tz q kC bj) (SY q pq VH)) (kU j (tz j cA aY) fun s=>sp ⟨h4,s⟩)
   rcases xB j cA aI with⟨rfl,rfl⟩|⟨h4,aY⟩
   ·exact⟨ay.rel.lt _ _ _ az ah,ay.rel.fz _ _ _ az ah,uniq⟩
   ·exact⟨ay.rel.lt _ _ _ (jy j cA aY) ah,ay.rel.fz _ _ _ (jy j cA aY) ah,uniq⟩
  ·rcases xB j cA aI with⟨rfl,rfl⟩|⟨h4,aY⟩
   ·rw[gG,apz ⟨rfl,bL⟩];have:=ay.rel.ob I.length cA az;rw[fQ,apz rfl]at this;exact this.mono (fun _ _=>rfl) Iq fun l ax=>absurd ax (ck l)
   ·rw[gG,apy (by simp[aql h4])];have:=ay.rel.ob j cA (jy j cA aY);rw[fQ,apy (by have:=tz j cA aY;omega)]at this;exact this.mono (fun _ _=>rfl) Iq fun l ax k idx ag lO=>IL idx (names j l ax k idx ag lO).1 (names j l ax k idx ag lO).2
 have uT:∀x v,bB (aK N ρ I) w x v->bB (aK N (ρ.set id av) (I.set id (false,ob))) w' x v:=fun x v aj=>Iq x v (ay.toFr.reads aj)
 have bc:∀fe v,eJ (aK N ρ I) w ρ I fe v->eJ (aK N (ρ.set id av) (I.set id (false,ob))) w' (ρ.set id av) (I.set id (false,ob)) fe v:=
  fun fe v aw=>aw.mono uT fun j aI=>e1 j fun e=>yF aE aw (e▸aI)
 have tx:∀fe v,iv (aK N ρ I) w ρ I fe v->iv (aK N (ρ.set id av) (I.set id (false,ob))) w' (ρ.set id av) (I.set id (false,ob)) fe v:=fun fe v aw=>by
  cases fe with
  |agg x=>
   obtain⟨a,az,aJ,bX⟩:=aw;exact⟨a,az,aJ,fun j aI=>bc _ _ (bX j aI)⟩
  |rw n r=>
   obtain⟨a,az,aJ,cW,bX⟩:=aw;exact⟨a,az,aJ,cW,fun j aI=>uT _ _ (bX j aI)⟩
  |_=>exact .c7 (bc _ _ (Ph (by intro l e;cases e) (by intro n l e;cases e) aw))
 refine⟨ρ.set id av,bM,cy,e1,fun fe v aw=> ?_,by rw[aqk,apz rfl,apz xi],bL⟩
 cases fe with
 |tup x=>
  obtain⟨a,az,aJ,bX⟩:=aw;exact⟨a,az,aJ,fun j aI=>tx _ _ (bX j aI)⟩
 |_=>exact .hn (tx _ _ (Qe (by intro l e;cases e) aw))
theorem SZ (h:cw N ρ I w){id:Nat}(aE:ρ[id]? =some n9){eo:List Loc}{ob:ae}{w':World}(ay:cv N ρ I w eo (I++[(false,ob)]) w')(ck:∀l,ob≠ .cells l){u:Value}
 (hu:bH (aK N eo (I++[(false,ob)])) w' eo (I++[(false,ob)]) (.vec I.length) u):
 ∃dF,cw N dF (I.set id (false,ob)) w'/\Fr ρ I w dF (I.set id (false,ob)) w'/\(∀j,j≠id->eQ ρ I dF (I.set id (false,ob)) j)/\
  (∀fe v,bH (aK N ρ I) w ρ I fe v->bH (aK N dF (I.set id (false,ob))) w' dF (I.set id (false,ob)) fe v)/\
  bH (aK N dF (I.set id (false,ob))) w' dF (I.set id (false,ob)) (.vec id) u:=by
 obtain⟨av,az,aJ,bX⟩:∃av,eo[I.length]? =some av/\u= .slice av.a (ae.at (I++[(false,ob)]) I.length).len av.cap/\(av.a=none->av.cap=0):=hu
 obtain⟨dF,aY,bj,bG,di,eK,gC⟩:=Sn h aE ay ck az;exact⟨dF,aY,bj,bG,di, .c7 ⟨av,eK,by rw[aJ,fQ,apz rfl,gG,apz ⟨rfl,gC⟩],bX⟩⟩
theorem acv {t:TypeId}{i:b7}(hi:c5 P t i=true)(ah:i.ty.jh=true)(bm:Nat.blt 0 i.ty.size=true)(h:cw N ρ I w){id:Nat}(aE:ρ[id]? =some n9):
 ∃u w' dF,(Instr.alloc t true (.tuple #[])).run P w= .ok u w'/\cw N dF (I.set id (false,ae.ar i.ty.size [bE cb.f_ i.ty.cells])) w'/\Fr ρ I w dF (I.set id (false,ae.ar i.ty.size [bE cb.f_ i.ty.cells])) w'/\
  (∀j,j≠id->eQ ρ I dF (I.set id (false,ae.ar i.ty.size [bE cb.f_ i.ty.cells])) j)/\(∀fe v,bH (aK N ρ I) w ρ I fe v->bH (aK N dF (I.set id (false,ae.ar i.ty.size [bE cb.f_ i.ty.cells]))) w' dF (I.set id (false,ae.ar i.ty.size [bE cb.f_ i.ty.cells])) fe v)/\
  bH (aK N dF (I.set id (false,ae.ar i.ty.size [bE cb.f_ i.ty.cells]))) w' dF (I.set id (false,ae.ar i.ty.size [bE cb.f_ i.ty.cells])) (.optr id 0 0) u:=by
 have he:uy i.ty I= .a8 [] (.optr I.length 0 0) (I++[(false,ae.ar i.ty.size [bE cb.f_ i.ty.cells])]):=by
  unfold uy;rw[ah,bm];simp only[fC,cI]
 obtain⟨u,w',eo,ab,ad,aA⟩:=Nn hi h he
 obtain⟨av,b,az,aJ,bX,cW,gY,jn⟩:∃av b,eo[I.length]? =some av/\av.a=some ⟨b,0,none⟩/\av.bs=some b/\u= .pointer (some ⟨b,Int.toNat 0*(ae.at (I++[(false,ae.ar i.ty.size [bE cb.f_ i.ty.cells])]) I.length).cL+0,none⟩)/\(0:Int)<=0/\(0:Int)<((ae.at (I++[(false,ae.ar i.ty.size [bE cb.f_ i.ty.cells])]) I.length).len:Int):=aA
 obtain⟨dF,aY,bj,bG,di,eK,gC⟩:=Sn h aE ad (fun l e=>by cases e) az;exact⟨u,w',dF,ab,aY,bj,bG,di, .c7 ⟨av,b,eK,aJ,bX,by rw[cW,fQ,apz rfl,gG,apz ⟨rfl,gC⟩],Int.le_refl 0,by rw[gG,apz ⟨rfl,gC⟩];simp[ae.len]⟩⟩
theorem acw (h:cw N ρ I w):cv N ρ I w (ρ++[n9]) (I++[(false, .gone)]) w:=by
 have cy:Fr ρ I w (ρ++[n9]) (I++[(false, .gone)]) w:=by
  refine⟨rfl,rfl,rfl,apF _,fun b ah _=>rfl,fun b ⟨i,av,ab,ad,aA⟩=> ?_⟩;rw[ap7]at ab
  by_cases hi:i<ρ.length
  ·rw[apz hi]at ab;rw[jJ,apy (by rw[<-h.len];omega)]at aA;exact .inl ⟨i,av,ab,ad,aA⟩
  ·rw[apy hi]at ab
   cases a_:i-ρ.length with
   |zero=>simp[a_]at ab;subst ab;cases ad
   |succ n=>simp[a_]at ab
 have e1:∀id,eQ ρ I (ρ++[n9]) (I++[(false, .gone)]) id:=fun id=>Hm h _ _ id
 refine{cy with rel:=h.tp cy (by simp[h.len]) (fun _ _ _ _ id _ _=>e1 id) (fun i av ax=> ?_),same:=e1};rw[ap7]at ax
 by_cases hi:i<ρ.length
 ·rw[apz hi]at ax;exact .inl ⟨ax,by rw[fQ,apy (by rw[<-h.len];omega)],fun aj=>by rwa [jJ,apy (by rw[<-h.len];omega)]at aj,fun b ah=>rfl⟩
 ·rw[apy hi]at ax
  cases a_:i-ρ.length with
  |succ n=>simp[a_]at ax
  |zero=>
   simp[a_]at ax;subst ax;have eY:i=I.length:=by rw[<-h.len];omega
   refine .inr ⟨fun b ah=>(by cases ah), ?_⟩;rw[eY,fQ,apz rfl];trivial
theorem Pj:∀(n:Nat) (ρ:List Loc) (I:aD),cw N ρ I w->cv N ρ I w (ρ++List.replicate n n9) (I++List.replicate n (false, .gone)) w
 |0,ρ,I,h=>by simpa using cv.refl h
 |n+1,ρ,I,h=>by
  have ab:=acw h;have ad:=Pj n _ _ ab.rel;have:=ab.trans ad;simpa[List.replicate_succ]using this
end
end Go.ak
end
section
namespace Go.ak
structure eA (N:Nat->Prop)(ρ:List Loc)(tm:List R)(I:aD)(a:Act)(w:World):Prop where
 eG:cw N ρ I w
 d_:ei (aK N ρ I) w ρ I tm a.tmps
 hP:a.defers=[]
structure m7 (N:Nat->Prop)(ρ:List Loc)(I:aD)(a:Act)(w:World)(wr:Tmp->Bool)(K:List R->aD->Prop)(cf:Act)(w':World):Prop where
 ex:∃dL al ρ',K dL al/\eA N ρ' dL al cf w'/\Fr ρ I w ρ' al w'
 same:∀t,wr t=false->cf.tmps.getD t undef=a.tmps.getD t undef
 an:cf.tmps.size=a.tmps.size
section
variable {P:Program} {N:Nat->Prop}
def pb (ops:Array Oper)(t:Tmp):Bool:=ops.toList.any fun o=>match o.dst with|some d=>Nat.beq d t|none=>false
theorem NV:∀(l:List Oper) (j:Nat),l7 l j=(l[j]?).bind (·.dst)
 |[],j=>by simp[l7]
 |o::r,0=>by simp[l7]
 |o::r,n+1=>by simp[l7,NV r n]
theorem acx (a:Act)(dst:Option Tmp)(v:Value)(t:Tmp)(h:dst≠some t):(a.put dst v).tmps.getD t undef=a.tmps.getD t undef:=by
 cases dst with
 |none=>rfl
 |some d=>
  simp only[Act.put];rw[wm,apy];rintro⟨rfl,_⟩;exact h rfl
theorem Co {ops:Array Oper}{i:Nat}{o:Oper}(aF:ops[i]? =some o){t:Tmp}(h:pb ops t=false):o.dst≠some t:=by
 intro a_
 have hm:o∈ops.toList:=by
  obtain⟨hi,rfl⟩:=arW.1 aF;simp
 unfold pb at h;rw[List.any_eq_false]at h;have:=h o hm;rw[a_]at this;simp at this
theorem DE {N:Nat->Prop}{ρ:List Loc}{tm:List R}{I:aD}{a:Act}{w:World}(h:eA N ρ tm I a w)(g:Tmp){b:Bool}(ah:a.tmps.getD g undef= .bool b):
 eA N ρ (cK tm g (if b then .bt else .bf)) I a w:=by
 refine⟨h.eG,⟨by rw[eE];simpa using h.d_.size,fun t=> ?_⟩,h.hP⟩;rw[eE,eR];split
 ·rename_i e;rw[<-e.1,ah];cases b<;>exact .c7 rfl
 ·exact h.d_.at_ t
theorem aaM {o:Oper}{a:Act}{next next':Act->World->Prop}{Q lZ:Exit->Act->World->Prop}(aB:∀a w,next a w->next' a w)(a6:∀e a w,Q e a w->lZ e a w){r:Result Next}
 (h:o.upon P a next Q r):o.upon P a next' lZ r:=by
 unfold Oper.upon at h⊢;split at h
 ·exact aB _ _ h
 ·exact aB _ _ h
 ·exact aB _ _ h
 ·refine h.mono fun e w ao=> ?_
  cases e with
  |returned v=>exact aB _ _ ao
  |panicked c=>exact a6 _ _ _ ao
  |outgrown=>obtain⟨x,y,b5⟩:=ao;exact⟨x,y,a6 _ _ _ b5⟩
 ·exact h.mono fun v w ao=>aB _ _ ao
 ·exact a6 _ _ _ h
 ·exact h.elim
theorem uk {ops:Array Oper}{Q lZ:Exit->Act->World->Prop}(a6:∀e a w,Q e a w->lZ e a w):∀(l:List Nat) (a:Act) (w:World),wpOps P ops Q l a w->wpOps P ops lZ l a w
 |[],a,w,h=>a6 _ _ _ h
 |i::br,a,w,h=>by
  simp only[wpOps]at h⊢;split
  ·rename_i aF;rw[aF]at h;exact uk a6 br a w h
  ·rename_i o aF;rw[aF]at h;simp only at h;split
   ·rename_i hw;rw[apz hw]at h;rcases h with h|⟨ab,x,y,ad⟩
    ·exact .inl (aaM (fun a w=>uk a6 br a w) a6 h)
    ·exact .inr ⟨ab,x,y,a6 _ _ _ ad⟩
   ·rename_i hw;rw[apy hw]at h;exact uk a6 br _ w h
theorem G3 (tb:TypeId->b7)(aL:List (Tmp×Nat))(o:Oper)(tm:List R)(I:aD):cQ tb aL o tm I=e6 tb o tm I\/
 (∃t d id,o.op= .alloc t/\o.dst=some d/\fw d aL=some id/\(cQ tb aL o tm I= .bad\/((tb t).ty≠ .no/\cQ tb aL o tm I= .a8 [] (.ptr id 0) (cK I id (false, .cells (tb t).ty.zero)))\/
   ((tb t).ty.jh=true/\Nat.blt 0 (tb t).ty.size=true/\cQ tb aL o tm I= .a8 [] (.optr id 0 0) (cK I id (false, .ar (tb t).ty.size [bE cb.f_ (tb t).ty.cells])))))\/
 ∃t n bP d id,o.op= .buildSlice t n bP/\o.dst=some d/\fw d aL=some id/\(cQ tb aL o tm I= .bad\/∃ob,s5 (tb t) n (bE (fun p=>(p.1,aN tm p.2)) bP.toList) I=some ob/\cQ tb aL o tm I= .a8 [] (.vec id) (cK I id (false,ob))):=by
 unfold cQ;split
 ·rename_i t d aF a_;split
  ·rename_i id dM;refine .inr (.inl ⟨t,d,id,aF,a_,dM, ?_⟩);split
   ·exact .inl rfl
   ·exact .inl rfl
   ·rename_i aB;exact .inr (.inl ⟨fun h=>aB h,rfl⟩)
   ·exact .inl rfl
   ·rename_i ah _;split
    ·rename_i bm;exact .inr (.inr ⟨ah,bm,rfl⟩)
    ·exact .inl rfl
  ·exact .inl rfl
 ·rename_i t n bP d aF a_;split
  ·rename_i id ax dM;refine .inr (.inr ⟨t,n,bP,d,id,aF,a_,dM, ?_⟩);split
   ·rename_i ob ck _;exact .inr ⟨ob,ck,rfl⟩
   ·exact .inl rfl
  ·exact .inl rfl
 ·exact .inl rfl
theorem acy {ρ:List Loc}{I:aD}{w:World}{tb:TypeId->b7}{t:TypeId}(bp:c5 P t (tb t)=true)(h:cw N ρ I w){tm:List R}{a:Act}(aw:ei (aK N ρ I) w ρ I tm a.tmps){id:Nat}(aE:ρ[id]? =some n9)
 (n:Nat) (bP:Array (Nat×Operand)) {ob:ae} (ck:s5 (tb t) n (bE (fun p=>(p.1,aN tm p.2)) bP.toList) I=some ob):
 ∃u w' dF,(Instr.buildSlice t n (bP.map fun(i,x)=>(i,a.eval x))).run P w= .ok u w'/\cw N dF (I.set id (false,ob)) w'/\Fr ρ I w dF (I.set id (false,ob)) w'/\(∀j,j≠id->eQ ρ I dF (I.set id (false,ob)) j)/\
  (∀fe v,bH (aK N ρ I) w ρ I fe v->bH (aK N dF (I.set id (false,ob))) w' dF (I.set id (false,ob)) fe v)/\
  bH (aK N dF (I.set id (false,ob))) w' dF (I.set id (false,ob)) (.vec id) u:=by
 unfold s5 at ck;split at ck
 ·rename_i k cd;split at ck
  ·rename_i l ax aB;obtain rfl:=apK ck;obtain⟨u,w',eo,ab,ad,aA⟩:=Ns (P:=P) bp h aw bP n cd ax (apZ aB);obtain⟨dF,aY⟩:=SZ h aE ad (fun l e=>by cases e) aA;exact⟨u,w',dF,ab,aY⟩
  ·cases ck
 ·rename_i an cd;split at ck
  ·rename_i l ax aB;obtain rfl:=apK ck;obtain⟨u,w',eo,ab,ad,aA⟩:=G2 (P:=P) bp h aw bP n cd ax (apZ aB);obtain⟨dF,aY⟩:=SZ h aE ad (fun l e=>by cases e) aA;exact⟨u,w',dF,ab,aY⟩
  ·cases ck
 ·cases ck
theorem Zp {t:b7}{x y:R}{I al:aD}{s:List Prop}{v:R}{id:Nat}(h:sv t x y I= .grow s v al id):x= .vec id:=by
 unfold sv at h;split at h
 ·split at h<;>cases h
 ·split at h
  ·split at h<;>cases h
  ·cases h
 ·split at h<;>cases h
 ·rename_i i a;split at h
  ·split at h
   ·split at h
    ·simp only[bT.grow.injEq]at h;rw[h.2.2.2]
    ·cases h
   ·split at h
    ·simp only[bT.grow.injEq]at h;rw[h.2.2.2]
    ·cases h
   ·cases h
  ·cases h
 ·cases h
theorem acz {tb:TypeId->b7}{o:Oper}{tm:List R}{I al:aD}{s:List Prop}{v:R}{id:Nat}(h:e6 tb o tm I= .grow s v al id):∃x:Operand,aN tm x= .vec id:=by
 obtain⟨c,b,_,_,h⟩:=Pg h;generalize fR:bE (aN tm) c.args.toList=args at h;unfold kG at h;split at h
 ·split at h
  ·cases h
  ·split at h<;>cases h
 ·obtain⟨p,q,_,aE,_⟩:=HV fR;split at h
  ·split at h
   ·exact⟨p,by rw[aE];exact Zp h⟩
   ·cases h
  ·cases h
 ·split at h<;>cases h
 ·split at h<;>cases h
 ·split at h
  ·exact(Cn h (fun h=>h)).elim
  ·cases h
 ·cases h
def z8 (aL:List (Tmp×Nat))(ops:Array Oper)(is:List Nat)(ρ:List Loc):Prop:=∀i∈is,∀o d id,ops[i]? =some o->o.dst=some d->fw d aL=some id->ρ[id]? =some n9
def HZ (aL:List (Tmp×Nat))(ops:Array Oper):Prop:=∀(i j:Nat) (o p:Oper) (d e:Tmp) (id:Nat),ops[i]? =some o->ops[j]? =some p->o.dst=some d->p.dst=some e->fw d aL=some id->fw e aL=some id->i=j
theorem B3 {Z:Nat->Prop}{w:World}{ρ:List Loc}{I:aD}{v:R}(ag:xw v=true):eJ Z w ρ I v (xh v):=by
 cases v with
 |d x=>
  cases x with
  |int k n=>exact bB.int k n
  |bool b=>exact bB.bool b
  |_=>cases ag
 |bt=>rfl
 |bf=>rfl
 |_=>cases ag
theorem Zq {Z:Nat->Prop}{w:World}{ρ:List Loc}{I:aD}{v:R}(ag:xJ v=true):bH Z w ρ I v (va v):=by
 cases v with
 |agg l=>
  have ag:ed xw l=true:=ag;rw[fD,apR]at ag;refine .hn ⟨(bE xh l).toArray,rfl,by rw[dP];simp,fun i hi=> ?_⟩;have:=B3 (Z:=Z) (w:=w) (ρ:=ρ) (I:=I) (ag (l.getD i .un) (by simp[apA,hi]));simpa[dP,apH,apA,hi]using this
 |d x=>exact .c7 (B3 (v:= .d x) ag)
 |bt=>exact .c7 (B3 (v:= .bt) rfl)
 |bf=>exact .c7 (B3 (v:= .bf) rfl)
 |_=>cases ag
theorem aaN {tb:TypeId->b7}{o:Oper}{tm:List R}{ρ:List Loc}{I:aD}{a:Act}{w:World}{f:FuncId}{args:List R}{tys:List TypeId}(aw:ei (aK N ρ I) w ρ I tm a.tmps)(h:e6 tb o tm I= .call f args tys):
 ∃cn:Array Value,args.length=cn.size/\(∀j,j<args.length->bH (aK N ρ I) w ρ I (args.getD j .un) (cn.getD j undef))/\(execOp a.eval o).run P w=(callFunc f cn).run P w:=by
 obtain⟨c,bO,h⟩:=ad2 h;obtain⟨hlen,fR⟩:=Ip aw c.args
 have ry:∀j,j<(bE (aN tm) c.args.toList).length->bH (aK N ρ I) w ρ I ((bE (aN tm) c.args.toList).getD j .un) ((c.args.map a.eval).getD j undef):=fun j aI=>by have:=fR j aI;simpa[apH,apA]using this
 have ax:(bE (aN tm) c.args.toList).length=(c.args.map a.eval).size:=by simpa using hlen
 rcases h with⟨aC,rfl⟩|⟨t,aC,⟨aO,rfl⟩|⟨l,aO,rfl⟩⟩
 ·refine⟨c.args.map a.eval,ax,ry, ?_⟩;unfold execOp;rw[bO];simp only[resolve,aC,Deferred.ofValue,Act.eval,pure_bind,invoke];simp
 ·have aj:=aw.at_ t;rw[<-dW,aO]at aj;have aj:a.tmps.getD t undef= .func (.func f) #[] #[]:=aj;refine⟨c.args.map a.eval,ax,ry, ?_⟩;unfold execOp;rw[bO];simp only[resolve,aC,Act.eval,aj,Deferred.ofValue,pure_bind,invoke];simp
 ·have aj:=aw.at_ t;rw[<-dW,aO]at aj;obtain⟨aj,ag⟩:a.tmps.getD t undef= .func (.func f) (bE va l).toArray #[]/\ed xJ l=true:=aj;rw[fD,apR]at ag;refine⟨(bE va l).toArray++c.args.map a.eval,by rw[fC,ap4,ax,Array.size_append,dP];simp,fun j aI=> ?_, ?_⟩
  ·rw[fC]at aI⊢;rw[apA,apH,ap7,Array.getElem?_append];have ay:(bE va l).toArray.size=l.length:=by rw[dP];simp
   rw[ay]
   by_cases bL:j<l.length
   ·rw[apz bL,apz bL];have:=Zq (Z:=aK N ρ I) (w:=w) (ρ:=ρ) (I:=I) (ag (l.getD j .un) (by simp[apA,bL]));simpa[dP,apA,bL]using this
   ·rw[apy bL,apy bL];have:=ry (j-l.length) (by rw[ap4]at aI;omega);simpa[apH,apA]using this
  ·unfold execOp;rw[bO];simp only[resolve,aC,Act.eval,aj,Deferred.ofValue,pure_bind,invoke];simp
theorem Cp {tb:TypeId->b7}{bz:FuncId->gu}(bp:∀t,c5 P t (tb t)=true)(FO:∀t,qb P tb t=true)(eC:∀f args I K,bz f args I K->yZ P f (bz f))(aL:List (Tmp×Nat))(ops:Array Oper)(z_:HZ aL ops)(K:List R->aD->Prop):
 ∀(is:List Nat),(∀i∈is,i<ops.size)->is.Nodup->∀(tm:List R) (I:aD) (a:Act) (w:World) (ρ:List Loc),z8 aL ops is ρ->
  dw tb bz aL ops.toList (is.map fun i=>ops.toList.getD i default) tm I K->eA N ρ tm I a w->
  wpOps P ops (fun e cf w'=>e= .normal/\m7 N ρ I a w (pb ops) K cf w') is a w:=by
 intro is
 induction is with
 |nil=>
  intro _ _ tm I a w ρ _ h ay;exact⟨rfl,⟨tm,I,ρ,h,ay,Fr.refl _ _ _⟩,fun _ _=>rfl,rfl⟩
 |cons i br bI=>
  intro bL vA tm I a w ρ FP h ay;have hi:i<ops.size:=bL i (by simp);have aF:ops[i]? =some ops[i]:=by simp[hi]
  have m8:ops.toList.getD i default=ops[i]:=by simp[apA,hi]
  simp only[ap2,m8]at h;simp only[wpOps,aF];have aj1:=bI (fun j aI=>bL j (by simp[aI])) (arV.1 vA).2
  have next:∀(gv:List R) (cO:aD) (w1:World) (eo:List Loc) (u:Value),dw tb bz aL ops.toList (br.map fun i=>ops.toList.getD i default) gv cO K->
   eA N eo gv cO (a.put ops[i].dst u) w1->Fr ρ I w eo cO w1->z8 aL ops br eo->
   wpOps P ops (fun e cf w'=>e= .normal/\m7 N ρ I a w (pb ops) K cf w') br (a.put ops[i].dst u) w1:=by
   intro gv cO w1 eo u ag eN aU aj2;have:=aj1 gv cO (a.put ops[i].dst u) w1 eo aj2 ag eN;refine uk ?_ _ _ _ this;rintro e cf w' ⟨he,⟨dL,al,ρ',aY,bj,bG⟩,e1,cx⟩;refine⟨he,⟨dL,al,ρ',aY,bj,aU.trans bG⟩,fun t aw=> ?_,cx.trans (by cases ops[i].dst<;>simp[Act.put])⟩;rw[e1 t aw,acx _ _ _ _ (Co aF aw)]
  have qI:z8 aL ops br ρ:=fun j aI=>FP j (by simp[aI])
  have j7:∀{eo cO},(∀id,eQ ρ I eo cO id)->z8 aL ops br eo:=fun j9 j aI o d id az bX cW=>(j9 id _ (qI j aI o d id az bX cW)).1
  have run:∀(dB:List R),eA N ρ dB I a w->
   (match cQ tb aL ops[i] dB I with
     | .bad=>False
     | .a8 cq v al=>gI cq (dw tb bz aL ops.toList (br.map fun i=>ops.toList.getD i default) (put dB ops[i].dst v) al K)
     | .grow cq v al id=>gI cq (dw tb bz aL ops.toList (br.map fun i=>ops.toList.getD i default) (put (bE (et id) dB) ops[i].dst v) (gF id al) K)
     | .fF p=>∀b:Bool,p b->dw tb bz aL ops.toList (br.map fun i=>ops.toList.getD i default) (put dB ops[i].dst (.d (.bool b))) I K
     | .call f args _=>bz f args I fun v al=>dw tb bz aL ops.toList (br.map fun i=>ops.toList.getD i default) (put dB ops[i].dst v) al K)->
   ops[i].wp P a w (wpOps P ops (fun e cf w'=>e= .normal/\m7 N ρ I a w (pb ops) K cf w') br) (fun e cf w'=>e= .normal/\m7 N ρ I a w (pb ops) K cf w'):=by
   intro dB eZ ao;unfold Oper.wp;rcases G3 tb aL ops[i] dB I with aj|⟨t,d,id,cl,cr,dj,aj⟩|⟨t,n,bP,d,id,cl,cr,dj,aj⟩;rotate_left
   ·rcases aj with aj|⟨aB,aj⟩|⟨ah,bm,aj⟩
    ·rw[aj]at ao;exact ao.elim
    rotate_left
    ·rw[aj]at ao;have ao:dw tb bz aL ops.toList (br.map fun i=>ops.toList.getD i default) (put dB ops[i].dst (.optr id 0 0)) (cK I id (false, .ar (tb t).ty.size [bE cb.f_ (tb t).ty.cells])) K:=ao;obtain⟨u,w',ρ',ab,ad,aA,ba,bJ,cu⟩:=acv (P:=P) (bp t) ah bm eZ.eG (FP i (by simp) _ d id aF cr dj)
     have hex:(execOp a.eval ops[i]).run P w= .ok (.value u) w':=by
      unfold execOp;rw[cl];simp only[Sem.run_bind,ab,Result.andThen_ok,Sem.run_pure]
     rw[hex];rw[eE]at ao
     have eN:eA N ρ' (put dB ops[i].dst (.optr id 0 0)) (I.set id (false, .ar (tb t).ty.size [bE cb.f_ (tb t).ty.cells])) (a.put ops[i].dst u) w':=
      ⟨ad,ei.put ⟨eZ.d_.size,fun t=>bJ _ _ (eZ.d_.at_ t)⟩ _ cu,by cases ops[i].dst<;>exact eZ.hP⟩
     refine next _ _ _ _ u ao eN aA fun j aI o tU j8 az bX cW=> ?_
     have dn:j8≠id:=fun e=>(arV.1 vA).1 (z_ j i o ops[i] tU d id az aF bX cr (e▸cW) dj▸aI);exact(ba j8 dn _ (qI j aI o tU j8 az bX cW)).1
    rw[aj]at ao;have ao:dw tb bz aL ops.toList (br.map fun i=>ops.toList.getD i default) (put dB ops[i].dst (.ptr id 0)) (cK I id (false, .cells (tb t).ty.zero)) K:=ao;obtain⟨u,w',ρ',ab,ad,aA,ba,bJ,cu⟩:=acu (P:=P) (bp t) aB eZ.eG (FP i (by simp) _ d id aF cr dj)
    have hex:(execOp a.eval ops[i]).run P w= .ok (.value u) w':=by
     unfold execOp;rw[cl];simp only[Sem.run_bind,ab,Result.andThen_ok,Sem.run_pure]
    rw[hex];rw[eE]at ao
    have eN:eA N ρ' (put dB ops[i].dst (.ptr id 0)) (I.set id (false, .cells (tb t).ty.zero)) (a.put ops[i].dst u) w':=
     ⟨ad,ei.put ⟨eZ.d_.size,fun t=>bJ _ _ (eZ.d_.at_ t)⟩ _ cu,by cases ops[i].dst<;>exact eZ.hP⟩
    refine next _ _ _ _ u ao eN aA fun j aI o tU j8 az bX cW=> ?_
    have dn:j8≠id:=fun e=>(arV.1 vA).1 (z_ j i o ops[i] tU d id az aF bX cr (e▸cW) dj▸aI);exact(ba j8 dn _ (qI j aI o tU j8 az bX cW)).1
   ·rcases aj with aj|⟨ob,ck,aj⟩
    ·rw[aj]at ao;exact ao.elim
    rw[aj]at ao;have ao:dw tb bz aL ops.toList (br.map fun i=>ops.toList.getD i default) (put dB ops[i].dst (.vec id)) (cK I id (false,ob)) K:=ao;obtain⟨u,w',ρ',ab,ad,aA,ba,bJ,cu⟩:=acy (P:=P) (bp t) eZ.eG eZ.d_ (FP i (by simp) _ d id aF cr dj) n bP ck
    have hex:(execOp a.eval ops[i]).run P w= .ok (.value u) w':=by
     unfold execOp;rw[cl];simp only[Sem.run_bind,ab,Result.andThen_ok,Sem.run_pure]
    rw[hex];rw[eE]at ao
    have eN:eA N ρ' (put dB ops[i].dst (.vec id)) (I.set id (false,ob)) (a.put ops[i].dst u) w':=
     ⟨ad,ei.put ⟨eZ.d_.size,fun t=>bJ _ _ (eZ.d_.at_ t)⟩ _ cu,by cases ops[i].dst<;>exact eZ.hP⟩
    refine next _ _ _ _ u ao eN aA fun j aI o tU j8 az bX cW=> ?_
    have dn:j8≠id:=fun e=>(arV.1 vA).1 (z_ j i o ops[i] tU d id az aF bX cr (e▸cW) dj▸aI);exact(ba j8 dn _ (qI j aI o tU j8 az bX cW)).1
   rw[aj]at ao;split at ao
   ·exact ao.elim
   ·rename_i cq v al he;rw[hk]at ao;obtain⟨rF,ao⟩:=ao;obtain⟨oJ,w',ρ',u,ab,ad,aA,ba⟩:=aaI (P:=P) bp FO eZ.eG eZ.d_ he rF;rw[ab]
    have eN:eA N ρ' (put dB ops[i].dst v) al (a.put ops[i].dst u) w':=
     ⟨aA.rel,ei.put (eZ.d_.step aA) _ ba,by cases ops[i].dst<;>exact eZ.hP⟩
    have aB:=next _ _ _ _ u ao eN aA.toFr (j7 aA.same)
    rcases ad with rfl|⟨rfl,rfl⟩
    ·exact aB
    ·exact aB
   ·rename_i cq v al id he;rw[hk]at ao;obtain⟨rF,ao⟩:=ao;obtain⟨u,w',ρ',ab,ad,aA,ba,bJ⟩:=Zn (P:=P) bp eZ.eG eZ.d_ he rF;rw[ab]
    have AG:ei (aK N ρ' (gF id al)) w' ρ' (gF id al) (bE (et id) dB) a.tmps:=by
     refine⟨by rw[dP];simpa using eZ.d_.size,fun t=> ?_⟩;have:=(eZ.d_.at_ t).kill id (fun _ _=>aA.reads) ba;rw[dP]
     by_cases bL:t<dB.length
     ·simpa[apA,bL]using this
     ·have az:(dB.map (et id)).getD t .un= .un:=by rw[apA,aqc (by simpa using bL)];rfl
      have aJ:dB.getD t .un= .un:=by rw[apA,aqc (by omega)];rfl
      rw[aJ]at this;rw[az];exact this
    have eN:eA N ρ' (put (bE (et id) dB) ops[i].dst v) (gF id al) (a.put ops[i].dst u) w':=
     ⟨ad,ei.put AG _ bJ,by cases ops[i].dst<;>exact eZ.hP⟩
    refine next _ _ _ _ u ao eN aA fun j aI o d j8 az bX cW=> ?_
    have dn:j8≠id:=fun e=>by
     obtain⟨x,AH⟩:=acz he;have pw:=ey eZ.d_ x;rw[AH]at pw;exact yF (Z:=aK N ρ I) (w:=w) (I:=I) (qI j aI o d j8 az bX cW) (show eJ _ _ _ _ (.vec id) _ from pw) e.symm
    exact(ba j8 dn _ (qI j aI o d j8 az bX cW)).1
   ·rename_i p he;obtain⟨b,ah,ab⟩:=Zo (P:=P) (w:=w) bp eZ.d_ he;rw[ab]
    have eN:eA N ρ (put dB ops[i].dst (.d (.bool b))) I (a.put ops[i].dst (.bool b)) w:=
     ⟨eZ.eG,ei.put eZ.d_ _ (jY b),by cases ops[i].dst<;>exact eZ.hP⟩
    exact next _ _ _ _ _ (ao b ah) eN (Fr.refl _ _ _) qI
   ·rename_i f args tys he;obtain⟨cn,hlen,ry,px⟩:=aaN (P:=P) eZ.d_ he;rcases eC _ _ _ _ ao with⟨⟨fn,rZ,r0,aj3⟩,vd⟩|vd
    ·have hex:(execOp a.eval ops[i]).run P w= .ok (.enter f cn) w:=by
      rw[px];simp only[callFunc,Sem.run_bind,run_program,Result.andThen_ok,rZ,r0,aj3];simp
     rw[hex];refine(vd N ρ I w _ _ _ ao eZ.eG hlen ry).mono ?_;rintro e w' ⟨r,al,ρ',v,rfl,ab,ad,aA⟩
     have eN:eA N ρ' (put dB ops[i].dst r) al (a.put ops[i].dst v) w':=
      ⟨ad.rel,ei.put (eZ.d_.step ad) _ aA,by cases ops[i].dst<;>exact eZ.hP⟩
     exact next _ _ _ _ v ab eN ad.toFr (j7 ad.same)
    ·obtain⟨v,w',r,al,ρ',fq,ab,ad,aA⟩:=vd N ρ I w _ _ _ ao eZ.eG hlen ry;rw[px,fq]
     have eN:eA N ρ' (put dB ops[i].dst r) al (a.put ops[i].dst v) w':=
      ⟨ad.rel,ei.put (eZ.d_.step ad) _ aA,by cases ops[i].dst<;>exact eZ.hP⟩
     exact next _ _ _ _ v ab eN ad.toFr (j7 ad.same)
  have skip:∀(dB:List R),eA N ρ dB I a w->dw tb bz aL ops.toList (br.map fun i=>ops.toList.getD i default) (put dB ops[i].dst .un) I K->
   wpOps P ops (fun e cf w'=>e= .normal/\m7 N ρ I a w (pb ops) K cf w') br (a.put ops[i].dst undef) w:=fun dB eZ ao=>
   next _ _ _ _ undef ao ⟨eZ.eG,ei.put eZ.d_ _ bH.un,by cases ops[i].dst<;>exact eZ.hP⟩ (Fr.refl _ _ _) qI
  unfold dw at h
  cases bh:ops[i].guard with
  |none=>
   rw[bh]at h;simp only[Region.wanted,bh,ap1];exact .inl (run tm ay h)
  |some am4=>
   obtain⟨j,want⟩:=am4;rw[bh]at h;simp only[Region.wanted,bh];have AI:l7 ops.toList j=(ops[j]?).bind (·.dst):=by rw[NV];simp
   simp only at h
   cases bo:l7 ops.toList j with
   |none=>
    rw[bo]at h;have:yielded ops a.tmps j=none:=by unfold yielded;rw[<-AI,bo];rfl
    rw[this];exact skip tm ay h
   |some g=>
    rw[bo]at h;simp only at h
    have Kh:∀b,a.tmps.getD g undef= .bool b->yielded ops a.tmps j=some b:=by
     intro b ah;unfold yielded;rw[<-AI,bo];simp only[Option.bind_some]
     have:a.tmps[g]? =some (.bool b):=by
      rw[apH]at ah
      cases a6:a.tmps[g]? with
      |none=>rw[a6]at ah;cases ah
      |some q=>rw[a6]at ah;simp at ah;rw[ah]
     rw[this]
    have cR:=ay.d_.at_ g;rw[<-dW]at cR;split at h
    ·rename_i he;rw[he]at cR;have ah:a.tmps.getD g undef= .bool true:=cR;rw[Kh true ah]
     cases want with
     |true=>simp only[beq_self_eq_true,ap1];exact .inl (run tm ay h)
     |false=>simp only[show(some true==some false)=false from rfl];exact skip tm ay h
    ·rename_i he;rw[he]at cR;have ah:a.tmps.getD g undef= .bool false:=cR;rw[Kh false ah]
     cases want with
     |false=>simp only[beq_self_eq_true,ap1];exact .inl (run tm ay h)
     |true=>simp only[show(some false==some true)=false from rfl];exact skip tm ay h
    ·rename_i he;rw[he]at cR;have ah:a.tmps.getD g undef=undef:=cR
     have:yielded ops a.tmps j=none:=by
      unfold yielded;rw[<-AI,bo];simp only[Option.bind_some];rw[apH]at ah
      cases a6:a.tmps[g]? with
      |none=>rfl
      |some q=>rw[a6]at ah;simp at ah;rw[ah];rfl
     rw[this];exact skip tm ay h
    ·rename_i b he;rw[he]at cR;have ah:=mM cR;rw[Kh b ah];obtain⟨aw,aU⟩:=h;have hJ:=DE ay g ah
     cases b with
     |true=>
      have aw:=aw rfl
      cases want with
      |true=>simp only[beq_self_eq_true,ap1];exact .inl (run _ hJ aw)
      |false=>simp only[show(some true==some false)=false from rfl];exact skip _ hJ aw
     |false=>
      have aU:=aU rfl
      cases want with
      |false=>simp only[beq_self_eq_true,ap1];exact .inl (run _ hJ aU)
      |true=>simp only[show(some false==some true)=false from rfl];exact skip _ hJ aU
    ·exact h.elim
end
end Go.ak
end
section
namespace Go.ak
def hy (T:gu):Prop:=
 (∀args I (K K':R->aD->Prop),(∀r o,K r o->K' r o)->T args I K->T args I K')/\∀args I K,T args I K->∃r o,K r o
section
variable {tb:TypeId->b7} {bz:FuncId->gu}
def fS (bz:FuncId->gu)(I:aD)(k:R->aD->Prop):bT->Prop
 | .bad=>False
 | .a8 cq v al=>gI cq (k v al)
 | .grow _ _ _ _=>False
 | .fF _=>False
 | .call f args _=>bz f args I k
theorem Hc {t:Tmp}{l:List Operand}:rk t l=true↔Operand.tmp t∈l:=by
 induction l with
 |nil=>simp[rk]
 |cons x r bI=>
  cases x with
  |tmp u=>
   simp only[rk]
   by_cases h:u=t
   ·subst h;simp
   ·have:Nat.beq u t=false:=by
     cases ah:Nat.beq u t with
     |false=>rfl
     |true=>exact absurd (apC ah) h
    rw[this];simp[bI,aql h]
  |_=>simp[rk,bI]
theorem IM {tm:List R}{dst:Option Tmp}{v:R}{x:Operand}(h:∀t,dst=some t->x≠ .tmp t):aN (put tm dst v) x=aN tm x:=by
 cases dst with
 |none=>rfl
 |some d=>
  cases x with
  |tmp t=>
   simp only[put,aN,eE,dW,eR];rw[apy];rintro⟨rfl,_⟩;exact h d rfl rfl
  |_=>rfl
theorem yP {o:Oper}{tm:List R}{dst:Option Tmp}{v:R}(h:l8 o dst=false){x:Operand}(aj:x∈o.op.operands.toList):aN (put tm dst v) x=aN tm x:=by
 refine IM fun t aw AJ=> ?_;subst aw AJ;simp only[l8]at h;rw[Hc.2 aj]at h;cases h
theorem q6 {α β:Type}{f g:α->β}{l:List α}(h:∀x∈l,f x=g x):bE f l=bE g l:=by
 rw[dP,dP];exact arS h
theorem Hd {o:Oper}{tm dL:List R}{I:aD}(h:∀x∈o.op.operands.toList,aN dL x=aN tm x):e6 tb o dL I=e6 tb o tm I:=by
 unfold e6
 cases bO:o.op with
 |move x=>simp only[bO]at h⊢;rw[h x (by simp[Op.operands])]
 |assign x=>simp only[bO]at h⊢;rw[h x (by simp[Op.operands])]
 |pick c x y=>simp only[bO]at h⊢;rw[h c (by simp[Op.operands]),h x (by simp[Op.operands]),h y (by simp[Op.operands])]
 |box t x=>simp only[bO]at h⊢;rw[h x (by simp[Op.operands])]
 |build t bP=>
  simp only[bO]at h⊢;have:bE (fun p=>(p.1,aN dL p.2)) bP.toList=bE (fun p=>(p.1,aN tm p.2)) bP.toList:=q6 fun p aE=>by rw[h p.2 (by simp[Op.operands];exact⟨p.1,by simpa using aE⟩)]
  rw[this]
 |buildSlice t n bP=>
  simp only[bO]at h⊢;have:bE (fun p=>(p.1,aN dL p.2)) bP.toList=bE (fun p=>(p.1,aN tm p.2)) bP.toList:=q6 fun p aE=>by rw[h p.2 (by simp[Op.operands];exact⟨p.1,by simpa using aE⟩)]
  rw[this]
 |load t x=>simp only[bO]at h⊢;rw[h x (by simp[Op.operands])]
 |store t x y=>simp only[bO]at h⊢;rw[h x (by simp[Op.operands]),h y (by simp[Op.operands])]
 |nilCheck x=>simp only[bO]at h⊢;rw[h x (by simp[Op.operands])]
 |binOp op t x y ty=>simp only[bO]at h⊢;rw[h x (by simp[Op.operands]),h y (by simp[Op.operands])]
 |unOp op t x=>simp only[bO]at h⊢;rw[h x (by simp[Op.operands])]
 |convert s d x=>simp only[bO]at h⊢;rw[h x (by simp[Op.operands])]
 |extract x i=>simp only[bO]at h⊢;rw[h x (by simp[Op.operands])]
 |fieldAddr s x f=>simp only[bO]at h⊢;rw[h x (by simp[Op.operands])]
 |field s x f=>simp only[bO]at h⊢;rw[h x (by simp[Op.operands])]
 |indexAddr t x i=>simp only[bO]at h⊢;rw[h x (by simp[Op.operands]),h i (by simp[Op.operands])]
 |index t x i=>simp only[bO]at h⊢;rw[h x (by simp[Op.operands]),h i (by simp[Op.operands])]
 |makeSlice t x y=>simp only[bO]at h⊢;rw[h x (by simp[Op.operands]),h y (by simp[Op.operands])]
 |slice t x lo hi dp=>
  simp only[bO]at h⊢
  have aF:∀q:Option Operand,(∀y,q=some y->aN dL y=aN tm y)->omap (aN dL) q=omap (aN tm) q:=by
   intro q a6
   cases q with
   |none=>rfl
   |some y=>simp only[omap,a6 y rfl]
  rw[h x (by simp[Op.operands]),aF lo (fun y bo=>h y (by subst bo;simp[Op.operands])),aF hi (fun y bo=>h y (by subst bo;simp[Op.operands])),aF dp (fun y bo=>h y (by subst bo;simp[Op.operands]))]
 |call c=>
  simp only[bO]at h⊢;have:bE (aN dL) c.args.toList=bE (aN tm) c.args.toList:=q6 fun x aj=>h x (by simp[Op.operands,Call.operands];exact .inr (by simpa using aj));rw[this]
  cases aC:c.callee with
  |value x=>
   cases x with
   |tmp t=>
    have e:b6 .un dL t=b6 .un tm t:=h (.tmp t) (by simp[Op.operands,Call.operands,aC]);simp only[e]
   |_=>rfl
  |_=>rfl
 |makeFunc fn first cap=>
  simp only[bO]at h⊢;have ab:bE (aN dL) first.toList=bE (aN tm) first.toList:=q6 fun x aj=>h x (by simp[Op.operands];exact .inl (by simpa using aj))
  have ad:bE (aN dL) cap.toList=bE (aN tm) cap.toList:=q6 fun x aj=>h x (by simp[Op.operands];exact .inr (by simpa using aj));rw[ab,ad]
 |makeMap t r=>cases r<;>rfl
 |lookup t m k c=>simp only[bO]at h⊢;rw[h m (by simp[Op.operands]),h k (by simp[Op.operands])]
 |mapUpdate t m k v=>simp only[bO]at h⊢;rw[h m (by simp[Op.operands]),h k (by simp[Op.operands]),h v (by simp[Op.operands])]
 |_=>rfl
theorem HB (I al:aD)(s:cb){v:R}(h:R.hl v=true):R.hU I (s.norm I v)=R.hU al (s.norm al v):=by
 cases v<;>simp[R.hl]at h<;>cases s<;>rfl
theorem IN (I al:aD){v:R}(h:R.hl v=true):R.hU I v=R.hU al v:=by
 cases v<;>simp[R.hl]at h<;>rfl
theorem C8 (I al:aD):∀(cs:List cb) (aH:List R),ed R.hl aH=true->bE (R.hU I) (iN I cs aH)=bE (R.hU al) (iN al cs aH)
 |[],aH,h=>by
  rw[fD,apR]at h;exact q6 fun x aj=>IN I al (h x aj)
 |s::cs,[],_=>rfl
 |s::cs,v::aH,h=>by
  have ab:R.hl v=true/\ed R.hl aH=true:=by
   rw[fD,arb,apM]at h;rw[fD];exact h
  show R.hU I (s.norm I v)::bE (R.hU I) (iN I cs aH)=R.hU al (s.norm al v)::bE (R.hU al) (iN al cs aH);rw[HB I al s ab.1,C8 I al cs aH ab.2]
theorem HC (I al:aD)(cs:List cb){v:R}(h:ed R.hl v.cellsOf=true):mg I cs v=mg al cs v:=C8 I al cs _ h
theorem yC (I al:aD)(an:Nat)(cs:List cb):∀(bP:List (Nat×R)) (i n:Nat),hH.go I an cs i n bP=hH.go al an cs i n bP
 |[],i,0=>rfl
 |[],i,n+1=>rfl
 |_::_,i,0=>rfl
 |(j,v)::r,i,n+1=>by
  by_cases aO:∃m x,v= .rw m x
  ·obtain⟨m,x,rfl⟩:=aO;simp only[hH.go];rw[yC I al an cs r]
  ·have gen:∀o:aD,hH.go o an cs i (n+1) ((j,v)::r)=(match Nat.beq i j,Nat.beq (bS v.cellsOf) an,ed R.hl v.cellsOf with
    |true,true,true=>(match hH.go o an cs (Nat.succ i) n r with|some l=>some (mg o cs v::l)|none=>none)
    |_,_,_=>none):=fun o=>by cases v<;>first|rfl|exact absurd ⟨_,_,rfl⟩ aO
   rw[gen,gen,yC I al an cs r];split
   ·rename_i ab ad aA;rw[HC I al cs aA]
   ·rfl
theorem yG (I al:aD)(t:aZ)(v:R):o3 I t v=o3 al t v:=by
 cases v<;>try rfl
 rename_i l;simp only[o3];split
 ·rename_i _ _ h;rw[HC I al t.cells (v:= .agg l) h]
 ·rfl
theorem NW (I al:aD)(t:aZ)(v:R):n7 I t v=n7 al t v:=by
 have th:∀l,(match Nat.beq (bS l) t.size,ed R.hl l with|true,true=>some (mg I t.cells (.agg l))|_,_=>none)=(match Nat.beq (bS l) t.size,ed R.hl l with|true,true=>some (mg al t.cells (.agg l))|_,_=>none):=fun l=>by
  split
  ·rename_i _ h;rw[HC I al t.cells (v:= .agg l) h]
  ·rfl
 cases t with
 |aG s=>
  simp only[n7];split
  ·rename_i h;rw[HB I al s h]
  ·rfl
 |_=>cases v<;>first|rfl|exact th _
theorem Nz (I al:aD)(cs:List cb)(bP:List (Nat×R)):∀(bW:List (Nat×Nat×aZ)) (k:Nat),rf I cs bP k bW=rf al cs bP k bW
 |[],_=>rfl
 |f::r,k=>by
  unfold rf;rw[Nz I al cs bP r]
  cases fw k bP with
  |none=>rfl
  |some v=>simp only[NW I al f.2.2 v]
theorem Xz (t:aZ)(bP:List (Nat×R))(I al:aD):(p4 t bP I= .bad/\p4 t bP al= .bad)\/∃s v,p4 t bP I= .a8 s v I/\p4 t bP al= .a8 s v al:=by
 unfold p4;split
 ·split
  ·rename_i bW cs _;rw[Nz I al cs bP bW 0];split<;>first|exact .inr ⟨_,_,rfl,rfl⟩|exact .inl ⟨rfl,rfl⟩
  ·split<;>first|exact .inr ⟨_,_,rfl,rfl⟩|exact .inl ⟨rfl,rfl⟩
  ·exact .inl ⟨rfl,rfl⟩
 ·split<;>first|exact .inr ⟨_,_,rfl,rfl⟩|exact .inl ⟨rfl,rfl⟩
theorem XA (t:aZ)(f:Nat)(x:R)(I al:aD):(p5 t f x I= .bad/\p5 t f x al= .bad)\/∃s v,p5 t f x I= .a8 s v I/\p5 t f x al= .a8 s v al:=by
 unfold p5
 (repeat' split)<;>first|exact .inr ⟨_,_,rfl,rfl⟩|exact .inl ⟨rfl,rfl⟩
theorem Zr (op:BinOp)(t:aZ)(x y:R)(I al:aD):(qm op t x y I= .bad/\qm op t x y al= .bad)\/∃s v,qm op t x y I= .a8 s v I/\qm op t x y al= .a8 s v al:=by
 unfold qm;rw[yG I al t x,yG I al t y]
 (repeat' split)<;>first|exact .inr ⟨_,_,rfl,rfl⟩|exact .inl ⟨rfl,rfl⟩
theorem Zs (tb:TypeId->b7)(t:b7)(m k:R)(c:Bool)(I:aD):oV tb t m k c I= .bad\/∃s v,oV tb t m k c I= .a8 s v I:=by
 unfold oV
 (repeat' split)<;>first|exact .inr ⟨_,_,rfl⟩|exact .inl rfl
theorem acA (k:IntKind)(dst:aZ)(x:R):(∀I,n6 (.aG (.int k)) dst x I= .bad)\/∃s v,∀I,n6 (.aG (.int k)) dst x I= .a8 s v I:=by
 unfold n6
 cases dst with
 |aG s=>
  cases s with
  |int cD=>
   cases x with
   |d a=>cases a<;>first|exact .inr ⟨_,_,fun _=>rfl⟩|exact .inl fun _=>rfl
   |_=>exact .inl fun _=>rfl
  |str=>
   cases x with
   |d a=>
    cases a with
    |af cD l=>cases cD<;>exact .inl fun _=>rfl
    |_=>exact .inl fun _=>rfl
   |vec id=>
    refine .inl fun I=> ?_;simp only
    cases ae.at I id with
    |af cD l=>cases cD<;>rfl
    |_=>rfl
   |_=>exact .inl fun _=>rfl
  |_=>exact .inl fun _=>rfl
 |_=>exact .inl fun _=>rfl
theorem Tw {o:Oper}(aC:fx tb o.op=0)(hm:o4 o.op=false)(tm:List R)(I al:aD):
 (e6 tb o tm I= .bad/\e6 tb o tm al= .bad)\/∃s v,e6 tb o tm I= .a8 s v I/\e6 tb o tm al= .a8 s v al:=by
 have bad:∀{x y:bT},x= .bad->y= .bad->(x= .bad/\y= .bad)\/∃s v,x= .a8 s v I/\y= .a8 s v al:=fun ab ad=> .inl ⟨ab,ad⟩
 unfold e6;cases bO:o.op<;>simp only[bO,fx]at aC hm⊢<;>try (exact absurd aC (by decide))
 case move x=>exact .inr ⟨_,_,rfl,rfl⟩
 case buildSlice t n bP=>
  have ax:(tb t).lit=true:=by
   cases ah:(tb t).lit with
   |true=>rfl
   |false=>rw[ah]at aC;cases aC
  rw[ax];split
  ·split
   ·exact .inr ⟨_,_,rfl,rfl⟩
   ·exact .inl ⟨rfl,rfl⟩
  ·rw[show∀q,hH I q (tb t).fv n (bE (fun p=>(p.1,aN tm p.2)) bP.toList)=hH al q (tb t).fv n (bE (fun p=>(p.1,aN tm p.2)) bP.toList)from fun q=>yC I al q _ _ 0 n];split
   ·exact .inr ⟨_,_,rfl,rfl⟩
   ·exact .inl ⟨rfl,rfl⟩
  ·exact .inl ⟨rfl,rfl⟩
 case build t bP=>exact Xz _ _ _ _
 case makeFunc fn first cap=>
  unfold zh;split
  ·split
   ·exact .inr ⟨_,_,rfl,rfl⟩
   ·split
    ·exact .inr ⟨_,_,rfl,rfl⟩
    ·exact .inl ⟨rfl,rfl⟩
  ·exact .inl ⟨rfl,rfl⟩
 case assign x=>exact .inr ⟨_,_,rfl,rfl⟩
 case pick c x y=>
  unfold wW;split
  ·exact .inr ⟨_,_,rfl,rfl⟩
  ·exact .inr ⟨_,_,rfl,rfl⟩
  ·split
   ·exact .inr ⟨_,_,rfl,rfl⟩
   ·exact .inr ⟨_,_,rfl,rfl⟩
   ·exact .inr ⟨_,_,rfl,rfl⟩
   ·exact .inr ⟨_,_,rfl,rfl⟩
   ·split
    ·exact .inr ⟨_,_,rfl,rfl⟩
    ·exact .inl ⟨rfl,rfl⟩
   ·exact .inl ⟨rfl,rfl⟩
  ·exact .inl ⟨rfl,rfl⟩
 case nilCheck x=>split<;>first|exact .inr ⟨_,_,rfl,rfl⟩|exact .inl ⟨rfl,rfl⟩
 case binOp op t x y ty=>
  have Ki:∀v,y= .const v->(∀a l c,v≠ .slice a l c):=by
   rintro v rfl a l c rfl;simp[o4,BR]at hm
  have ah:∀(op:BinOp) (dC:Operand) (k:IntKind) (a b:Int),(oc op dC k a b I= .bad/\oc op dC k a b al= .bad)\/∃s v,oc op dC k a b I= .a8 s v I/\oc op dC k a b al= .a8 s v al:=by
   intro op dC k a b;cases op<;>first|exact .inr ⟨_,_,rfl,rfl⟩|exact .inl ⟨rfl,rfl⟩
  have afN:∀(op:BinOp) (t:aZ) (a b:Bool),(jF op t a b I= .bad/\jF op t a b al= .bad)\/∃s v,jF op t a b I= .a8 s v I/\jF op t a b al= .a8 s v al:=by
   intro op t a b;unfold jF;split<;>first|exact .inr ⟨_,_,rfl,rfl⟩|exact .inl ⟨rfl,rfl⟩
  generalize hex:aN tm x=am3;generalize rS:aN tm y=am5
  have E3:am5= .emp->BR y=false->∀v,y≠ .const v:=by
   intro ab ad v aO;subst aO;rw[ab]at rS;have:=Sl rS;subst this;simp[BR]at ad
  unfold zt;split
  ·exact Zr _ _ _ _ _ _
  unfold o2;split
  ·split
   ·exact .inr ⟨_,_,rfl,rfl⟩
   ·exact .inr ⟨_,_,rfl,rfl⟩
   ·split
    ·exact ah _ _ _ _ _
    ·exact .inl ⟨rfl,rfl⟩
  ·split<;>first|exact .inr ⟨_,_,rfl,rfl⟩|exact .inl ⟨rfl,rfl⟩
  ·split
   ·exact absurd rfl (E3 rfl hm _)
   ·exact absurd rfl (E3 rfl hm _)
   ·exact .inl ⟨rfl,rfl⟩
  ·split
   ·exact absurd rfl (E3 rfl hm _)
   ·exact absurd rfl (E3 rfl hm _)
   ·exact .inl ⟨rfl,rfl⟩
  all_goals first|exact afN _ _ _ _|exact .inl ⟨rfl,rfl⟩
 case unOp op t x=>unfold xg;split<;>first|exact .inr ⟨_,_,rfl,rfl⟩|exact .inl ⟨rfl,rfl⟩
 case convert s d x=>
  split at aC
  ·rename_i k ag;rw[ag];rcases acA k (tb d).ty (aN tm x)with h|⟨s,v,h⟩
   ·exact .inl ⟨h I,h al⟩
   ·exact .inr ⟨s,v,h I,h al⟩
  ·cases aC
 case extract x i=>
  split
  ·split
   ·exact .inr ⟨_,_,rfl,rfl⟩
   ·exact .inl ⟨rfl,rfl⟩
  ·exact .inl ⟨rfl,rfl⟩
 case fieldAddr s x f=>
  split
  ·exact .inl ⟨rfl,rfl⟩
  ·split<;>first|exact .inr ⟨_,_,rfl,rfl⟩|exact .inl ⟨rfl,rfl⟩
 case field s x f=>exact XA _ _ _ _ _
 case index t x i=>
  unfold yX;split
  ·split
   ·exact .inr ⟨_,_,rfl,rfl⟩
   ·split
    ·exact .inr ⟨_,_,rfl,rfl⟩
    ·exact .inl ⟨rfl,rfl⟩
   ·exact .inl ⟨rfl,rfl⟩
  ·exact .inl ⟨rfl,rfl⟩
 case call c=>
  exfalso;revert aC;split<;>simp
theorem ahf {o:Oper}(aC:fx tb o.op<=1)(hm:o4 o.op=false)(tm:List R)(I:aD):e6 tb o tm I= .bad\/∃s v,e6 tb o tm I= .a8 s v I:=by
 by_cases bc:fx tb o.op=0
 ·rcases Tw (tb:=tb) bc hm tm I I with⟨h,_⟩|⟨s,v,h,_⟩
  ·exact .inl h
  ·exact .inr ⟨s,v,h⟩
 ·have ab:fx tb o.op=1:=by omega
  clear bc aC;unfold e6;cases bO:o.op<;>simp only[bO,fx]at ab⊢<;>try (exact absurd ab (by decide))
  case buildSlice t n bP=>exfalso;revert ab;cases (tb t).lit<;>simp
  case load t x=>exact Hb _ _ _
  case lookup t m k c=>exact Zs _ _ _ _ _ _
  case convert s d x=>
   unfold n6;split<;>(try split)<;>first|exact .inr ⟨_,_,rfl⟩|exact .inl rfl
  case indexAddr t x i=>
   unfold q4;split
   ·split
    ·split<;>first|exact .inr ⟨_,_,rfl⟩|exact .inl rfl
    ·split<;>first|exact .inr ⟨_,_,rfl⟩|exact .inl rfl
    ·exact .inr ⟨_,_,rfl⟩
    ·exact aaK _ _ _ _
   ·exact .inl rfl
  case call c=>
   split
   ·rename_i b Kj;rw[Kj]at ab;unfold kG;split
    ·split
     ·exact .inl rfl
     ·split<;>first|exact .inr ⟨_,_,rfl⟩|exact .inl rfl
    ·exact absurd ab (by decide)
    ·split<;>first|exact .inr ⟨_,_,rfl⟩|exact .inl rfl
    ·split<;>first|exact .inr ⟨_,_,rfl⟩|exact .inl rfl
    ·exact absurd ab (by decide)
    ·exact .inl rfl
   ·rename_i f px;rw[px]at ab;simp at ab
   ·rename_i t px;rw[px]at ab;simp at ab
   ·exact .inl rfl
theorem ahg {o:Oper}(aC:fx tb o.op=2)(tm:List R)(I:aD):e6 tb o tm I= .bad\/(∃s v al,e6 tb o tm I= .a8 s v al)\/∃f args tys,e6 tb o tm I= .call f args tys:=by
 unfold e6;cases bO:o.op<;>simp only[bO,fx]at aC⊢<;>try (exact absurd aC (by decide))
 case alloc t=>exact(CE (MR _ _)).imp id .inl
 case box t x=>exact(CE (Ny _ _ _)).imp id .inl
 case convert s d x=>exfalso;revert aC;split<;>simp
 case buildSlice t n bP=>
  have ax:(tb t).lit=false:=by
   cases ah:(tb t).lit with
   |true=>rw[ah]at aC;cases aC
   |false=>rfl
  rw[ax];split
  ·split<;>first|exact .inl rfl|exact .inr (.inl ⟨_,_,_,rfl⟩)
  ·split<;>first|exact .inl rfl|exact .inr (.inl ⟨_,_,_,rfl⟩)
  ·exact .inl rfl
 case store t x y=>
  rcases Nx (tb t).ty (aN tm x) (aN tm y) I with e|e
  ·exact .inl e
  ·exact .inr (.inl e)
 case makeSlice t x y=>
  unfold wX;split
  ·split<;>first|exact .inl rfl|exact .inr (.inl ⟨_,_,_,rfl⟩)
  ·exact .inl rfl
 case slice t x lo hi dp=>exact(CE (M5 _ _ _ _ _ _)).imp id .inl
 case mapUpdate t m k v=>exact(CE (Ms _ _ _ _ _ _)).imp id .inl
 case call c=>
  split
  ·rename_i b Kj;rw[Kj]at aC;exfalso;revert aC;cases b<;>simp
  ·exact .inr (.inr ⟨_,_,_,rfl⟩)
  ·rename_i t px;rw[px]at aC;simp at aC
  ·exact .inl rfl
theorem put_comm {tm:List R}{d e:Option Tmp}{u v:R}(h:fY d e=false):put (put tm d u) e v=put (put tm e v) d u:=by
 cases d with
 |none=>cases e<;>rfl
 |some d=>
  cases e with
  |none=>rfl
  |some e=>
   have dn:d≠e:=by
    rintro rfl;simp[fY]at h
   simp only[put,eE];exact List.set_comm _ _ dn
theorem HD {s t:List Prop}{q:Prop}(h:gI s (gI t q)):gI t (gI s q):=by
 rw[hk,hk]at h⊢;exact⟨h.2.1,h.1,h.2.2⟩
end
end Go.ak
end
section
namespace Go.ak
def iJ (ps:List aZ)(T:List R->(R->Prop)->Prop):gu:=fun args I K=>
 match Nat.beq (bS ps) (bS args),ed R.plain (aZ.eF I ps args)with
 |true,true=>T (aZ.eF I ps args) fun v=>K v (b_ I args)
 |_,_=>False
def k7 (T:List R->(R->Prop)->Prop):Prop:=
 (∀args (K K':R->Prop),(∀r,K r->K' r)->T args K->T args K')/\∀args K,T args K->∃r,K r
def ae.plain:ae->Bool
 | .cells l=>ed R.rv l
 | .af ..=>true
 | .ar ..=>true
 |_=>false
def ae.alike:ae->ae->Bool
 | .cells l, .cells cm=>Nat.beq (bS l) (bS cm)
 | .af k _, .af cD _=>jH k cD
 | .ar s _, .ar iq _=>Nat.beq s iq
 |_,_=>false
def zx:R->ae->Bool
 | .vec _, .af ..=>true
 | .vec _, .ar ..=>true
 | .ptr .., .cells l=>ed R.rv l
 |_,_=>false
def zk:R->ae->Prop->Prop
 | .vec _,ob,q=>0<ob.len/\q
 |_,_,q=>q
def DF:R->Option Nat
 | .vec id=>some id
 | .ptr id _=>some id
 |_=>none
def m0:R->R
 | .vec _=> .vec 0
 | .ptr _ off=> .ptr 0 off
 |v=>v
def n_ (ps:List aZ)(T:R->ae->List R->(ae->R->Prop)->Prop):gu:=fun args I K=>
 match args with
 |[]=>False
 |a0::br=>
  match DF a0 with
  |none=>False
  |some id=>
   match cz (b_ I br) id,zx a0 (ae.at I id),Nat.beq (bS ps) (bS br),ed R.plain (aZ.eF I ps br)with
   |false,true,true,true=>zk a0 (ae.at I id) (T (m0 a0) (ae.at I id) (aZ.eF I ps br) fun ob r=>
    (match ae.alike (ae.at I id) ob with|true=>K r (cK (b_ I br) id (false,ob))|false=>False))
   |_,_,_,_=>False
def zy (n:Nat)(args:List R):List R:=b6 .un args n::ez (kR args n) (kQ args (Nat.succ n))
def oY (ps:List aZ)(T:R->ae->List R->(ae->R->Prop)->Prop):gu:=fun args I K=>
 match args with
 |[]=>False
 |a0::br=>
  match DF a0 with
  |none=>False
  |some id=>
   match cz (b_ I br) id,zx a0 (ae.at I id),Nat.beq (bS ps) (bS br),ed R.plain (aZ.eF I ps br)with
   |false,true,true,true=>T (m0 a0) (ae.at I id) (aZ.eF I ps br) fun ob r=>
    (match ae.alike (ae.at I id) ob with|true=>K r (cK (b_ I br) id (false,ob))|false=>False)
   |_,_,_,_=>False
def l6 (n:Nat)(ps:List aZ)(T:R->ae->List R->(ae->R->Prop)->Prop):gu:=fun args I K=>
 match Nat.blt n (bS args)with
 |true=>oY ps T (zy n args) I K
 |false=>False
def kt (T:R->ae->List R->(ae->R->Prop)->Prop):Prop:=
 (∀a o args (K K':ae->R->Prop),(∀o r,K o r->K' o r)->T a o args K->T a o args K')/\∀a o args K,T a o args K->∃o r,K o r
theorem yD (a:R)(ob:ae)(q:Prop):zk a ob q↔(∀id,a= .vec id->0<ob.len)/\q:=by
 cases a with
 |vec i=>simp[zk]
 |_=>simp[zk]
def p8 (ps:List aZ)(T:List R->(ae->Prop)->Prop):gu:=fun args I K=>
 match Nat.beq (bS ps) (bS args),ed R.plain (aZ.eF I ps args)with
 |true,true=>T (aZ.eF I ps args) fun ob=>K (.vec (bS (b_ I args))) (ez (b_ I args) [(false,ob)])
 |_,_=>False
def nK (T:List R->(ae->Prop)->Prop):Prop:=
 (∀args (K K':ae->Prop),(∀r,K r->K' r)->T args K->T args K')/\∀args K,T args K->∃r,K r
def nt (ps:List aZ)(T:List R->(R->Prop)->Prop):gu:=fun args I K=>
 match Nat.beq (bS ps) (bS args),ed R.plain (aZ.eF I ps args)with
 |true,true=>T (aZ.eF I ps args) fun v=>K v I
 |_,_=>False
def Jn (T:gu):Prop:=(∃ps hf,k7 hf/\T=iJ ps hf)\/(∃ps hf,kt hf/\T=n_ ps hf)\/∃ps hf,k7 hf/\T=nt ps hf
def I0 (T:gu):Prop:=∃ps hf,nK hf/\T=p8 ps hf
def rz (data:FuncId->Nat)(bz:FuncId->gu):Prop:=∀f,(data f=1->Jn (bz f))/\(data f=2->I0 (bz f))
section
variable {tb:TypeId->b7} {bz:FuncId->gu} {aL:List (Tmp×Nat)}
theorem jc {o:Oper}(h:qd tb o.op=false)(tm:List R)(I:aD):cQ tb aL o tm I=e6 tb o tm I:=by
 unfold cQ;split
 ·rename_i t d aF _;rw[aF]at h;cases h
 ·rename_i t n bP d aF _;rw[aF]at h;have ax:(tb t).lit=true:=by simpa[qd]using h
  rw[ax]
 ·rfl
theorem BS {o:Oper}{tm dL:List R}{I:aD}(h:∀x∈o.op.operands.toList,aN dL x=aN tm x):cQ tb aL o dL I=cQ tb aL o tm I:=by
 unfold cQ;split
 ·split
  ·rfl
  ·exact Hd h
 ·rename_i t n bP d aF _;split
  ·have e:bE (fun p:Nat×Operand=>(p.1,aN dL p.2)) bP.toList=bE (fun p:Nat×Operand=>(p.1,aN tm p.2)) bP.toList:=by
    rw[dP,dP];refine arS fun p aE=> ?_;rw[h p.2 (by rw[aF];simp[Op.operands];exact⟨p.1,by simpa using aE⟩)]
   rw[e]
  ·exact Hd h
 ·exact Hd h
theorem HE {o:Oper}(aC:fx tb o.op<=1):qd tb o.op=false:=by
 cases bO:o.op<;>try rfl
 ·rw[bO]at aC;exact absurd (show(2:Nat)<=1 from aC) (by decide)
 ·rename_i t n bP;rw[bO]at aC;unfold qd;simp only[fx]at aC
  cases ah:(tb t).lit with
  |true=>simp[ah]
  |false=>rw[ah]at aC;exact absurd aC (by decide)
theorem u4 {o:Oper}(aC:fx tb o.op=0)(hm:o4 o.op=false)(tm:List R)(I al:aD):
 (cQ tb aL o tm I= .bad/\cQ tb aL o tm al= .bad)\/∃s v,cQ tb aL o tm I= .a8 s v I/\cQ tb aL o tm al= .a8 s v al:=by
 have ab:fx tb o.op<=1:=by omega
 rw[jc (HE ab),jc (HE ab)];exact Tw aC hm tm I al
theorem xj {o:Oper}(aC:fx tb o.op<=1)(hm:o4 o.op=false)(tm:List R)(I:aD):cQ tb aL o tm I= .bad\/∃s v,cQ tb aL o tm I= .a8 s v I:=by
 rw[jc (HE aC)];exact ahf aC hm tm I
theorem u5 {o:Oper}(aC:fx tb o.op=2)(tm:List R)(I:aD):cQ tb aL o tm I= .bad\/(∃s v al,cQ tb aL o tm I= .a8 s v al)\/∃f args tys,cQ tb aL o tm I= .call f args tys:=by
 rcases G3 tb aL o tm I with h|⟨t,d,id,_,_,_,h|⟨_,h⟩|⟨_,_,h⟩⟩|⟨t,n,bP,d,id,_,_,_,h|⟨ob,_,h⟩⟩
 ·rw[h];exact ahg aC tm I
 ·exact .inl h
 ·exact .inr (.inl ⟨_,_,_,h⟩)
 ·exact .inr (.inl ⟨_,_,_,h⟩)
 ·exact .inl h
 ·exact .inr (.inl ⟨_,_,_,h⟩)
theorem ad3 {a i:Oper}(hi:qe tb a i=true)(eC:∀f args I K,bz f args I K->hy (bz f)){t:List R}{I:aD}{k:R->R->aD->Prop}
 (h:fS bz I (fun v al=>fS bz al (fun c8 fK=>k v c8 fK) (cQ tb aL i t al)) (cQ tb aL a t I)):
 fS bz I (fun c8 al=>fS bz al (fun v fK=>k v c8 fK) (cQ tb aL a t al)) (cQ tb aL i t I):=by
 simp only[qe,apM,aqB]at hi;obtain⟨⟨⟨⟨⟨aU,qJ⟩,xW⟩,cS⟩,iW⟩,vz⟩:=hi
 have DG:(fx tb a.op<=1/\fx tb i.op<=1)\/(fx tb a.op=0/\fx tb i.op=2)\/(fx tb a.op=2/\fx tb i.op=0):=by
  unfold qn at aU;split at aU
  ·rename_i ab ad;exact .inl ⟨apZ ab,apZ ad⟩
  ·simp only[apM]at aU;exact .inr (.inl ⟨apC aU.1,apC aU.2⟩)
  ·simp only[apM]at aU;exact .inr (.inr ⟨apC aU.1,apC aU.2⟩)
  ·cases aU
 rcases DG with⟨ab,ad⟩|⟨ab,ad⟩|⟨ab,ad⟩
 ·
  rcases xj (tb:=tb) (aL:=aL) ab qJ t I with ah|⟨Gp,Gq,a_⟩
  ·rw[ah]at h;exact h.elim
  ·rw[a_]at h;simp only[fS]at h;rcases xj (tb:=tb) (aL:=aL) ad xW t I with ah|⟨jA,Gr,iS⟩
   ·rw[ah]at h;exact((hk _ _).1 h).2.elim
   ·rw[iS]at h⊢;simp only[fS,a_]at h⊢;exact HD h
 ·
  rcases u4 (tb:=tb) (aL:=aL) ab qJ t I I with⟨ah,_⟩|⟨Gp,Gq,a_,_⟩
  ·rw[ah]at h;exact h.elim
  ·rw[a_]at h;simp only[fS]at h
   have ig:∀cj,cQ tb aL a t cj= .a8 Gp Gq cj:=fun cj=>by
    rcases u4 (tb:=tb) (aL:=aL) ab qJ t I cj with⟨ah,_⟩|⟨s,v,aY,bj⟩
    ·rw[a_]at ah;cases ah
    ·rw[a_]at aY;cases aY;exact bj
   rcases u5 (tb:=tb) (aL:=aL) ad t I with ah|⟨jA,Gr,cj,iS⟩|⟨f,args,tys,iS⟩
   ·rw[ah]at h;exact((hk _ _).1 h).2.elim
   ·rw[iS]at h⊢;simp only[fS,ig]at h⊢;exact HD h
   ·rw[iS]at h⊢;simp only[fS,ig]at h⊢;rw[hk]at h;obtain⟨rF,oi⟩:=h;refine(eC _ _ _ _ oi).1 _ _ _ _ (fun r o ao=> ?_) oi;rw[hk];exact⟨rF,ao⟩
 ·
  rcases u4 (tb:=tb) (aL:=aL) ad xW t I I with⟨ah,ho⟩|⟨jA,Gr,a_,_⟩
  ·
   exfalso
   have ew:∀cj,cQ tb aL i t cj= .bad:=fun cj=>by
    rcases u4 (tb:=tb) (aL:=aL) ad xW t I cj with⟨_,k⟩|⟨s,v,aY,_⟩
    ·exact k
    ·rw[ah]at aY;cases aY
   rcases u5 (tb:=tb) (aL:=aL) ab t I with ah|⟨Gp,Gq,cj,iS⟩|⟨f,args,tys,iS⟩
   ·rw[ah]at h;exact h
   ·rw[iS]at h;simp only[fS,ew]at h;exact((hk _ _).1 h).2
   ·rw[iS]at h;simp only[fS,ew]at h;obtain⟨r,o,ao⟩:=(eC _ _ _ _ h).2 _ _ _ h;exact ao
  ·have ig:∀cj,cQ tb aL i t cj= .a8 jA Gr cj:=fun cj=>by
    rcases u4 (tb:=tb) (aL:=aL) ad xW t I cj with⟨ah,_⟩|⟨s,v,aY,bj⟩
    ·rw[a_]at ah;cases ah
    ·rw[a_]at aY;cases aY;exact bj
   rw[a_];simp only[fS];rcases u5 (tb:=tb) (aL:=aL) ab t I with ah|⟨Gp,Gq,cj,iS⟩|⟨f,args,tys,iS⟩
   ·rw[ah]at h;exact h.elim
   ·rw[iS]at h⊢;simp only[fS,ig]at h⊢;exact HD h
   ·rw[iS]at h⊢;simp only[fS,ig]at h⊢;have eV:=eC _ _ _ _ h;rw[hk];refine⟨?_,eV.1 _ _ _ _ (fun r o ao=> ?_) h⟩
    ·obtain⟨r,o,ao⟩:=eV.2 _ _ _ h;exact((hk _ _).1 ao).1
    ·exact((hk _ _).1 ao).2
def res (all:List Oper)(o:Oper)(tm:List R):Option (Bool×List R):=
 match o.guard with
 |none=>some (true,tm)
 |some (j,want)=>
  match l7 all j with
  |none=>some (false,tm)
  |some g=>
   match b6 .un tm g with
   | .bt=>some (want,tm)
   | .bf=>some (!want,tm)
   | .un=>some (false,tm)
   | .d (.bool true)=>some (want,cK tm g .bt)
   | .d (.bool false)=>some (!want,cK tm g .bf)
   |_=>none
def s8 (m:Bool)(bz:FuncId->gu)(I:aD)(k:R->aD->Prop)(r:bT):Prop:=
 match m with
 |true=>fS bz I k r
 |false=>k .un I
theorem yH {all br:List Oper}{o:Oper}{tm:List R}{I:aD}{K:List R->aD->Prop}
 (ab:∀tm I s v cj id,cQ tb aL o tm I≠ .grow s v cj id) (ad:∀tm I p,cQ tb aL o tm I≠ .fF p):
 dw tb bz aL all (o::br) tm I K↔match res all o tm with
  |none=>False
  |some (m,dL)=>s8 m bz I (fun v al=>dw tb bz aL all br (put dL o.dst v) al K) (cQ tb aL o dL I):=by
 have run:∀dB:List R,(match cQ tb aL o dB I with
  | .bad=>False
  | .a8 cq v al=>gI cq (dw tb bz aL all br (put dB o.dst v) al K)
  | .grow cq v al id=>gI cq (dw tb bz aL all br (put (bE (et id) dB) o.dst v) (gF id al) K)
  | .fF p=>∀b:Bool,p b->dw tb bz aL all br (put dB o.dst (.d (.bool b))) I K
  | .call f args _=>bz f args I fun v al=>dw tb bz aL all br (put dB o.dst v) al K)↔
  s8 true bz I (fun v al=>dw tb bz aL all br (put dB o.dst v) al K) (cQ tb aL o dB I):=by
  intro dB
  cases h:cQ tb aL o dB I with
  |grow s v cj id=>exact absurd h (ab dB I s v cj id)
  |fF p=>exact absurd h (ad dB I p)
  |_=>rfl
 rw[dw];simp only;unfold res
 cases bh:o.guard with
 |none=>exact run tm
 |some p=>
  obtain⟨j,want⟩:=p;simp only
  cases bo:l7 all j with
  |none=>exact aqn
  |some g=>
   simp only;generalize ax:b6 R.un tm g=x
   cases x with
   |bt=>
    cases want
    ·exact aqn
    ·exact run tm
   |bf=>
    cases want
    ·exact run tm
    ·exact aqn
   |un=>exact aqn
   |d a=>
    cases a with
    |bool b=>
     cases b
     ·simp only[aqQ,false_implies,true_and,true_implies];cases want
      ·exact run _
      ·exact aqn
     ·simp only[Bool.true_eq_false,false_implies,and_true,true_implies];cases want
      ·exact aqn
      ·exact run _
    |_=>exact aqn
   |_=>exact aqn
theorem NA {α:Type}{d:α}{l:List α}{g h:Nat}{x:α}(aB:g≠h):b6 d (cK l g x) h=b6 d l h:=by
 rw[dW,dW,eE,apA,apA,List.getElem?_set_ne aB]
theorem GX {α:Type}{d:α}{l:List α}{g:Nat}{x:α}(h:g<l.length):b6 d (cK l g x) g=x:=by
 rw[dW,eE,apA,List.getElem?_set_self h];rfl
theorem Qf {tm:List R}{g:Nat}(h:b6 .un tm g≠ .un):g<tm.length:=by
 refine Nat.lt_of_not_le fun aj=>h ?_;rw[dW,apA,aqc aj];rfl
theorem B4 {a b:Option Tmp}:fY a b=true↔∃g,a=some g/\b=some g:=by
 cases a with
 |none=>simp[fY]
 |some x=>
  cases b with
  |none=>simp[fY]
  |some y=>
   simp only[fY];constructor
   ·intro h;obtain rfl:=apC h;exact⟨x,rfl,rfl⟩
   ·rintro⟨g,ab,ad⟩;cases ab;cases ad;exact aqx _
theorem Qg {all:List Oper}{o:Oper}{tm t:List R}{m:Bool}(h:res all o tm=some (m,t)):∃r x,t=put tm r x/\(r=none\/r=ja all o):=by
 unfold res at h;unfold ja
 cases bh:o.guard with
 |none=>rw[bh]at h;simp only[apX,ap5]at h;exact⟨none, .un,h.2.symm, .inl rfl⟩
 |some p=>
  obtain⟨j,want⟩:=p;rw[bh]at h;simp only at h⊢
  cases bo:l7 all j with
  |none=>rw[bo]at h;simp only[apX,ap5]at h;exact⟨none, .un,h.2.symm, .inl rfl⟩
  |some g=>
   rw[bo]at h;simp only at h;split at h
   ·simp only[apX,ap5]at h;exact⟨none, .un,h.2.symm, .inl rfl⟩
   ·simp only[apX,ap5]at h;exact⟨none, .un,h.2.symm, .inl rfl⟩
   ·simp only[apX,ap5]at h;exact⟨none, .un,h.2.symm, .inl rfl⟩
   ·simp only[apX,ap5]at h;exact⟨some g, .bt,h.2.symm, .inr rfl⟩
   ·simp only[apX,ap5]at h;exact⟨some g, .bf,h.2.symm, .inr rfl⟩
   ·cases h
theorem C9 {all:List Oper}{o:Oper}{tm:List R}{d:Option Tmp}{v:R}(a_:fY (ja all o) d=false):res all o (put tm d v)=(res all o tm).map fun p=>(p.1,put p.2 d v):=by
 cases d with
 |none=>
  have:∀t:List R,put t none v=t:=fun t=>rfl
  simp only[this];cases res all o tm<;>rfl
 |some d=>
  unfold ja at a_;unfold res
  cases bh:o.guard with
  |none=>rfl
  |some p=>
   obtain⟨j,want⟩:=p;rw[bh]at a_;simp only at a_⊢
   cases bo:l7 all j with
   |none=>rfl
   |some g=>
    rw[bo]at a_;simp only
    have dn:d≠g:=by
     rintro rfl;simp[fY]at a_
    have e:b6 R.un (put tm (some d) v) g=b6 R.un tm g:=NA dn
    have c:∀x,cK (put tm (some d) v) g x=put (cK tm g x) (some d) v:=fun x=>by
     simp only[put,eE];exact(List.set_comm _ _ (aql dn)).symm▸rfl
    rw[e];generalize b6 R.un tm g=x
    cases x with
    |d a=>
     cases a with
     |bool b=>cases b<;>simp[c]
     |_=>rfl
    |_=>rfl
theorem acB {all:List Oper}{a i:Oper}{g:Tmp}(aR:ja all a=some g)(hi:ja all i=some g){tm jW lR:List R}{qX vV:Bool}(ab:res all a tm=some (qX,jW))(ad:res all i jW=some (vV,lR)):
 lR=jW/\res all i tm=some (vV,jW)/\res all a jW=some (qX,jW):=by
 unfold ja at aR hi
 cases r1:a.guard with
 |none=>rw[r1]at aR;cases aR
 |some tV=>
  cases r2:i.guard with
  |none=>rw[r2]at hi;cases hi
  |some pi=>
   obtain⟨api,Ld⟩:=tV;obtain⟨apj,Gs⟩:=pi;rw[r1]at aR;rw[r2]at hi;simp only at aR hi;unfold res at ab ad⊢;simp only[r1,r2,aR,hi]at ab ad⊢;generalize aj:b6 R.un tm g=x at ab⊢
   cases x with
   |bt=>simp only[apX,ap5]at ab;obtain⟨rfl,rfl⟩:=ab;simp only[aj,apX,ap5]at ad⊢;obtain⟨rfl,rfl⟩:=ad;simp
   |bf=>simp only[apX,ap5]at ab;obtain⟨rfl,rfl⟩:=ab;simp only[aj,apX,ap5]at ad⊢;obtain⟨rfl,rfl⟩:=ad;simp
   |un=>simp only[apX,ap5]at ab;obtain⟨rfl,rfl⟩:=ab;simp only[aj,apX,ap5]at ad⊢;obtain⟨rfl,rfl⟩:=ad;simp
   |d y=>
    have ao:g<tm.length:=Qf (by rw[aj];intro h;cases h)
    cases y with
    |bool b=>
     cases b
     ·simp only[apX,ap5]at ab;obtain⟨rfl,rfl⟩:=ab;rw[GX ao]at ad⊢;simp only[apX,ap5]at ad⊢;obtain⟨rfl,rfl⟩:=ad;simp
     ·simp only[apX,ap5]at ab;obtain⟨rfl,rfl⟩:=ab;rw[GX ao]at ad⊢;simp only[apX,ap5]at ad⊢;obtain⟨rfl,rfl⟩:=ad;simp
    |_=>cases ab
   |_=>cases ab
theorem Pk {o:Oper}{tm:List R}{r:Option Tmp}{x:R}(h:∀g,r=some g->rk g o.op.operands.toList=false)(I:aD):cQ tb aL o (put tm r x) I=cQ tb aL o tm I:=by
 cases r with
 |none=>rfl
 |some g=>exact BS fun y bo=>yP (dst:=some g) (show l8 o (some g)=false from h g rfl) bo
theorem acC {all:List Oper}{a i:Oper}(ab:mN all a i=true)(ad:mN all i a=true){tm jW lR:List R}{qX vV:Bool}(kB:res all a tm=some (qX,jW))(vW:res all i jW=some (vV,lR)):
 ∃vX,res all i tm=some (vV,vX)/\res all a vX=some (qX,lR)/\(∀I,cQ tb aL a lR I=cQ tb aL a jW I)/\∀I,cQ tb aL i lR I=cQ tb aL i vX I:=by
 by_cases ay:fY (ja all a) (ja all i)=true
 ·obtain⟨g,Gt,Gu⟩:=B4.1 ay;obtain⟨rfl,az,aJ⟩:=acB Gt Gu kB vW;exact⟨lR,az,aJ,fun _=>rfl,fun _=>rfl⟩
 ·have eN:fY (ja all a) (ja all i)=false:=by simpa using ay
  have lP:fY (ja all i) (ja all a)=false:=by
   cases aj:fY (ja all i) (ja all a)with
   |false=>rfl
   |true=>
    obtain⟨g,az,aJ⟩:=B4.1 aj;exact absurd (B4.2 ⟨g,aJ,az⟩) ay
  obtain⟨r,x,rfl,ao⟩:=Qg kB
  have iW:fY (ja all i) r=false:=by
   rcases ao with rfl|rfl
   ·cases ja all i<;>rfl
   ·exact lP
  rw[C9 iW]at vW
  cases Kk:res all i tm with
  |none=>rw[Kk]at vW;cases vW
  |some p=>
   obtain⟨apk,vX⟩:=p;rw[Kk]at vW;simp only[aqF,apX,ap5]at vW;obtain⟨rfl,rfl⟩:=vW;obtain⟨q,y,rfl,a6⟩:=Qg Kk
   have AK:fY (ja all a) q=false:=by
    rcases a6 with rfl|rfl
    ·cases ja all a<;>rfl
    ·exact eN
   have Kc:fY q r=false:=by
    rcases a6 with rfl|rfl
    ·rfl
    ·exact iW
   refine⟨_,rfl, ?_,fun I=> ?_,fun I=> ?_⟩
   ·rw[C9 AK,kB];simp only[aqF];rw[put_comm Kc]
   ·rw[put_comm Kc];refine Pk (fun g bh=> ?_) I;subst bh;rcases a6 with a6|a6
    ·cases a6
    ·unfold mN at ad;rw[<-a6]at ad;simp only[apM,aq6,aqB]at ad;rcases ad.2 with aA|aA
     ·exact aA
     ·rw[a6,eN]at aA;cases aA
   ·refine Pk (fun g bh=> ?_) I;subst bh;rcases ao with ao|ao
    ·cases ao
    ·unfold mN at ab;rw[<-ao]at ab;simp only[apM,aq6,aqB]at ab;rcases ab.2 with aA|aA
     ·exact aA
     ·rw[ao,lP]at aA;cases aA
theorem M7 {all:List Oper}{a i:Oper}(h:mN all a i=true):fY (ja all a) i.dst=false:=by
 unfold mN at h;split at h
 ·rename_i bh;rw[bh];rfl
 ·rename_i g bh;rw[bh];simp only[apM,aqB]at h;exact h.1
end
end Go.ak
end
section
namespace Go.ak
abbrev gone:Bool×ae:=(true, .gone)
def hz (r:List Nat)(I al:aD):Prop:=∀x∈r,b6 gone I x=b6 gone al x
theorem kN {I:aD}{x:Nat}(h:cz I x=false):x<I.length:=by
 refine Nat.lt_of_not_le fun aj=> ?_;unfold cz at h;rw[dW,apA,aqc aj]at h;cases h
theorem hz.at_ {r:List Nat}{I al:aD}(h:hz r I al){x:Nat}(aj:x∈r):ae.at I x=ae.at al x/\cz I x=cz al x:=by
 have:=h x aj;unfold ae.at cz;exact⟨aqd Prod.snd this,aqd Prod.fst this⟩
theorem uA (I:aD)(id:Nat)(p:Bool×ae)(x:Nat):b6 gone (cK I id p) x=if id=x/\id<I.length then p else b6 gone I x:=by
 rw[dW,eE,eR,dW]
theorem H0 (I:aD)(id:Nat)(p:Bool×ae):(cK I id p).length=I.length:=by rw[eE];simp
def afO (I:aD):bT->aD
 | .a8 _ _ o=>o
 | .call _ args _=>b_ I args
 |_=>I
theorem NB (t:aZ)(x:U)(i:Int)(j:Nat):(∀I,loadData t x i j I= .bad)\/∃s v,∀I,loadData t x i j I= .a8 s v I:=by
 unfold loadData;split
 ·split
  ·split
   ·exact .inr ⟨_,_,fun _=>rfl⟩
   ·exact .inl fun _=>rfl
  ·exact .inl fun _=>rfl
 ·split
  ·split
   ·exact .inr ⟨_,_,fun _=>rfl⟩
   ·split<;>exact .inr ⟨_,_,fun _=>rfl⟩
   ·exact .inr ⟨_,_,fun _=>rfl⟩
   ·exact .inl fun _=>rfl
  ·exact .inl fun _=>rfl
 ·exact .inl fun _=>rfl
theorem Ov (t:aZ)(x:U)(i:Int)(j:Nat):(∀I,loadAt t x i j I= .bad)\/∃s v,∀I,loadAt t x i j I= .a8 s v I:=by
 unfold loadAt;split
 ·exact .inr ⟨_,_,fun _=>rfl⟩
 ·exact .inl fun _=>rfl
def s9 (I al:aD)(a b:bT):Prop:=(a= .bad/\b= .bad)\/∃s v,a= .a8 s v I/\b= .a8 s v al
theorem X9 (t:aZ)(p:R){I al:aD}(h:hz p.aL I al):s9 I al (h2 t p I) (h2 t p al):=by
 cases p with
 |ptr id off=>
  have ab:=(h.at_ (x:=id) (by simp[R.aL,R.jK])).1;unfold h2;simp only;rw[ab];split
  ·split
   ·exact .inr ⟨_,_,rfl,rfl⟩
   ·exact .inr ⟨_,_,rfl,rfl⟩
   ·exact .inr ⟨_,_,rfl,rfl⟩
   ·exact .inl ⟨rfl,rfl⟩
  ·exact .inl ⟨rfl,rfl⟩
 |optr id i j=>
  have ab:=(h.at_ (x:=id) (by simp[R.aL,R.jK])).1;unfold h2;simp only;rw[ab];rcases NB t (ae.at al id).data i j with ad|⟨s,v,ad⟩
  ·exact .inl ⟨ad _,ad _⟩
  ·exact .inr ⟨s,v,ad _,ad _⟩
 |rptr x i j=>
  unfold h2;simp only;rcases NB t x i j with ad|⟨s,v,ad⟩
  ·exact .inl ⟨ad _,ad _⟩
  ·exact .inr ⟨s,v,ad _,ad _⟩
 |oat id i j=>
  have ab:=(h.at_ (x:=id) (by simp[R.aL,R.jK])).1;unfold h2;simp only;rw[ab];rcases Ov t (ae.at al id).data i j with ad|⟨s,v,ad⟩
  ·exact .inl ⟨ad _,ad _⟩
  ·exact .inr ⟨s,v,ad _,ad _⟩
 |rat x i j=>
  unfold h2;simp only;rcases Ov t x i j with ad|⟨s,v,ad⟩
  ·exact .inl ⟨ad _,ad _⟩
  ·exact .inr ⟨s,v,ad _,ad _⟩
 |_=>exact .inl ⟨rfl,rfl⟩
theorem Zt (t:aZ)(x:R)(n:Int){I al:aD}(h:hz x.aL I al):s9 I al (o_ t x n I) (o_ t x n al):=by
 unfold o_;split;rotate_left
 ·exact .inl ⟨rfl,rfl⟩
 cases x with
 |optr id a j=>
  have ab:=(h.at_ (x:=id) (by simp[R.aL,R.jK])).1;simp only;rw[ab]
  (repeat' split)<;>first|exact .inr ⟨_,_,rfl,rfl⟩|exact .inl ⟨rfl,rfl⟩
 |rptr y a j=>
  cases y<;>simp only<;>(repeat' split)<;>first|exact .inr ⟨_,_,rfl,rfl⟩|exact .inl ⟨rfl,rfl⟩
 |_=>exact .inl ⟨rfl,rfl⟩
theorem Xh (t:aZ)(x i:R){I al:aD}(h:hz x.aL I al):s9 I al (q4 t x i I) (q4 t x i al):=by
 unfold q4;split
 ·cases x with
  |vec id=>
   have ab:=(h.at_ (x:=id) (by simp[R.aL,R.jK])).1;simp only;rw[ab];split
   ·exact .inr ⟨_,_,rfl,rfl⟩
   ·exact .inl ⟨rfl,rfl⟩
  |d a=>
   simp only;split
   ·exact .inr ⟨_,_,rfl,rfl⟩
   ·exact .inl ⟨rfl,rfl⟩
  |emp=>exact .inr ⟨_,_,rfl,rfl⟩
  |_=>exact Zt t _ _ h
 ·exact .inl ⟨rfl,rfl⟩
theorem Zu (t:aZ)(x:R){I al:aD}(h:hz x.aL I al):uY t x I=uY t x al:=by
 cases x with
 |vec id=>
  have ab:=(h.at_ (x:=id) (by simp[R.aL,R.jK])).1;unfold uY;simp only;rw[ab]
 |d a=>cases a<;>rfl
 |_=>rfl
theorem ad4 (I al:aD)(t:aZ)(v:R)(h:ed R.hl v.cellsOf=true):bE (R.hU I) (t.norm I v).cellsOf=bE (R.hU al) (t.norm al v).cellsOf:=by
 cases v with
 |agg l=>
  have h:ed R.hl l=true:=h
  cases t with
  |aG s=>have e:∀o:aD,aZ.norm o (.aG s) (.agg l)= .agg l:=fun o=>by cases s<;>rfl
         rw[e,e]
         exact q6 fun x aj=>by
          rw[fD,apR]at h;exact IN I al (h x aj)
  |struct bW cs=>exact C8 I al cs l h
  |arr n e cs=>exact C8 I al cs l h
  |no=>
   exact q6 fun x aj=>by
    rw[fD,apR]at h;exact IN I al (h x aj)
 |d a=>cases t with
  |aG s=>cases s<;>rfl
  |_=>rfl
 |bt=>cases t with
  |aG s=>cases s<;>rfl
  |_=>rfl
 |bf=>cases t with
  |aG s=>cases s<;>rfl
  |_=>rfl
 |emp=>cases t with
  |aG s=>cases s<;>rfl
  |_=>rfl
 |_=>exact absurd h (by simp[R.cellsOf,fD,R.hl])
def pe (w:List Nat)(I al:aD)(a b:bT):Prop:=(a= .bad/\b= .bad)\/∃s v id X,a= .a8 s v (cK I id X)/\b= .a8 s v (cK al id X)/\w=[id]/\id<I.length/\id<al.length
theorem XB (t:aZ)(p:R)(r:List U){I al:aD}(h:hz p.aL I al):pe p.aL I al (re t p r I) (re t p r al):=by
 have bad:pe p.aL I al .bad .bad:= .inl ⟨rfl,rfl⟩;unfold re
 cases p with
 |optr id i j=>
  have hm:id∈R.aL (.optr id i j):=by simp[R.aL,R.jK]
  obtain⟨ab,ad⟩:=h.at_ hm
  cases t.jh with
  |false=>exact bad
  |true=>
  simp only;rw[ab,ad]
  cases bm:cz al id with
  |true=>exact bad
  |false=>
  have dX:=kN bm;have dU:=kN (ad.trans bm);split
  ·split
   ·exact .inr ⟨_,_,_,_,rfl,rfl,rfl,dU,dX⟩
   ·exact bad
  ·exact bad
 |_=>cases t.jh<;>exact bad
theorem Xi (t:aZ)(id:Nat)(i:Int)(j:Nat)(v:R){I al:aD}(h:hz [id] I al):pe [id] I al (q9 t id i j v I) (q9 t id i j v al):=by
 have bad:pe [id] I al .bad .bad:= .inl ⟨rfl,rfl⟩;obtain⟨ab,ad⟩:=h.at_ (aqy.2 rfl);unfold q9
 cases t with
 |aG s=>
  simp only;rw[ab,ad]
  cases bm:cz al id with
  |true=>exact bad
  |false=>
  have dX:=kN bm;have dU:=kN (ad.trans bm);split
  ·rename_i a_;rw[HB I al s a_];exact .inr ⟨_,_,_,_,rfl,rfl,rfl,dU,dX⟩
  ·exact bad
 |_=>exact bad
theorem XC (t:aZ)(p v:R){I al:aD}(h:hz p.aL I al):pe p.aL I al (p2 t p v I) (p2 t p v al):=by
 have bad:pe p.aL I al .bad .bad:= .inl ⟨rfl,rfl⟩;unfold p2;rw[yG I al t v];split
 ·exact XB t p _ h
 cases p with
 |oat id i j=>exact Xi t id i j v h
 |ptr id off=>
  have hm:id∈R.aL (.ptr id off):=by simp[R.aL,R.jK]
  obtain⟨ab,ad⟩:=h.at_ hm;unfold ux;simp only;rw[ab,ad]
  cases bm:cz al id with
  |true=>exact bad
  |false=>
  have dX:=kN bm;have dU:=kN (ad.trans bm);split
  ·split
   ·exact .inr ⟨_,_,_,_,rfl,rfl,rfl,dU,dX⟩
   ·exact bad
  ·exact bad
 |optr id i j=>
  have hm:id∈R.aL (.optr id i j):=by simp[R.aL,R.jK]
  obtain⟨ab,ad⟩:=h.at_ hm;unfold ux;simp only;rw[ab,ad]
  cases bm:cz al id with
  |true=>exact bad
  |false=>
  have dX:=kN bm;have dU:=kN (ad.trans bm);split
  ·split
   ·split
    ·exact .inr ⟨_,_,_,_,rfl,rfl,rfl,dU,dX⟩
    ·exact bad
   ·exact bad
  ·split
   ·rename_i a_;rw[ad4 I al t v a_];exact .inr ⟨_,_,_,_,rfl,rfl,rfl,dU,dX⟩
   ·exact bad
  ·exact bad
 |_=>exact bad
theorem Ow (s:cb)(v:R){I al:aD}(h:hz v.jK I al):s.norm I v=s.norm al v:=by
 cases v with
 |vec id=>
  have ab:=(h.at_ (x:=id) (by simp[R.jK])).1;cases s<;>first|rfl|(show R.d _=R.d _;rw[ab])
 |_=>cases s<;>rfl
theorem hz.mono {r ld:List Nat}{I al:aD}(h:hz r I al)(ao:∀x∈ld,x∈r):hz ld I al:=fun x aj=>h x (ao x aj)
theorem Hq:∀(cs:List cb) (aH:List R) {I al:aD},hz (tf aH) I al->iN I cs aH=iN al cs aH
 |[],aH,_,_,_=>by cases aH<;>rfl
 |s::cs,[],_,_,_=>rfl
 |s::cs,v::aH,I,al,h=>by
  have e:tf (v::aH)=v.jK++tf aH:=by show ez _ _=_;rw[fC]
  rw[e]at h;show s.norm I v::iN I cs aH=s.norm al v::iN al cs aH;rw[Ow s v (h.mono fun x aj=>by simp[aj]),Hq cs aH (h.mono fun x aj=>by simp[aj])]
theorem aaO (t:aZ)(v:R){I al:aD}(h:hz v.aL I al):t.norm I v=t.norm al v:=by
 cases t with
 |aG s=>
  cases v with
  |agg l=>cases s<;>rfl
  |_=>exact Ow s _ h
 |struct bW cs=>
  cases v with
  |agg l=>exact aqd R.agg (Hq cs l h)
  |_=>rfl
 |arr n e cs=>
  cases v with
  |agg l=>exact aqd R.agg (Hq cs l h)
  |_=>rfl
 |no=>cases v<;>rfl
theorem ur (v:R)(aH:List R):gR (v::aH)=v.aL++gR aH:=by show ez _ _=_;rw[fC]
theorem yI:∀(ts:List aZ) (aH:List R) {I al:aD},hz (gR aH) I al->aZ.eF I ts aH=aZ.eF al ts aH
 |[],aH,_,_,_=>by cases aH<;>rfl
 |t::ts,[],_,_,_=>rfl
 |t::ts,v::aH,I,al,h=>by
  rw[ur]at h;show t.norm I v::aZ.eF I ts aH=t.norm al v::aZ.eF al ts aH;rw[aaO t v (h.mono fun x aj=>by simp[aj]),yI ts aH (h.mono fun x aj=>by simp[aj])]
theorem wZ {I:aD}{x:Nat}(h:ae.at I x≠ .gone):x<I.length:=by
 refine Nat.lt_of_not_le fun aj=>h ?_;unfold ae.at;rw[dW,apA,aqc aj];rfl
def oe (w:List Nat)(f:aD->aD):Prop:=(∀I,(f I).length=I.length)/\(∀I x,x∉w->b6 gone (f I) x=b6 gone I x)/\
 ∀I al x,b6 gone I x=b6 gone al x->b6 gone (f I) x=b6 gone (f al) x
theorem oe.comp {w w':List Nat}{f g:aD->aD}(aU:oe w f)(bh:oe w' g):oe (w++w') (fun I=>g (f I)):=by
 refine⟨fun I=>by rw[bh.1,aU.1],fun I x aj=> ?_,fun I al x aj=>bh.2.2 _ _ _ (aU.2.2 _ _ _ aj)⟩;rw[aqV,not_or]at aj;rw[bh.2.1 _ _ aj.2,aU.2.1 _ _ aj.1]
theorem G4 (I:aD)(id x:Nat):b6 gone (e_ I id) x=if id=x then(true,ae.at I id)else b6 gone I x:=by
 unfold e_;rw[uA]
 by_cases e:id=x
 ·subst e
  by_cases ax:id<I.length
  ·rw[apz ⟨rfl,ax⟩,apz rfl]
  ·rw[apy (fun h=>ax h.2),apz rfl];have:b6 gone I id=gone:=by rw[dW,apA,aqc (by omega)];rfl
   unfold ae.at;rw[show b6 (true,ae.gone) I id=gone from this]
 ·rw[apy (fun h=>e h.1),apy e]
theorem MS (id:Nat):oe [id] (fun I=>e_ I id):=by
 refine⟨fun I=>H0 _ _ _,fun I x aj=> ?_,fun I al x aj=> ?_⟩
 ·rw[G4,apy];rintro rfl;simp at aj
 ·rw[G4,G4];split
  ·rename_i e;rw[e];unfold ae.at;rw[show b6 (true,ae.gone) I x=b6 (true,ae.gone) al x from aj]
  ·exact aj
theorem Qh:oe [] (fun I=>I):=⟨fun _=>rfl,fun _ _ _=>rfl,fun _ _ _ h=>h⟩
theorem XD (v:R):oe v.jK (fun I=>lA I v):=by
 have Kl:∀w,oe w (fun I=>I):=fun w=>⟨fun _=>rfl,fun _ _ _=>rfl,fun _ _ _ h=>h⟩
 cases v with
 |vec id=>exact MS id
 |_=>exact Kl _
theorem M8:∀l:List R,oe (tf l) (fun I=>uF I l)
 |[]=>Qh
 |v::aH=>by
  have e:tf (v::aH)=v.jK++tf aH:=by show ez _ _=_;rw[fC]
  rw[e];exact(XD v).comp (M8 aH)
theorem X_ (v:R):oe v.aL (fun I=>freeze I v):=by
 have Kl:∀w,oe w (fun I=>I):=fun w=>⟨fun _=>rfl,fun _ _ _=>rfl,fun _ _ _ h=>h⟩
 cases v with
 |vec id=>exact MS id
 |agg l=>exact M8 l
 |_=>exact Kl _
theorem BP:∀l:List R,oe (gR l) (fun I=>b_ I l)
 |[]=>Qh
 |v::aH=>by
  rw[ur];exact(X_ v).comp (BP aH)
section
variable {tb:TypeId->b7} {bz:FuncId->gu} {data:FuncId->Nat} {aL:List (Tmp×Nat)} {n:Nat}
theorem aaP (eC:∀f args I K,bz f args I K->hy (bz f)){I:aD}{k cD:R->aD->Prop}(ag:∀v o,k v o->cD v o){r:bT}(h:fS bz I k r):fS bz I cD r:=by
 cases r with
 |a8 s v o=>exact wF (ag v o) h
 |call f args tys=>exact(eC _ _ _ _ h).1 _ _ _ _ ag h
 |_=>exact h
structure afa (bz:FuncId->gu)(n:Nat)(f:g_)(bC:aD->bT)(B:aD->(R->ae->Prop)->Prop)(E:ae->aD->aD):Prop where
 none:∀I s v o id,bC I≠ .grow s v o id
 Us:∀I p,bC I≠ .fF p
 pull:∀I k,fS bz I k (bC I)↔B I fun v x=>k v (E x I)
 mono:∀I k cD,(∀v x,k v x->cD v x)->B I k->B I cD
 some:∀I k,B I k->∃v x,k v x
 same:∀I al,hz f.r I al->(f.ext=true->I.length=n/\al.length=n)->∀k,B I k↔B al k
 len:∀x I,(E x I).length=I.length+f.ext.toNat
 out:∀x I y,(f.ext=true->I.length=n)->y∉f.w->b6 gone (E x I) y=b6 gone I y
 Ut:∀I al,hz f.r I al->(f.ext=true->I.length=n/\al.length=n)->(∃k,B I k)->(∃k,B al k)->∀x,∀y∈f.w,b6 gone (E x I) y=b6 gone (E x al) y
 calls:f.ext=true->f.call=true
 a8:f.call=false->∀I,∃(S:Prop) (v:R) (x:ae),∀k,B I k↔S/\k v x
def o6 (bz:FuncId->gu)(n:Nat)(f:g_)(bC:aD->bT):Prop:=∃B E,afa bz n f bC B E
theorem uu {f:g_}{bC:aD->bT}(hw:f.w=[])(aj:f.ext=false)(h:∀I al,hz f.r I al->s9 I al (bC I) (bC al)):o6 bz n f bC:=by
 have ab:∀I,bC I= .bad\/∃s v,bC I= .a8 s v I:=fun I=>by
  rcases h I I (fun _ _=>rfl)with⟨h,_⟩|⟨s,v,h,_⟩
  ·exact .inl h
  ·exact .inr ⟨s,v,h⟩
 refine⟨fun I k=>fS bz I (fun v _=>k v .gone) (bC I),fun _ I=>I, ?_⟩;refine⟨fun I s v o id=> ?_,fun I p=> ?_,fun I k=> ?_,fun I k cD ag ah=> ?_,fun I k ah=> ?_,fun I al ay _ k=> ?_,fun _ I=>by rw[aj];rfl,fun _ I y _ _=>rfl,fun I al _ _ _ _ x y bo=>absurd (hw▸bo) aqS,fun he=>absurd (aj.symm.trans he) aqM,fun _ I=> ?_⟩
 ·rcases ab I with h|⟨s,v,h⟩<;>rw[h]<;>simp
 ·rcases ab I with h|⟨s,v,h⟩<;>rw[h]<;>simp
 ·rcases ab I with h|⟨s,v,h⟩<;>rw[h]<;>exact aqn
 ·rcases ab I with h|⟨s,v,h⟩<;>rw[h]at ah⊢
  ·exact ah
  ·exact wF (ag _ _) ah
 ·rcases ab I with h|⟨s,v,h⟩<;>rw[h]at ah
  ·exact ah.elim
  ·exact⟨_,_,((hk _ _).1 ah).2⟩
 ·rcases h I al ay with⟨ab,ad⟩|⟨s,v,ab,ad⟩<;>simp only[ab,ad]<;>exact aqn
 ·rcases ab I with h|⟨s,v,h⟩<;>simp only[h]
  ·exact⟨False, .un, .gone,fun k=>by simp[fS]⟩
  ·exact⟨∀p∈s,p,v, .gone,fun k=>hk _ _⟩
theorem sC {f:g_}{bC:aD->bT}(aj:f.ext=false)(h:∀I al,hz f.r I al->pe f.w I al (bC I) (bC al)):o6 bz n f bC:=by
 have ab:∀I,bC I= .bad\/∃s v id X,bC I= .a8 s v (cK I id X)/\f.w=[id]/\id<I.length:=fun I=>by
  rcases h I I (fun _ _=>rfl)with⟨h,_⟩|⟨s,v,id,X,h,_,hm,ax,_⟩
  ·exact .inl h
  ·exact .inr ⟨s,v,id,X,h,hm,ax⟩
 refine⟨fun I k=>fS bz I (fun v _=>k v .gone) (bC I),fun _ I=>afO I (bC I), ?_⟩;refine⟨fun I s v o id=> ?_,fun I p=> ?_,fun I k=> ?_,fun I k cD ag ah=> ?_,fun I k ah=> ?_,fun I al ay _ k=> ?_,fun _ I=> ?_,fun _ I x _ aj=> ?_,fun I al ay _ vB _ _ x aj=> ?_,fun he=>absurd (aj.symm.trans he) aqM,fun _ I=> ?_⟩
 ·rcases ab I with h|⟨s,v,id,X,h,_⟩<;>rw[h]<;>simp
 ·rcases ab I with h|⟨s,v,id,X,h,_⟩<;>rw[h]<;>simp
 ·rcases ab I with h|⟨s,v,id,X,h,_⟩<;>rw[h]<;>exact aqn
 ·rcases ab I with h|⟨s,v,id,X,h,_⟩<;>rw[h]at ah⊢
  ·exact ah
  ·exact wF (ag _ _) ah
 ·rcases ab I with h|⟨s,v,id,X,h,_⟩<;>rw[h]at ah
  ·exact ah.elim
  ·exact⟨_,_,((hk _ _).1 ah).2⟩
 ·rcases h I al ay with⟨ab,ad⟩|⟨s,v,id,X,ab,ad,_⟩<;>simp only[ab,ad]<;>exact aqn
 ·rw[aj];rcases ab I with h|⟨s,v,id,X,h,_⟩<;>rw[h]
  ·rfl
  ·exact H0 _ _ _
 ·rcases ab I with h|⟨s,v,id,X,h,hm,_⟩<;>rw[h]
  ·rfl
  ·show b6 gone (cK I id X) x=_;rw[uA,apy];rintro⟨rfl,_⟩;exact aj (by rw[hm];simp)
 ·rcases h I al ay with⟨ad,aA⟩|⟨s,v,id,X,ad,aA,hm,de,l2⟩
  ·obtain⟨k,ah⟩:=vB;rw[ad]at ah;exact ah.elim
  ·rw[ad,aA];show b6 gone (cK I id X) x=b6 gone (cK al id X) x;rw[hm]at aj;have aj:x=id:=by simpa using aj
   subst aj;rw[uA,uA,apz ⟨rfl,de⟩,apz ⟨rfl,l2⟩]
 ·rcases ab I with h|⟨s,v,id,X,h,_⟩<;>simp only[h]
  ·exact⟨False, .un, .gone,fun k=>by simp[fS]⟩
  ·exact⟨∀p∈s,p,v, .gone,fun k=>hk _ _⟩
theorem aaQ {ps:List aZ}{hf:List R->(R->Prop)->Prop}(bp:k7 hf){f:g_}{bC:aD->bT}{args:List R}(ao:f.r=gR args)(hw:f.w=gR args)(aC:f.call=true)(aj:f.ext=false)
 (ab:∀I s v o id,bC I≠ .grow s v o id) (ad:∀I p,bC I≠ .fF p) (st:∀I k,fS bz I k (bC I)=iJ ps hf args I k):o6 bz n f bC:=by
 have dg:=BP args
 refine⟨fun I k=>iJ ps hf args I fun v _=>k v .gone,fun _ I=>b_ I args,ab,ad,fun I k=> ?_,fun I k cD ag ah=> ?_,fun I k ah=> ?_,fun I al ay _ k=> ?_,fun _ I=>by rw[aj];exact dg.1 I,
  fun _ I x _ bo=>dg.2.1 _ _ (hw▸bo),fun I al ay _ _ _ _ x bo=>dg.2.2 _ _ _ (ay x (by rw[ao,<-hw];exact bo)),fun _=>aC,fun h=>absurd (h.symm.trans aC) aqM⟩
 ·rw[st];exact aqn
 ·unfold iJ at ah⊢;split
  ·rename_i az aJ;rw[az,aJ]at ah;exact bp.1 _ _ _ (fun r=>ag r _) ah
  ·rename_i aj;split at ah
   ·rename_i az aJ;exact(aj az aJ).elim
   ·exact ah
 ·unfold iJ at ah;split at ah
  ·obtain⟨r,ao⟩:=bp.2 _ _ ah;exact⟨r,_,ao⟩
  ·exact ah.elim
 ·unfold iJ;rw[yI ps args (ao▸ay)]
theorem aaR {ps:List aZ}{hf:List R->(R->Prop)->Prop}(bp:k7 hf){f:g_}{bC:aD->bT}{args:List R}(ao:f.r=gR args)(hw:f.w=gR args)(aC:f.call=true)(aj:f.ext=false)
 (ab:∀I s v o id,bC I≠ .grow s v o id) (ad:∀I p,bC I≠ .fF p) (st:∀I k,fS bz I k (bC I)=nt ps hf args I k):o6 bz n f bC:=by
 refine⟨fun I k=>nt ps hf args I fun v _=>k v .gone,fun _ I=>I,ab,ad,fun I k=> ?_,fun I k cD ag ah=> ?_,fun I k ah=> ?_,fun I al ay _ k=> ?_,fun _ I=>by rw[aj];rfl,
  fun _ I x _ _=>rfl,fun I al ay _ _ _ _ x bo=>ay x (by rw[ao,<-hw];exact bo),fun _=>aC,fun h=>absurd (h.symm.trans aC) aqM⟩
 ·rw[st];exact aqn
 ·unfold nt at ah⊢;split
  ·rename_i az aJ;rw[az,aJ]at ah;exact bp.1 _ _ _ (fun r=>ag r _) ah
  ·rename_i aj;split at ah
   ·rename_i az aJ;exact(aj az aJ).elim
   ·exact ah
 ·unfold nt at ah;split at ah
  ·obtain⟨r,ao⟩:=bp.2 _ _ ah;exact⟨r,_,ao⟩
  ·exact ah.elim
 ·unfold nt;rw[yI ps args (ao▸ay)]
theorem aaS {ps:List aZ}{hf:R->ae->List R->(ae->R->Prop)->Prop}(bp:kt hf){f:g_}{bC:aD->bT}{args:List R}(ao:f.r=gR args)(hw:f.w=gR args)(aC:f.call=true)(aj:f.ext=false)
 (ab:∀I s v o id,bC I≠ .grow s v o id) (ad:∀I p,bC I≠ .fF p) (st:∀I k,fS bz I k (bC I)=n_ ps hf args I k):o6 bz n f bC:=by
 match args with
 |[]=>
  refine⟨fun _ _=>False,fun _ I=>I,ab,ad,fun I k=>by rw[st];exact aqn,fun _ _ _ _ h=>h,fun _ _ h=>h.elim,fun _ _ _ _ _=>aqn,fun _ _=>by rw[aj];rfl,fun _ _ _ _ _=>rfl,fun _ _ _ _ ⟨_,h⟩=>h.elim,fun _=>aC,fun h=>absurd (h.symm.trans aC) aqM⟩
 |a0::br=>
  have dg:=BP br
  cases dM:DF a0 with
  |none=>
   refine⟨fun _ _=>False,fun _ I=>I,ab,ad,fun I k=>by rw[st];unfold n_;simp only[dM],fun _ _ _ _ h=>h,fun _ _ h=>h.elim,fun _ _ _ _ _=>aqn,fun _ _=>by rw[aj];rfl,fun _ _ _ _ _=>rfl,fun _ _ _ _ ⟨_,h⟩=>h.elim,fun _=>aC,fun h=>absurd (h.symm.trans aC) aqM⟩
  |some id=>
   have h_:id∈gR (a0::br):=by
    rw[ur];cases a0<;>simp[DF]at dM<;>subst dM<;>simp[R.aL,R.jK]
   have vg:∀x∈gR br,x∈gR (a0::br):=fun x aj=>by rw[ur];simp[aj]
   let B:aD->(R->ae->Prop)->Prop:=fun I k=>
    match cz (b_ I br) id,zx a0 (ae.at I id),Nat.beq (bS ps) (bS br),ed R.plain (aZ.eF I ps br)with
    |false,true,true,true=>zk a0 (ae.at I id) (hf (m0 a0) (ae.at I id) (aZ.eF I ps br) fun ob r=>(match ae.alike (ae.at I id) ob with|true=>k r ob|false=>False))
    |_,_,_,_=>False
   refine⟨B,fun x I=>cK (b_ I br) id (false,x),ab,ad,fun I k=> ?_,fun I k cD ag ah=> ?_,fun I k ah=> ?_,fun I al ay _ k=> ?_,fun x I=>by rw[H0,dg.1,aj];rfl,fun x I y _ bo=> ?_,fun I al ay _ ⟨k,ag⟩ ⟨cD,tr⟩ x y bo=> ?_,fun _=>aC,fun h=>absurd (h.symm.trans aC) aqM⟩
   ·rw[st];unfold n_;simp only[dM];exact aqn
   ·show B I cD;have ah:B I k:=ah;simp only[B]at ah⊢;split at ah
    ·rw[yD]at ah⊢;refine⟨ah.1,bp.1 _ _ _ _ _ (fun o r aF=> ?_) ah.2⟩;split
     ·rename_i aR;rw[aR]at aF;exact ag _ _ aF
     ·rename_i aR;rw[aR]at aF;exact aF
    ·exact ah.elim
   ·have ah:B I k:=ah;simp only[B]at ah;split at ah
    ·rw[yD]at ah;obtain⟨o,r,aF⟩:=bp.2 _ _ _ _ ah.2;split at aF
     ·exact⟨r,o,aF⟩
     ·exact aF.elim
    ·exact ah.elim
   ·rw[ao]at ay;have az:=(ay.at_ h_).1;have aJ:cz (b_ I br) id=cz (b_ al br) id:=aqd Prod.fst (dg.2.2 I al id (ay id h_));have bX:=yI ps br (ay.mono vg);show B I k↔B al k;simp only[B];rw[az,aJ,bX]
   ·rw[hw]at bo;rw[uA,apy]
    ·exact dg.2.1 _ _ fun h=>bo (vg _ h)
    ·rintro⟨rfl,_⟩;exact bo h_
   ·rw[ao]at ay;rw[hw]at bo
    have AA:∀(I:aD) (k:R->ae->Prop),B I k->id<(b_ I br).length:=fun I k ah=>by
     simp only[B]at ah;split at ah
     ·rename_i bm _ _ _;exact kN bm
     ·exact ah.elim
    rw[uA,uA]
    by_cases e:id=y
    ·rw[apz ⟨e,AA _ _ ag⟩,apz ⟨e,AA _ _ tr⟩]
    ·rw[apy (fun h=>e h.1),apy (fun h=>e h.1)];exact dg.2.2 _ _ _ (ay y bo)
theorem Zv {ps:List aZ}{hf:List R->(ae->Prop)->Prop}(bp:nK hf){f:g_}{bC:aD->bT}{args:List R}(ao:f.r=gR args)(hw:f.w=n::gR args)(aC:f.call=true)(aj:f.ext=true)
 (ab:∀I s v o id,bC I≠ .grow s v o id) (ad:∀I p,bC I≠ .fF p) (st:∀I k,fS bz I k (bC I)=p8 ps hf args I k):o6 bz n f bC:=by
 have dg:=BP args
 let B:aD->(R->ae->Prop)->Prop:=fun I k=>
  match Nat.beq (bS ps) (bS args),ed R.plain (aZ.eF I ps args)with
  |true,true=>hf (aZ.eF I ps args) fun ob=>k (.vec (bS (b_ I args))) ob
  |_,_=>False
 refine⟨B,fun ob I=>ez (b_ I args) [(false,ob)],ab,ad,fun I k=> ?_,fun I k cD ag ah=> ?_,fun I k ah=> ?_,fun I al ay ax k=> ?_,fun x I=> ?_,fun x I y ax bo=> ?_,fun I al ay ax _ _ x y bo=> ?_,
  fun _=>aC,fun h=>absurd (h.symm.trans aC) aqM⟩
 ·rw[st];unfold p8;exact aqn
 ·show B I cD;have ah:B I k:=ah;simp only[B]at ah⊢;split at ah
  ·exact bp.1 _ _ _ (fun r=>ag _ r) ah
  ·exact ah.elim
 ·have ah:B I k:=ah;simp only[B]at ah;split at ah
  ·obtain⟨r,ao⟩:=bp.2 _ _ ah;exact⟨_,r,ao⟩
  ·exact ah.elim
 ·show B I k↔B al k;simp only[B];have e:bS (b_ I args)=bS (b_ al args):=by rw[cI,cI,show(b_ I args).length=I.length from dg.1 I,show(b_ al args).length=al.length from dg.1 al,(ax aj).1,(ax aj).2]
  rw[yI ps args (ao▸ay),e]
 ·rw[fC,ap4,dg.1,aj];rfl
 ·rw[hw,ap9,not_or]at bo;have e:(b_ I args).length=I.length:=dg.1 I;have ax:=ax aj;rw[fC,dW,apA,ap7];split
  ·rw[<-apA,<-dW];exact dg.2.1 _ _ bo.2
  ·rename_i aB;rw[dW,apA,aqc (l:=I) (by omega),aqc (by simp;omega)]
 ·obtain⟨de,l2⟩:=ax aj;have e:(b_ I args).length=I.length:=dg.1 I;have cg:(b_ al args).length=al.length:=dg.1 al;show b6 gone (ez (b_ I args) [(false,x)]) y=b6 gone (ez (b_ al args) [(false,x)]) y;rw[fC,fC,dW,dW,apA,apA,ap7,ap7,e,cg,de,l2];split
  ·rename_i bL;rw[hw]at bo;have bo:y∈gR args:=(ap9.1 bo).resolve_left (by omega);rw[<-apA,<-apA,<-dW,<-dW];exact dg.2.2 _ _ _ (ay y (by rw[ao];exact bo))
  ·rfl
theorem aaT (t:aZ)(id:Nat)(lo hi dp:Option R){I al:aD}(h:hz [id] I al):pe [id] I al (kI t (.vec id) lo hi dp I) (kI t (.vec id) lo hi dp al):=by
 have ab:=(h.at_ (x:=id) (by simp)).1;have bm:e_ I id=cK I id (true,ae.at al id):=by unfold e_;rw[ab]
 unfold kI
 cases dp with
 |none=>
  simp only;split
  ·rw[ab,bm];split
   ·rename_i aF;split
    ·exact .inr ⟨_,_,_,_,rfl,rfl,rfl,wZ (by rw[ab,aF];simp),wZ (by rw[aF];simp)⟩
    ·exact .inl ⟨rfl,rfl⟩
   ·rename_i aF;split
    ·exact .inr ⟨_,_,_,_,rfl,rfl,rfl,wZ (by rw[ab,aF];simp),wZ (by rw[aF];simp)⟩
    ·exact .inl ⟨rfl,rfl⟩
   ·exact .inl ⟨rfl,rfl⟩
  ·exact .inl ⟨rfl,rfl⟩
 |some m=>
  have key:∀o:aD,kI t (.vec id) lo hi (some m) o= .bad:=fun o=>by
   unfold kI;generalize l_ lo=a;generalize l_ hi=b;split
   ·rename_i h;cases h
   ·rcases a with _|_|(_|_)|_<;>rcases b with _|_|(_|_)|_<;>rfl
   ·rfl
  unfold kI at key;exact .inl ⟨key I,key al⟩
theorem Zw (t:aZ)(x:R)(lo hi dp:Option R)(aj:∀id,x≠ .vec id)(I al:aD):s9 I al (kI t x lo hi dp I) (kI t x lo hi dp al):=by
 unfold kI
 cases dp with
 |none=>
  simp only;split
  ·cases x with
   |vec id=>exact absurd rfl (aj id)
   |d a=>
    cases a<;>simp only<;>first|exact .inl ⟨rfl,rfl⟩|(split<;>first|exact .inr ⟨_,_,rfl,rfl⟩|exact .inl ⟨rfl,rfl⟩)
   |emp=>simp only;split<;>first|exact .inr ⟨_,_,rfl,rfl⟩|exact .inl ⟨rfl,rfl⟩
   |_=>exact .inl ⟨rfl,rfl⟩
  ·exact .inl ⟨rfl,rfl⟩
 |some m=>
  split
  ·rename_i h;cases h
  ·split
   ·split<;>first|exact .inr ⟨_,_,rfl,rfl⟩|exact .inl ⟨rfl,rfl⟩
   ·split<;>first|exact .inr ⟨_,_,rfl,rfl⟩|exact .inl ⟨rfl,rfl⟩
   ·exact .inl ⟨rfl,rfl⟩
  ·exact .inl ⟨rfl,rfl⟩
theorem XE (t:aZ)(id:Nat)(i:Int)(j:Nat)(lo hi dp:Option R){I al:aD}(h:hz [id] I al):pe [id] I al (p3 t (.optr id i j) lo hi dp I) (p3 t (.optr id i j) lo hi dp al):=by
 have ab:=(h.at_ (x:=id) (by simp)).1;have bm:e_ I id=cK I id (true,ae.at al id):=by unfold e_;rw[ab]
 unfold p3;split
 ·rename_i he;injection he with az aJ bX;subst az aJ bX;rw[ab,bm];split
  ·rename_i aF _ _;split
   ·exact .inr ⟨_,_,_,_,rfl,rfl,rfl,wZ (by rw[ab,aF];simp),wZ (by rw[aF];simp)⟩
   ·exact .inl ⟨rfl,rfl⟩
  ·exact .inl ⟨rfl,rfl⟩
 ·exact .inl ⟨rfl,rfl⟩
theorem NC (t:aZ)(x:R)(lo hi dp:Option R)(aj:∀id i j,x≠ .optr id i j)(I:aD):p3 t x lo hi dp I= .bad:=by
 unfold p3;split
 ·exact absurd rfl (aj _ _ _)
 ·rfl
theorem YI (tb:TypeId->b7)(t:b7)(m k:R)(c:Bool){I al:aD}(h:hz m.aL I al):s9 I al (oV tb t m k c I) (oV tb t m k c al):=by
 unfold oV;split
 ·rename_i n hO e id _;have ab:=(h.at_ (x:=id) (by simp[R.aL,R.jK])).1;rw[ab,yG I al _ k]
  (repeat' split)<;>first|exact .inr ⟨_,_,rfl,rfl⟩|exact .inl ⟨rfl,rfl⟩
 ·exact .inl ⟨rfl,rfl⟩
theorem Xj (tb:TypeId->b7)(t:b7)(m k v:R){I al:aD}(h:hz m.aL I al):pe m.aL I al (sq tb t m k v I) (sq tb t m k v al):=by
 have bad:pe m.aL I al .bad .bad:= .inl ⟨rfl,rfl⟩;unfold sq;split
 ·rename_i n hO e id _;obtain⟨ab,ad⟩:=h.at_ (x:=id) (by simp[R.aL,R.jK]);rw[ab,ad,yG I al _ k,NW I al _ v]
  cases bm:cz al id with
  |true=>exact bad
  |false=>
   have dX:=kN bm;have dU:=kN (ad.trans bm)
   (repeat' split)<;>first|exact .inr ⟨_,_,_,_,rfl,rfl,rfl,dU,dX⟩|exact bad
 ·exact bad
theorem aaU (s d:aZ)(x:R){I al:aD}(h:hz x.aL I al):s9 I al (n6 s d x I) (n6 s d x al):=by
 unfold n6;split
 ·split<;>first|exact .inr ⟨_,_,rfl,rfl⟩|exact .inl ⟨rfl,rfl⟩
 ·split<;>first|exact .inr ⟨_,_,rfl,rfl⟩|exact .inl ⟨rfl,rfl⟩
 ·split<;>first|exact .inr ⟨_,_,rfl,rfl⟩|exact .inl ⟨rfl,rfl⟩
 ·rename_i id;have ab:=(h.at_ (x:=id) (by simp[R.aL,R.jK])).1;rw[ab];split<;>first|exact .inr ⟨_,_,rfl,rfl⟩|exact .inl ⟨rfl,rfl⟩
 ·split<;>first|exact .inr ⟨_,_,rfl,rfl⟩|exact .inl ⟨rfl,rfl⟩
 ·exact .inl ⟨rfl,rfl⟩
theorem acD (tys:List TypeId)(args:List R){I al:aD}(ay:hz (gR args) I al):s9 I al (kG tb .len tys args I) (kG tb .len tys args al):=by
 match args with
 |[]=>exact .inl ⟨rfl,rfl⟩
 |[x]=>
  have aj:hz x.aL I al:=ay.mono fun y bo=>by rw[ur];simp[bo]
  cases tys with
  |nil=>exact .inl ⟨rfl,rfl⟩
  |cons t r=>
   have e:∀o,kG tb .len (t::r) [x] o=(match uY (tb t).ty x o with|some n=> .a8 [] (.d (.int .i64 n)) o|none=> .bad):=fun o=>rfl
   rw[e,e,Zu (tb t).ty x aj];split
   ·exact .inr ⟨_,_,rfl,rfl⟩
   ·exact .inl ⟨rfl,rfl⟩
 |x::y::r=>
  have e:∀o,kG tb .len tys (x::y::r) o= .bad:=fun o=>by
   unfold kG;split
   ·rename_i h;cases h
   ·rename_i h _;exact absurd h (by decide)
   ·rename_i h _;exact absurd h (by decide)
   ·rename_i h _;exact absurd h (by decide)
   ·rename_i h _;exact absurd h (by decide)
   ·rfl
  rw[e,e];exact .inl ⟨rfl,rfl⟩
theorem uL (hT:rz data bz)(o:Oper)(t:List R)(eV:(cE tb data aL n o t).ok=true):o6 bz n (cE tb data aL n o t) (cQ tb aL o t):=by
 have S0:qd tb o.op=false->fx tb o.op=0->o4 o.op=false->∀f:g_,f.w=[]->f.ext=false->o6 bz n f (cQ tb aL o t):=fun _ ab ad f hw aj=>uu hw aj fun I al _=>by
  rcases u4 (tb:=tb) (aL:=aL) ab ad t I al with h|⟨s,v,h,lb⟩
  ·exact .inl h
  ·exact .inr ⟨s,v,h,lb⟩
 have ahh:cE tb data aL n o t=⟨Nat.beq (fx tb o.op) 0&& !o4 o.op,false,[],[],false,kM tb o.op t,false⟩->qd tb o.op=false->o6 bz n (cE tb data aL n o t) (cQ tb aL o t):=fun e aR=>by
  rw[e]at eV⊢;simp only[apM,aqB]at eV;exact S0 aR (apC eV.1) eV.2 _ rfl rfl
 cases bO:o.op with
 |load ty p=>
  have e:cE tb data aL n o t=⟨true,false,(aN t p).aL,[],false,kM tb o.op t,false⟩:=by unfold cE;rw[bO]
  rw[e];refine uu rfl rfl fun I al ay=> ?_;rw[jc (by rw[bO];rfl),jc (by rw[bO];rfl)];unfold e6;rw[bO];exact X9 _ _ ay
 |store ty p v=>
  have e:cE tb data aL n o t=⟨true,false,(aN t p).aL,(aN t p).aL,false,false,false⟩:=by unfold cE;rw[bO]
  rw[e];refine sC rfl fun I al ay=> ?_;rw[jc (by rw[bO];rfl),jc (by rw[bO];rfl)];unfold e6;rw[bO];exact XC _ _ _ ay
 |indexAddr ty x i=>
  have e:cE tb data aL n o t=⟨true,false,(aN t x).aL,[],false,false,false⟩:=by unfold cE;rw[bO]
  rw[e];refine uu rfl rfl fun I al ay=> ?_;rw[jc (by rw[bO];rfl),jc (by rw[bO];rfl)];unfold e6;rw[bO];exact Xh _ _ _ ay
 |lookup ty m k c=>
  have e:cE tb data aL n o t=⟨true,false,(aN t m).aL,[],false,false,false⟩:=by unfold cE;rw[bO]
  rw[e];refine uu rfl rfl fun I al ay=> ?_;rw[jc (by rw[bO];rfl),jc (by rw[bO];rfl)];unfold e6;rw[bO];exact YI _ _ _ _ _ ay
 |mapUpdate ty m k v=>
  have e:cE tb data aL n o t=⟨true,false,(aN t m).aL,(aN t m).aL,false,false,false⟩:=by unfold cE;rw[bO]
  rw[e];refine sC rfl fun I al ay=> ?_;rw[jc (by rw[bO];rfl),jc (by rw[bO];rfl)];unfold e6;rw[bO];exact Xj _ _ _ _ _ ay
 |slice ty x lo hi dp=>
  have e:cE tb data aL n o t=(match(tb ty).cut with|true=>mW|false=>⟨true,false,(aN t x).aL,(aN t x).aL,false,false,false⟩):=by unfold cE;rw[bO];rfl
  rw[e]at eV⊢
  cases xx:(tb ty).cut with
  |true=>rw[xx]at eV;cases eV
  |false=>
  simp only
  have Le:∀I,cQ tb aL o t I=sz (tb ty).ty (aN t x) (omap (aN t) lo) (omap (aN t) hi) (omap (aN t) dp) I:=fun I=>by
   rw[jc (by rw[bO];rfl)];unfold e6;rw[bO];show uG (tb ty) _ _ _ _ I=_;unfold uG;rw[xx]
  generalize aN t x=v at Le
  cases Tx:(tb ty).ty.Ij with
  |true=>
   have kb:∀I,cQ tb aL o t I=p3 (tb ty).ty v (omap (aN t) lo) (omap (aN t) hi) (omap (aN t) dp) I:=fun I=>by rw[Le];unfold sz;rw[Tx]
   by_cases aO:∃id i j,v= .optr id i j
   ·obtain⟨id,i,j,rfl⟩:=aO;refine sC rfl fun I al ay=> ?_;rw[kb,kb];exact XE _ _ _ _ _ _ _ ay
   ·refine sC rfl fun I al _=> ?_;rw[kb,kb,NC _ _ _ _ _ fun id i j e=>aO ⟨id,i,j,e⟩,NC _ _ _ _ _ fun id i j e=>aO ⟨id,i,j,e⟩];exact .inl ⟨rfl,rfl⟩
  |false=>
  have kb:∀I,cQ tb aL o t I=kI (tb ty).ty v (omap (aN t) lo) (omap (aN t) hi) (omap (aN t) dp) I:=fun I=>by rw[Le];unfold sz;rw[Tx]
  by_cases aO:∃id,v= .vec id
  ·obtain⟨id,rfl⟩:=aO;refine sC rfl fun I al ay=> ?_;rw[kb,kb];exact aaT _ _ _ _ _ ay
  ·have aO:∀id,v≠ .vec id:=fun id e=>aO ⟨id,e⟩
   by_cases hw:v.aL=[]
   ·rw[hw];refine uu rfl rfl fun I al _=> ?_;rw[kb,kb];exact Zw _ _ _ _ _ aO _ _
   ·have ah:∀I,kI (tb ty).ty v (omap (aN t) lo) (omap (aN t) hi) (omap (aN t) dp) I= .bad:=fun I=>by
     have:∀a,v≠ .d a:=fun a e=>hw (by rw[e];rfl)
     have ad:v≠ .emp:=fun e=>hw (by rw[e];rfl);unfold kI;split
     ·split
      ·cases v<;>first|rfl|exact absurd rfl (aO _)|exact absurd rfl (this _)|exact absurd rfl ad
      ·rfl
     ·split<;>first|rfl|exact absurd rfl (this _)
     ·rfl
    refine sC rfl fun I al _=> ?_;rw[kb,kb,ah,ah];exact .inl ⟨rfl,rfl⟩
 |convert am6 Gv x=>
  have e:cE tb data aL n o t=⟨true,false,(aN t x).aL,[],false,false,false⟩:=by unfold cE;rw[bO]
  rw[e];refine uu rfl rfl fun I al ay=> ?_;rw[jc (by rw[bO];rfl),jc (by rw[bO];rfl)];unfold e6;rw[bO];exact aaU _ _ _ ay
 |alloc ty=>
  have e:cE tb data aL n o t=(match o.dst with|some d=>(match fw d aL with|some id=>⟨true,false,[id],[id],false,false,false⟩|none=>mW)|none=>mW):=by unfold cE;rw[bO];rfl
  cases a_:o.dst with
  |none=>rw[e,a_]at eV;cases eV
  |some d=>
   cases ax:fw d aL with
   |none=>rw[e,a_]at eV;simp only[ax]at eV;cases eV
   |some id=>
    rw[e,a_];simp only[ax];refine sC rfl fun I al ay=> ?_
    have aJ:∀I,cQ tb aL o t I=(match(tb ty).ty.jh,(tb ty).ty,cz I id with|false, .no,_=> .bad|false,_,true=> .bad|false,ty,false=> .a8 [] (.ptr id 0) (cK I id (false, .cells ty.zero))|true,_,true=> .bad|true,ty,false=>(match Nat.blt 0 ty.size with|true=> .a8 [] (.optr id 0 0) (cK I id (false, .ar ty.size [bE cb.f_ ty.cells]))|false=> .bad)):=fun I=>by
     unfold cQ;rw[bO,a_];simp only[ax]
     rfl
    have bm:=(ay.at_ (x:=id) (by simp)).2;rw[aJ,aJ,bm]
    cases (tb ty).ty.jh with
    |true=>
     cases db:cz al id with
     |true=>exact .inl ⟨rfl,rfl⟩
     |false=>
      dsimp only
      cases Nat.blt 0 (tb ty).ty.size with
      |false=>exact .inl ⟨rfl,rfl⟩
      |true=>exact .inr ⟨_,_,_,_,rfl,rfl,rfl,kN (bm.trans db),kN db⟩
    |false=>
    cases db:cz al id with
    |true=>cases (tb ty).ty<;>exact .inl ⟨rfl,rfl⟩
    |false=>
     have dX:=kN db;have dU:=kN (bm.trans db)
     cases (tb ty).ty with
     |no=>exact .inl ⟨rfl,rfl⟩
     |_=>exact .inr ⟨_,_,_,_,rfl,rfl,rfl,dU,dX⟩
 |buildSlice ty q bP=>
  have e:cE tb data aL n o t=(match(tb ty).lit with|true=>⟨true,false,[],[],false,kM tb o.op t,false⟩|false=>(match o.dst with|some d=>(match fw d aL with|some id=>⟨true,false,[id],[id],false,false,false⟩|none=>mW)|none=>mW)):=by unfold cE;rw[bO];rfl
  cases kV:(tb ty).lit with
  |true=>
   rw[e,kV];exact S0 (by rw[bO];simp[qd,kV]) (by rw[bO];simp[fx,kV]) (by rw[bO];rfl) _ rfl rfl
  |false=>
   cases a_:o.dst with
   |none=>rw[e,kV,a_]at eV;cases eV
   |some d=>
    cases ax:fw d aL with
    |none=>rw[e,kV,a_]at eV;simp only[ax]at eV;cases eV
    |some id=>
     rw[e,kV,a_];simp only[ax];refine sC rfl fun I al ay=> ?_
     have aJ:∀I,cQ tb aL o t I=(match s5 (tb ty) q (bE (fun p=>(p.1,aN t p.2)) bP.toList) I,cz I id with|some ob,false=> .a8 [] (.vec id) (cK I id (false,ob))|_,_=> .bad):=fun I=>by
      unfold cQ;rw[bO,a_];simp only[ax,kV]
      rfl
     have bX:s5 (tb ty) q (bE (fun p=>(p.1,aN t p.2)) bP.toList) I=s5 (tb ty) q (bE (fun p=>(p.1,aN t p.2)) bP.toList) al:=by
      have a6:∀z,hH I z (tb ty).fv q (bE (fun p=>(p.1,aN t p.2)) bP.toList)=hH al z (tb ty).fv q (bE (fun p=>(p.1,aN t p.2)) bP.toList):=fun z=>yC I al z _ _ 0 q
      unfold s5;simp only[a6]
     have bm:=(ay.at_ (x:=id) (by simp)).2;rw[aJ,aJ,bX,bm];split
     ·rename_i db;exact .inr ⟨_,_,_,_,rfl,rfl,rfl,kN (bm.trans db),kN db⟩
     ·exact .inl ⟨rfl,rfl⟩
 |call c=>
  have e:cE tb data aL n o t=(match c.callee with
   | .builtin .len=>⟨true,false,gR (bE (aN t) c.args.toList),[],false,false,false⟩
   | .builtin .append=>⟨false,false,[],[],false,false,kL (bE (aN t) c.args.toList)⟩
   | .value (.func f)=>(match data f with|1=>⟨true,true,gR (bE (aN t) c.args.toList),gR (bE (aN t) c.args.toList),false,false,false⟩|2=>⟨true,true,gR (bE (aN t) c.args.toList),n::gR (bE (aN t) c.args.toList),true,false,false⟩|_=>mW)
   |_=>mW):=by unfold cE;rw[bO];rfl
  have kb:∀I,cQ tb aL o t I=(match c.callee with
   | .builtin b=>kG tb b c.argTypes.toList (bE (aN t) c.args.toList) I
   | .value (.func f)=> .call f (bE (aN t) c.args.toList) c.argTypes.toList
   | .value (.tmp u)=>sJ (b6 .un t u) (bE (aN t) c.args.toList) c.argTypes.toList
   |_=> .bad):=fun I=>by
   rw[jc (by rw[bO];rfl)];unfold e6;rw[bO]
   rfl
  cases aC:c.callee with
  |builtin b=>
   cases b with
   |len=>
    rw[e,aC];refine uu rfl rfl fun I al ay=> ?_;rw[kb,kb,aC];simp only at ay⊢;exact acD _ _ ay
   |_=>rw[e,aC]at eV;cases eV
  |value x=>
   cases x with
   |func f=>
    have vY:∀I,cQ tb aL o t I= .call f (bE (aN t) c.args.toList) c.argTypes.toList:=fun I=>by rw[kb,aC]
    have ab:∀I s v cj id,cQ tb aL o t I≠ .grow s v cj id:=fun I s v cj id=>by rw[vY];simp
    have ad:∀I p,cQ tb aL o t I≠ .fF p:=fun I p=>by rw[vY];simp
    generalize bE (aN t) c.args.toList=args at vY e;rw[aC]at e
    match xX:data f with
    |1=>
     simp only[xX]at e;rw[e];rcases(hT f).1 xX with⟨ps,hf,vC,ir⟩|⟨ps,hf,vC,ir⟩|⟨ps,hf,vC,ir⟩
     ·exact aaQ vC (args:=args) rfl rfl rfl rfl ab ad fun I k=>by rw[vY];show bz f args I k=_;rw[ir]
     ·exact aaS vC (args:=args) rfl rfl rfl rfl ab ad fun I k=>by rw[vY];show bz f args I k=_;rw[ir]
     ·exact aaR vC (args:=args) rfl rfl rfl rfl ab ad fun I k=>by rw[vY];show bz f args I k=_;rw[ir]
    |2=>
     simp only[xX]at e;rw[e];obtain⟨ps,hf,vC,ir⟩:=(hT f).2 xX;exact Zv vC (args:=args) rfl rfl rfl rfl ab ad fun I k=>by rw[vY];show bz f args I k=_;rw[ir]
    |0=>simp only[xX]at e;rw[e]at eV;cases eV
    |n+3=>simp only[xX]at e;rw[e]at eV;cases eV
   |_=>rw[e,aC]at eV;cases eV
  |_=>rw[e,aC]at eV;cases eV
 |_=>
  refine ahh ?_ (by rw[bO];rfl);unfold cE;rw[bO]
theorem wQ {x:Nat}:∀{l:List Nat},qs x l=true↔x∈l
 |[]=>by simp[qs]
 |y::r=>by
  unfold qs
  by_cases h:x=y
  ·subst h;simp
  ·have:Nat.beq x y=false:=by
    cases ah:Nat.beq x y with
    |false=>rfl
    |true=>exact absurd (apC ah) h
   rw[this];simp[h,wQ (l:=r)]
theorem y0 {m:List Nat}:∀{l:List Nat},vb l m=true↔∀x∈l,x∉m
 |[]=>by simp[vb]
 |y::r=>by
  unfold vb
  cases h:qs y m with
  |true=>simp[wQ.1 h]
  |false=>
   have:y∉m:=fun hm=>by rw[wQ.2 hm]at h;cases h
   simp[this,y0 (l:=r)]
theorem acE (_:∀f args I K,bz f args I K->hy (bz f)){gd hc:g_}{Lf Lg:aD->bT}(aR:o6 bz n gd Lf)(hi:o6 bz n hc Lg)(aC:(gd.call&&hc.call)=false)
 (d1:∀x∈gd.w,x∉hc.w) (d2:∀x∈gd.w,x∉hc.r) (d3:∀x∈hc.w,x∉gd.r) {I:aD} (aB:I.length=n) {k:R->R->aD->Prop}
 (h:fS bz I (fun v al=>fS bz al (fun c8 fK=>k v c8 fK) (Lg al)) (Lf I)):
 fS bz I (fun c8 al=>fS bz al (fun v fK=>k v c8 fK) (Lf al)) (Lg I):=by
 obtain⟨Bo,nT,aR⟩:=aR;obtain⟨Gw,nU,hi⟩:=hi
 have nV:hc.ext=true->∀x,(nT x I).length=n:=fun he x=>by
  have ab:=hi.calls he
  have ad:gd.ext=false:=by
   cases aj:gd.ext with
   |false=>rfl
   |true=>have:=aR.calls aj;rw[ab,this]at aC;cases aC
  rw[aR.len,ad];exact aB
 have li:gd.ext=true->∀x,(nU x I).length=n:=fun he x=>by
  have ab:=aR.calls he
  have ad:hc.ext=false:=by
   cases aj:hc.ext with
   |false=>rfl
   |true=>have:=hi.calls aj;rw[ab,this]at aC;cases aC
  rw[hi.len,ad];exact aB
 have Km:∀x,hz hc.r (nT x I) I:=fun x y bo=>aR.out _ _ _ (fun _=>aB) fun hw=>d2 y hw bo
 have Kn:∀x,hz gd.r I (nU x I):=fun x y bo=>(hi.out _ _ _ (fun _=>aB) fun hw=>d3 y hw bo).symm
 have lb:Bo I fun v x=>Gw I fun c8 ik=>k v c8 (nU ik (nT x I)):=by
  refine aR.mono _ _ _ (fun v x aO=> ?_) ((aR.pull _ _).1 h);exact(hi.same _ _ (Km x) (fun he=>⟨nV he x,aB⟩) _).1 ((hi.pull _ _).1 aO)
 have Gx:∃k,Bo I k:=⟨_,lb⟩
 have VI:∃k,Gw I k:=by
  obtain⟨v,x,aO⟩:=aR.some _ _ lb;exact⟨_,aO⟩
 have aj4:∀x,∃k,Bo (nU x I) k:=fun x=>⟨_,(aR.same _ _ (Kn x) (fun he=>⟨aB,li he x⟩) _).1 lb⟩
 have aj5:∀x,∃k,Gw (nT x I) k:=fun x=>by
  obtain⟨k,ag⟩:=VI;exact⟨k,(hi.same _ _ (Km x) (fun he=>⟨nV he x,aB⟩) _).2 ag⟩
 have heq:∀x ik,nU ik (nT x I)=nT x (nU ik I):=fun x ik=>by
  have ax:(nU ik (nT x I)).length=(nT x (nU ik I)).length:=by rw[hi.len,aR.len,aR.len,hi.len];omega
  have aj:∀y,b6 gone (nU ik (nT x I)) y=b6 gone (nT x (nU ik I)) y:=fun y=>by
   by_cases ab:y∈gd.w
   ·rw[hi.out _ _ _ (fun he=>nV he x) (d1 y ab)];exact aR.Ut _ _ (Kn ik) (fun he=>⟨aB,li he ik⟩) Gx (aj4 ik) x y ab
   ·rw[aR.out _ _ _ (fun he=>li he ik) ab]
    by_cases ad:y∈hc.w
    ·exact(hi.Ut _ _ (fun z bm=>(Km x z bm).symm) (fun he=>⟨aB,nV he x⟩) VI (aj5 x) ik y ad).symm
    ·rw[hi.out _ _ _ (fun he=>nV he x) ad,aR.out _ _ _ (fun _=>aB) ab,hi.out _ _ _ (fun _=>aB) ad]
  apply List.ext_getElem?;intro y;have:=aj y;rw[dW,dW,apA,apA]at this
  by_cases bL:y<(nU ik (nT x I)).length
  ·rw[apT bL,apT (by rw[<-ax];exact bL)]at this⊢;simpa using this
  ·rw[aqc (by omega),aqc (by omega)]
 have goal:Gw I fun c8 ik=>Bo I fun v x=>k v c8 (nU ik (nT x I)):=by
  cases qK:gd.call with
  |false=>
   obtain⟨S,v,x,hC⟩:=aR.a8 qK I;have ad:=(hC _).1 lb;exact hi.mono _ _ _ (fun c8 ik aO=>(hC _).2 ⟨ad.1,aO⟩) ad.2
  |true=>
   have r3:hc.call=false:=by rw[qK]at aC;simpa using aC
   obtain⟨S,c8,ik,hC⟩:=hi.a8 r3 I;refine(hC _).2 ?_;have ad:Bo I fun v x=>S/\k v c8 (nU ik (nT x I)):=aR.mono _ _ _ (fun v x aO=>(hC _).1 aO) lb;obtain⟨v,x,aO⟩:=aR.some _ _ ad;exact⟨aO.1,aR.mono _ _ _ (fun v x aO=>aO.2) ad⟩
 refine(hi.pull _ _).2 (hi.mono _ _ _ (fun c8 ik aO=> ?_) goal);refine(aR.pull _ _).2 ((aR.same _ _ (Kn ik) (fun he=>⟨aB,li he ik⟩) _).1 (aR.mono _ _ _ (fun v x aO=> ?_) aO));rw[<-heq];exact aO
end
end Go.ak
end
section
namespace Go.ak
section
variable {tb:TypeId->b7} {bz:FuncId->gu} {data:FuncId->Nat} {aL:List (Tmp×Nat)} {n:Nat}
def oo (c8 v:R):Prop:=c8=v\/((c8= .bt\/c8= .bf)/\∃b,v= .d (.bool b))
theorem oo.afb {c8 v:R}(h:oo c8 v):c8.aL=v.aL:=by
 rcases h with rfl|⟨rfl|rfl,b,rfl⟩<;>rfl
theorem oo.ptr {c8 v:R}(h:oo c8 v):rr c8=rr v:=by
 rcases h with rfl|⟨rfl|rfl,b,rfl⟩<;>rfl
theorem oo.int {c8 v:R}(h:oo c8 v):ru c8=ru v:=by
 rcases h with rfl|⟨rfl|rfl,b,rfl⟩<;>rfl
theorem aaV {f g:Operand->R}:∀l:List Operand,(∀x∈l,oo (f x) (g x))->kL (bE f l)=kL (bE g l)
 |[],_=>rfl
 |[x],_=>by
  show kL [f x]=kL [g x]
  have:∀v:R,kL [v]=false:=fun v=>by cases v<;>rfl
  rw[this,this]
 |[x,y],h=>by
  show kL [f x,f y]=kL [g x,g y]
  have no:∀v b,kL [v, .d (.bool b)]=false:=fun v b=>by cases v<;>rfl
  have fg:∀v,kL [v, .bt]=false:=fun v=>by cases v<;>rfl
  have hX:∀v,kL [v, .bf]=false:=fun v=>by cases v<;>rfl
  rcases h y (by simp)with e|⟨e,b,cg⟩
  ·rw[e];rcases h x (by simp)with e|⟨e|e,b,cg⟩
   ·rw[e]
   ·rw[e,cg];rfl
   ·rw[e,cg];rfl
  ·rw[cg,no];rcases e with e|e<;>rw[e]
   ·exact fg _
   ·exact hX _
 |x::y::z::r,_=>by
  show kL (f x::f y::f z::bE f r)=kL (g x::g y::g z::bE g r)
  have:∀(a b c:R) (l:List R),kL (a::b::c::l)=false:=fun a b c l=>by unfold kL;split<;>first|rfl|(rename_i h;simp at h)
  rw[this,this]
theorem Zx {o:Op}{t t':List R}(h:∀x∈o.operands.toList,oo (aN t' x) (aN t x)):kM tb o t'=kM tb o t:=by
 cases o with
 |load ty p=>exact(h p (by simp[Op.operands])).ptr
 |fieldAddr ty x f=>exact(h x (by simp[Op.operands])).ptr
 |buildSlice ty q bP=>
  unfold kM;simp only
  have key:∀l:List (Nat×Operand),(∀p∈l,ru (aN t' p.2)=ru (aN t p.2))->ed (fun p:Nat×Operand=>ru (aN t' p.2)) l=ed (fun p:Nat×Operand=>ru (aN t p.2)) l:=by
   intro l
   induction l with
   |nil=>exact fun _=>rfl
   |cons x r bI=>
    intro aj;rw[fD,fD,arb,arb,<-fD,<-fD,aj x (by simp),bI fun y bo=>aj y (by simp[bo])]
  have this:=key bP.toList fun p aE=>(h p.2 (by simp[Op.operands];exact⟨p.1,by simpa using aE⟩)).int;rw[this]
 |_=>rfl
theorem Ox {o:Oper}{t t':List R}(ag:∀x∈o.op.operands.toList,oo (aN t' x) (aN t x)):cE tb data aL n o t'=cE tb data aL n o t:=by
 have h:=fun x aj=>(ag x aj).afb;have ay:=Zx (tb:=tb) ag
 have ax:∀l:List Operand,(∀x∈l,(aN t' x).aL=(aN t x).aL)->gR (bE (aN t') l)=gR (bE (aN t) l):=by
  intro l
  induction l with
  |nil=>exact fun _=>rfl
  |cons x r bI=>
   intro aj;show gR (aN t' x::bE (aN t') r)=gR (aN t x::bE (aN t) r);rw[ur,ur,aj x (by simp),bI fun y bo=>aj y (by simp[bo])]
 unfold cE
 cases bO:o.op with
 |load ty p=>simp only[bO]at h ay⊢;rw[h p (by simp[Op.operands]),ay]
 |store ty p v=>simp only[bO]at h⊢;rw[h p (by simp[Op.operands])]
 |indexAddr ty x i=>simp only[bO]at h⊢;rw[h x (by simp[Op.operands])]
 |slice ty x lo hi dp=>simp only[bO]at h⊢;rw[h x (by simp[Op.operands])]
 |convert am6 Gv x=>simp only[bO]at h⊢;rw[h x (by simp[Op.operands])]
 |lookup ty m k c=>simp only[bO]at h⊢;rw[h m (by simp[Op.operands])]
 |mapUpdate ty m k v=>simp only[bO]at h⊢;rw[h m (by simp[Op.operands])]
 |call c=>
  simp only[bO]at h ag⊢
  have hm:∀x∈c.args.toList,x∈(Op.call c).operands.toList:=fun x aj=>by simp[Op.operands,Call.operands];exact .inr (by simpa using aj)
  rw[ax c.args.toList fun x aj=>h x (hm x aj),aaV c.args.toList fun x aj=>ag x (hm x aj)]
 |alloc ty=>rfl
 |_=>simp only[bO]at ay⊢;rw[ay]
theorem uB {o:Oper}{t:List R}(h:(cE tb data aL n o t).ok=true){n':Nat}(t':List R):(cE tb data aL n' o t').ok=true:=by
 have key:(cE tb data aL n' o t').ok=(cE tb data aL n o t).ok:=by
  unfold cE
  cases o.op with
  |call c=>
   simp only;split<;>first|rfl|(split<;>rfl)
  |buildSlice ty q bP=>
   simp only;cases (tb ty).lit<;>rfl
  |slice ty x lo hi dp=>
   simp only;cases (tb ty).cut<;>rfl
  |_=>rfl
 rw[key];exact h
theorem Rp {tm:List R}{g:Nat}{b:Bool}(bh:b6 .un tm g= .d (.bool b)){y:R}(bo:y= .bt\/y= .bf)(x:Operand):oo (aN (cK tm g y) x) (aN tm x):=by
 cases x with
 |tmp t=>
  show oo (b6 .un (cK tm g y) t) (b6 .un tm t)
  by_cases e:g=t
  ·subst e;rw[GX (Qf (by rw[bh];intro h;cases h)),bh];exact .inr ⟨bo,b,rfl⟩
  ·rw[NA e];exact .inl rfl
 |_=>exact .inl rfl
theorem ad5 {all:List Oper}{o:Oper}{tm t:List R}{m:Bool}(h:res all o tm=some (m,t))(x:Operand):oo (aN t x) (aN tm x):=by
 unfold res at h
 cases bh:o.guard with
 |none=>rw[bh]at h;simp only[apX,ap5]at h;rw[h.2];exact .inl rfl
 |some p=>
  obtain⟨j,want⟩:=p;rw[bh]at h;simp only at h
  cases bo:l7 all j with
  |none=>rw[bo]at h;simp only[apX,ap5]at h;rw[h.2];exact .inl rfl
  |some g=>
   rw[bo]at h;simp only at h;split at h
   ·simp only[apX,ap5]at h;rw[h.2];exact .inl rfl
   ·simp only[apX,ap5]at h;rw[h.2];exact .inl rfl
   ·simp only[apX,ap5]at h;rw[h.2];exact .inl rfl
   ·rename_i ax;simp only[apX,ap5]at h;rw[<-h.2];exact Rp ax (.inl rfl) x
   ·rename_i ax;simp only[apX,ap5]at h;rw[<-h.2];exact Rp ax (.inr rfl) x
   ·cases h
theorem CF {all:List Oper}{o:Oper}{tm t:List R}{m:Bool}(h:res all o tm=some (m,t))(q:Oper):cE tb data aL n q t=cE tb data aL n q tm:=Ox fun x _=>ad5 h x
theorem H2 {o:Oper}{tm:List R}{d:Option Tmp}{v:R}(h:l8 o d=false):cE tb data aL n o (put tm d v)=cE tb data aL n o tm:=Ox fun _ aj=> .inl (yP h aj)
theorem S1 {all:List Oper}{a i:Oper}(r1:mN all a i=true)(r2:mN all i a=true)(cS:fY a.dst i.dst=false)(iW:l8 i a.dst=false)(vz:l8 a i.dst=false)
 (eC:∀f args I K,bz f args I K->hy (bz f))
 (nV:(∀tm I s v cj id,cQ tb aL a tm I≠ .grow s v cj id)/\∀tm I p,cQ tb aL a tm I≠ .fF p)
 (li:(∀tm I s v cj id,cQ tb aL i tm I≠ .grow s v cj id)/\∀tm I p,cQ tb aL i tm I≠ .fF p)
 {tm:List R} {I:aD} {K:List R->aD->Prop}
 (core:∀t,(∀q,cE tb data aL n q t=cE tb data aL n q tm)->∀(k:R->R->aD->Prop),fS bz I (fun v al=>fS bz al (fun c8 fK=>k v c8 fK) (cQ tb aL i t al)) (cQ tb aL a t I)->
   fS bz I (fun c8 al=>fS bz al (fun v fK=>k v c8 fK) (cQ tb aL a t al)) (cQ tb aL i t I))
 (h:dw tb bz aL all [a,i] tm I K):dw tb bz aL all [i,a] tm I K:=by
 have ci:∀(t:List R) (v:R) (o:aD),cQ tb aL i (put t a.dst v) o=cQ tb aL i t o:=fun t v o=>BS fun x aj=>yP iW aj
 have sg:∀(t:List R) (v:R) (o:aD),cQ tb aL a (put t i.dst v) o=cQ tb aL a t o:=fun t v o=>BS fun x aj=>yP vz aj
 rw[yH nV.1 nV.2]at h
 cases xS:res all a tm with
 |none=>rw[xS]at h;exact h.elim
 |some p=>
  obtain⟨qX,jW⟩:=p;rw[xS]at h;simp only at h
  have az:∀v al,dw tb bz aL all [i] (put jW a.dst v) al K↔_:=fun v al=>yH (tm:=put jW a.dst v) (I:=al) (br:=[]) (all:=all) (K:=K) li.1 li.2
  have aJ:∀v,res all i (put jW a.dst v)=(res all i jW).map fun p=>(p.1,put p.2 a.dst v):=fun v=>C9 (M7 r2)
  have h:s8 qX bz I (fun v al=>match(res all i jW).map fun p=>(p.1,put p.2 a.dst v)with
   |none=>False
   |some (m,dL)=>s8 m bz al (fun v al=>dw tb bz aL all [] (put dL i.dst v) al K) (cQ tb aL i dL al)) (cQ tb aL a jW I):=by
   have:(fun v al=>dw tb bz aL all [i] (put jW a.dst v) al K)=(fun v al=>match(res all i jW).map fun p=>(p.1,put p.2 a.dst v)with
    |none=>False
    |some (m,dL)=>s8 m bz al (fun v al=>dw tb bz aL all [] (put dL i.dst v) al K) (cQ tb aL i dL al)):=by
    funext v al
    rw[<-aJ v];exact propext (az v al)
   rw[<-this];exact h
  have aj6:∀(m:Bool) (r:bT),¬s8 m bz I (fun _ _=>False) r:=by
   intro m r aj
   cases m with
   |false=>exact aj
   |true=>
    cases r with
    |a8 s v o=>exact((hk _ _).1 aj).2
    |call f args tys=>
     obtain⟨_,_,ao⟩:=(eC _ _ _ _ aj).2 _ _ _ aj;exact ao
    |_=>exact aj
  cases vv:res all i jW with
  |none=>
   rw[vv]at h;exact(aj6 _ _ h).elim
  |some q=>
   obtain⟨vV,lR⟩:=q;rw[vv]at h;simp only[aqF]at h;obtain⟨vX,aY,bj,bG,di⟩:=acC (tb:=tb) r1 r2 xS vv;rw[yH li.1 li.2,aY];simp only
   have bX:∀v al,dw tb bz aL all [a] (put vX i.dst v) al K↔s8 qX bz al (fun c8 al=>dw tb bz aL all [] (put (put lR i.dst v) a.dst c8) al K) (cQ tb aL a (put lR i.dst v) al):=fun v al=>by
    rw[yH nV.1 nV.2,C9 (M7 r1),bj]
    rfl
   have cW:(fun v al=>dw tb bz aL all [a] (put vX i.dst v) al K)=fun v al=>s8 qX bz al (fun c8 al=>dw tb bz aL all [] (put (put lR a.dst c8) i.dst v) al K) (cQ tb aL a lR al):=by
    funext v al
    refine(propext (bX v al)).trans ?_;rw[sg]
    congr 1
    funext c8 fK
    rw[put_comm cS]
   rw[cW,<-di];rw[<-bG]at h;simp only[ci]at h
   cases qX with
   |false=>exact h
   |true=>
    cases vV with
    |false=>exact h
    |true=>
     have aU:∀q,cE tb data aL n q lR=cE tb data aL n q tm:=fun q=>(CF vv q).trans (CF xS q)
     exact core lR aU (fun v c8 fK=>dw tb bz aL all [] (put (put lR a.dst v) i.dst c8) fK K) h
theorem y1 {all:List Oper}{a i:Oper}{gd hc:g_}(h:nz tb all a gd i hc=true):mN all a i=true/\mN all i a=true/\fY a.dst i.dst=false/\l8 i a.dst=false/\l8 a i.dst=false/\(qe tb a i=true\/tg gd hc=true):=by
 simp only[nz,uH,apM,aq6,aqB]at h;obtain⟨⟨⟨ab,ad⟩,⟨aA,ba⟩,bJ⟩,cu⟩:=h;exact⟨ab,ad,aA,ba,bJ,cu⟩
theorem afP {all:List Oper}{a i:Oper}(hT:rz data bz)(eC:∀f args I K,bz f args I K->hy (bz f)){tm:List R}{I:aD}(aB:I.length=n){K:List R->aD->Prop}
 (hi:nz tb all a (cE tb data aL n a tm) i (cE tb data aL n i tm)=true)
 (h:dw tb bz aL all [a,i] tm I K):dw tb bz aL all [i,a] tm I K:=by
 obtain⟨r1,r2,cS,iW,vz,aC⟩:=y1 hi;rcases aC with bc|bc
 ·have AL:=bc;simp only[qe,apM,aqB]at AL;obtain⟨⟨⟨⟨⟨aU,qJ⟩,xW⟩,_⟩,_⟩,_⟩:=AL
  have DG:(fx tb a.op<=1\/fx tb a.op=2)/\(fx tb i.op<=1\/fx tb i.op=2):=by
   unfold qn at aU;split at aU
   ·rename_i ab ad;exact⟨.inl (apZ ab), .inl (apZ ad)⟩
   ·simp only[apM]at aU;exact⟨.inl (by rw[apC aU.1];decide), .inr (apC aU.2)⟩
   ·simp only[apM]at aU;exact⟨.inr (apC aU.1), .inl (by rw[apC aU.2];decide)⟩
   ·cases aU
  have low:∀{o:Oper},(fx tb o.op<=1\/fx tb o.op=2)->o4 o.op=false->(∀tm I s v cj id,cQ tb aL o tm I≠ .grow s v cj id)/\∀tm I p,cQ tb aL o tm I≠ .fF p:=by
   intro o ab ad;refine⟨fun tm I s v cj id=> ?_,fun tm I p=> ?_⟩
   ·rcases ab with ab|ab
    ·rcases xj (tb:=tb) (aL:=aL) ab ad tm I with h|⟨s,v,h⟩<;>rw[h]<;>simp
    ·rcases u5 (tb:=tb) (aL:=aL) ab tm I with h|⟨s,v,cj,h⟩|⟨f,args,tys,h⟩<;>rw[h]<;>simp
   ·rcases ab with ab|ab
    ·rcases xj (tb:=tb) (aL:=aL) ab ad tm I with h|⟨s,v,h⟩<;>rw[h]<;>simp
    ·rcases u5 (tb:=tb) (aL:=aL) ab tm I with h|⟨s,v,cj,h⟩|⟨f,args,tys,h⟩<;>rw[h]<;>simp
  exact S1 (data:=data) (n:=n) r1 r2 cS iW vz eC (low DG.1 qJ) (low DG.2 xW) (fun t _ k ag=>ad3 bc eC ag) h
 ·have AL:=bc;simp only[tg,apM,aqB]at AL;obtain⟨⟨⟨⟨⟨vZ,vR⟩,lS⟩,d1⟩,d2⟩,d3⟩:=AL
  have low:∀{o:Oper},(cE tb data aL n o tm).ok=true->(∀tm I s v cj id,cQ tb aL o tm I≠ .grow s v cj id)/\∀tm I p,cQ tb aL o tm I≠ .fF p:=fun aF=>
   ⟨fun t I s v cj id=>(uL (n:=n) hT _ t (uB aF t)).elim fun _ ⟨_,h⟩=>h.none I s v cj id,fun t I p=>(uL (n:=n) hT _ t (uB aF t)).elim fun _ ⟨_,h⟩=>h.Us I p⟩
  refine S1 (data:=data) (n:=n) r1 r2 cS iW vz eC (low vZ) (low vR) (fun t aw k ag=> ?_) h;have gd:=uL (tb:=tb) (aL:=aL) (n:=n) hT a t (uB vZ t);have hc:=uL (tb:=tb) (aL:=aL) (n:=n) hT i t (uB vR t);rw[aw]at gd hc;exact acE eC gd hc lS (y0.1 d1) (y0.1 d2) (y0.1 d3) aB ag
end
end Go.ak
end
section
namespace Go.ak
theorem HF {f:R->R}(aU:f .un= .un)(l:List R)(n:Nat):b6 .un (bE f l) n=f (b6 .un l n):=by
 rw[dP,dW,dW,apA,apA,aqv]
 cases l[n]? with
 |none=>exact aU.symm
 |some x=>rfl
theorem aaW {id:Nat}{x:R}{j off:Nat}(h:et id x= .ptr j off):x= .ptr j off/\j≠id:=by
 cases x with
 |ptr i o=>
  simp only[et,fE]at h;split at h
  ·cases h
  ·rename_i ah;injection h with ab ad;subst ab ad;refine⟨rfl,fun e=> ?_⟩;subst e;simp at ah
 |vec i=>simp only[et,fE]at h;split at h<;>cases h
 |optr i a b=>simp only[et,fE]at h;split at h<;>cases h
 |oat i a b=>simp only[et,fE]at h;split at h<;>cases h
 |mp i=>simp only[et,fE]at h;split at h<;>cases h
 |tail i x=>simp only[et,fE]at h;split at h<;>cases h
 |_=>simp[et,fE]at h
theorem Ya {id j off:Nat}(h:j≠id):et id (.ptr j off)= .ptr j off:=by
 simp only[et,fE];split
 ·rename_i ah;exact absurd (apC ah) h
 ·rfl
theorem aaX (id:Nat)(v:R):o9 (fE id v)=et id (o9 v):=by
 cases v with
 |ptr i o=>simp only[o9,et,fE];cases Nat.beq i id<;>rfl
 |vec i=>simp only[o9,et,fE];cases Nat.beq i id<;>rfl
 |optr i a b=>simp only[o9,et,fE];cases Nat.beq i id<;>rfl
 |oat i a b=>simp only[o9,et,fE];cases Nat.beq i id<;>rfl
 |mp i=>simp only[o9,et,fE];cases Nat.beq i id<;>rfl
 |tail i x=>simp only[o9,et,fE];cases Nat.beq i id<;>rfl
 |_=>rfl
theorem aaY (c:Value)(j off:Nat):tQ c≠ .ptr j off:=by
 intro h;unfold tQ at h;split at h
 ·cases h
 ·unfold pk at h;split at h<;>cases h
section
variable {tb:TypeId->b7} {bz:FuncId->gu} {data:FuncId->Nat} {aL:List (Tmp×Nat)} {n:Nat}
theorem He {tm:List R}{iF:Option Tmp}{v:R}{id:Nat}{x:Operand}(aj:∀t,iF=some t->x≠ .tmp t){j off:Nat}(h:aN (put (bE (et id) tm) iF v) x= .ptr j off):aN tm x= .ptr j off/\j≠id:=by
 rw[IM aj]at h
 cases x with
 |tmp t=>
  have h:b6 .un (bE (et id) tm) t= .ptr j off:=h;rw[HF rfl]at h;exact aaW h
 |const c=>exact absurd h (aaY c j off)
 |global g=>cases h
 |func f=>cases h
theorem YJ {id:Nat}{x:R}(h:ru (et id x)=true):et id x=x:=by
 cases x with
 |ptr i o=>simp only[et,fE]at h⊢;cases ah:Nat.beq i id<;>rw[ah]at h<;>first|rfl|cases h
 |vec i=>simp only[et,fE]at h⊢;cases ah:Nat.beq i id<;>rw[ah]at h<;>first|rfl|cases h
 |optr i a b=>simp only[et,fE]at h⊢;cases ah:Nat.beq i id<;>rw[ah]at h<;>first|rfl|cases h
 |oat i a b=>simp only[et,fE]at h⊢;cases ah:Nat.beq i id<;>rw[ah]at h<;>first|rfl|cases h
 |mp i=>simp only[et,fE]at h⊢;cases ah:Nat.beq i id<;>rw[ah]at h<;>first|rfl|cases h
 |tail i x=>simp only[et,fE]at h⊢;cases ah:Nat.beq i id<;>rw[ah]at h<;>first|rfl|cases h
 |d a=>rfl
 |_=>cases h
theorem YK {tm:List R}{iF:Option Tmp}{v:R}{id:Nat}{x:Operand}(aj:∀t,iF=some t->x≠ .tmp t)(h:ru (aN (put (bE (et id) tm) iF v) x)=true):aN (put (bE (et id) tm) iF v) x=aN tm x:=by
 rw[IM aj]at h⊢
 cases x with
 |tmp t=>
  have e:aN (bE (et id) tm) (.tmp t)=et id (aN tm (.tmp t)):=HF rfl _ _;rw[e]at h⊢;exact YJ h
 |_=>rfl
theorem aaZ {i:Oper}{tm:List R}{I:aD}{iF:Option Tmp}{v:R}{id:Nat}{ob:ae}(ao:l8 i iF=false)(_:∀l,ae.at I id≠ .cells l)
 (ay:kM tb i.op (put (bE (et id) tm) iF v)=true):
 kM tb i.op tm=true/\(cQ tb aL i (put (bE (et id) tm) iF v) (gF id (cK I id (false,ob)))= .bad\/
  ∃s w,cQ tb aL i (put (bE (et id) tm) iF v) (gF id (cK I id (false,ob)))= .a8 s (et id w) (gF id (cK I id (false,ob)))/\cQ tb aL i tm I= .a8 s w I):=by
 have aj:∀x∈i.op.operands.toList,∀t,iF=some t->x≠ .tmp t:=fun x aj t aw AJ=>by
  subst aw AJ;simp only[l8]at ao;rw[Hc.2 aj]at ao;cases ao
 cases bO:i.op with
 |load ty p=>
  rw[bO]at ay aj;have aE:=aj p (by simp[Op.operands])
  have az:∀(t:List R) (o:aD),cQ tb aL i t o=h2 (tb ty).ty (aN t p) o:=fun t o=>by
   rw[jc (by rw[bO];rfl)];unfold e6;rw[bO]
  have ay:rr (aN (put (bE (et id) tm) iF v) p)=true:=ay;rw[az,az]
  cases aO:aN (put (bE (et id) tm) iF v) p with
  |ptr j off=>
   obtain⟨ab,ad⟩:=He aE aO;refine⟨by show rr (aN tm p)=true;rw[ab];rfl, ?_⟩;rw[ab];have cR:ae.at (gF id (cK I id (false,ob))) j=(ae.at I j).kill id:=by rw[Im,eE,gG,apy (by rintro⟨h,_⟩;exact ad h.symm)]
   unfold h2;simp only;rw[cR]
   cases aI:ae.at I j with
   |cells l=>
    simp only[ae.kill];have ax:bS (bE (fE id) l)=bS l:=by rw[cI,cI,dP,apI]
    rw[ax]
    cases cd:(tb ty).ty with
    |aG q=>
     cases Nat.ble (off.add (aZ.size (.aG q))) (bS l)with
     |false=>exact .inl rfl
     |true=>
      refine .inr ⟨_,o9 (b6 .un l off), ?_,rfl⟩;simp only;rw[<-aaX,HF rfl]
    |struct bW cs=>
     cases Nat.ble (off.add (aZ.size (.struct bW cs))) (bS l)with
     |false=>exact .inl rfl
     |true=>
      refine .inr ⟨_, .agg (kR (kQ l off) (bS cs)), ?_,rfl⟩;simp only[et,dP,lz,ly,List.map_take,List.map_drop]
    |arr m e cs=>
     cases Nat.ble (off.add (aZ.size (.arr m e cs))) (bS l)with
     |false=>exact .inl rfl
     |true=>
      refine .inr ⟨_, .agg (kR (kQ l off) (bS cs)), ?_,rfl⟩;simp only[et,dP,lz,ly,List.map_take,List.map_drop]
    |no=>exact .inl rfl
   |_=>exact .inl rfl
  |_=>rw[aO]at ay;cases ay
 |fieldAddr ty x f=>
  rw[bO]at ay aj;have aE:=aj x (by simp[Op.operands])
  have az:∀(t:List R) (o:aD),cQ tb aL i t o=(match sI (tb ty).ty f with
   |false=> .bad
   |true=>match aN t x with
    | .ptr id off=> .a8 [] (.ptr id (Nat.add off (fB (tb ty).ty f))) o
    | .optr id i j=> .a8 [] (.optr id i (Nat.add j (fB (tb ty).ty f))) o
    | .rptr a i j=> .a8 [] (.rptr a i (Nat.add j (fB (tb ty).ty f))) o
    |_=> .bad):=fun t o=>by
   rw[jc (by rw[bO];rfl)];unfold e6;rw[bO];rfl
  have ay:rr (aN (put (bE (et id) tm) iF v) x)=true:=ay;rw[az,az]
  cases aO:aN (put (bE (et id) tm) iF v) x with
  |ptr j off=>
   obtain⟨ab,ad⟩:=He aE aO;refine⟨by show rr (aN tm x)=true;rw[ab];rfl, ?_⟩;rw[ab]
   cases sI (tb ty).ty f with
   |false=>exact .inl rfl
   |true=>exact .inr ⟨_, .ptr j (off.add (fB (tb ty).ty f)),by rw[Ya ad],rfl⟩
  |_=>rw[aO]at ay;cases ay
 |buildSlice ty q bP=>
  rw[bO]at ay aj;unfold kM at ay;simp only at ay
  cases kV:(tb ty).lit with
  |false=>rw[kV]at ay;cases ay
  |true=>
   rw[kV]at ay;simp only at ay;rw[fD,apR]at ay
   have hq:∀p∈bP.toList,aN (put (bE (et id) tm) iF v) p.2=aN tm p.2:=fun p aE=>YK (aj p.2 (by simp[Op.operands];exact⟨p.1,by simpa using aE⟩)) (ay p aE)
   have aJ:bE (fun p:Nat×Operand=>(p.1,aN (put (bE (et id) tm) iF v) p.2)) bP.toList=bE (fun p:Nat×Operand=>(p.1,aN tm p.2)) bP.toList:=q6 fun p aE=>by rw[hq p aE]
   refine⟨?_, ?_⟩
   ·unfold kM;simp only[kV];rw[fD,apR];exact fun p aE=>by rw[<-hq p aE];exact ay p aE
   ·rw[jc (by rw[bO];simp[qd,kV]),jc (by rw[bO];simp[qd,kV])];unfold e6;rw[bO];simp only;rw[aJ]
    cases (tb ty).ty with
    |aG s=>
     cases s with
     |cp k=>
      simp only[kV,sQ];split
      ·exact .inr ⟨_,_,rfl,rfl⟩
      ·exact .inl rfl
     |dK z=>
      simp only[kV,sQ];have a6:hH (gF id (cK I id (false,ob))) z (tb ty).fv q (bE (fun p=>(p.1,aN tm p.2)) bP.toList)=hH I z (tb ty).fv q (bE (fun p=>(p.1,aN tm p.2)) bP.toList):=yC _ _ z _ _ 0 q;rw[a6];split
      ·exact .inr ⟨_,_,rfl,rfl⟩
      ·exact .inl rfl
     |_=>exact .inl rfl
    |_=>exact .inl rfl
 |_=>rw[bO]at ay;cases ay
theorem ad6 {a:Oper}{tm:List R}(bh:(cE tb data aL n a tm).Er=true):(cE tb data aL n a tm).ok=false/\fx tb a.op=3/\
 ∃id,∀I,cQ tb aL a tm I= .bad\/∃s ob,cQ tb aL a tm I= .grow s (.vec id) (cK I id (false,ob)) id/\∀l,ae.at I id≠ .cells l:=by
 unfold cE at bh⊢
 cases bO:a.op with
 |call c=>
  rw[bO]at bh;simp only at bh⊢
  have kb:∀I,cQ tb aL a tm I=(match c.callee with
   | .builtin b=>kG tb b c.argTypes.toList (bE (aN tm) c.args.toList) I
   | .value (.func f)=> .call f (bE (aN tm) c.args.toList) c.argTypes.toList
   | .value (.tmp u)=>sJ (b6 .un tm u) (bE (aN tm) c.args.toList) c.argTypes.toList
   |_=> .bad):=fun I=>by
   rw[jc (by rw[bO];rfl)];unfold e6;rw[bO]
   rfl
  cases aC:c.callee with
  |builtin b=>
   rw[aC]at bh kb
   cases b with
   |append=>
    simp only at bh⊢;refine⟨trivial,by simp only[fx,aC], ?_⟩;generalize bE (aN tm) c.args.toList=args at bh kb
    have key:∃id x,args=[.vec id, .d x]:=by
     unfold kL at bh;split at bh
     ·exact⟨_,_,rfl⟩
     ·exact⟨_,_,rfl⟩
     ·cases bh
    obtain⟨id,x,rfl⟩:=key;refine⟨id,fun I=> ?_⟩;rw[kb];unfold kG;simp only;split
    ·split
     ·unfold sv;simp only[s4,lA];split
      ·split
       ·have aF:∀l,ae.at I id≠ .cells l:=fun l e=>by simp_all
        split
        ·exact .inr ⟨_,_,rfl,aF⟩
        ·exact .inl rfl
       ·have aF:∀l,ae.at I id≠ .cells l:=fun l e=>by simp_all
        split
        ·exact .inr ⟨_,_,rfl,aF⟩
        ·exact .inl rfl
       ·exact .inl rfl
      ·exact .inl rfl
     ·exact .inl rfl
    ·exact .inl rfl
   |_=>cases bh
  |value x=>
   rw[aC]at bh
   cases x with
   |func f=>
    simp only at bh;split at bh<;>cases bh
   |_=>cases bh
  |_=>rw[aC]at bh;cases bh
 |alloc ty=>
  rw[bO]at bh;simp only at bh;split at bh
  ·split at bh<;>cases bh
  ·cases bh
 |slice ty x lo hi dp=>
  rw[bO]at bh;simp only at bh;split at bh<;>cases bh
 |buildSlice ty q bP=>
  rw[bO]at bh;simp only at bh;split at bh
  ·cases bh
  ·split at bh
   ·split at bh<;>cases bh
   ·cases bh
 |_=>rw[bO]at bh;cases bh
end
end Go.ak
end
section
namespace Go.ak
section
variable {tb:TypeId->b7} {bz:FuncId->gu} {data:FuncId->Nat} {aL:List (Tmp×Nat)} {tab:List Nat}
theorem wz (eC:∀f args I K,bz f args I K->hy (bz f)){all:List Oper}{K K':List R->aD->Prop}(ag:∀tm I,K tm I->K' tm I):
 ∀(l:List Oper) (tm:List R) (I:aD),dw tb bz aL all l tm I K->dw tb bz aL all l tm I K'
 |[],tm,I,h=>ag _ _ h
 |o::br,tm,I,h=>by
  have bI:=fun tm I=>wz eC ag br tm I (all:=all)
  have run:∀dB:List R,
   (match cQ tb aL o dB I with
     | .bad=>False
     | .a8 cq v al=>gI cq (dw tb bz aL all br (put dB o.dst v) al K)
     | .grow cq v al id=>gI cq (dw tb bz aL all br (put (bE (et id) dB) o.dst v) (gF id al) K)
     | .fF p=>∀b:Bool,p b->dw tb bz aL all br (put dB o.dst (.d (.bool b))) I K
     | .call f args _=>bz f args I fun v al=>dw tb bz aL all br (put dB o.dst v) al K)->
   (match cQ tb aL o dB I with
     | .bad=>False
     | .a8 cq v al=>gI cq (dw tb bz aL all br (put dB o.dst v) al K')
     | .grow cq v al id=>gI cq (dw tb bz aL all br (put (bE (et id) dB) o.dst v) (gF id al) K')
     | .fF p=>∀b:Bool,p b->dw tb bz aL all br (put dB o.dst (.d (.bool b))) I K'
     | .call f args _=>bz f args I fun v al=>dw tb bz aL all br (put dB o.dst v) al K'):=by
   intro dB ao
   cases he:cQ tb aL o dB I with
   |bad=>rw[he]at ao;exact ao
   |a8 s v cj=>rw[he]at ao;exact wF (bI _ _) ao
   |grow s v cj id=>rw[he]at ao;exact wF (bI _ _) ao
   |fF p=>rw[he]at ao;exact fun b ah=>bI _ _ (ao b ah)
   |call f args tys=>rw[he]at ao;exact(eC _ _ _ _ ao).1 _ _ _ _ (fun r cj=>bI _ _) ao
  unfold dw at h⊢;simp only at h⊢;split
  ·rename_i bh;rw[bh]at h;exact run tm h
  ·rename_i j want bh;rw[bh]at h;simp only at h;split
   ·rename_i bo;rw[bo]at h;exact bI _ _ h
   ·rename_i g bo;rw[bo]at h;simp only at h;split
    ·rename_i ax;rw[ax]at h;cases want
     ·exact bI _ _ h
     ·exact run _ h
    ·rename_i ax;rw[ax]at h;cases want
     ·exact run _ h
     ·exact bI _ _ h
    ·rename_i ax;rw[ax]at h;exact bI _ _ h
    ·rename_i b ax;rw[ax]at h;refine⟨fun ah=> ?_,fun ah=> ?_⟩
     ·have:=h.1 ah;cases want
      ·exact bI _ _ this
      ·exact run _ this
     ·have:=h.2 ah;cases want
      ·exact run _ this
      ·exact bI _ _ this
    ·rename_i ab ad aA ba;split at h
     ·rename_i ax;exact absurd ax ab
     ·rename_i ax;exact absurd ax ad
     ·rename_i ax;exact absurd ax aA
     ·rename_i b ax;exact absurd ax (ba b)
     ·exact h
theorem aa0 {o:Oper}{tm:List R}{I:aD}{p:Bool->Prop}(h:cQ tb aL o tm I= .fF p):∃b,p b:=by
 have h:e6 tb o tm I= .fF p:=by
  rcases G3 tb aL o tm I with e|⟨t,d,id,_,_,_,e|⟨_,e⟩|⟨_,_,e⟩⟩|⟨t,n,bP,d,id,_,_,_,e|⟨ob,_,e⟩⟩
  ·rw[<-e];exact h
  ·rw[e]at h;cases h
  ·rw[e]at h;cases h
  ·rw[e]at h;cases h
  ·rw[e]at h;cases h
  ·rw[e]at h;cases h
 obtain⟨op,t,x,y,ty,_,h⟩:=Ro h;unfold o2 at h;split at h
 ·split at h
  ·cases h
  ·cases h
  ·split at h
   ·cases op<;>simp[oc]at h
   ·cases h
 ·split at h<;>cases h
 ·split at h
  ·simp only[bT.fF.injEq]at h;subst h;exact⟨false,fun h=>by cases h⟩
  ·simp only[bT.fF.injEq]at h;subst h;exact⟨true,fun h=>by cases h⟩
  ·cases h
 ·split at h
  ·simp only[bT.fF.injEq]at h;subst h;exact⟨false,fun h=>by cases h⟩
  ·simp only[bT.fF.injEq]at h;subst h;exact⟨true,fun h=>by cases h⟩
  ·cases h
 all_goals first|cases h|(unfold jF at h;split at h<;>cases h)
theorem B5 (eC:∀f args I K,bz f args I K->hy (bz f)){all:List Oper}{K:List R->aD->Prop}:∀(l:List Oper) (tm:List R) (I:aD),dw tb bz aL all l tm I K->∃dL al,K dL al
 |[],tm,I,h=>⟨_,_,h⟩
 |o::br,tm,I,h=>by
  have bI:=fun tm I=>B5 eC br tm I (all:=all) (K:=K)
  have run:∀dB:List R,
   (match cQ tb aL o dB I with
     | .bad=>False
     | .a8 cq v al=>gI cq (dw tb bz aL all br (put dB o.dst v) al K)
     | .grow cq v al id=>gI cq (dw tb bz aL all br (put (bE (et id) dB) o.dst v) (gF id al) K)
     | .fF p=>∀b:Bool,p b->dw tb bz aL all br (put dB o.dst (.d (.bool b))) I K
     | .call f args _=>bz f args I fun v al=>dw tb bz aL all br (put dB o.dst v) al K)->∃dL al,K dL al:=by
   intro dB ao
   cases he:cQ tb aL o dB I with
   |bad=>rw[he]at ao;exact ao.elim
   |a8 s v cj=>rw[he]at ao;exact bI _ _ ((hk _ _).1 ao).2
   |grow s v cj id=>rw[he]at ao;exact bI _ _ ((hk _ _).1 ao).2
   |fF p=>
    rw[he]at ao;obtain⟨b,ah⟩:=aa0 he;exact bI _ _ (ao b ah)
   |call f args tys=>
    rw[he]at ao;obtain⟨r,cj,lb⟩:=(eC _ _ _ _ ao).2 _ _ _ ao;exact bI _ _ lb
  unfold dw at h;simp only at h;split at h
  ·exact run tm h
  ·rename_i j want bh;split at h
   ·exact bI _ _ h
   ·rename_i g bo;split at h
    ·cases want
     ·exact bI _ _ h
     ·exact run _ h
    ·cases want
     ·exact run _ h
     ·exact bI _ _ h
    ·exact bI _ _ h
    ·rename_i b ax;cases b
     ·have:=h.2 rfl;cases want
      ·exact run _ this
      ·exact bI _ _ this
     ·have:=h.1 rfl;cases want
      ·exact bI _ _ this
      ·exact run _ this
    ·exact h.elim
theorem NX {all:List Oper}{o:Oper}{r:List Oper}{tm:List R}{I:aD}{K:List R->aD->Prop}:dw tb bz aL all (o::r) tm I K=dw tb bz aL all [o] tm I (fun tm I=>dw tb bz aL all r tm I K):=rfl
theorem Hr {all:List Oper}{o:Oper}(ax:(∀tm I s v cj id,cQ tb aL o tm I≠ .grow s v cj id)/\∀tm I p,cQ tb aL o tm I≠ .fF p)(eC:∀f args I K,bz f args I K->hy (bz f))
 {tm:List R} {I:aD} {K K':List R->aD->Prop} {Q:aD->Prop} (FQ:Q I) (a6:∀t k,fS bz I k (cQ tb aL o t I)->fS bz I (fun v cj=>Q cj/\k v cj) (cQ tb aL o t I))
 (ag:∀m t v I,res all o tm=some (m,t)->Q I->K (put t o.dst v) I->K' (put t o.dst v) I) (h:dw tb bz aL all [o] tm I K):dw tb bz aL all [o] tm I K':=by
 rw[yH ax.1 ax.2]at h⊢
 cases ao:res all o tm with
 |none=>rw[ao]at h;exact h
 |some p=>
  obtain⟨m,t⟩:=p;rw[ao]at h;simp only at h⊢
  cases m with
  |true=>exact aaP eC (fun v cj aO=>ag _ _ v cj ao aO.1 aO.2) (a6 _ _ h)
  |false=>exact ag _ _ .un _ ao FQ h
theorem Ir {o:Oper}{n n':Nat}{t t':List R}:(cE tb data aL n o t).ext=(cE tb data aL n' o t').ext:=by
 unfold cE
 cases o.op with
 |call c=>
  simp only;split<;>first|rfl|(split<;>rfl)
 |buildSlice ty q bP=>
  simp only;cases (tb ty).lit<;>rfl
 |alloc ty=>rfl
 |slice ty x lo hi dp=>
  simp only;cases (tb ty).cut<;>rfl
 |_=>rfl
theorem So {o:Oper}{n n':Nat}{t:List R}(h:(cE tb data aL n o t).ext=true->n'=n):cE tb data aL n' o t=cE tb data aL n o t:=by
 by_cases e:n'=n
 ·rw[e]
 ·have he:(cE tb data aL n o t).ext=false:=by
   cases aj:(cE tb data aL n o t).ext with
   |false=>rfl
   |true=>exact absurd (h aj) e
  unfold cE at he⊢
  cases bO:o.op with
  |call c=>
   simp only[bO]at he⊢
   cases aC:c.callee with
   |value x=>
    cases x with
    |func f=>
     simp only[aC]at he⊢;split at he
     ·rename_i a_;simp
     ·cases he
     ·rfl
    |_=>rfl
   |builtin b=>cases b<;>rfl
   |_=>rfl
  |_=>rfl
theorem Qi {o:Oper}{n:Nat}{t:List R}(h:(cE tb data aL n o t).ext=true):fx tb o.op=2/\(cE tb data aL n o t).call=true:=by
 unfold cE at h⊢
 cases bO:o.op with
 |call c=>
  simp only[bO]at h⊢
  cases aC:c.callee with
  |value x=>
   cases x with
   |func f=>
    simp only[aC]at h⊢;split at h
    ·cases h
    ·rename_i a_;simp[fx,aC]
    ·cases h
   |_=>rw[aC]at h;cases h
  |builtin b=>rw[aC]at h;cases b<;>cases h
  |_=>rw[aC]at h;cases h
 |alloc ty=>
  rw[bO]at h;simp only at h;split at h
  ·split at h<;>cases h
  ·cases h
 |slice ty x lo hi dp=>
  rw[bO]at h;simp only at h;split at h<;>cases h
 |buildSlice ty q bP=>
  rw[bO]at h;simp only at h;split at h
  ·cases h
  ·split at h
   ·split at h<;>cases h
   ·cases h
 |_=>rw[bO]at h;cases h
theorem H3 {all:List Oper}{a i:Oper}{tm gv:List R}{I:aD}{n fg:Nat}(hT:rz data bz)(hi:nz tb all a (cE tb data aL n a tm) i (cE tb data aL fg i gv)=true)
 (t:List R) (k:R->aD->Prop) (h:fS bz I k (cQ tb aL a t I)):fS bz I (fun v cj=>((cE tb data aL fg i gv).ext=true->cj.length=I.length)/\k v cj) (cQ tb aL a t I):=by
 obtain⟨_,_,_,_,_,aC⟩:=y1 hi
 cases aj:(cE tb data aL fg i gv).ext with
 |false=>
  have e:(fun v cj=>((false=true)->(cj:aD).length=I.length)/\k v cj)=k:=by funext v cj;simp
  rw[e];exact h
 |true=>
  obtain⟨dh,eW⟩:=Qi aj;rcases aC with bc|bc
  ·simp only[qe,apM,aqB]at bc;obtain⟨⟨⟨⟨⟨aU,qJ⟩,_⟩,_⟩,_⟩,_⟩:=bc
   have sg:fx tb a.op=0:=by
    unfold qn at aU;rw[dh]at aU;split at aU
    ·rename_i _ ad;exact absurd ad (by decide)
    ·simp only[apM]at aU;exact apC aU.1
    ·rename_i _ ad;exact absurd ad (by decide)
    ·cases aU
   rcases u4 (tb:=tb) (aL:=aL) sg qJ t I I with⟨ah,_⟩|⟨s,v,a_,_⟩
   ·rw[ah]at h;exact h.elim
   ·rw[a_]at h⊢;exact wF (fun ag=>⟨fun _=>rfl,ag⟩) h
  ·simp only[tg,apM,aqB]at bc;obtain⟨⟨⟨⟨⟨vZ,_⟩,lS⟩,_⟩,_⟩,_⟩:=bc;obtain⟨B,E,dG⟩:=uL (tb:=tb) (aL:=aL) (n:=n) hT a t (uB vZ t)
   have AM:(cE tb data aL n a t).ext=false:=by
    cases bo:(cE tb data aL n a t).ext with
    |false=>rfl
    |true=>
     rw[Ir (n':=n) (t':=tm)]at bo;have:=(Qi bo).2;rw[this,eW]at lS;cases lS
   refine(dG.pull _ _).2 (dG.mono _ _ _ (fun v x aO=>⟨fun _=> ?_,aO⟩) ((dG.pull _ _).1 h));rw[dG.len,AM];rfl
theorem Hf {all:List Oper}{K:List R->aD->Prop}(eC:∀f args I K,bz f args I K->hy (bz f)):∀(l:List (Nat×Oper)) (e2 zL:List (Nat×Oper×g_)) (tm:List R) (I:aD),(∀x∈zL,x∈e2)->
 gh tb bz data aL all tab e2 l tm I K->gh tb bz data aL all tab zL l tm I K
 |[],e2,zL,tm,I,_,h=>h
 |x::br,e2,zL,tm,I,ay,h=>by
  unfold gh at h⊢;split at h
  ·exact h.elim
  ·rename_i aC
   have vD:k2 tb all tab x.1 x.2 (cE tb data aL (bS I) x.2 tm) zL=true:=by
    unfold k2 at aC⊢;rw[fD,apR]at aC⊢;exact fun y bo=>aC y (ay y bo)
   rw[vD];refine wz eC (fun tm I b5=> ?_) _ _ _ h
   exact Hf eC br _ _ tm I (fun y bo=>by
    rcases ap9.1 bo with rfl|bo
    ·simp
    ·simp[ay y bo]) b5
theorem ND (a b:Option Tmp):fY a b=fY b a:=by
 cases a<;>cases b<;>try rfl
 rename_i x y;show Nat.beq x y=Nat.beq y x
 cases h:Nat.beq x y with
 |true=>obtain rfl:=apC h;exact h.symm
 |false=>
  cases lb:Nat.beq y x with
  |false=>rfl
  |true=>obtain rfl:=apC lb;rw[h]at lb;cases lb
theorem Zy (a b:Nat):qn a b=qn b a:=by
 unfold qn;cases Nat.ble a 1<;>cases Nat.ble b 1<;>simp[Bool.and_comm]
theorem HG {all:List Oper}{a i:Oper}{gd hc:g_}(h:nz tb all a gd i hc=true):nz tb all i hc a gd=true:=by
 simp only[nz,uH,apM,aq6,aqB]at h⊢;obtain⟨⟨⟨ab,ad⟩,⟨aA,ba⟩,bJ⟩,cu⟩:=h;refine⟨⟨⟨ad,ab⟩,⟨by rw[ND];exact aA,bJ⟩,ba⟩, ?_⟩;rcases cu with cu|cu
 ·left;simp only[qe,apM,aqB]at cu⊢;obtain⟨⟨⟨⟨⟨aY,bj⟩,bG⟩,di⟩,eK⟩,gC⟩:=cu;exact⟨⟨⟨⟨⟨by rw[Zy];exact aY,bG⟩,bj⟩,by rw[ND];exact di⟩,gC⟩,eK⟩
 ·right;simp only[tg,apM,aqB]at cu⊢;obtain⟨⟨⟨⟨⟨aY,bj⟩,bG⟩,di⟩,eK⟩,gC⟩:=cu;refine⟨⟨⟨⟨⟨bj,aY⟩,by rw[Bool.and_comm];exact bG⟩, ?_⟩,gC⟩,eK⟩;rw[y0]at di⊢;exact fun x aj hB=>di x hB aj
theorem Qj {all:List Oper}{a i:Oper}{tm gv:List R}{n fg:Nat}(hT:rz data bz)(hi:nz tb all a (cE tb data aL n a tm) i (cE tb data aL fg i gv)=true):
 (∀tm I s v cj id,cQ tb aL a tm I≠ .grow s v cj id)/\∀tm I p,cQ tb aL a tm I≠ .fF p:=by
 obtain⟨_,_,_,_,_,aC⟩:=y1 hi;rcases aC with bc|bc
 ·simp only[qe,apM,aqB]at bc;obtain⟨⟨⟨⟨⟨aU,qJ⟩,_⟩,_⟩,_⟩,_⟩:=bc
  have ab:fx tb a.op<=1\/fx tb a.op=2:=by
   unfold qn at aU;split at aU
   ·rename_i ab ad;exact .inl (apZ ab)
   ·simp only[apM]at aU;exact .inl (by rw[apC aU.1];decide)
   ·simp only[apM]at aU;exact .inr (apC aU.1)
   ·cases aU
  refine⟨fun tm I s v cj id=> ?_,fun tm I p=> ?_⟩
  ·rcases ab with ab|ab
   ·rcases xj (tb:=tb) (aL:=aL) ab qJ tm I with h|⟨s,v,h⟩<;>rw[h]<;>simp
   ·rcases u5 (tb:=tb) (aL:=aL) ab tm I with h|⟨s,v,cj,h⟩|⟨f,args,tys,h⟩<;>rw[h]<;>simp
  ·rcases ab with ab|ab
   ·rcases xj (tb:=tb) (aL:=aL) ab qJ tm I with h|⟨s,v,h⟩<;>rw[h]<;>simp
   ·rcases u5 (tb:=tb) (aL:=aL) ab tm I with h|⟨s,v,cj,h⟩|⟨f,args,tys,h⟩<;>rw[h]<;>simp
 ·simp only[tg,apM,aqB]at bc;obtain⟨⟨⟨⟨⟨vZ,_⟩,_⟩,_⟩,_⟩,_⟩:=bc;exact⟨fun t I s v cj id=>(uL (n:=n) hT _ t (uB vZ t)).elim fun _ ⟨_,h⟩=>h.none I s v cj id,fun t I p=>(uL (n:=n) hT _ t (uB vZ t)).elim fun _ ⟨_,h⟩=>h.Us I p⟩
theorem Qk {o:Oper}(h:bare o=true):o.guard=none:=by
 unfold bare at h;split at h
 ·assumption
 ·cases h
theorem ad7 {o:Oper}{t:List R}{n:Nat}(h:(cE tb data aL n o t).soft=true):kM tb o.op t=true:=by
 unfold cE at h
 cases bO:o.op with
 |call c=>
  rw[bO]at h;simp only at h;split at h
  ·cases h
  ·cases h
  ·split at h<;>cases h
  ·cases h
 |alloc ty=>
  rw[bO]at h;simp only at h;split at h
  ·split at h<;>cases h
  ·cases h
 |slice ty x lo hi dp=>
  rw[bO]at h;simp only at h;split at h<;>cases h
 |buildSlice ty q bP=>
  rw[bO]at h;simp only at h;split at h
  ·exact h
  ·split at h
   ·split at h<;>cases h
   ·cases h
 |_=>first|(rw[bO]at h;exact h)|(rw[bO]at h;cases h)
theorem aa1 {o:Oper}{t t':List R}{n n':Nat}(ay:kM tb o.op t=true)(gk:kM tb o.op t'=true)(he:∀x∈o.op.operands.toList,(∃i j,aN t' x= .ptr i j)->aN t' x=aN t x):cE tb data aL n o t=cE tb data aL n' o t':=by
 unfold cE
 cases bO:o.op with
 |load ty p=>
  rw[bO]at ay gk he
  have ab:aN t' p=aN t p:=he p (by simp[Op.operands]) (by
   have:rr (aN t' p)=true:=gk
   cases aO:aN t' p with
   |ptr i j=>exact⟨i,j,rfl⟩
   |_=>rw[aO]at this;cases this)
  simp only[ay,gk,ab]
 |fieldAddr ty x f=>rw[bO]at ay gk;simp only[ay,gk]
 |buildSlice ty q bP=>
  rw[bO]at ay gk;simp only[ay,gk]
 |_=>simp[bO,kM]at ay
theorem B6 {all:List Oper}{o:Oper}(h:o.guard=none){tm:List R}{I:aD}{K:List R->aD->Prop}:dw tb bz aL all [o] tm I K↔
 (match cQ tb aL o tm I with
   | .bad=>False
   | .a8 cq v al=>gI cq (K (put tm o.dst v) al)
   | .grow cq v al id=>gI cq (K (put (bE (et id) tm) o.dst v) (gF id al))
   | .fF p=>∀b:Bool,p b->K (put tm o.dst (.d (.bool b))) I
   | .call f args _=>bz f args I fun v al=>K (put tm o.dst v) al):=by
 unfold dw;simp only[h];exact aqn
theorem acF {id:Nat}{tm:List R}{d:Option Tmp}{v:R}:bE (et id) (put tm d v)=put (bE (et id) tm) d (et id v):=by
 cases d with
 |none=>rfl
 |some x=>simp only[put,dP,eE,art]
theorem afQ (eC:∀f args I K,bz f args I K->hy (bz f)){all:List Oper}{a i:Nat×Oper}(bL:Nat.blt a.1 i.1=true)(Es:Nat.blt i.1 a.1=false)
 {C:List (Nat×Oper)} {e2:List (Nat×Oper×g_)} {tm:List R} {I:aD} {K:List R->aD->Prop} (bh:(cE tb data aL (bS I) a.2 tm).Er=true) (vE:bit tab i.1 a.1=false)
 (h:gh tb bz data aL all tab e2 (a::i::C) tm I K):gh tb bz data aL all tab e2 (i::a::C) tm I K:=by
 obtain⟨g1,g2,id,g3⟩:=ad6 bh;unfold gh at h;split at h
 ·exact h.elim
 rename_i qK
 have S2:sA a.2 (cE tb data aL (bS I) a.2 tm) i.2 {cE tb data aL (bS I) i.2 tm with soft:=true}=true:=by
  obtain⟨gv,cO,ab⟩:=B5 eC _ _ _ h;unfold gh at ab;split at ab
  ·exact ab.elim
  ·rename_i aC;unfold k2 at aC;rw[fD,apR]at aC;have aE:=aC _ (arC ..);unfold sT at aE;simp only[bL,vE,Bool.false_or,aq6]at aE;rcases aE with aE|aE
   ·obtain⟨_,_,_,_,_,aj⟩:=y1 aE;rcases aj with aj|aj
    ·simp only[qe,apM]at aj;have:=aj.1.1.1.1.1;rw[g2]at this;unfold qn at this;revert this;cases Nat.ble (fx tb i.2.op) 1<;>simp<;>decide
    ·simp only[tg,apM]at aj;rw[g1]at aj;exact absurd aj.1.1.1.1.1 aqM
   ·simp only[sA,apM]at aE⊢;exact⟨⟨⟨⟨bh,trivial⟩,aE.1.1.2⟩,aE.1.2⟩,aE.2⟩
 simp only[sA,apM]at S2;obtain⟨⟨⟨_,cS⟩,Uu⟩,nb⟩:=S2;have Ty:=cS;simp only[uH,apM,aqB]at Ty;obtain⟨⟨Uv,vF⟩,FR⟩:=Ty;have Gt:=Qk Uu;have Gu:=Qk nb;rw[B6 Gt]at h;rcases g3 I with ah|⟨s,ob,AN,Ki⟩
 ·rw[ah]at h;exact h.elim
 rw[AN]at h;simp only at h;rw[hk]at h;obtain⟨ay,h⟩:=h;unfold gh at h;split at h
 ·exact h.elim
 rename_i r3;have Jo:=r3;unfold k2 at Jo;rw[fD,arb,apM]at Jo;obtain⟨aE,zK⟩:=Jo
 have S3:(cE tb data aL (bS (gF id (cK I id (false,ob)))) i.2 (put (bE (et id) tm) a.2.dst (.vec id))).soft=true:=by
  unfold sT at aE;simp only[bL,vE,Bool.false_or,aq6]at aE;rcases aE with aE|aE
  ·obtain⟨_,_,_,_,_,aj⟩:=y1 aE;rcases aj with aj|aj
   ·simp only[qe,apM]at aj;have:=aj.1.1.1.1.1;rw[g2]at this;unfold qn at this;revert this;cases Nat.ble (fx tb i.2.op) 1<;>simp<;>decide
   ·simp only[tg,apM]at aj;rw[g1]at aj;exact absurd aj.1.1.1.1.1 aqM
  ·simp only[sA,apM]at aE;exact aE.1.1.1.2
 have Uw:=ad7 S3;obtain⟨aj7,zJ⟩:=aaZ (aL:=aL) (I:=I) (ob:=ob) vF Ki Uw
 have Ko:cE tb data aL (bS I) i.2 tm=cE tb data aL (bS (gF id (cK I id (false,ob)))) i.2 (put (bE (et id) tm) a.2.dst (.vec id)):=aa1 aj7 Uw fun x aj ⟨j,off,e⟩=>by
  have hB:∀t,a.2.dst=some t->x≠ .tmp t:=fun t aw AJ=>by
   rw[aw]at vF;subst AJ;simp only[l8]at vF;rw[Hc.2 aj]at vF;cases vF
  rw[e,(He hB e).1]
 rw[B6 Gu]at h;rcases zJ with ah|⟨iq,w,j4,tA⟩
 ·rw[ah]at h;exact h.elim
 rw[j4]at h;simp only at h;rw[hk]at h;obtain⟨gk,h⟩:=h;unfold gh
 have j5:k2 tb all tab i.1 i.2 (cE tb data aL (bS I) i.2 tm) e2=true:=by
  rw[Ko];unfold k2;rw[fD];exact zK
 simp only[j5];rw[B6 Gu,tA];simp only;rw[hk];refine⟨gk, ?_⟩;unfold gh;have py:cE tb data aL (bS I) a.2 (put tm i.2.dst w)=cE tb data aL (bS I) a.2 tm:=H2 FR
 have rU:k2 tb all tab a.1 a.2 (cE tb data aL (bS I) a.2 (put tm i.2.dst w)) ((i.1,i.2,cE tb data aL (bS I) i.2 tm)::e2)=true:=by
  rw[py];unfold k2 at qK⊢;rw[fD]at qK⊢;rw[arb,apM];refine⟨?_,qK⟩;unfold sT;simp only[Es,vE,Bool.false_or];rw[aq6];right;simp only[sA,apM];exact⟨⟨⟨⟨bh,by rw[Ko];exact S3⟩,cS⟩,Uu⟩,nb⟩
 simp only[rU];rw[B6 Gt]
 have e:cQ tb aL a.2 (put tm i.2.dst w) I= .grow s (.vec id) (cK I id (false,ob)) id:=by
  rw[<-AN];exact BS fun x aj=>yP FR aj
 rw[e];simp only;rw[hk];refine⟨ay, ?_⟩;rw[acF,<-put_comm Uv,py,Ko];refine Hf eC _ _ _ _ _ (fun x aj=> ?_) h;simp only[ap9]at aj⊢;rcases aj with h|h|h
 ·exact .inr (.inl h)
 ·exact .inl h
 ·exact .inr (.inr h)
theorem afR (hT:rz data bz)(eC:∀f args I K,bz f args I K->hy (bz f)){all:List Oper}{a i:Nat×Oper}(bL:a.1<i.1)(vE:bit tab i.1 a.1=false)
 {C:List (Nat×Oper)} {e2:List (Nat×Oper×g_)} {tm:List R} {I:aD} {K:List R->aD->Prop} (h:gh tb bz data aL all tab e2 (a::i::C) tm I K):
 gh tb bz data aL all tab e2 (i::a::C) tm I K:=by
 have xA:Nat.blt a.1 i.1=true:=Nat.ble_eq_true_of_le bL
 have Es:Nat.blt i.1 a.1=false:=by
  cases ah:Nat.blt i.1 a.1 with
  |false=>rfl
  |true=>
   have:i.1+1<=a.1:=apZ ah;omega
 cases AN:(cE tb data aL (bS I) a.2 tm).Er with
 |true=>exact afQ eC xA Es AN vE h
 |false=>
 have tV:∀hc,sT tb all tab i.1 i.2 hc (a.1,a.2,cE tb data aL (bS I) a.2 tm)=nz tb all a.2 (cE tb data aL (bS I) a.2 tm) i.2 hc:=fun hc=>by
  unfold sT sA;simp only[xA,vE,AN,Bool.false_or,Bool.false_and,Bool.or_false]
 unfold gh at h;split at h
 ·exact h.elim
 rename_i qK
 have stat:mN all a.2 i.2=true/\mN all i.2 a.2=true/\uH a.2 i.2=true/\∃(gv:List R) (fg:Nat),nz tb all a.2 (cE tb data aL (bS I) a.2 tm) i.2 (cE tb data aL fg i.2 gv)=true:=by
  obtain⟨gv,cO,ab⟩:=B5 eC _ _ _ h;unfold gh at ab;split at ab
  ·exact ab.elim
  ·rename_i aC
   have aE:sT tb all tab i.1 i.2 (cE tb data aL (bS cO) i.2 gv) (a.1,a.2,cE tb data aL (bS I) a.2 tm)=true:=by
    unfold k2 at aC;rw[fD,apR]at aC;exact aC _ (by simp)
   rw[tV]at aE;have FT:=aE;simp only[nz,apM]at FT;exact⟨FT.1.1.1,FT.1.1.2,FT.1.2,gv,_,aE⟩
 obtain⟨g1,g2,g3,gv,fg,nL⟩:=stat;have Ux:=g3;simp only[uH,apM,aqB]at Ux;obtain⟨⟨Uv,vF⟩,FR⟩:=Ux;have nV:=Qj (data:=data) hT nL
 have hc:∀(m:Bool) (t:List R) (v:R) (cj:aD),res all a.2 tm=some (m,t)->((cE tb data aL fg i.2 gv).ext=true->cj.length=I.length)->cE tb data aL (bS cj) i.2 (put t a.2.dst v)=cE tb data aL (bS I) i.2 tm:=fun m t v cj ao a6=>by
  rw[<-CF (n:=bS I) ao,<-H2 (n:=bS I) (v:=v) vF];refine So fun he=> ?_;rw[cI,cI];exact a6 (by rw[Ir (n':=bS I) (t':=put t a.2.dst v)];exact he)
 have r3:k2 tb all tab i.1 i.2 (cE tb data aL (bS I) i.2 tm) ((a.1,a.2,cE tb data aL (bS I) a.2 tm)::e2)=true:=by
  cases aC:k2 tb all tab i.1 i.2 (cE tb data aL (bS I) i.2 tm) ((a.1,a.2,cE tb data aL (bS I) a.2 tm)::e2)with
  |true=>rfl
  |false=>
   exfalso
   have:=Hr nV eC (K':=fun _ _=>False) (fun _=>rfl) (fun t k ag=>H3 hT nL t k ag) (fun m t v al ao a6 ag=>by
    unfold gh at ag;rw[hc m t v al ao a6,aC]at ag
    exact ag) h
   obtain⟨_,_,aU⟩:=B5 eC _ _ _ this;exact aU
 have E4:=r3;unfold k2 at E4;rw[fD,arb,apM]at E4;have E5:nz tb all a.2 (cE tb data aL (bS I) a.2 tm) i.2 (cE tb data aL (bS I) i.2 tm)=true:=by rw[<-tV];exact E4.1
 have li:=Qj (data:=data) hT (HG E5)
 have ad:dw tb bz aL all [a.2] tm I (fun t1 bD=>dw tb bz aL all [i.2] t1 bD fun t2 bx=>gh tb bz data aL all tab ((i.1,i.2,cE tb data aL (bS I) i.2 tm)::(a.1,a.2,cE tb data aL (bS I) a.2 tm)::e2) C t2 bx K):=by
  refine Hr nV eC (fun _=>rfl) (fun t k ag=>H3 hT nL t k ag) (fun m t v al ao a6 ag=> ?_) h;unfold gh at ag;rw[hc m t v al ao a6]at ag;simp only[r3]at ag;exact ag
 have aA:=afP (K:=fun t2 bx=>gh tb bz data aL all tab ((i.1,i.2,cE tb data aL (bS I) i.2 tm)::(a.1,a.2,cE tb data aL (bS I) a.2 tm)::e2) C t2 bx K) hT eC (cI I).symm E5 ad;rw[NX]at aA;unfold gh
 have j5:k2 tb all tab i.1 i.2 (cE tb data aL (bS I) i.2 tm) e2=true:=by
  unfold k2;rw[fD];exact E4.2
 simp only[j5]
 have rU:k2 tb all tab a.1 a.2 (cE tb data aL (bS I) a.2 tm) ((i.1,i.2,cE tb data aL (bS I) i.2 tm)::e2)=true:=by
  unfold k2 at qK⊢;rw[fD]at qK⊢;rw[arb,apM];refine⟨?_,qK⟩;unfold sT;simp only[Es,vE,Bool.false_or];rw[aq6];exact .inl (HG E5)
 refine Hr li eC (fun _=>rfl) (fun t k ag=>H3 hT (HG E5) t k ag) (fun m t v al ao a6 ag=> ?_) aA;unfold gh
 have gd:cE tb data aL (bS al) a.2 (put t i.2.dst v)=cE tb data aL (bS I) a.2 tm:=by
  rw[<-CF (n:=bS I) ao,<-H2 (n:=bS I) (v:=v) FR];refine So fun he=> ?_;rw[cI,cI];exact a6 (by rw[Ir (n':=bS I) (t':=put t i.2.dst v)];exact he)
 rw[gd];simp only[rU];refine wz eC (fun tm I b5=> ?_) _ _ _ ag;refine Hf eC _ _ _ _ _ (fun x aj=> ?_) b5;simp only[ap9]at aj⊢;rcases aj with h|h|h
 ·exact .inr (.inl h)
 ·exact .inl h
 ·exact .inr (.inr h)
theorem NF (eC:∀f args I K,bz f args I K->hy (bz f)){all:List Oper}{x:Nat×Oper}{r ld:List (Nat×Oper)}{K K':List R->aD->Prop}
 (ao:∀e2 tm I,gh tb bz data aL all tab e2 r tm I K->gh tb bz data aL all tab e2 ld tm I K') {e2:List (Nat×Oper×g_)} {tm:List R} {I:aD} (h:gh tb bz data aL all tab e2 (x::r) tm I K):
 gh tb bz data aL all tab e2 (x::ld) tm I K':=by
 unfold gh at h⊢;split at h
 ·exact h.elim
 ·exact wz eC (fun tm I b5=>ao _ _ _ b5) _ _ _ h
theorem S4 (hT:rz data bz)(eC:∀f args I K,bz f args I K->hy (bz f)){all:List Oper}{i:Nat×Oper}{B:List (Nat×Oper)}:∀(A:List (Nat×Oper)),(∀a∈A,a.1<i.1/\bit tab i.1 a.1=false)->
 ∀(e2:List (Nat×Oper×g_)) (tm:List R) (I:aD) (K:List R->aD->Prop),gh tb bz data aL all tab e2 (A++i::B) tm I K->gh tb bz data aL all tab e2 (i::(A++B)) tm I K
 |[],_,_,_,_,_,h=>h
 |a::A,dG,e2,tm,I,K,h=>by
  have ab:gh tb bz data aL all tab e2 (a::i::(A++B)) tm I K:=NF eC (fun e2 tm I h=>S4 hT eC A (fun x aj=>dG x (by simp[aj])) e2 tm I K h) h;exact afR hT eC (dG a (by simp)).1 (dG a (by simp)).2 ab
theorem NG (eC:∀f args I K,bz f args I K->hy (bz f)){all:List Oper}{K:List R->aD->Prop}:∀(l:List (Nat×Oper)) (e2:List (Nat×Oper×g_)) (tm:List R) (I:aD),
 gh tb bz data aL all tab e2 l tm I K->dw tb bz aL all (l.map (·.2)) tm I K
 |[],_,_,_,h=>h
 |x::r,e2,tm,I,h=>by
  unfold gh at h;split at h
  ·exact h.elim
  ·rw[ap2,NX];exact wz eC (fun tm I b5=>NG eC r _ tm I b5) _ _ _ h
def S5 (ops:Array Oper):Prop:=∀i,(h:i<ops.size)->∀e∈(ops[i]).after.toList,Region.binds .any e=true->e.on<i
def left (n:Nat)(listed:Array Bool):List Nat:=(List.range n).filter fun i=> !listed.getD i true
theorem H4 {n:Nat}{listed:Array Bool}{i:Nat}(hi:i<n)(ay:listed.size=n)(aB:listed.getD i true=false):
 ∃A B,left n listed=A++i::B/\left n (listed.setIfInBounds i true)=A++B/\∀a∈A,a<i/\listed.getD a true=false:=by
 have Sp:List.range n=List.range i++i::((List.range (n-i-1)).map (i+1+·)):=by
  rw[show n=i+(1+(n-i-1)) by omega,List.range_add,List.range_add];simp[aqs]
 have m8:∀j,j≠i->(listed.setIfInBounds i true).getD j true=listed.getD j true:=fun j aI=>by
  simp only[apH,arB];rw[apy (aql aI)]
 have afS:(listed.setIfInBounds i true).getD i true=true:=by
  simp only[apH,arB,ap1];split<;>rfl
 refine⟨(List.range i).filter fun j=> !listed.getD j true,((List.range (n-i-1)).map (i+1+·)).filter fun j=> !listed.getD j true, ?_, ?_,fun a aR=> ?_⟩
 ·unfold left;rw[Sp,arG,aqK];rw[apz (by rw[aB];rfl)]
 ·unfold left;rw[Sp,arG,aqK,apy (by rw[afS];simp)]
  congr 1
  ·apply List.filter_congr;intro x aj;have:x<i:=by simpa using aj
   rw[m8 x (by omega)]
  ·apply List.filter_congr;intro x aj;obtain⟨y,_,rfl⟩:=apQ.1 aj;rw[m8 _ (by omega)]
 ·rw[aqE]at aR;exact⟨by simpa using aR.1,by simpa using aR.2⟩
theorem aa2 {listed:Array Bool}{a:Nat}(ab:listed.getD a false=true)(ad:listed.getD a true=false):False:=by
 rw[apH]at ab ad
 by_cases h:a<listed.size
 ·rw[arn h]at ab ad;simp at ab ad;rw[ab]at ad;cases ad
 ·rw[Array.getElem?_eq_none (by omega)]at ab;cases ab
inductive Reach (ops:Array Oper):Nat->Nat->Prop
 |one {i:Nat} {e:Edge} (h:i<ops.size) (he:e∈(ops[i]).after.toList) (ah:Region.binds .any e=true):Reach ops i e.on
 |more {i k:Nat} {e:Edge} (h:i<ops.size) (he:e∈(ops[i]).after.toList) (ah:Region.binds .any e=true) (ao:Reach ops e.on k):Reach ops i k
theorem YL {ops:Array Oper}{listed:Array Bool}(ku:∀j,(aI:j<ops.size)->listed.getD j false=true->∀e∈(ops[j]).after.toList,Region.binds .any e=true->listed.getD e.on false=true)
 {i k:Nat} (ao:Reach ops i k):(∀h:i<ops.size,∀e∈(ops[i]).after.toList,Region.binds .any e=true->listed.getD e.on false=true)->listed.getD k false=true:=by
 induction ao with
 |one h he ah=>exact fun ao=>ao h _ he ah
 |more h he ah _ bI=>exact fun ao=>bI fun lb cg Kp ho=>ku _ lb (ao h _ he ah) cg Kp ho
theorem ad8 (tab:List Nat)(n m:Nat):bit tab n m=(b6 0 tab n).testBit m:=by
 unfold bit;rw[Nat.testBit_eq_decide_div_mod_eq];show Nat.beq ((b6 0 tab n>>>m)&&&1) 1=_;rw[Nat.and_one_is_mod,Nat.shiftRight_eq_div_pow]
 cases h:decide (b6 0 tab n/2^m%2=1)with
 |true=>rw[apJ h];rfl
 |false=>
  have h:=apO h
  cases ah:Nat.beq (b6 0 tab n/2^m%2) 1 with
  |false=>rfl
  |true=>exact absurd (apC ah) h
theorem Hs (tab:List Nat)(m:Nat):∀l:List Edge,(sS tab l).testBit m=true->∃e∈l,Region.binds .any e=true/\(m=e.on\/(b6 0 tab e.on).testBit m=true)
 |[],h=>by simp[sS]at h
 |e::r,h=>by
  unfold sS at h;split at h
  ·rename_i ah;have h:((2^e.on|||b6 0 tab e.on)|||sS tab r).testBit m=true:=h;rw[Nat.testBit_or,Nat.testBit_or,aq6,aq6]at h;rcases h with(h|h)|h
   ·rw[Nat.testBit_two_pow]at h;exact⟨e,by simp,ah, .inl (by simpa[eq_comm]using h)⟩
   ·exact⟨e,by simp,ah, .inr h⟩
   ·obtain⟨cg,ab,ad⟩:=Hs tab m r h;exact⟨cg,by simp[ab],ad⟩
  ·obtain⟨cg,ab,ad⟩:=Hs tab m r h;exact⟨cg,by simp[ab],ad⟩
theorem Oy (ops:Array Oper):∀(r:List Oper) (acc:List Nat) (pre:List Oper),ops.toList=pre++r->pre.length=acc.length->(∀n m,(b6 0 acc n).testBit m=true->Reach ops n m)->
 ∀n m,(b6 0 (uI r acc) n).testBit m=true->Reach ops n m
 |[],acc,pre,_,_,h=>h
 |o::r,acc,pre,ab,ad,h=>by
  unfold uI;rw[fC];refine Oy ops r _ (pre++[o]) (by rw[ab];simp) (by simp[ad]) fun n m ah=> ?_;rw[dW,apA,ap7]at ah;split at ah
  ·exact h n m (by rw[dW,apA];exact ah)
  ·rename_i aB
   cases a_:n-acc.length with
   |succ k=>rw[a_]at ah;simp at ah
   |zero=>
    rw[a_]at ah;have ah:(sS acc o.after.toList).testBit m=true:=by simpa using ah
    have dn:n=pre.length:=by omega
    have bL:n<ops.size:=by
     rw[<-aqD,ab];simp;omega
    have aj8:ops[n]=o:=by
     have:ops.toList[n]? =some o:=by rw[ab,dn];simp
     simpa[bL]using this
    obtain⟨e,he,qE,hm⟩:=Hs acc m _ ah;rw[<-aj8]at he;rcases hm with rfl|hm
    ·exact .one bL he qE
    ·exact .more bL he qE (h _ _ hm)
theorem Rq (hT:rz data bz)(eC:∀f args I K,bz f args I K->hy (bz f)){ops:Array Oper}(aC:S5 ops)(Tz:∀n m,bit tab n m=true->Reach ops n m):∀(fuel t:Nat) (listed:Array Bool) (acc:List Nat),listed.size=ops.size->(left ops.size listed).length<=fuel->
 (∀j,(aI:j<ops.size)->listed.getD j false=true->∀e∈(ops[j]).after.toList,Region.binds .any e=true->listed.getD e.on false=true)->
 ∃cm,Region.linearise.go .any ops fuel t listed acc=acc.reverse++cm/\(∀i∈cm,i<ops.size)/\cm.Perm (left ops.size listed)/\
  ∀(e2:List (Nat×Oper×g_)) (tm:List R) (I:aD) (K:List R->aD->Prop),gh tb bz data aL ops.toList tab e2 ((left ops.size listed).map fun i=>(i,ops.toList.getD i default)) tm I K->
   gh tb bz data aL ops.toList tab e2 (cm.map fun i=>(i,ops.toList.getD i default)) tm I K
 |0,t,listed,acc,ay,aU,ku=>by
  have he:left ops.size listed=[]:=aqm.1 (by omega);refine⟨[],by simp[Region.linearise.go],(fun i h=>by cases h),by rw[he],fun e2 tm I K h=> ?_⟩;rw[he]at h;exact h
 |fuel+1,t,listed,acc,ay,aU,ku=>by
  unfold Region.linearise.go;simp only;generalize Uy:((List.range ops.size).filter fun i=> !listed.getD i true&&((ops[i]?).map (·.after.all fun e=> !Region.binds .any e||listed.getD e.on false)).getD false)=rs;split
  ·rename_i i hi
   have h_:i∈rs:=by
    obtain⟨ab,ad⟩:=aqp.1 hi;exact ad▸aqA ab
   rw[<-Uy,aqE,apM]at h_;obtain⟨bL,k4,uU⟩:=h_;have bL:i<ops.size:=by simpa using bL
   have k4:listed.getD i true=false:=by simpa using k4
   have uU:∀e∈(ops[i]).after.toList,Region.binds .any e=true->listed.getD e.on false=true:=by
    have ab:ops[i]? =some ops[i]:=by simp[bL]
    rw[ab]at uU;simp only[aqF,aqz]at uU;rw[<-Array.all_toList,apR]at uU;intro e he ah;have:=uU e he;rw[ah]at this;simpa using this
   obtain⟨A,B,az,aJ,dG⟩:=H4 bL ay k4
   obtain⟨aj9,aY,bj,VJ,bG⟩:=Rq hT eC aC Tz fuel (t/rs.length) (listed.setIfInBounds i true) (i::acc) (by simpa using ay) (by
    rw[aJ];rw[az]at aU;simp at aU⊢;omega) (by
    have afT:∀x,listed.getD x false=true->(listed.setIfInBounds i true).getD x false=true:=fun x aj=>by
     simp only[apH,arB]at aj⊢;split
     ·rename_i e;subst e;rw[apz (by omega)];rfl
     ·exact aj
    intro j aI kr e he ah;refine afT _ ?_
    by_cases tW:j=i
    ·subst tW;exact uU e he ah
    ·refine ku j aI ?_ e he ah;simp only[apH,arB]at kr⊢;rw[apy (aql tW)]at kr
     exact kr)
   refine⟨i::aj9,by rw[aY];simp,fun j aI=> ?_,by rw[az];exact(List.Perm.cons i (by rw[aJ]at VJ;exact VJ)).trans List.perm_middle.symm,fun e2 tm I K h=> ?_⟩
   ·rcases ap9.1 aI with rfl|aI
    ·exact bL
    ·exact bj j aI
   ·rw[az,aqo,ap2]at h
    have m8:∀j,(aI:j<ops.size)->ops.toList.getD j default=ops[j]:=fun j aI=>by simp[apA,aI]
    have aE:=S4 (tb:=tb) (aL:=aL) hT eC (all:=ops.toList) (i:=(i,ops.toList.getD i default)) (B:=B.map fun i=>(i,ops.toList.getD i default))
     (A.map fun i=>(i,ops.toList.getD i default)) (fun x aj=>by
       obtain⟨a,aR,rfl⟩:=apQ.1 aj;obtain⟨rW,k3⟩:=dG a aR;refine⟨rW, ?_⟩;simp only
       cases a_:bit tab i a with
       |false=>rfl
       |true=>exact(aa2 (YL ku (Tz _ _ a_) fun _=>uU) k3).elim) e2 tm I K h
    rw[ap2];refine NF eC (fun e2 tm I h=>bG e2 tm I K ?_) aE;rw[aJ,aqo];exact h
  ·rename_i u2
   have afc:rs=[]:=by
    cases ao:rs with
    |nil=>rfl
    |cons x y=>
     exfalso;have:t%rs.length<rs.length:=aqh _ (by rw[ao];simp);rw[apT this]at u2;cases u2
   have S6:left ops.size listed=[]:=by
    cases ax:left ops.size listed with
    |nil=>rfl
    |cons m r=>
     exfalso;have hm:m∈left ops.size listed:=by rw[ax];simp
     have r4:=hm;unfold left at r4;rw[aqE]at r4;have bL:m<ops.size:=by simpa using r4.1
     have k4:listed.getD m true=false:=by simpa using r4.2
     obtain⟨A,B,az,_,dG⟩:=H4 bL ay k4
     have pz:A=[]:=by
      cases A with
      |nil=>rfl
      |cons a apl=>
       exfalso;rw[ax]at az;simp only[aqW,arl]at az;have:=(dG a (by simp)).1;omega
     have ad9:∀a,a<m->listed.getD a false=true:=by
      intro a aR;have cx:a<listed.size:=by omega
      cases FU:listed.getD a true with
      |true=>
       rw[apH,arn cx]at FU⊢;simpa using FU
      |false=>
       exfalso
       have h_:a∈left ops.size listed:=by
        unfold left;rw[aqE];exact⟨by simp;omega,by rw[FU];rfl⟩
       obtain⟨yk,np,f1,_,pA⟩:=H4 (n:=ops.size) (listed:=listed) (i:=a) (by omega) ay FU;rw[ax]at f1
       cases yk with
       |nil=>simp only[List.nil_append,arl]at f1;omega
       |cons q Bp=>
        simp only[aqW,arl]at f1;have:=(pA q (by simp)).1;omega
     have ff:m∈rs:=by
      rw[<-Uy,aqE,apM];refine⟨by simpa using bL,by rw[k4];rfl, ?_⟩;have ab:ops[m]? =some ops[m]:=by simp[bL]
      rw[ab];simp only[aqF,aqz];rw[<-Array.all_toList,apR];intro e he
      cases ah:Region.binds .any e with
      |false=>simp
      |true=>rw[ad9 e.on (aC m bL e he ah)];simp
     rw[afc]at ff;cases ff
   refine⟨[],by simp,(fun i h=>by cases h),by rw[S6],fun e2 tm I K h=> ?_⟩;rw[S6]at h;exact h
theorem Rr (ops:Array Oper):(List.range ops.size).map (fun i=>ops.toList.getD i default)=ops.toList:=by
 apply List.ext_getElem?;intro i
 by_cases h:i<ops.size
 ·simp[h,apA]
 ·simp[h]
theorem Ql (n:Nat):left n (Array.replicate n false)=List.range n:=by
 unfold left;rw[List.filter_eq_self];intro i hi;have:i<n:=by simpa using hi
 simp[apH,this]
theorem Ht:∀(l:List Oper) (n:Nat),indexed l n=(List.range l.length).map fun i=>(n+i,l.getD i default)
 |[],n=>rfl
 |o::r,n=>by
  show(n,o)::indexed r (Nat.succ n)=_;rw[Ht r,aqj,List.range_succ_eq_map,ap2,aq2]
  congr 1
  apply arS;intro i _;simp only[Function.comp,List.getD_cons_succ,ap5,and_true];omega
theorem M9 (d:Tmp)(o:Oper)(r:List Oper):n5 d r<=n5 d (o::r)/\(o.dst=some d->n5 d (o::r)=n5 d r+1):=by
 have e:n5 d (o::r)=match fY (some d) o.dst with|true=>Nat.succ (n5 d r)|false=>n5 d r:=rfl
 refine⟨?_,fun h=> ?_⟩
 ·rw[e];split
  ·exact Nat.le_succ _
  ·exact apF _
 ·rw[e,B4.2 ⟨d,rfl,h⟩]
theorem Yb {d:Tmp}{l:List Oper}{j:Nat}{p:Oper}(h:l[j]? =some p)(aE:p.dst=some d):1<=n5 d l:=by
 induction l generalizing j with
 |nil=>simp at h
 |cons x l bI=>
  obtain⟨dh,eW⟩:=M9 d x l
  cases j with
  |zero=>
   simp only[List.getElem?_cons_zero,apX]at h;subst h;rw[eW aE];omega
  |succ j=>
   have:=bI (j:=j) (by simpa using h);omega
theorem NY {d:Tmp}(l:List Oper)(i j:Nat)(o p:Oper)(ab:l[i]? =some o)(ad:l[j]? =some p)(aA:o.dst=some d)(ba:p.dst=some d)(bJ:i<j):2<=n5 d l:=by
 induction l generalizing i j with
 |nil=>simp at ab
 |cons x l bI=>
  obtain⟨dh,eW⟩:=M9 d x l
  cases j with
  |zero=>omega
  |succ j=>
   simp only[List.getElem?_cons_succ]at ad
   cases i with
   |zero=>
    simp only[List.getElem?_cons_zero,apX]at ab;subst ab;have:=Yb ad ba;rw[eW aA];omega
   |succ i=>
    have:=bI i j (by simpa using ab) ad (by omega);omega
theorem BT:∀(l:List Tmp) (n:Nat) (d:Tmp) (id:Nat),fw d (uz l n)=some id->d∈l/\n<=id/\id<n+l.length/\l[id-n]? =some d
 |[],n,d,id,h=>by cases h
 |x::r,n,d,id,h=>by
  unfold uz at h;unfold fw at h;split at h
  ·rename_i ah;obtain rfl:=apC ah;obtain rfl:=apK h;simp
  ·obtain⟨ab,ad,aA,ba⟩:=BT r (n+1) d id h;refine⟨by simp[ab],by omega,by simp;omega, ?_⟩;rw[show id-n=(id-(n+1))+1 by omega];simpa using ba
theorem drawn {ops:Array Oper}(hT:rz data bz)(eC:∀f args I K,bz f args I K->hy (bz f))(aF:zi tb ops.toList=true)(n:Nat)(dM:aL=uz (oX tb ops.toList) n)(mixed:Bool)(hm:mixed=true)(t:Nat):
 HZ aL ops/\(∀i∈Region.schedule mixed ops t,i<ops.size)/\(Region.schedule mixed ops t).Nodup/\∀(tm:List R) (I:aD) (K:List R->aD->Prop),gh tb bz data aL ops.toList (uI ops.toList []) [] (indexed ops.toList 0) tm I K->
  dw tb bz aL ops.toList ((Region.schedule mixed ops t).map fun i=>ops.toList.getD i default) tm I K:=by
 have ay:Region.schedule mixed ops t=Region.linearise .any ops t:=by
  unfold Region.schedule;rw[apz (by rw[hm];simp)]
 rw[ay];unfold zi at aF;rw[apM,fD,fD,apR,apR]at aF;obtain⟨xQ,Az⟩:=aF
 have hw:S5 ops:=fun i hi e he ah=>by
  have:=xQ (i,ops[i]) (by
   rw[Ht];refine apQ.2 ⟨i,by simpa using hi, ?_⟩
   simp[apA,hi])
  rw[apR]at this;have:=this e he;have ho:Region.binds .any e=true:=ah;rw[ho]at this;have:e.on+1<=i:=by simpa[Nat.blt]using this
  omega
 have aI:HZ aL ops:=by
  intro i j o p d e id ab ad bJ cu gO dq;rw[dM]at gO dq;obtain⟨fX,_,_,g1⟩:=BT _ _ _ _ gO;obtain⟨_,_,_,g2⟩:=BT _ _ _ _ dq;rw[g1]at g2;obtain rfl:=apK g2;have aC:=apC (Az d fX);rcases Nat.lt_trichotomy i j with bL|rfl|bL
  ·have:=NY ops.toList i j o p (by simpa using ab) (by simpa using ad) bJ cu bL;omega
  ·rfl
  ·have:=NY ops.toList j i p o (by simpa using ad) (by simpa using ab) cu bJ bL;omega
 obtain⟨cm,ab,ad,aE,aA⟩:=Rq (tb:=tb) (aL:=aL) (tab:=uI ops.toList []) hT eC hw (fun n m ah=>by
  rw[ad8]at ah
  exact Oy ops ops.toList [] [] rfl rfl (fun n m h=>by simp[b6]at h) n m ah) ops.size t (Array.replicate ops.size false) [] (by simp) (by rw[Ql];simp) (fun j aI kr=>by simp[apH,aI]at kr)
 have:Region.linearise .any ops t=cm:=by unfold Region.linearise;rw[ab];rfl
 rw[this];rw[Ql]at aE aA;refine⟨aI,ad,aE.nodup_iff.2 List.nodup_range,fun tm I K h=> ?_⟩
 have ba:=NG eC _ _ _ _ (aA [] tm I K (by
  rw[Ht]at h
  simpa using h))
 rw[aq2]at ba;exact ba
end
end Go.ak
end
section
namespace Go.ak
theorem dt.B7:∀(a b:List cb) (x:dt a) (y:dt b),dt.left a b (dt.append a b x y)=x
 |[],_,_,_=>rfl
 |_::dN,b,(x,r),y=>by simp only[dt.append,dt.left];rw[dt.B7 dN b r y]
theorem dt.BU:∀(a b:List cb) (x:dt a) (y:dt b),dt.right a b (dt.append a b x y)=y
 |[],_,_,_=>rfl
 |_::dN,b,(x,r),y=>by simp only[dt.append,dt.right];rw[dt.BU dN b r y]
section
variable {N:Nat->Prop} {ρ:List Loc} {I:aD} {w:World}
theorem NZ (h:cw N ρ I w)(s:cb){t:R}(aC:∀p∈(s.rD I t).1,p):
 ∃x:U,s.mk (s.rD I t).2= .d x/\∀u,bH (aK N ρ I) w ρ I t u->bB (aK N ρ I) w x u:=by
 have no:∀{q:Prop},(∀p∈[False],p)->q:=fun h=>(h False (by simp)).elim
 unfold cb.rD at aC⊢;split at aC
 ·rename_i k cD n;split at aC
  ·rename_i ag;obtain rfl:=jD.1 ag;exact⟨_,rfl,fun u aw=>aw⟩
  ·exact no aC
 ·exact no aC
 ·exact⟨_,rfl,fun u aw=>aw⟩
 ·refine⟨_,rfl,fun u aw=> ?_⟩;have aw:u= .bool true:=aw;subst aw;exact .bool true
 ·refine⟨_,rfl,fun u aw=> ?_⟩;have aw:u= .bool false:=aw;subst aw;exact .bool false
 ·exact no aC
 ·exact⟨_,rfl,fun u aw=>aw⟩
 ·exact no aC
 ·rename_i k cD l;split at aC
  ·rename_i ag;obtain rfl:=jD.1 ag;exact⟨_,rfl,fun u aw=>aw⟩
  ·exact no aC
 ·refine⟨_,rfl,fun u aw=> ?_⟩;obtain⟨a,rfl⟩:=aw;exact .jt _ _ _
 ·rename_i k id;split at aC
  ·rename_i cD l aF;simp only at aC;split at aC
   ·rename_i ag aU;obtain rfl:=jD.1 ag;refine⟨_,rfl,fun u aw=> ?_⟩;obtain⟨av,ax,hu,_⟩:=aw;have:=q5 h ax aU (t:= .aG (.cp k)) (by rw[aF];exact jD.2 rfl);rw[aF]at this hu;rw[hu];exact this
   ·exact no aC
  ·exact no aC
 ·exact no aC
 ·rename_i k cD l;split at aC
  ·rename_i ag;obtain rfl:=apC ag;exact⟨_,rfl,fun u aw=>aw⟩
  ·exact no aC
 ·refine⟨_,rfl,fun u aw=> ?_⟩;obtain⟨a,rfl⟩:=aw;exact .kS _ _ _
 ·rename_i an id;split at aC
  ·rename_i ic l aF;simp only at aC;split at aC
   ·rename_i ag aU;obtain rfl:=apC ag;refine⟨_,rfl,fun u aw=> ?_⟩;obtain⟨av,ax,hu,_⟩:=aw;have:=q5 h ax aU (t:= .aG (.dK an)) (by rw[aF];exact aqx an);rw[aF]at this hu;rw[hu];exact this
   ·exact no aC
  ·exact no aC
 ·exact no aC
 ·exact⟨_,rfl,fun u aw=>aw⟩
 ·exact no aC
theorem GV (h:cw N ρ I w):∀(cs:List cb) (aH:List R) (k:dt cs->Prop),yL I cs aH k->
 ∃x,k x/\(sK cs x).length=aH.length/\∀(us:Nat->Value),(∀i,i<aH.length->eJ (aK N ρ I) w ρ I (aH.getD i .un) (us i))->
  ∀i,i<aH.length->∃y:U,(sK cs x).getD i .un= .d y/\bB (aK N ρ I) w y (us i)
 |[],[],k,ag=>⟨(),ag,rfl,fun us _ i hi=>by simp at hi⟩
 |[],_::_,_,ag=>ag.elim
 |_::_,[],_,ag=>ag.elim
 |s::dN,v::aH,k,ag=>by
  simp only[yL]at ag;rw[hk]at ag;obtain⟨aC,ag⟩:=ag;obtain⟨y,ab,ad⟩:=NZ h s aC;obtain⟨x,aY,bj,bG⟩:=GV h dN aH _ ag;refine⟨((s.rD I v).2,x),aY,by simp[sK,bj],fun us ao i hi=> ?_⟩
  cases i with
  |zero=>exact⟨y,by simpa[sK]using ab,ad _ (.c7 (ao 0 (by simp)))⟩
  |succ i=>
   obtain⟨am7,aA,ba⟩:=bG (fun i=>us (i+1)) (fun i hi=>by have:=ao (i+1) (by simpa using hi);simpa using this) i (by simpa using hi);exact⟨am7,by simpa[sK]using aA,ba⟩
theorem G5 {n:Nat}{t:R}(h:t.od n=true){id:Nat}(aB:t.lE id):id<n:=by
 cases t with
 |vec j=>obtain rfl:j=id:=aB;have:j+1<=n:=by simpa[R.od,Nat.blt]using h
         omega
 |ptr j x=>obtain rfl:j=id:=aB;have:j+1<=n:=by simpa[R.od,Nat.blt]using h
           omega
 |optr j x y=>obtain rfl:j=id:=aB;have:j+1<=n:=by simpa[R.od,Nat.blt]using h
              omega
 |oat j x y=>obtain rfl:j=id:=aB;have:j+1<=n:=by simpa[R.od,Nat.blt]using h
             omega
 |mp j=>obtain rfl:j=id:=aB;have:j+1<=n:=by simpa[R.od,Nat.blt]using h
        omega
 |tail j x=>obtain rfl:j=id:=aB;have:j+1<=n:=by simpa[R.od,Nat.blt]using h
            omega
 |_=>exact aB.elim
theorem Pl {t:R}{id:Nat}(ab:∀l,t≠ .agg l)(ad:∀l,t≠ .tup l)(aB:t.names id):t.lE id:=by
 cases t with
 |agg l=>exact absurd rfl (ab l)
 |tup l=>exact absurd rfl (ad l)
 |_=>exact aB
theorem aa3 {n:Nat}{t:R}(ab:∀l,t≠ .agg l):t.under n=t.od n:=by
 cases t with
 |agg l=>exact absurd rfl (ab l)
 |_=>rfl
theorem aa4 {t:R}(ab:∀l,t≠ .agg l)(ad:∀n r,t≠ .rw n r):t.plain=t.rv:=by
 cases t with
 |agg l=>exact absurd rfl (ab l)
 |rw n r=>exact absurd rfl (ad n r)
 |_=>rfl
theorem YM {n:Nat}{t:R}(h:t.under n=true){id:Nat}(aB:t.names id):id<n:=by
 cases t with
 |agg l=>
  obtain⟨i,hi,aB⟩:=aB;simp only[R.under]at h;rw[fD,apR]at h;have e:l.getD i .un=l[i]:=by simp[apA,hi]
  rw[e]at aB;exact G5 (h _ (aqA hi)) aB
 |tup l=>simp[R.under,R.od]at h
 |_=>rw[aa3 (by simp)]at h;exact G5 h (Pl (by simp) (by simp) aB)
theorem BV {t:R}(h:t.rv=true){id:Nat}(aB:t.lE id):False:=by
 cases t<;>simp only[R.lE]at aB<;>simp[R.rv]at h
theorem Hg {t:R}(h:t.plain=true){id:Nat}(aB:t.names id):False:=by
 cases t with
 |agg l=>
  obtain⟨i,hi,aB⟩:=aB;simp only[R.plain]at h;rw[fD,apR]at h;have e:l.getD i .un=l[i]:=by simp[apA,hi]
  rw[e]at aB;exact BV (h _ (aqA hi)) aB
 |tup l=>simp[R.plain,R.rv]at h
 |rw n r=>exact aB
 |_=>rw[aa4 (by simp) (by simp)]at h;exact BV h (Pl (by simp) (by simp) aB)
theorem Cq {v v0:R}(h:v.sU v0=true):v=v0:=by
 unfold R.sU at h;split at h<;>try rfl
 ·rw[apC h]
 ·rw[apM]at h;rw[apC h.1,apC h.2]
 ·rw[apM]at h;rw[apC h.1,apC h.2]
 ·rw[apC h]
 ·rw[apC h]
 ·cases h
theorem YN {v7:Nat->Prop}{eo:List Loc}{cO:aD}{w1:World}{gv:List R}{a1 a:Act}{tm:List R}(n:Nat)(wr:Tmp->Bool)(h:cw N ρ I w)(aw:ei (aK N ρ I) w ρ I tm a.tmps)
 (FV:ei v7 w1 eo cO gv a1.tmps) (e1:∀t,wr t=false->a.tmps.getD t undef=a1.tmps.getD t undef):
 ∀(dN:List (Tmp×vQ)) (k:dt (lC dN)->Prop),sw n wr I gv dN tm k->
  ∃x,k x/\∀(Z':Nat->Prop) (ρ':List Loc) (al:aD),(∀y u,bB (aK N ρ I) w y u->bB Z' w y u)->(∀y u,bB v7 w1 y u->bB Z' w y u)->
   (∀id,id<n->eQ ρ I ρ' al id)->∀base,ei Z' w ρ' al base a.tmps->ei Z' w ρ' al (uJ gv dN x base) a.tmps:=by
 intro dN
 induction dN with
 |nil=>intro k ag;exact⟨(),ag,fun Z' ρ' al _ _ _ base ah=>ah⟩
 |cons p r bI=>
  intro k ag;obtain⟨t,am8⟩:=p
  have Jp:∀{Z':Nat->Prop} {ρ':List Loc} {al:aD} {base:List R} {v:R},ei Z' w ρ' al base a.tmps->bH Z' w ρ' al v (a.tmps.getD t undef)->ei Z' w ρ' al (cK base t v) a.tmps:=by
   intro Z' ρ' al base v ah aO;refine⟨by rw[eE];simpa using ah.size,fun i=> ?_⟩;rw[eE,eR];split
   ·rename_i e;rw[<-e.1];exact aO
   ·exact ah.at_ i
  have cR:bH (aK N ρ I) w ρ I (b6 .un tm t) (a.tmps.getD t undef):=by rw[dW];exact aw.at_ t
  cases am8 with
  |aG s=>
   simp only[sw]at ag;rw[hk]at ag;obtain⟨aC,ag⟩:=ag;obtain⟨y,ab,ad⟩:=NZ h s aC;have ad:=ad _ cR;obtain⟨x,aY,bj⟩:=bI _ ag;refine⟨((s.rD I (b6 .un tm t)).2,x),aY,fun Z' ρ' al ao iW ay base ah=> ?_⟩;exact Jp (bj Z' ρ' al ao iW ay base ah) (by rw[ab];exact .c7 (ao _ _ ad))
  |agg cs=>
   simp only[sw]at ag;split at ag
   ·rename_i aH kv;rw[kv]at cR;obtain⟨arr,ab,ad,aA⟩:=cR;obtain⟨xs,q1,cG,cV⟩:=GV h cs aH _ ag;have cV:=cV (fun i=>arr.getD i undef) aA;obtain⟨x,aY,bj⟩:=bI _ q1;refine⟨dt.append cs (lC r) xs x,aY,fun Z' ρ' al ao iW ay base ah=> ?_⟩;simp only[uJ,dt.B7,dt.BU];refine Jp (bj Z' ρ' al ao iW ay base ah) (.hn ⟨arr,ab,by rw[ad,cG],fun i hi=> ?_⟩);rw[cG]at hi;obtain⟨y,ba,bJ⟩:=cV i hi;rw[ba];exact ao _ _ bJ
   ·exact ag.elim
  |aq=>
   simp only[sw]at ag;split at ag
   ·rename_i AO;obtain⟨x,aY,bj⟩:=bI _ ag;refine⟨x,aY,fun Z' ρ' al ao iW ay base ah=> ?_⟩;simp only[uJ];refine Jp (bj Z' ρ' al ao iW ay base ah) ?_;unfold Si at AO;split at AO
    ·cases AO
    ·rename_i hu;split at AO
     ·rename_i hw aE;rw[e1 t hw];have Aa:bH v7 w1 eo cO (b6 .un gv t) (a1.tmps.getD t undef):=by rw[dW];exact FV.at_ t
      exact Aa.mono iW fun id aB=>(Hg aE aB).elim
     ·have:=Cq AO;rw[<-this]at hu⊢;exact cR.mono ao fun id aB=>ay id (YM hu aB)
   ·exact ag.elim
theorem wH (ee:aD):∀(os:List tn) (i:Nat) (x:dt (kf os)),(mi ee os i x).length=os.length
 |[],_,_=>rfl
 | .aq::r,i,x=>aqd (·+1) (wH ee r (Nat.succ i) x)
 | .af _::r,i,(_,x)=>aqd (·+1) (wH ee r (Nat.succ i) x)
 | .ar _::r,i,(_,x)=>aqd (·+1) (wH ee r (Nat.succ i) x)
 | .map _ _::r,i,(_,x)=>aqd (·+1) (wH ee r (Nat.succ i) x)
 | .cells cs::r,i,x=>aqd (·+1) (wH ee r (Nat.succ i) (dt.right cs (kf r) x))
structure rG (n:Nat)(N:Nat->Prop)(ρ:List Loc)(I:aD)(w:World)(i:Nat)(l:aD):Prop where
 Gy:∀m,m<l.length->cz l m=cz I (i+m)
 an:∀m,m<l.length->(ae.at l m).len=(ae.at I (i+m)).len/\(ae.at l m).cL=(ae.at I (i+m)).cL
 Gz:∀m,m<l.length->cz l m=true->ae.at l m=ae.at I (i+m)
 rd:∀m,m<l.length->∀(Z':Nat->Prop) (ρ':List Loc) (al:aD) (av:Loc),(∀y u,bB (aK N ρ I) w y u->bB Z' w y u)->(∀id,id<n->eQ ρ I ρ' al id)->
  hS (aK N ρ I) w ρ I av (ae.at I (i+m))->hS Z' w ρ' al av (ae.at l m)
theorem rG.cons {n:Nat}{i:Nat}{p:Bool×ae}{l:aD}(ab:p.1=cz I i)(ba:p.1=true->p.2=ae.at I i)(ad:p.2.len=(ae.at I i).len/\p.2.cL=(ae.at I i).cL)
 (aA:∀(Z':Nat->Prop) (ρ':List Loc) (al:aD) (av:Loc),(∀y u,bB (aK N ρ I) w y u->bB Z' w y u)->(∀id,id<n->eQ ρ I ρ' al id)->
   hS (aK N ρ I) w ρ I av (ae.at I i)->hS Z' w ρ' al av p.2) (h:rG n N ρ I w (i+1) l):rG n N ρ I w i (p::l)where
 Gy:=fun m hm=>by
  cases m with
  |zero=>exact ab
  |succ m=>rw[show i+(m+1)=i+1+m by omega];exact h.Gy m (by simpa using hm)
 an:=fun m hm=>by
  cases m with
  |zero=>exact ad
  |succ m=>rw[show i+(m+1)=i+1+m by omega];exact h.an m (by simpa using hm)
 Gz:=fun m hm=>by
  cases m with
  |zero=>exact ba
  |succ m=>rw[show i+(m+1)=i+1+m by omega];exact h.Gz m (by simpa using hm)
 rd:=fun m hm=>by
  cases m with
  |zero=>exact aA
  |succ m=>rw[show i+(m+1)=i+1+m by omega];exact h.rd m (by simpa using hm)
theorem aa5 {cO:aD}(n:Nat)(h:cw N ρ I w):∀(os:List tn) (i:Nat) (k:dt (kf os)->Prop),n8 n cO os i I k->
 ∃x,k x/\rG n N ρ I w i (mi cO os i x):=by
 intro os
 induction os with
 |nil=>intro i k ag;exact⟨(),ag,⟨fun m hm=>by simp[mi]at hm,fun m hm=>by simp[mi]at hm,fun m hm=>by simp[mi]at hm,fun m hm=>by simp[mi]at hm⟩⟩
 |cons o r bI=>
  intro i k ag
  have ck:∀{f:Bool} {ob:ae},b6 (true, .gone) I i=(f,ob)->ae.at I i=ob/\cz I i=f:=fun h=>by simp[ae.at,cz,h]
  cases o with
  |aq=>
   simp only[n8]at ag;split at ag
   ·rename_i hu;obtain⟨he,ag⟩:=ag;obtain⟨x,aY,bj⟩:=bI (i+1) _ ag;refine⟨x,aY,rG.cons (by rw[<-he];rfl) (fun _=>by rw[<-he];rfl) (by rw[<-he];exact⟨rfl,rfl⟩) (fun Z' ρ' al av ao ay aF=> ?_) bj⟩;rw[<-he]at hu⊢;refine aF.mono (fun _ _=>rfl) ao (fun l ax Bj id ox aB=>ay id ?_);have iT:(b6 (true,ae.gone) I i).2= .cells l:=ax;rw[iT]at hu;simp only[ae.under]at hu;rw[fD,apR]at hu;have e:l.getD Bj .un=l[Bj]:=by simp[apA,ox]
    rw[e]at aB;exact G5 (hu _ (aqA ox)) aB
   ·exact ag.elim
  |af la=>
   simp only[n8]at ag;split at ag
   ·rename_i aY l ax;split at ag
    ·rename_i ox;obtain rfl:=jD.1 ox;obtain⟨x,q1,cG⟩:=bI (i+1) _ ag;obtain⟨az,aJ⟩:=ck ax;refine⟨(l,x),q1,rG.cons aJ.symm (fun h=>by cases h) (by rw[az];exact⟨rfl,rfl⟩) (fun Z' ρ' al av ao ay aF=> ?_) cG⟩;rw[az]at aF;exact aF.mono (fun _ _=>rfl) ao (fun l ax=>by cases ax)
    ·exact ag.elim
   ·exact ag.elim
  |ar yd=>
   simp only[n8]at ag;split at ag
   ·rename_i s1 l ax;split at ag
    ·rename_i ox;obtain rfl:=apC ox;obtain⟨x,q1,cG⟩:=bI (i+1) _ ag;obtain⟨az,aJ⟩:=ck ax;refine⟨(l,x),q1,rG.cons aJ.symm (fun h=>by cases h) (by rw[az];exact⟨rfl,rfl⟩) (fun Z' ρ' al av ao ay aF=> ?_) cG⟩;rw[az]at aF;exact aF.mono (fun _ _=>rfl) ao (fun l ax=>by cases ax)
    ·exact ag.elim
   ·exact ag.elim
  |map ye yd=>
   simp only[n8]at ag;split at ag
   ·rename_i fg s1 l ax;split at ag
    ·rename_i AP ox;obtain rfl:=apC AP;obtain rfl:=apC ox;obtain⟨x,q1,cG⟩:=bI (i+1) _ ag;obtain⟨az,aJ⟩:=ck ax;refine⟨(l,x),q1,rG.cons aJ.symm (fun h=>by cases h) (by rw[az];exact⟨rfl,rfl⟩) (fun Z' ρ' al av ao ay aF=> ?_) cG⟩;rw[az]at aF;exact aF.mono (fun _ _=>rfl) ao (fun l ax=>by cases ax)
    ·exact ag.elim
   ·exact ag.elim
  |cells cs=>
   simp only[n8]at ag;split at ag
   ·rename_i aH ax;obtain⟨az,aJ⟩:=ck ax;obtain⟨xs,q1,cG,cV⟩:=GV h cs aH _ ag;obtain⟨x,aY,bj⟩:=bI (i+1) _ q1;refine⟨dt.append cs (kf r) xs x,aY, ?_⟩;simp only[mi,dt.B7,dt.BU];refine rG.cons aJ.symm (fun h=>by cases h) (by rw[az];exact⟨cG,rfl⟩) (fun Z' ρ' al av ao ay aF=> ?_) bj;rw[az]at aF;obtain⟨fh,ahi,aj_,dh,eW,jR,pQ,pR⟩:=aF;refine⟨fh,ahi,aj_,dh,eW,jR,by rw[cG];exact pQ,fun m hm=> ?_⟩;rw[cG]at hm;obtain⟨y,d1,d2⟩:=cV _ pR m hm;rw[d1];exact ao _ _ d2
   ·exact ag.elim
end
end Go.ak
end
section
namespace Go.ak
theorem w0 {α:Type}(ρ:List α)(n:Nat)(d:α)(i:Nat)(l:α)(h:((ρ.take n)++List.replicate (n-ρ.length) d)[i]? =some l):
 i<n/\(ρ[i]? =some l\/(ρ.length<=i/\l=d)):=by
 rw[ap7]at h;split at h
 ·rename_i hi;simp only[ap_]at hi;rw[aqq]at h;split at h
  ·rename_i aB;exact⟨aB, .inl h⟩
  ·cases h
 ·rename_i hi;simp only[ap_]at hi h;rw[aq3]at h;split at h
  ·rename_i aB;refine⟨by omega, .inr ⟨by omega,(apK h).symm⟩⟩
  ·cases h
theorem ad_ {α:Type}(ρ:List α)(n:Nat)(d:α)(i:Nat)(l:α)(hi:i<n)(h:ρ[i]? =some l):((ρ.take n)++List.replicate (n-ρ.length) d)[i]? =some l:=by
 obtain⟨ab,ad⟩:=aqp.1 h;rw[aqr (by simp;omega),aqq,apz hi,h]
theorem acG (Z:Nat->Prop)(w:World)(ρ:List Loc)(I:aD)(n:Nat)(tmps:Array Value)(h:tmps.size=n):ei Z w ρ I (u_ .any n) tmps:=by
 refine⟨by rw[Il];simpa using h,fun t=> ?_⟩;rw[Il]
 by_cases aw:t<n
 ·have:(List.replicate n R.any).getD t .un= .any:=by simp[apA,aw]
  rw[this];trivial
 ·have:(List.replicate n R.any).getD t .un= .un:=by simp[apA,aw]
  rw[this,apH,Array.getElem?_eq_none (by omega)]
  rfl
theorem N0 {N v7:Nat->Prop}{eo ρ:List Loc}{fc S:e9}{a1 a:Act}{w1 w:World}(wr:Tmp->Bool)(h:Head)(k:dt h.ps->Prop)
 (FV:ei v7 w1 eo fc.I fc.tm a1.tmps) (ay:eA N ρ S.tm S.I a w) (aU:∀y u,bB v7 w1 y u->bB (aK N ρ S.I) w y u) (e1:∀t,wr t=false->a.tmps.getD t undef=a1.tmps.getD t undef)
 (cx:a.tmps.size=a1.tmps.size) (ag:p6 wr h fc S k):
 ∃x,k x/\∃ρ',eA N ρ' (lD h fc x).tm (lD h fc x).I a w/\Fr ρ S.I w ρ' (lD h fc x).I w:=by
 unfold p6 at ag;obtain⟨xs,ag,Sq⟩:=YN (a1:=a1) (a:=a) (bS h.I) wr ay.eG ay.d_ FV e1 h.bR _ ag;obtain⟨Bq,ag,fa⟩:=aa5 (bS h.I) ay.eG h.I 0 _ ag;have ax:(dt.left (lC h.bR) (kf h.I) (dt.append (lC h.bR) (kf h.I) xs Bq))=xs:=dt.B7 _ _ _ _;have ao:(dt.right (lC h.bR) (kf h.I) (dt.append (lC h.bR) (kf h.I) xs Bq))=Bq:=dt.BU _ _ _ _;refine⟨_,ag,ρ.take h.I.length++List.replicate (h.I.length-ρ.length) ⟨none,0,none⟩, ?_⟩;have hlen:(mi fc.I h.I 0 Bq).length=h.I.length:=wH _ _ _ _;unfold lD;simp only[ax,ao];generalize mi fc.I h.I 0 Bq=al at fa hlen⊢;rw[cI]at Sq fa
 have j9:∀id,id<h.I.length->eQ ρ S.I (ρ.take h.I.length++List.replicate (h.I.length-ρ.length) ⟨none,0,none⟩) al id:=fun id dM av dg=>by
  refine⟨ad_ _ _ _ _ _ dM dg, ?_⟩;have:=fa.an id (by omega);simpa using this
 have iw:∀b,gi (ρ.take h.I.length++List.replicate (h.I.length-ρ.length) ⟨none,0,none⟩) al b->gi ρ S.I b:=fun b ⟨i,av,az,aJ,bX⟩=>by
  obtain⟨hi,e|⟨_,e⟩⟩:=w0 _ _ _ _ _ az
  ·have:=fa.Gy i (by omega);rw[ap3]at this;exact⟨i,av,e,aJ,by rw[<-this];exact bX⟩
  ·rw[e]at aJ;cases aJ
 have cy:Fr ρ S.I w (ρ.take h.I.length++List.replicate (h.I.length-ρ.length) ⟨none,0,none⟩) al w:=
  ⟨rfl,rfl,rfl,apF _,fun _ _ _=>rfl,fun b ah=> .inl (iw b ah)⟩
 have s_:∀y u,bB (aK N ρ S.I) w y u->bB (aK N (ρ.take h.I.length++List.replicate (h.I.length-ρ.length) ⟨none,0,none⟩) al) w y u:=fun _ _=>cy.reads
 have afd:∀y u,bB v7 w1 y u->bB (aK N (ρ.take h.I.length++List.replicate (h.I.length-ρ.length) ⟨none,0,none⟩) al) w y u:=fun y u ao=>cy.reads (aU y u ao)
 refine⟨⟨?_, ?_,ay.hP⟩,cy⟩
 ·refine{len:=by simp[hlen];omega,e3:=ay.eG.e3,lt:=fun i av b az aJ=> ?_,inj:=fun i j li cA b az aJ bX cW s1 s2=> ?_,fz:=fun i av b az aJ=> ?_,ob:=fun i av az=> ?_}
  ·obtain⟨_,e|⟨_,e⟩⟩:=w0 _ _ _ _ _ az
   ·exact ay.eG.lt i av b e aJ
   ·rw[e]at aJ;cases aJ
  ·obtain⟨_,e|⟨_,e⟩⟩:=w0 _ _ _ _ _ az
   ·obtain⟨_,cg|⟨_,cg⟩⟩:=w0 _ _ _ _ _ aJ
    ·have back:∀i,i<al.length->¬hx al i->¬hx S.I i:=fun i hi aB ⟨f,n,an,q⟩=>by
      have VK:cz al i=true:=by have:=fa.Gy i hi;rw[ap3]at this;rw[this];exact f
      have:=fa.Gz i hi VK;rw[ap3]at this;exact aB ⟨VK,n,an,by rw[this];exact q⟩
     exact ay.eG.inj i j li cA b e cg bX cW (back i (by omega) s1) (back j (by omega) s2)
    ·rw[cg]at cW;cases cW
   ·rw[e]at bX;cases bX
  ·obtain⟨_,e|⟨_,e⟩⟩:=w0 _ _ _ _ _ az
   ·exact ay.eG.fz i av b e aJ
   ·rw[e]at aJ;cases aJ
  ·obtain⟨hi,e⟩:=w0 _ _ _ _ _ az;refine fa.rd i (by omega) _ _ al av s_ j9 ?_;rw[ap3];rcases e with e|⟨e,_⟩
   ·exact ay.eG.ob i av e
   ·have:ae.at S.I i= .gone:=by
     have ax:=ay.eG.len;simp only[ae.at,dW,apA];rw[aqc (by omega)]
     rfl
    rw[this];trivial
 ·refine Sq _ _ al s_ afd j9 _ ?_;rw[cI];exact acG _ _ _ _ _ _ (by rw[cx];exact FV.size)
theorem Ce {N:Nat->Prop}{eo ρ:List Loc}{fc S:e9}{a1 a:Act}{w1 w:World}(wr:Tmp->Bool)(h:Head)(k:dt h.ps->Prop)
 (eN:eA N eo fc.tm fc.I a1 w1) (ay:eA N ρ S.tm S.I a w) (aU:Fr eo fc.I w1 ρ S.I w) (e1:∀t,wr t=false->a.tmps.getD t undef=a1.tmps.getD t undef)
 (cx:a.tmps.size=a1.tmps.size) (ag:p6 wr h fc S k):
 ∃x,k x/\∃ρ',eA N ρ' (lD h fc x).tm (lD h fc x).I a w/\Fr ρ S.I w ρ' (lD h fc x).I w:=N0 wr h k eN.d_ ay (fun _ _=>aU.reads) e1 cx ag
theorem Oz {N:Nat->Prop}{a:Act}{w:World}{ρ:List Loc}{S:e9}(id:Nat)(h:eA N ρ S.tm S.I a w):eA N ρ S.tm (e_ S.I id) a w/\Fr ρ S.I w ρ (e_ S.I id) w:=by
 have cS:cv N ρ S.I w ρ (e_ S.I id) w:=by unfold e_;rw[eE];exact cv.shut h.eG id
 exact⟨⟨cS.rel,h.d_.step cS,h.hP⟩,cS.toFr⟩
theorem yQ {N:Nat->Prop}{a:Act}{w:World}:∀(c:List (Tmp×cb)) (S:e9) (ρ:List Loc),eA N ρ S.tm S.I a w->
 eA N ρ (mS c S).tm (mS c S).I a w/\Fr ρ S.I w ρ (mS c S).I w
 |[],S,ρ,h=>⟨h,Fr.refl _ _ _⟩
 |(t,s)::r,S,ρ,h=>by
  unfold mS;split
  ·rename_i id he;obtain⟨ab,ad⟩:=Oz id h;obtain⟨aY,bj⟩:=yQ r ⟨S.tm,e_ S.I id⟩ ρ ab;exact⟨aY,ad.trans bj⟩
  ·exact yQ r S ρ h
theorem um {N:Nat->Prop}{a:Act}{w:World}:∀(c:List (Tmp×cb)) (S:e9) (ρ:List Loc),eA N ρ S.tm S.I a w->
 ∃ρ',eA N ρ' (iI c S).tm (iI c S).I a w/\Fr ρ S.I w ρ' (iI c S).I w
 |[],S,ρ,h=>⟨ρ,h,Fr.refl _ _ _⟩
 |(t,s)::r,S,ρ,h=>by
  unfold iI;split
  ·rename_i id he;obtain⟨ab,ad⟩:=Oz id h;obtain⟨ρ',aY,bj⟩:=um r ⟨S.tm,e_ S.I id⟩ ρ ab;exact⟨ρ',aY,ad.trans bj⟩
  ·exact um r S ρ h
  ·rename_i s _ _ he _;have cR:=h.d_.at_ t;rw[<-dW,he]at cR;obtain⟨x,aj⟩:=cR
   have key:∀(ob:ae),(ob= .gone\/(∃k,ob= .af k [])\/∃an,ob= .ar an [])->cv N ρ S.I w (ρ++[⟨x,0,none⟩]) (S.I++[(false,ob)]) w:=by
    intro ob aF;exact cv.nil h.eG false _ x aF
   have ck:uK s= .gone\/(∃k,uK s= .af k [])\/∃an,uK s= .ar an []:=by
    cases s with
    |cp k=>exact .inr (.inl ⟨k,rfl⟩)
    |dK an=>exact .inr (.inr ⟨an,rfl⟩)
    |_=>exact .inl rfl
   have cS:=key _ ck;have afU:(uK s).len=0:=by cases s<;>rfl
   have gk:eA N (ρ++[⟨x,0,none⟩]) (cK S.tm t (.vec (bS S.I))) (ez S.I [(false,uK s)]) a w:=by
    rw[fC];refine⟨cS.rel,⟨by rw[eE];simpa using h.d_.size,fun i=> ?_⟩,h.hP⟩;rw[eE,eR];split
    ·rename_i e;rw[<-e.1,aj];refine .c7 ⟨⟨x,0,none⟩,by rw[cI,<-h.eG.len];simp, ?_⟩;rw[fQ,cI,apz rfl,afU];exact⟨rfl,fun _=>rfl⟩
    ·exact(h.d_.step cS).at_ i
   obtain⟨ρ',aY,bj⟩:=um r ⟨cK S.tm t (.vec (bS S.I)),ez S.I [(false,uK s)]⟩ _ gk;refine⟨ρ',aY,Fr.trans ?_ bj⟩;rw[fC];exact cS.toFr
  ·exact um r S ρ h
end Go.ak
end
section
namespace Go.ak
theorem least (p:Nat->Prop):∀n,p n->∃n,p n/\∀k,p k->n<=k:=by
 intro n
 induction n using Nat.strongRecOn with
 |_ n bI=>
  intro aB;rcases Classical.em (∃k,k<n/\p k)with⟨k,ag,aE⟩|h
  ·exact bI k ag aE
  ·exact⟨n,aB,fun k ag=>Nat.le_of_not_lt fun bL=>h ⟨k,bL,ag⟩⟩
open Classical in
theorem G1 {P:Program}{Q:Exit->Act->World->Prop}{a:Act}{w:World}{c:Code}{α:Type}(aQ:α->Act->World->Prop)(m:α->Nat)(b4:α)(bc:aQ b4 a w)
 (round:∀x a w,aQ x a w->c.wp P (Exit.then (fun cf w'=>∃y,aQ y cf w'/\m y<m x) Q) a w):(Code.loop c).wp P Q a w:=by
 have hex:∀a w,(∃x,aQ x a w)->∃n,(∃x,aQ x a w/\m x=n)/\∀k,(∃x,aQ x a w/\m x=k)->n<=k:=fun a w ⟨x,aj⟩=>least _ _ ⟨x,aj,rfl⟩
 let Br:Act->World->Nat:=fun a w=>if h:∃x,aQ x a w then Classical.choose (hex a w h)else 0
 have hle:∀y a w,aQ y a w->Br a w<=m y:=fun y a w bo=>by
  have h:∃x,aQ x a w:=⟨y,bo⟩
  simp only[Br,dif_pos h];exact(Classical.choose_spec (hex a w h)).2 _ ⟨y,bo,rfl⟩
 have cR:∀a w,(∃x,aQ x a w)->∃x,aQ x a w/\m x=Br a w:=fun a w h=>by
  simp only[Br,dif_pos h];exact(Classical.choose_spec (hex a w h)).1
 refine wp_loop (fun a w=>∃x,aQ x a w) Br ⟨b4,bc⟩ fun a w fl=> ?_;obtain⟨x,aj,hm⟩:=cR a w fl;refine wp_mono (round x a w aj) fun e cf w' h=> ?_
 cases e with
 |normal=>
  obtain⟨y,bo,bL⟩:=h;exact⟨⟨y,bo⟩,hm▸aq_ (hle y cf w' bo) bL⟩
 |_=>exact h
def ht.to:ht->Exit
 | .normal=> .normal
 | .exit i=> .exit i
 | .goto l=> .goto l
 | .ret=> .ret
theorem Cr:∀(dN:List cb) (f:dt dN->Prop),zI dN f->∀x,f x
 |[],_,h,()=>h
 |_::dN,f,h,(x,r)=>Cr dN (fun r=>f (x,r)) (h x) r
section
variable {P:Program} {N:Nat->Prop}
theorem m7.weaken {ρ eo:List Loc}{I cO:aD}{a a1 cf:Act}{w w1 w':World}{wr Uz:Tmp->Bool}{K K':List R->aD->Prop}(h:m7 N eo cO a1 w1 Uz K cf w')
 (aU:Fr ρ I w eo cO w1) (ay:∀t,wr t=false->Uz t=false/\a1.tmps.getD t undef=a.tmps.getD t undef) (cx:a1.tmps.size=a.tmps.size)
 (ag:∀tm I,K tm I->K' tm I):m7 N ρ I a w wr K' cf w':=by
 obtain⟨dL,al,ρ',aY,bj,bG⟩:=h.ex;exact⟨⟨dL,al,ρ',ag _ _ aY,bj,aU.trans bG⟩,fun t aw=>(h.same t (ay t aw).1).trans (ay t aw).2,h.an.trans cx⟩
theorem Pm {ρ:List Loc}{S:e9}{a:Act}{w:World}(ay:eA N ρ S.tm S.I a w)(c:Operand):bH (aK N ρ S.I) w ρ S.I (aN S.tm c) (a.eval c):=ey ay.d_ c
structure gn (P:Program)(E:bA):Prop where
 ty:∀t,c5 P t (E.tb t)=true
 more:∀t,qb P E.tb t=true
 oy:∀f args I K,E.bz f args I K->yZ P f (E.bz f)
 ok:∀f args I K,E.bz f args I K->hy (E.bz f)
 mixed:P.follows .mixedOrders=true
 data:rz E.kind E.bz
theorem HH (E:bA)(c3:gn P E)(c:Code):
 ∀(bs:Nat) (S:e9) (K:ht->e9->Prop) (a:Act) (w:World) (ρ:List Loc),gT E c bs S K->eA N ρ S.tm S.I a w->
  c.wp P (fun e cf w'=>∃cg:ht,e=cg.to/\m7 N ρ S.I a w (Code.eI c) (fun tm I=>K cg ⟨tm,I⟩) cf w') a w:=by
 obtain⟨bp,FO,eC,am9,iE,oM⟩:=c3
 have self:∀{ρ:List Loc} {S:e9} {a:Act} {w:World} {wr:Tmp->Bool} {K:e9->Prop},eA N ρ S.tm S.I a w->K S->m7 N ρ S.I a w wr (fun tm I=>K ⟨tm,I⟩) a w:=
  fun{ρ S a w wr K} ay ag=>⟨⟨S.tm,S.I,ρ,ag,ay,Fr.refl _ _ _⟩,fun _ _=>rfl,rfl⟩
 induction c with
 |skip=>intro bs S K a w ρ h ay;exact wp_skip ⟨.normal,rfl,self ay h⟩
 |label l=>intro bs S K a w ρ h ay;exact wp_label ⟨.normal,rfl,self ay h⟩
 |exit id=>intro bs S K a w ρ h ay;exact wp_exit ⟨.exit id,rfl,self ay h⟩
 |goto l=>intro bs S K a w ρ h ay;exact wp_goto ⟨.goto l,rfl,self ay h⟩
 |ret=>intro bs S K a w ρ h ay;exact wp_ret ⟨.ret,rfl,self ay h⟩
 |region id ops draw=>
  intro bs S K a w ρ h ay
  cases draw with
  |false=>
   have h:dw E.tb E.bz [] ops.toList ops.toList S.tm S.I (fun tm I=>K .normal ⟨tm,I⟩):=h;refine wp_region (uk (fun e cf w' b5=> ?_) _ _ _ (Cp bp FO eC [] ops (fun i j o p d e id _ _ _ _ h=>by cases h) _ (List.range ops.size) (fun i hi=>by simpa using hi) List.nodup_range S.tm S.I a w ρ (fun i _ o d id _ _ h=>by cases h) (by rw[Rr];exact h) ay));obtain⟨rfl,aE⟩:=b5;exact⟨.normal,rfl,aE⟩
  |true=>
   have aC:zi E.tb ops.toList=true:=by
    cases aj:zi E.tb ops.toList with
    |true=>rfl
    |false=>simp only[gT,aj]at h
   have h:gh E.tb E.bz E.kind (uz (oX E.tb ops.toList) (bS S.I)) ops.toList (uI ops.toList []) [] (indexed ops.toList 0) S.tm (ez S.I (u_ (false, .gone) (bS (oX E.tb ops.toList)))) fun tm I=>K .normal ⟨tm,I⟩:=by
    simp only[gT,aC]at h;exact h
   refine wp_region_draw fun t=> ?_;obtain⟨z_,hi,vA,ag⟩:=drawn (tb:=E.tb) oM am9 aC _ rfl (P.follows .mixedOrders) iE t;have cS:cv N ρ S.I w ρ S.I {w with drawn:=w.drawn+1}:=cv.drew ay.eG rfl rfl rfl rfl;have aka:=Pj (bS (oX E.tb ops.toList)) _ _ cS.rel;have Ab:=cS.trans aka;rw[fC,Il]at h
   have afV:z8 (uz (oX E.tb ops.toList) (bS S.I)) ops (Region.schedule (P.follows .mixedOrders) ops t) (ρ++List.replicate (bS (oX E.tb ops.toList)) n9):=by
    intro i _ o d id _ _ ba;obtain⟨_,g1,g2,_⟩:=BT _ _ _ _ ba;rw[cI]at g1 g2;have ax:=ay.eG.len;rw[aqG (by omega),aq3,apz (by rw[cI];omega)]
   refine uk (fun e cf w' b5=> ?_) _ _ _ (Cp bp FO eC _ ops z_ _ _ hi vA S.tm _ a {w with drawn:=w.drawn+1} _ afV (ag _ _ _ h) ⟨Ab.rel,ay.d_.step Ab,ay.hP⟩);obtain⟨rfl,aE⟩:=b5;exact⟨.normal,rfl,aE.weaken Ab.toFr (fun _ aw=>⟨aw,rfl⟩) rfl fun _ _ h=>h⟩
 |seq x y r5 r6=>
  intro bs S K a w ρ h ay
  have ha:∀t,Code.eI (.seq x y) t=false->Code.eI x t=false/\Code.eI y t=false:=fun t aw=>by
   simpa[Code.eI,ar3]using aw
  unfold gT at h;split at h
  ·refine wp_seq (wp_mono (r5 bs S _ a w ρ h ay) fun e a1 w1 b5=> ?_);obtain⟨cg,rfl,aE⟩:=b5
   cases cg with
   |normal=>
    obtain⟨gv,cO,eo,aY,bj,bG⟩:=aE.ex;refine wp_mono (r6 bs ⟨gv,cO⟩ K a1 w1 eo aY bj) fun e a2 dd b5=> ?_;obtain⟨cg,rfl,pB⟩:=b5;exact⟨cg,rfl,pB.weaken bG (fun t aw=>⟨(ha t aw).2,aE.same t (ha t aw).1⟩) aE.an fun _ _ h=>h⟩
   |exit i=>exact⟨.exit i,rfl,aE.weaken (Fr.refl _ _ _) (fun t aw=>⟨(ha t aw).1,rfl⟩) rfl fun _ _ h=>h⟩
   |goto l=>exact⟨.goto l,rfl,aE.weaken (Fr.refl _ _ _) (fun t aw=>⟨(ha t aw).1,rfl⟩) rfl fun _ _ h=>h⟩
   |ret=>exact⟨.ret,rfl,aE.weaken (Fr.refl _ _ _) (fun t aw=>⟨(ha t aw).1,rfl⟩) rfl fun _ _ h=>h⟩
  ·rename_i a_ aI;obtain⟨J,ab,ad⟩:=h;obtain⟨iz,eZ,tB⟩:=um a_.conv S ρ ay
   refine wp_seq (wp_mono (r5 bs _ _ a w iz ab eZ) fun e a1 w1 b5=> ?_);obtain⟨cg,rfl,aE⟩:=b5
   cases cg with
   |normal=>
    obtain⟨gv,cO,eo,aY,bj,bG⟩:=aE.ex;obtain⟨g1,g2⟩:=yQ a_.conv ⟨gv,cO⟩ eo bj
    obtain⟨z,bm,dF,lP,r0⟩:=Ce (S:=mS a_.conv ⟨gv,cO⟩) _ a_ _ eZ g1 (bG.trans g2) aE.same aE.an aY;refine wp_mono (r6 bs _ K a1 w1 dF (Cr _ _ ad z bm) lP) fun e a2 dd b5=> ?_;obtain⟨cg,rfl,pB⟩:=b5;exact⟨cg,rfl,pB.weaken (tB.trans ((bG.trans g2).trans r0)) (fun t aw=>⟨(ha t aw).2,aE.same t (ha t aw).1⟩) aE.an fun _ _ h=>h⟩
   |exit i=>exact⟨.exit i,rfl,aE.weaken tB (fun t aw=>⟨(ha t aw).1,rfl⟩) rfl fun _ _ h=>h⟩
   |goto l=>exact⟨.goto l,rfl,aE.weaken tB (fun t aw=>⟨(ha t aw).1,rfl⟩) rfl fun _ _ h=>h⟩
   |ret=>exact⟨.ret,rfl,aE.weaken tB (fun t aw=>⟨(ha t aw).1,rfl⟩) rfl fun _ _ h=>h⟩
 |cond c x y r5 r6=>
  intro bs S K a w ρ h ay
  have ha:∀t,Code.eI (.cond c x y) t=false->Code.eI x t=false/\Code.eI y t=false:=fun t aw=>by
   simpa[Code.eI,ar3]using aw
  have cR:=Pm ay c;unfold gT at h
  have tR:∀fc,fc.I=S.I->gT E x bs fc K->eA N ρ fc.tm fc.I a w->x.wp P (fun e cf w'=>∃cg:ht,e=cg.to/\m7 N ρ S.I a w (Code.eI (.cond c x y)) (fun tm I=>K cg ⟨tm,I⟩) cf w') a w:=fun fc aF h ay=>by
   refine wp_mono (r5 bs fc K a w ρ h ay) fun e cf w' b5=> ?_;obtain⟨cg,rfl,aE⟩:=b5;exact⟨cg,rfl,aE.weaken (by rw[aF];exact Fr.refl _ _ _) (fun t aw=>⟨(ha t aw).1,rfl⟩) rfl fun _ _ h=>h⟩
  have VL:∀fc,fc.I=S.I->gT E y bs fc K->eA N ρ fc.tm fc.I a w->y.wp P (fun e cf w'=>∃cg:ht,e=cg.to/\m7 N ρ S.I a w (Code.eI (.cond c x y)) (fun tm I=>K cg ⟨tm,I⟩) cf w') a w:=fun fc aF h ay=>by
   refine wp_mono (r6 bs fc K a w ρ h ay) fun e cf w' b5=> ?_;obtain⟨cg,rfl,aE⟩:=b5;exact⟨cg,rfl,aE.weaken (by rw[aF];exact Fr.refl _ _ _) (fun t aw=>⟨(ha t aw).2,rfl⟩) rfl fun _ _ h=>h⟩
  split at h
  ·rename_i he;rw[he]at cR;exact wp_cond_true cR (tR S rfl h ay)
  ·rename_i he;rw[he]at cR;exact wp_cond_false cR (VL S rfl h ay)
  ·rename_i b he;rw[he]at cR;have ah:=mM cR;split at h
   ·rename_i t;have hJ:=DE ay t ah
    cases b with
    |true=>exact wp_cond_true ah (tR ⟨cK S.tm t .bt,S.I⟩ rfl (h.1 rfl) hJ)
    |false=>exact wp_cond_false ah (VL ⟨cK S.tm t .bf,S.I⟩ rfl (h.2 rfl) hJ)
   ·exact h.elim
  ·exact h.elim
 |block id c bI=>
  intro bs S K a w ρ h ay;unfold gT at h;refine wp_block (wp_mono (bI id S _ a w ρ h ay) fun e cf w' b5=> ?_);obtain⟨cg,rfl,aE⟩:=b5
  cases cg with
  |normal=>exact⟨.normal,rfl,aE⟩
  |goto l=>exact⟨.goto l,rfl,aE⟩
  |ret=>exact⟨.ret,rfl,aE⟩
  |exit i=>
   simp only at aE;show(if i=id then _ else _);split
   ·rename_i hi;subst hi;simp only[aqx]at aE;exact⟨.normal,rfl,aE⟩
   ·rename_i hi
    have:Nat.beq i id=false:=by
     cases ah:Nat.beq i id with
     |false=>rfl
     |true=>exact absurd (apC ah) hi
    simp only[this]at aE;exact⟨.exit i,rfl,aE⟩
 |loop c bI=>
  intro bs S K a w ρ h ay;unfold gT at h;simp only at h;obtain⟨aQ,m,bc,ab⟩:=h;obtain⟨iz,eZ,tB⟩:=um (E.loops bs).conv S ρ ay
  obtain⟨b4,k6,eo,eN,rZ⟩:=Ce (fun _=>false) _ _ eZ eZ (Fr.refl _ _ _) (fun _ _=>rfl) rfl bc
  refine G1 (fun x cf w'=>ie.app _ aQ x/\∃ρ',eA N ρ' (lD (E.loops bs) (iI (E.loops bs).conv S) x).tm (lD (E.loops bs) (iI (E.loops bs).conv S) x).I cf w'/\
   Fr iz (iI (E.loops bs).conv S).I w ρ' (lD (E.loops bs) (iI (E.loops bs).conv S) x).I w'/\(∀t,Code.eI c t=false->cf.tmps.getD t undef=a.tmps.getD t undef)/\cf.tmps.size=a.tmps.size)
   (ie.app _ m) b4 ⟨k6,eo,eN,rZ,fun _ _=>rfl,rfl⟩ ?_
  rintro x a1 w1 ⟨fl,dF,lP,r0,j9,cx⟩;refine wp_mono (bI bs _ _ a1 w1 dF (Cr _ _ ab x fl) lP) fun e a2 dd b5=> ?_;obtain⟨cg,rfl,aE⟩:=b5
  have hw:∀t,Code.eI (.loop c) t=false->Code.eI c t=false/\a1.tmps.getD t undef=a.tmps.getD t undef:=fun t aw=>⟨aw,j9 t aw⟩
  cases cg with
  |normal=>
   obtain⟨UA,TA,akb,aY,bj,bG⟩:=aE.ex;obtain⟨g1,g2⟩:=yQ (E.loops bs).conv ⟨UA,TA⟩ akb bj
   obtain⟨y,bo,Kq,Kr,FW⟩:=Ce (S:=mS (E.loops bs).conv ⟨UA,TA⟩) (Code.eI c) _ _ eZ g1 ((r0.trans bG).trans g2) (fun t aw=>(aE.same t aw).trans (j9 t aw)) (aE.an.trans cx) aY;exact⟨y,⟨bo.1,Kq,Kr,((r0.trans bG).trans g2).trans FW,fun t aw=>(aE.same t aw).trans (j9 t aw),aE.an.trans cx⟩,bo.2⟩
  |exit i=>exact⟨.exit i,rfl,aE.weaken (tB.trans r0) hw cx fun _ _ h=>h⟩
  |goto l=>exact⟨.goto l,rfl,aE.weaken (tB.trans r0) hw cx fun _ _ h=>h⟩
  |ret=>exact⟨.ret,rfl,aE.weaken (tB.trans r0) hw cx fun _ _ h=>h⟩
 |scope c bI=>
  intro bs S K a w ρ h ay;unfold gT at h;refine wp_scope_straight (wp_mono (bI bs S _ a w ρ h ay) fun e cf w' b5=> ?_);obtain⟨cg,rfl,aE⟩:=b5
  cases cg with
  |normal=>exact⟨.normal,rfl,aE⟩
  |exit i=>exact⟨.exit i,rfl,aE⟩
  |ret=>exact⟨.ret,rfl,aE⟩
  |goto l=>
   obtain⟨_,_,_,k,_⟩:=aE.ex;exact k.elim
 |_=>intro bs S K a w ρ h ay;exact h.elim
end
end Go.ak
end
section
namespace Go.ak
def sD:List aZ->R->Bool
 |[_],v=>v.plain
 |_, .tup l=>ed R.plain l
 |_,_=>false
def mj (ts:List aZ)(K:R->Prop):R->aD->Prop:=fun r I=>match sD ts (mb I ts r)with|true=>K (mb I ts r)|false=>False
theorem OA {ps:List aZ}{T:List R->(R->Prop)->Prop}(h:k7 T):hy (iJ ps T):=by
 refine⟨fun args I K K' ag bp=> ?_,fun args I K bp=> ?_⟩
 ·unfold iJ at bp⊢;split
  ·rename_i ab ad;rw[ab,ad]at bp;exact h.1 _ _ _ (fun r=>ag r _) bp
  ·rename_i aj;split at bp
   ·rename_i ab ad;exact(aj ab ad).elim
   ·exact bp
 ·unfold iJ at bp;split at bp
  ·obtain⟨r,ao⟩:=h.2 _ _ bp;exact⟨r,_,ao⟩
  ·exact bp.elim
section
variable {N:Nat->Prop} {ρ:List Loc} {I:aD} {w:World}
def xk (id:Nat):R->Prop
 | .vec i=>i=id
 | .agg l=>∃i,i<l.length/\l.getD i .un= .vec id
 |_=>False
theorem N1 (I:aD)(id i:Nat):ae.at (e_ I id) i=ae.at I i:=by
 unfold e_;rw[eE,gG];split
 ·rename_i e;rw[e.1]
 ·rfl
theorem B8 (I:aD)(id i:Nat)(h:i=id\/cz I i=true):cz (e_ I id) i=true:=by
 unfold e_;rw[eE,h9];split
 ·rfl
 ·rename_i e;rcases h with rfl|h
  ·simp only[true_and,Nat.not_lt]at e;simp only[cz,dW,apA];rw[aqc e];rfl
  ·exact h
theorem M_ (h:cw N ρ I w)(id:Nat):cv N ρ I w ρ (e_ I id) w:=by
 unfold e_;rw[eE];exact cv.shut h id
theorem NH:∀(l:List R) (I:aD),cw N ρ I w->cv N ρ I w ρ (uF I l) w/\(∀i,ae.at (uF I l) i=ae.at I i)/\(∀i,cz I i=true->cz (uF I l) i=true)/\
 ∀j id,j<l.length->l.getD j .un= .vec id->cz (uF I l) id=true
 |[],I,h=>⟨cv.refl h,fun _=>rfl,fun _ h=>h,fun j id aI=>by simp at aI⟩
 |v::aH,I,h=>by
  have aO:cv N ρ I w ρ (lA I v) w/\(∀i,ae.at (lA I v) i=ae.at I i)/\(∀i,cz I i=true->cz (lA I v) i=true)/\∀id,v= .vec id->cz (lA I v) id=true:=by
   cases v with
   |vec id=>exact⟨M_ h id,N1 I id,fun i hi=>B8 I id i (.inr hi),fun j8 e=>by cases e;exact B8 I id id (.inl rfl)⟩
   |_=>exact⟨cv.refl h,fun _=>rfl,fun _ h=>h,fun id e=>by cases e⟩
  obtain⟨ab,ad,aA,ba⟩:=aO;obtain⟨aY,bj,bG,di⟩:=NH aH (lA I v) ab.rel;refine⟨ab.trans aY,fun i=>(bj i).trans (ad i),fun i hi=>bG i (aA i hi),fun j id aI aO=> ?_⟩
  cases j with
  |zero=>exact bG id (ba id (by simpa using aO))
  |succ j=>exact di j id (by simpa using aI) (by simpa using aO)
theorem YO (h:cw N ρ I w)(v:R):cv N ρ I w ρ (freeze I v) w/\(∀i,ae.at (freeze I v) i=ae.at I i)/\(∀i,cz I i=true->cz (freeze I v) i=true)/\
 ∀id,xk id v->cz (freeze I v) id=true:=by
 cases v with
 |vec id=>exact⟨M_ h id,N1 I id,fun i hi=>B8 I id i (.inr hi),fun j8 e=>by cases e;exact B8 I id id (.inl rfl)⟩
 |agg l=>
  obtain⟨ab,ad,aA,ba⟩:=NH l I h;exact⟨ab,ad,aA,fun id ⟨i,hi,e⟩=>ba i id hi e⟩
 |_=>exact⟨cv.refl h,fun _=>rfl,fun _ h=>h,fun id e=>e.elim⟩
theorem oS:∀(l:List R) (I:aD),cw N ρ I w->cv N ρ I w ρ (b_ I l) w/\(∀i,ae.at (b_ I l) i=ae.at I i)/\(∀i,cz I i=true->cz (b_ I l) i=true)/\
 ∀j id,j<l.length->xk id (l.getD j .un)->cz (b_ I l) id=true
 |[],I,h=>⟨cv.refl h,fun _=>rfl,fun _ h=>h,fun j id aI=>by simp at aI⟩
 |v::aH,I,h=>by
  obtain⟨ab,ad,aA,ba⟩:=YO h v;obtain⟨aY,bj,bG,di⟩:=oS aH (freeze I v) ab.rel;refine⟨ab.trans aY,fun i=>(bj i).trans (ad i),fun i hi=>bG i (aA i hi),fun j id aI aO=> ?_⟩
  cases j with
  |zero=>exact bG id (ba id (by simpa using aO))
  |succ j=>exact di j id (by simpa using aI) (by simpa using aO)
theorem acH (h:cw N ρ I w){id:Nat}{av:Loc}(ax:ρ[id]? =some av)(aU:cz I id=true):
 bB (aK N ρ I) w (ae.at I id).data (.slice av.a (ae.at I id).len av.cap):=by
 cases aF:ae.at I id with
 |af k l=>have:=q5 h ax aU (t:= .aG (.cp k)) (by rw[aF];exact jD.2 rfl);rw[aF]at this;exact this
 |ar an l=>have:=q5 h ax aU (t:= .aG (.dK an)) (by rw[aF];exact aqx an);rw[aF]at this;exact this
 |_=>exact .undef _ rfl
theorem N3 (h:cw N ρ I w){ee:aD}(cR:∀i,ae.at I i=ae.at ee i)(s:cb){t:R}{u:Value}(aw:eJ (aK N ρ I) w ρ I t u)(aU:∀id,t= .vec id->cz I id=true):
 eJ (aK N ρ I) w ρ I (s.norm ee t) u:=by
 have vec:∀id,t= .vec id->eJ (aK N ρ I) w ρ I (.d (ae.at ee id).data) u:=fun id e=>by
  subst e;obtain⟨av,ax,hu,_⟩:=aw;rw[hu,<-cR];exact acH h ax (aU id rfl)
 unfold cb.norm;split
 ·obtain⟨a,rfl⟩:=aw;exact .jt _ _ _
 ·exact vec _ rfl
 ·obtain⟨a,rfl⟩:=aw;exact .kS _ _ _
 ·exact vec _ rfl
 ·have aw:u= .bool true:=aw;subst aw;exact .bool true
 ·have aw:u= .bool false:=aw;subst aw;exact .bool false
 ·exact aw
theorem Pn (ee:aD):∀(cs:List cb) (aH:List R) (i:Nat),i<aH.length->(iN ee cs aH).getD i .un=aH.getD i .un\/∃s:cb,(iN ee cs aH).getD i .un=s.norm ee (aH.getD i .un)
 |[],aH,i,h=>by cases aH<;>exact .inl rfl
 |s::dN,[],i,h=>by simp at h
 |s::dN,v::aH,0,h=> .inr ⟨s,rfl⟩
 |s::dN,v::aH,i+1,h=>by
  have:=Pn ee dN aH i (by simpa using h);simpa[iN]using this
theorem Na (h:cw N ρ I w){ee:aD}(cR:∀i,ae.at I i=ae.at ee i)(cs:List cb){l:List R}{u:Value}(aw:iv (aK N ρ I) w ρ I (.agg l) u)(aU:∀id,xk id (.agg l)->cz I id=true):
 iv (aK N ρ I) w ρ I (.agg (iN ee cs l)) u:=by
 obtain⟨a,ab,ad,aA⟩:=aw;refine⟨a,ab,by rw[yO];exact ad,fun i hi=> ?_⟩;rw[yO]at hi;rcases Pn ee cs l i hi with e|⟨s,e⟩
 ·rw[e];exact aA i hi
 ·rw[e];exact N3 h cR s (aA i hi) fun id dM=>aU id ⟨i,hi,dM⟩
theorem Zz (h:cw N ρ I w){ee:aD}(cR:∀i,ae.at I i=ae.at ee i)(t:aZ){v:R}{u:Value}(aw:iv (aK N ρ I) w ρ I v u)(aU:∀id,xk id v->cz I id=true):
 iv (aK N ρ I) w ρ I (t.norm ee v) u:=by
 cases t with
 |aG s=>
  cases v with
  |agg l=>cases s<;>exact aw
  |rw r=>cases s<;>exact aw
  |tup l=>exact aw.elim
  |_=>exact .c7 (N3 h cR s aw fun id e=>aU id (by rw[e];rfl))
 |struct bW cs=>
  cases v with
  |agg l=>exact Na h cR cs aw aU
  |_=>exact aw
 |arr n e cs=>
  cases v with
  |agg l=>exact Na h cR cs aw aU
  |_=>exact aw
 |no=>cases v<;>exact aw
theorem oT {Z Z':Nat->Prop}{w w':World}{ρ ρ':List Loc}{I al:aD}{v:R}{u:Value}(aE:v.plain=true)(h:iv Z w ρ I v u)(ao:∀x u,bB Z w x u->bB Z' w' x u):
 iv Z' w' ρ' al v u:=h.mono ao fun id aB=>(Hg (id:=id) aE (by
  cases v with
  |tup l=>exact h.elim
  |_=>exact aB)).elim
theorem cv.more {w':World}(h:cw N ρ I w)(ab:w'.os=w.os)(ad:w'.tape=w.tape)(aA:w'.output=w.output)(ay:w.heap.size<=w'.heap.size)
 (ag:∀b,b<w.heap.size->w'.heap[b]? =w.heap[b]?):cv N ρ I w ρ I w':=by
 have cy:Fr ρ I w ρ I w':=⟨ab,ad,aA,ay,fun b ah _=>ag b ah,fun b ah=> .inl ah⟩;exact{cy with rel:=h.tp cy h.len (fun _ _ _ _ i _ _=>eQ.refl ρ I i) (fun i l ax=> .inl ⟨ax,rfl,id,fun b ah=>ag b (h.lt i l b ax ah)⟩),same:=eQ.refl ρ I}
end
theorem wE {tb:TypeId->b7}{tm:List R}{I:aD}:∀{rvs:List ResultVar},qc tb tm I rvs=true->lx tb tm I rvs=true/\jZ tb tm I rvs=[]
 |[],_=>⟨rfl,rfl⟩
 | .tmp t::r,h=>wE (rvs:=r) h
 | .cell a t::r,h=>by
  unfold qc at h;split at h
  ·rename_i id off v al ab ad;obtain⟨aY,bj⟩:=wE (rvs:=r) h;refine⟨by unfold lx;rw[ad,ab];exact aY, ?_⟩;show(match h2 (tb t).ty (b6 .un tm a) I with| .a8 s _ _=>ez s (jZ tb tm I r)|_=>jZ tb tm I r)=[];rw[ad];exact bj
  ·cases h
theorem B9 {P:Program}(E:bA)(c3:gn P E){fn:Func}{rvs:List ResultVar}(h:fn.results=rvs.toArray){N:Nat->Prop}{ρ:List Loc}{tm:List R}{I:aD}{a:Act}{w:World}
 (ay:eA N ρ tm I a w) (bh:lx E.tb tm I rvs=true) (qL:∀p∈jZ E.tb tm I rvs,p):
 ∃aH:List Value,(results fn a.tmps).run P w= .ok (if rvs.length=1 then aH.getD 0 undef else .tuple aH.toArray) w/\aH.length=rvs.length/\(gZ E.tb tm I rvs).length=rvs.length/\
  ∀i,bH (aK N ρ I) w ρ I ((gZ E.tb tm I rvs).getD i .un) (aH.getD i undef):=by
 have key:∀g:ResultVar->Sem Value,(∀t,g (.tmp t)=pure (a.tmps.getD t undef))->(∀x t,g (.cell x t)=do loadVar t (<-asAddr (a.tmps.getD x undef)))->
  ∀rvs:List ResultVar,lx E.tb tm I rvs=true->(∀p∈jZ E.tb tm I rvs,p)->∃aH:List Value,(rvs.mapM g).run P w= .ok aH w/\aH.length=rvs.length/\(gZ E.tb tm I rvs).length=rvs.length/\
   ∀i,bH (aK N ρ I) w ρ I ((gZ E.tb tm I rvs).getD i .un) (aH.getD i undef):=by
  intro g g1 g2 rvs
  induction rvs with
  |nil=>exact fun _ _=>⟨[],by simp,rfl,rfl,fun i=>by show bH _ _ _ _ (([]:List R).getD i .un) _;simpa using bH.un⟩
  |cons r rs bI=>
   intro bh qL
   have a_:∃u,(g r).run P w= .ok u w/\∃x,gZ E.tb tm I (r::rs)=x::gZ E.tb tm I rs/\bH (aK N ρ I) w ρ I x u/\lx E.tb tm I rs=true/\∀p∈jZ E.tb tm I rs,p:=by
    cases r with
    |tmp t=>exact⟨_,by rw[g1];rfl,_,rfl,by rw[dW];exact ay.d_.at_ t,bh,qL⟩
    |cell x t=>
     have run:∀s v al,h2 (E.tb t).ty (b6 .un tm x) I= .a8 s v al->(∃b off,a.tmps.getD x undef= .pointer (some ⟨b,off,none⟩))->lx E.tb tm I rs=true->
      ∃u,(g (.cell x t)).run P w= .ok u w/\∃y,gZ E.tb tm I (.cell x t::rs)=y::gZ E.tb tm I rs/\bH (aK N ρ I) w ρ I y u/\lx E.tb tm I rs=true/\∀p∈jZ E.tb tm I rs,p:=fun s v al ax ⟨b,off,hu⟩ bh=>by
      have akc:jZ E.tb tm I (.cell x t::rs)=s++jZ E.tb tm I rs:=by
       show(match h2 (E.tb t).ty (b6 .un tm x) I with| .a8 s _ _=>ez s (jZ E.tb tm I rs)|_=>jZ E.tb tm I rs)=_;rw[ax,<-fC]
      rw[akc]at qL;obtain⟨u,_,bj,bG⟩:=G7 (c3.ty t) ay.eG (op:= .tmp x) ay.d_ (by rw[show aN tm (.tmp x)=b6 .un tm x from rfl];exact ax) (fun p aE=>qL p (List.mem_append_left _ aE));refine⟨u, ?_,v, ?_,bG,bh,fun p aE=>qL p (List.mem_append_right _ aE)⟩
      ·rw[g2,hu];rw[show a.eval (.tmp x)=a.tmps.getD x undef from rfl,hu]at bj;simpa[Instr.loadAt,Instr.sureAddr,asAddr]using bj
      ·show(match h2 (E.tb t).ty (b6 .un tm x) I with| .a8 _ v _=>v|_=> .any)::_=_;rw[ax]
     have pw:=ay.d_.at_ x;rw[<-dW]at pw;unfold lx at bh;split at bh
     ·rename_i id off s v al aj ax;rw[aj]at pw;obtain⟨av,b,_,_,_,hu⟩:=pw;exact run _ _ _ ax ⟨_,_,hu⟩ bh
     ·rename_i id q off s v al aj ax;rw[aj]at pw;obtain⟨av,b,_,_,_,hu,_⟩:=pw;exact run _ _ _ ax ⟨_,_,hu⟩ bh
     ·cases bh
   obtain⟨u,ab,x,ad,aA,ba,bJ⟩:=a_;obtain⟨aH,i1,i2,i3,i4⟩:=bI ba bJ;refine⟨u::aH, ?_,by simp[i2],by rw[ad];simp[i3],fun i=> ?_⟩
   ·simp[List.mapM_cons,ab,i1]
   ·rw[ad]
    cases i with
    |zero=>exact aA
    |succ i=>simpa using i4 i
 let g:ResultVar->Sem Value:=fun r=>match r with| .tmp t=>pure (a.tmps.getD t undef)| .cell x t=>do loadVar t (<-asAddr (a.tmps.getD x undef))
 have e:results fn a.tmps=(do let aH<-fn.results.mapM g;pure (if h:aH.size=1 then aH[0]else .tuple aH)):=by
  unfold results
  rfl
 obtain⟨aH,ab,ad,aA,ba⟩:=key g (fun _=>rfl) (fun _ _=>rfl) rvs bh qL;refine⟨aH, ?_,ad,aA,ba⟩;rw[e,h,List.mapM_toArray];simp only[Sem.run_bind,Sem.run_map,ab,Result.andThen_ok]
 match aH,rvs,ad with
 |[],[],_=>rfl
 |[u],[_],_=>rfl
 |_::_::_,_::_::_,_=>
  rw[dif_neg (by simp),apy (by simp)];rfl
theorem mR {α:Type}{f:α->Bool}{l:List α}(h:ed f l=true)(d:α)(i:Nat)(hi:i<l.length):f (l.getD i d)=true:=by
 rw[fD,apR]at h;have:l.getD i d=l[i]:=by simp[apA,hi]
 rw[this];exact h _ (aqA hi)
theorem pZ (I:aD):∀(ts:List aZ) (aH:List R),ts.length=aH.length->(aZ.eF I ts aH).length=aH.length
 |[],[],_=>rfl
 |[],_::_,h=>by simp at h
 |_::_,[],h=>by simp at h
 |t::ts,v::aH,h=>aqd (·+1) (pZ I ts aH (by simpa using h))
theorem p0 (I:aD):∀(ts:List aZ) (aH:List R),ts.length=aH.length->∀i,i<aH.length->∃t:aZ,(aZ.eF I ts aH).getD i .un=t.norm I (aH.getD i .un)
 |[],[],_,i,hi=>by simp at hi
 |[],_::_,h,_,_=>by simp at h
 |_::_,[],h,_,_=>by simp at h
 |t::ts,v::aH,h,0,_=>⟨t,rfl⟩
 |t::ts,v::aH,h,i+1,hi=>by
  obtain⟨t',e⟩:=p0 I ts aH (by simpa using h) i (by simpa using hi);exact⟨t',by simpa[aZ.eF]using e⟩
theorem acI (I:aD)(t:aZ)(l:List R):(t.norm I (.tup l))= .tup l:=by
 cases t with
 |aG s=>cases s<;>rfl
 |_=>rfl
theorem oU {N:Nat->Prop}{ρ:List Loc}{I:aD}{w:World}(h:cw N ρ I w){ee:aD}(cR:∀i,ae.at I i=ae.at ee i)(t:aZ){v:R}{u:Value}(aE:(t.norm ee v).plain=true)
 (aw:bH (aK N ρ I) w ρ I v u) (aU:∀id,xk id v->cz I id=true):iv (aK N ρ I) w ρ I (t.norm ee v) u:=by
 refine Zz h cR t ?_ aU
 cases v with
 |tup l=>rw[acI]at aE;cases aE
 |_=>exact aw
section
variable {P:Program}
def iX (P:Program)(c:Code)(S:e9)(K:ht->e9->Prop):Prop:=
 ∀(N:Nat->Prop) (a:Act) (w:World) (ρ:List Loc),eA N ρ S.tm S.I a w->c.wp P (fun e cf w'=>∃cg:ht,e=cg.to/\m7 N ρ S.I a w (Code.eI c) (fun tm I=>K cg ⟨tm,I⟩) cf w') a w
def E6 (E:bA)(rvs:List ResultVar)(K:R->aD->Prop):ht->e9->Prop:=fun e S=>
 match e with
 | .normal| .ret=>(match lx E.tb S.tm S.I rvs with|true=>gI (jZ E.tb S.tm S.I rvs) (K (one (gZ E.tb S.tm S.I rvs)) S.I)|false=>False)
 |_=>False
theorem iX.of (E:bA)(c3:gn P E){c:Code}{bs:Nat}{S:e9}{K:ht->e9->Prop}(h:gT E c bs S K):iX P c S K:=fun _ a w ρ ay=>HH E c3 c bs S K a w ρ h ay
theorem N4 (E:bA)(c3:gn P E)
 {f:FuncId} {fn:Func} {c:Code} (aU:P.funcs[f]? =some fn) (ah:fn.body=some c) {rvs:List ResultVar} (ao:fn.results=rvs.toArray)
 {N:Nat->Prop} {ρ:List Loc} {I:aD} {w:World} {args:List R} {cn:Array Value} {K:R->aD->Prop} (h:iX P c ⟨pad fn.ntmps args,I⟩ (E6 E rvs K)) (aF:cw N ρ I w)
 (ax:args.length=cn.size) (aR:∀i,i<args.length->bH (aK N ρ I) w ρ I (args.getD i .un) (cn.getD i undef)):
 Calls P f cn w fun e w'=>∃(rs:List R) (al:aD) (ρ':List Loc) (aH:List Value),e= .returned (if rvs.length=1 then aH.getD 0 undef else .tuple aH.toArray)/\rs.length=rvs.length/\aH.length=rvs.length/\
  K (one rs) al/\cw N ρ' al w'/\Fr ρ I w ρ' al w'/\∀i,bH (aK N ρ' al) w' ρ' al (rs.getD i .un) (aH.getD i undef):=by
 refine calls_of_wp aU ah ?_
 have ay:eA N ρ (pad fn.ntmps args) I {tmps:=cn++Array.replicate (fn.ntmps-cn.size) undef,defers:=[]} w:=by
  refine⟨aF,⟨by rw[sW];simp[ax],fun t=> ?_⟩,rfl⟩;rw[sW]
  by_cases aw:t<args.length
  ·have az:(args++List.replicate (fn.ntmps-args.length) R.un).getD t .un=args.getD t .un:=by simp[apA,aqr aw]
   have aJ:(cn++Array.replicate (fn.ntmps-cn.size) undef).getD t undef=cn.getD t undef:=by simp[apH,ar2 (show t<cn.size by omega)]
   rw[az,aJ];exact aR t aw
  ·have az:(args++List.replicate (fn.ntmps-args.length) R.un).getD t .un= .un:=by
    rw[apA,aqG (by omega),aq3];split<;>rfl
   have aJ:(cn++Array.replicate (fn.ntmps-cn.size) undef).getD t undef=undef:=by
    rw[apH,Array.getElem?_append_right (by omega),Array.getElem?_replicate];split<;>rfl
   rw[az,aJ];exact bH.un
 refine wp_mono (h N _ w ρ ay) fun e cf w' b5=> ?_;obtain⟨cg,rfl,aE⟩:=b5;obtain⟨dL,al,ρ',aY,bj,bG⟩:=aE.ex
 have fin:(match lx E.tb dL al rvs with|true=>gI (jZ E.tb dL al rvs) (K (one (gZ E.tb dL al rvs)) al)|false=>False)->cf.defers=[]/\∃v,(results fn cf.tmps).run P w'= .ok v w'/\
  ∃(rs:List R) (al:aD) (ρ':List Loc) (aH:List Value),Ending.returned v= .returned (if rvs.length=1 then aH.getD 0 undef else .tuple aH.toArray)/\rs.length=rvs.length/\aH.length=rvs.length/\
  K (one rs) al/\cw N ρ' al w'/\Fr ρ I w ρ' al w'/\∀i,bH (aK N ρ' al) w' ρ' al (rs.getD i .un) (aH.getD i undef):=fun ag=>by
  split at ag;rotate_left
  ·exact ag.elim
  rename_i bh;rw[hk]at ag;obtain⟨qL,ag⟩:=ag;obtain⟨aH,dX,dU,dR,mH⟩:=B9 E c3 ao bj bh qL;exact⟨bj.hP,_,dX,_,al,ρ',aH,rfl,dR,dU,ag,bj.eG,bG,mH⟩
 cases cg with
 |normal=>exact fin aY
 |ret=>exact fin aY
 |_=>exact aY.elim
theorem yJ (E:bA)(c3:gn P E)
 {f:FuncId} {fn:Func} {c:Code} (aU:P.funcs[f]? =some fn) (ah:fn.body=some c) {rvs:List ResultVar} (ao:fn.results=rvs.toArray)
 {N:Nat->Prop} {ρ:List Loc} {I:aD} {w:World} {args:List R} {cn:Array Value} {K:R->aD->Prop} (h:mU E fn.ntmps rvs c args I K) (aF:cw N ρ I w)
 (ax:args.length=cn.size) (aR:∀i,i<args.length->bH (aK N ρ I) w ρ I (args.getD i .un) (cn.getD i undef)):
 Calls P f cn w fun e w'=>∃(rs:List R) (al:aD) (ρ':List Loc) (aH:List Value),e= .returned (if rvs.length=1 then aH.getD 0 undef else .tuple aH.toArray)/\rs.length=rvs.length/\aH.length=rvs.length/\
  K (one rs) al/\cw N ρ' al w'/\Fr ρ I w ρ' al w'/\∀i,bH (aK N ρ' al) w' ρ' al (rs.getD i .un) (aH.getD i undef):=by
 refine N4 E c3 aU ah ao (.of E c3 (bs:=1000000) ?_) aF ax aR;unfold mU at h;exact h
end
end Go.ak
end
section
namespace Go.ak
section
variable {P:Program}
theorem HI {f:FuncId}{fn:Func}{c:Code}(aU:P.funcs[f]? =some fn)(ah:fn.body=some c)(aB:(fn.name== "runtime.NumGoroutine")=false){rvs:List ResultVar}
 {ps ts:List aZ} (gU:ts.length=rvs.length) {T:List R->(R->Prop)->Prop}
 (fL:∀args K,T args K->∀(N:Nat->Prop) (w:World) (cn:Array Value),cw N [] [] w->args.length=cn.size->(∀i,i<args.length->bH (aK N [] []) w [] [] (args.getD i .un) (cn.getD i undef))->
   Calls P f cn w fun e w'=>∃(nq:Nat->Prop) (rs:List R) (al:aD) (ρ':List Loc) (aH:List Value),e= .returned (if rvs.length=1 then aH.getD 0 undef else .tuple aH.toArray)/\rs.length=rvs.length/\aH.length=rvs.length/\
    mj ts K (one rs) al/\(∀b,N b->nq b)/\cw nq ρ' al w'/\Fr [] [] w ρ' al w'/\∀i,bH (aK nq ρ' al) w' ρ' al (rs.getD i .un) (aH.getD i undef)):h1 P f (iJ ps T):=by
 refine⟨⟨fn,aU,by rw[ah];rfl,aB⟩, ?_⟩;intro N ρ I w args cn K h aF ax aR;unfold iJ at h;split at h;rotate_left
 ·exact h.elim
 rename_i ab ad;have hlen:ps.length=args.length:=by have:=apC ab;rwa [cI,cI]at this
 obtain⟨s1,s2,jo,lj⟩:=oS args I aF;have xl:=pZ I ps args hlen
 have hM:cw (aK N ρ (b_ I args)) [] [] w:=
  {len:=rfl
   e3:=fun b ah=>by
    rcases ah with ah|⟨i,av,az,aJ,_⟩
    ·exact aF.e3 b ah
    ·exact aF.lt i av b az aJ
   lt:=fun i av b e=>by simp at e
   inj:=fun i j li cA b e=>by simp at e
   fz:=fun i av b e=>by simp at e
   ob:=fun i av e=>by simp at e}
 have fR:∀i,i<(aZ.eF I ps args).length->bH (aK (aK N ρ (b_ I args)) [] []) w [] [] ((aZ.eF I ps args).getD i .un) (cn.getD i undef):=fun i hi=>by
  obtain⟨t,e⟩:=p0 I ps args hlen i (by omega);have aE:=mR ad .un i hi;rw[e]at aE⊢;have bJ:=oU s1.rel s2 t aE (s1.kd (aR i (by omega))) fun id aO=>lj i id (by omega) aO;refine .hn (oT aE bJ fun x u aj=>aj.mono fun b _ bm=>⟨rfl,fun db=> ?_⟩);rcases db with db|⟨j,av,az,_⟩
  ·exact bm db
  ·simp at az
 refine(fL _ _ h _ w cn hM (by omega) fR).mono ?_;rintro e w' ⟨nq,rs,al,ρ',aH,rfl,de,l2,ag,hQ,bM,cy,fs⟩;obtain⟨q1,cG,cV,gD⟩:=oS rs al bM;have hold:cv N ρ (b_ I args) w ρ (b_ I args) w':=cv.more s1.rel cy.os cy.tape cy.output cy.size fun b ah=>cy.aq b ah fun⟨i,av,az,_⟩=>by simp at az
 have s_:∀x u,bB (aK nq ρ' (b_ al rs)) w' x u->bB (aK N ρ (b_ I args)) w' x u:=fun x u aj=>
  aj.mono fun b _ bm=>⟨rfl,fun db=>bm (.inl (hQ b db))⟩
 unfold mj at ag;split at ag;rotate_left
 ·exact ag.elim
 rename_i ji;refine⟨_,_,ρ,_,rfl,ag,s1.trans hold, ?_⟩
 have TB:∀j id,j<rs.length->xk id (rs.getD j .un)->cz (b_ al rs) id=true:=gD
 by_cases ab:rvs.length=1
 ·rw[apz ab]
  match rs,aH,ts,(by omega:rs.length=1),(by omega:aH.length=1),(by omega:ts.length=1)with
  |[x],[u],[t],_,_,_=>
   have e:mb al [t] (one [x])=t.norm al x:=rfl;rw[e]at ji⊢;have aE:(t.norm al x).plain=true:=ji;exact .hn (oT aE (oU q1.rel cG t aE (q1.kd (fs 0)) fun id aO=>TB 0 id (by simp) aO) s_)
 ·rw[apy ab]
  have az:one rs= .tup rs:=by
   match rs,de with
   |[],_=>rfl
   |[x],de=>exact absurd de.symm ab
   |_::_::_,_=>rfl
  have aJ:∀l,mb al ts (.tup l)= .tup (aZ.eF al ts l):=fun l=>by
   match ts,gU with
   |[],_=>rfl
   |[x],gU=>exact absurd gU.symm ab
   |_::_::_,_=>rfl
  have bX:∀l,sD ts (.tup l)=ed R.plain l:=fun l=>by
   match ts,gU with
   |[],_=>rfl
   |[x],gU=>exact absurd gU.symm ab
   |_::_::_,_=>rfl
  rw[az,aJ]at ji⊢;rw[bX]at ji;have jx:=pZ al ts rs (by omega);refine⟨aH.toArray,rfl,by rw[jx];simp;omega,fun i hi=> ?_⟩;obtain⟨t,e⟩:=p0 al ts rs (by omega) i (by omega);have aE:=mR ji .un i hi;rw[e]at aE⊢;have:=oT (ρ':=ρ) (al:=b_ I args) aE (oU q1.rel cG t aE (q1.kd (fs i)) fun id aO=>TB i id (by omega) aO) s_;have cW:aH.toArray.getD i undef=aH.getD i undef:=by simp[apH,apA]
  rw[cW];exact this
theorem YP (E:bA)(c3:gn P E)
 {f:FuncId} {fn:Func} {c:Code} (aU:P.funcs[f]? =some fn) (ah:fn.body=some c) (aB:(fn.name== "runtime.NumGoroutine")=false) {rvs:List ResultVar} (ao:fn.results=rvs.toArray)
 {ps ts:List aZ} (gU:ts.length=rvs.length) {T:List R->(R->Prop)->Prop} (fL:∀args K,T args K->iX P c ⟨pad fn.ntmps args,[]⟩ (E6 E rvs (mj ts K))):h1 P f (iJ ps T):=
 HI aU ah aB gU fun args K h N w cn aF ax aR=>(N4 E c3 aU ah ao (fL args K h) aF ax aR).mono (by
  rintro e w' ⟨rs,al,ρ',aH,ab,de,l2,ag,bM,cy,fs⟩
  exact⟨N,rs,al,ρ',aH,ab,de,l2,ag,fun _ h=>h,bM,cy,fs⟩)
theorem ZA (E:bA)(c3:gn P E)
 {f:FuncId} {fn:Func} {c:Code} (aU:P.funcs[f]? =some fn) (ah:fn.body=some c) (aB:(fn.name== "runtime.NumGoroutine")=false) {rvs:List ResultVar} (ao:fn.results=rvs.toArray)
 {ps ts:List aZ} (gU:ts.length=rvs.length) {T:List R->(R->Prop)->Prop} (fL:∀args K,T args K->mU E fn.ntmps rvs c args [] (mj ts K)):h1 P f (iJ ps T):=
 HI aU ah aB gU fun args K h N w cn aF ax aR=>(yJ E c3 aU ah ao (fL args K h) aF ax aR).mono (by
  rintro e w' ⟨rs,al,ρ',aH,ab,de,l2,ag,bM,cy,fs⟩
  exact⟨N,rs,al,ρ',aH,ab,de,l2,ag,fun _ h=>h,bM,cy,fs⟩)
end
end Go.ak
end
