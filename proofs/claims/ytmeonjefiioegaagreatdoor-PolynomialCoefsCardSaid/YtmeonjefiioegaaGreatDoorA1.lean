/- Helpers for the statements: conditions under which code does what is wanted, and proofs that they suffice. Condition: none. -/
import Derived.Test.YtmeonjefiioegaaGreatDoorA0
section
namespace Go.al
open Go.WideMaps
section
variable {P:Program} {N:Nat->Prop} {ρ:List Loc} {I:aD} {w:World}
def rv (l:List Int):Value:= .agg ((l.map (Value.int .i64)).toArray)
theorem abp {a b:List Int}(h:rv a=rv b):a=b:=by
 unfold rv at h;injection h with h;have h:a.map (Value.int .i64)=b.map (Value.int .i64):=by simpa using h
 exact(List.map_inj_right (fun x y e=>by injection e)).1 h
theorem Qn {Z:Nat->Prop}{r:List R}{u:Value}(h:nU Z w r u)(ae:kc r):u=rv (r.map R.toInt):=by
 rw[Hw h fun x ai=>(ae x ai).1,rv,ap0];rfl
theorem mapM_some {α β:Type}{f:α->Option β}:∀{l:List α},(∀i∈l,∃y,f i=some y)->∃jI,l.mapM f=some jI
 |[],_=>⟨[],rfl⟩
 |x::r,h=>by
  obtain⟨y,bp⟩:=h x (by simp);obtain⟨jI,Jp⟩:=mapM_some (f:=f) (l:=r) fun i hi=>h i (by simp[hi]);exact⟨y::jI,by rw[List.mapM_cons,bp,Jp];rfl⟩
theorem Pg {hE q:TypeId}{n:Nat}(A:ArrKey P hE q n)(a_:P.underlying q=some (.int .i64))(cq:∃m,P.types.size=m+1){l:List Int}(ax:l.length=n)(ae:∀x∈l,-9223372036854775808<=x/\x<=9223372036854775807):
 ∃xM,keyOf P hE (rv l)=some xM:=by
 have aiX:=A.keyType cq;obtain⟨m,hm⟩:=cq;unfold keyOf;simp only[A.hu];rw[aoy (by simp[aiX,rv,Value.formed,A.hu,A.size,ax]),hm];unfold Program.keyLits;simp only[A.hu,rv,Value.cells];rw[aoy (by simp[A.size,ax])]
 obtain⟨jI,Jp⟩:=mapM_some (f:=fun i=>P.keyLits (m+1) q (((l.map (Value.int .i64)).toArray.toList.drop (i*P.cellsOf q)).take (P.cellsOf q))) (l:=List.range n) (fun i hi=>by
  have hi:i<l.length:=by rw[ax];simpa using hi
  have ai:=ae l[i] (apF hi)
  have aA:(((l.map (Value.int .i64)).toArray.toList.drop (i*P.cellsOf q)).take (P.cellsOf q))=[Value.int .i64 l[i]]:=by
   rw[A.one,ao6]
   have a8:(l.map (Value.int .i64)).drop i=Value.int .i64 l[i]::(l.map (Value.int .i64)).drop (i+1):=by
    rw[apU (by simpa using hi)];simp
   simp only[a8,List.take_succ_cons,List.take_zero]
  rw[aA];unfold Program.keyLits;rw[a_]
  have hw:(Lit.int .i64 l[i]).wf=true:=by
   simp only[Lit.wf,aoL,aoD];exact⟨ai.1,ai.2⟩
  exact⟨[.int .i64 l[i]],by simp[hw]⟩)
 rw[Jp];exact⟨_,rfl⟩
theorem x0 {n:Nat}{z:List R}{k:List Int}:∀{l:List (List R)},(∀r∈l,jf n r≠k)->du n z l k=z/\mR n l k=false/\∀key v,key.map R.toInt=k->mb n key v l=l++[key++v]
 |[],_=>⟨rfl,rfl,fun _ _ _=>rfl⟩
 |r::l,h=>by
  obtain⟨U,aa,az⟩:=x0 (n:=n) (z:=z) (k:=k) (l:=l) fun r an=>h r (by simp[an]);have bc:=h r (by simp);refine⟨by rw[du,aox bc,U],by rw[mR,aox bc,aa],fun key v ae=> ?_⟩;rw[mb,aox (by rw[ae];exact bc),az key v ae];rfl
theorem v8 {n:Nat}{z:List R}{k:List Int}:∀{l:List (List R)} {j:Nat} {r:List R},(l.map (jf n)).Nodup->l[j]? =some r->jf n r=k->
 du n z l k=r.drop n/\mR n l k=true/\∀key v,key.map R.toInt=k->mb n key v l=l.set j (key++v)
 |[],j,r,_,h,_=>by simp at h
 |x::l,0,r,_,h,ae=>by
  obtain rfl:x=r:=by simpa using h
  exact⟨by rw[du,aoy ae],by rw[mR,aoy ae],fun key v e=>by rw[mb,aoy (by rw[e];exact ae)];rfl⟩
 |x::l,j+1,r,a8,h,ae=>by
  have h:l[j]? =some r:=by simpa using h
  simp only[aoX,List.nodup_cons]at a8;have ai:jf n x≠k:=fun e=>a8.1 (aoQ.2 ⟨r,ap2 h,by rw[ae,e]⟩);obtain⟨U,aa,az⟩:=v8 (z:=z) a8.2 h ae;refine⟨by rw[du,aox ai,U],by rw[mR,aox ai,aa],fun key v e=> ?_⟩;rw[mb,aox (by rw[e];exact ai),az key v e];rfl
theorem G6 {tb:TypeId->b7}{t:TypeId}(h:sE P tb t=true){n:Nat}{hE e:TypeId}(hm:(tb t).mp=some (n,hE,e)):
 ∃q,P.underlying t=some (.map hE e)/\ArrKey P hE q n/\P.underlying q=some (.int .i64)/\(∃m,P.types.size=m+1)/\uG (tb e).ty=true/\0<(tb e).ty.size/\∃g,P.info? e=some g/\IK (tb e).ty g.zero=true:=by
 unfold sE at h;rw[hm]at h;simp only at h;split at h
 ·rename_i k v m q hu ae;simp only[aoL]at h;obtain⟨⟨⟨⟨⟨⟨⟨⟨⟨U,aa⟩,az⟩,aW⟩,bA⟩,bZ⟩,fo⟩,dc⟩,ky⟩,Fh⟩:=h;obtain rfl:=aoz U;obtain rfl:=aoz aa;obtain rfl:=aoz az
  have a_:P.underlying q=some (.int .i64):=by
   split at bZ
   ·rename_i a_;exact a_
   ·cases bZ
  refine⟨q,hu,⟨ae,by unfold Program.plainKey;rw[a_],aoz aW,aoz bA⟩,a_, ?_,ky, ?_, ?_⟩
  ·have:0+1<=P.types.size:=aoY fo;exact⟨P.types.size-1,by omega⟩
  ·have:0+1<=(tb v).ty.size:=aoY dc;omega
  ·split at Fh
   ·rename_i g bh;exact⟨g,bh,Fh⟩
   ·cases Fh
 ·cases h
theorem GV {t:a7}(h:uG t=true):(∃s,t= .aB s)\/∃bY cs,t= .struct bY cs/\cs.length<=8/\cs.length≠1:=by
 cases t with
 |aB s=>exact .inl ⟨s,rfl⟩
 |struct bY cs=>
  refine .inr ⟨bY,cs,rfl, ?_⟩;unfold uG at h;simp only at h;split at h
  ·rename_i U aa;rw[cG]at U aa;constructor
   ·exact Nat.le_of_not_lt fun bG=>by
     have:Nat.blt 8 cs.length=true:=Nat.ble_eq_true_of_le bG;rw[this]at U;cases U
   ·intro e;rw[e]at aa;cases aa
  ·cases h
 |_=>cases h
theorem W2 {t:a7}(au:uG t=true){r:List R}{u:Value}(an:q2 (aN N ρ I) w r u)(ax:r.length=t.size){s:List Prop}{v:J}(h:CZ t r=some (s,v))(ay:∀p∈s,p):
 ig (aN N ρ I) w ρ I v u:=by
 rcases GV au with⟨st,rfl⟩|⟨bY,cs,rfl,dc,U⟩
 ·simp only[CZ,aoU,aoZ]at h;obtain⟨rfl,rfl⟩:=h;rcases an with⟨x,rfl,ai⟩|⟨dg,_⟩
  ·exact .c3 (tU ai (ay _ (by simp)))
  ·exact absurd ax dg
 ·have ax:r.length=cs.length:=by rw[ax];simp[a7.size,cG]
  have ns:(a7.struct bY cs).jB=false:=by
   cases ag:(a7.struct bY cs).jB with
   |false=>rfl
   |true=>
    have:8+1<=bU cs:=aoY ag;rw[cG]at this;omega
  simp only[CZ,ns,aoU,aoZ]at h;obtain⟨rfl,rfl⟩:=h;rcases an with⟨x,rfl,ai⟩|⟨_,a,rfl,a1,a2⟩
  ·simp at ax;omega
  ·obtain⟨e3,eY⟩:=GR (Z:=aN N ρ I) (w:=w) (ρ:=ρ) (I:=I) cs r 0 (fun m=>a.getD m undef) (fun m hm=>by rw[ao8];exact a2 m (by omega)) ay;exact⟨a,rfl,by omega,fun i hi=>eY i (by omega)⟩
theorem abq {t:a7}(au:uG t=true){v:J}{u:Value}{r:List R}(h:nZ I t v=some r)(aP:bL (aN N ρ I) w ρ I v u):r.length=t.size/\q2 (aN N ρ I) w r u:=by
 have jl:t≠ .no:=fun e=>by rw[e]at au;cases au
 obtain⟨U,aa,az⟩:=Gu (Z:=aN N ρ I) h jl aP;refine⟨U, ?_⟩;rcases GV au with⟨st,rfl⟩|⟨bY,cs,rfl,dc,dg⟩
 ·have ax:r.length=1:=U;obtain⟨x,rfl⟩:=List.length_eq_one_iff.1 ax
  have a8:v.ha=true:=by
   simp only[nZ]at h;split at h
   ·rename_i a8;exact a8
   ·cases h
  have aF:=(vO (Gr a8) aP).2;have:=az 0 (by simp[a7.size]);rw[yb aF]at this;exact .inl ⟨x,rfl,by simpa using this⟩
 ·have ax:r.length=cs.length:=by rw[U];simp[a7.size,cG]
  have s0:∃a,u= .agg a:=by
   simp only[nZ]at h;split at h
   ·obtain⟨a,rfl,_⟩:=aP;exact⟨a,rfl⟩
   ·obtain⟨a,rfl,_⟩:=aP;exact⟨a,rfl⟩
   ·cases h
  obtain⟨a,rfl⟩:=s0;refine .inr ⟨by omega,a,rfl, ?_,fun j aI=>az j (by omega)⟩;have:a.size=(a7.struct bY cs).size:=aa;omega
theorem abr {t:a7}{e:TypeId}(aP:uG t=true){g:TypeInfo}(bh:P.info? e=some g)(bq:IK t g.zero=true)(Z:Nat->Prop):
 ∃z,(zeroValue e).run P w= .ok z w/\q2 Z w (pY t) z/\(pY t).length=t.size:=by
 cases kn:g.zero with
 |none=>rw[kn]at bq;cases t<;>cases bq
 |some z=>
  rw[kn]at bq;refine⟨z,by simp[zeroValue,typeInfo,bh,kn], ?_⟩;rcases GV aP with⟨st,rfl⟩|⟨bY,cs,rfl,dc,dg⟩
  ·exact⟨.inl ⟨_,rfl,Mt bq⟩,rfl⟩
  ·have hlen:(pY (.struct bY cs)).length=cs.length:=by simp[pY,a7.cells,dM]
   cases z with
   |agg aH=>
    obtain⟨U,aa⟩:=qI (Z:=Z) (w:=w) (show mP cs aH.toList=true from bq);refine⟨.inr ⟨by omega,aH,rfl,by rw[hlen,<-U];simp,fun j aI=> ?_⟩,by rw[hlen];simp[a7.size,cG]⟩;have:=aa j (by omega);simpa[pY,a7.cells,aoH,aoA]using this
   |_=>cases bq
theorem XE {tb:TypeId->b7}{t:TypeId}(hW:sE P tb t=true)(bI:cv N ρ I w){cd:List Prop}{v:J}{aj:aD}(h:x3 tb (tb t) I= .aZ cd v aj):
 ∃u w' ρ',(Instr.makeMap t none).run P w= .ok u w'/\cn N ρ I w ρ' aj w'/\bL (aN N ρ' aj) w' ρ' aj v u:=by
 unfold x3 at h;split at h;rotate_left
 ·cases h
 rename_i n hE e hm;simp only[bS.aZ.injEq]at h;obtain⟨rfl,rfl,rfl⟩:=h;obtain⟨q,_,_,_,_,_,kg,_⟩:=G6 hW hm;rw[fV,cG];refine⟨_,_,_,by simp[Instr.makeMap],cn.alloc bI false (.map n (n+(tb e).ty.size) []) (.map #[] 0) 0 ⟨w.heap.size,#[],0,rfl,nR w _,rfl,by omega,by simp,fun i hi=>by simp at hi⟩, .c3 ⟨_,w.heap.size,qW bI _,rfl,rfl⟩⟩
theorem Ph {hE q:TypeId}{n:Nat}(A:ArrKey P hE q n)(a_:P.underlying q=some (.int .i64))(cq:∃m,P.types.size=m+1){Z:Nat->Prop}{es:Array MapEntry}{l:List (List R)}(hlen:es.size=l.length)
 (aiY:∀i,i<l.length->∃e,es[i]? =some e/\n<=(l.getD i []).length/\kc ((l.getD i []).take n)/\nU Z w ((l.getD i []).take n) e.key) {key:List R} {u:Value} (ae:kc key) (ax:key.length=n) (hu:nU Z w key u):
 (∀em,(Instr.checkKey em 10000 hE u).run P w= .ok () w)/\(Instr.keyThatStays u u).run P w= .ok u w/\
 (((Instr.findKey hE u es.toList).run P w= .ok none w/\∀r∈l,jf n r≠key.map R.toInt)\/
   ∃j e r,(Instr.findKey hE u es.toList).run P w= .ok (some (j,e.val)) w/\es[j]? =some e/\e.key=u/\l[j]? =some r/\jf n r=key.map R.toInt):=by
 have K:=A.law
 have zP:∀{r:List R},kc r->∀x∈r.map R.toInt,-9223372036854775808<=x/\x<=9223372036854775807:=fun h x ai=>by
  obtain⟨y,bp,rfl⟩:=aoQ.1 ai;exact(h y bp).2
 have jn:=Qn hu ae;obtain⟨xM,ta⟩:=Pg A a_ cq (l:=key.map R.toInt) (by simp[ax]) (zP ae);rw[<-jn]at ta
 have each:∀i (hi:i<l.length),∃e,es[i]? =some e/\e.key=rv (jf n l[i])/\∃xM,keyOf P hE e.key=some xM:=fun i hi=>by
  obtain⟨e,aA,aL,b3,cX⟩:=aiY i hi;have bh:l.getD i []=l[i]:=by simp[aoA,hi]
  rw[bh]at aL b3 cX;have:=Qn cX b3;refine⟨e,aA,this, ?_⟩;rw[this];exact Pg A a_ cq (by simp;omega) (zP b3)
 have keys:∀e∈es.toList,∃xM,keyOf P hE e.key=some xM:=fun e he=>by
  obtain⟨i,hi⟩:=List.mem_iff_getElem?.1 he;have oi:i<l.length:=by have:=(apr.1 hi).1;simp at this;omega
  obtain⟨b_,aA,_,b3⟩:=each i oi;rw[aqU,aA]at hi;obtain rfl:=aoK hi;exact b3
 refine⟨fun em=>K.check w em ta,K.stays w ta, ?_⟩;rcases K.find w ta es.toList keys with⟨U,aa⟩|⟨j,e,U,aa,az⟩
 ·refine .inl ⟨U,fun r an qn=> ?_⟩;obtain⟨i,hi,rfl⟩:=List.mem_iff_getElem.1 an;obtain⟨e,aA,aL,_⟩:=each i hi;exact aa e (ap2 (by rw[aqU];exact aA)) (by rw[aL,qn,jn])
 ·rw[aqU]at aa;have iH:j<l.length:=by have:=(aqV.1 aa).1;omega
  obtain⟨b_,aA,aL,_⟩:=each j iH;rw[aa]at aA;obtain rfl:=aoK aA;refine .inr ⟨j,e,l[j],U,aa,az,aoM iH, ?_⟩;rw[aL,jn]at az;exact abp az
theorem Yo {tb:TypeId->b7}{t:TypeId}(hW:sE P tb t=true)(bI:cv N ρ I w){m k:J}{AE nf:Value}(hm:bL (aN N ρ I) w ρ I m AE)(ae:bL (aN N ρ I) w ρ I k nf)
 {c:Bool} {cd:List Prop} {v:J} {aj:aD} (h:oM tb (tb t) m k c I= .aZ cd v aj) (ay:∀p∈cd,p):
 ∃u,aj=I/\(Instr.lookup t AE nf c).run P w= .ok u w/\bL (aN N ρ I) w ρ I v u:=by
 unfold oM at h;split at h;rotate_left
 ·cases h
 rename_i n hE e id Jq;split at h;rotate_left
 ·cases h
 rename_i n' ak l key aF IQ;split at h;rotate_left
 ·cases h
 rename_i bb av cq xr kY;simp only[bS.aZ.injEq]at h;obtain⟨rfl,rfl,rfl⟩:=h;obtain rfl:=aoz av;have cq:=aoz cq;have xr:=aoz xr;obtain⟨q,hu,A,a_,j2,nB,kg,g,bh,bq⟩:=G6 hW Jq;have gM:kc key:=ay _ (aqy ..);obtain⟨AD,a6,bj,bH,dO⟩:=vR IQ ae;have zQ:nU (aN N ρ I) w key nf:=⟨AD,a6,by omega,fun j aI=>dO j (by omega)⟩;obtain⟨aw,b,ax,ag,rfl⟩:=hm;have cf:=bI.ob id aw ax;rw[aF]at cf;obtain⟨ed,es,AF,bz,bl,cO,jJ,h_,qD⟩:=cf;rw[ag]at bz;obtain rfl:=aoK bz;obtain⟨z,k9,z2,z3⟩:=abr (w:=w) nB bh bq (aN N ρ I)
 obtain⟨f1,f2,f3⟩:=Ph A a_ j2 cO (Z:=aN N ρ I) (w:=w) (fun i hi=>by
  obtain⟨b_,aA,aL,b3,cX,_⟩:=qD i hi
  exact⟨b_,aA,by omega,b3,cX⟩) gM (by omega) zQ
 have jy:∃AG ok,(Instr.lookup t (.map (some b)) nf c).run P w= .ok (if c then .tuple #[AG, .bool ok]else AG) w/\ok=mR n' l (key.map R.toInt)/\
  q2 (aN N ρ I) w (du n' (pY (tb e).ty) l (key.map R.toInt)) AG/\(du n' (pY (tb e).ty) l (key.map R.toInt)).length=(tb e).ty.size:=by
  rcases f3 with⟨g1,g2⟩|⟨j,b_,r,g1,g2,g3,g4,g5⟩
  ·obtain⟨dC,dD,_⟩:=x0 (z:=pY (tb e).ty) g2;refine⟨z,false, ?_,dD.symm,by rw[dC];exact z2,by rw[dC];exact z3⟩;simp[Instr.lookup,run_underlying hu,MapKept.run_getObj_map bl,f1,g1,k9,Result.andThen]
  ·obtain⟨dC,dD,_⟩:=v8 (z:=pY (tb e).ty) h_ g4 g5;have iH:=(apr.1 g4).1;obtain⟨aL,q1,cE,cS,gx,dV⟩:=qD j iH;rw[g2]at q1;obtain rfl:=aoK q1;have pd:l.getD j []=r:=by rw[aoA,g4];rfl
   rw[pd]at cE dV;refine⟨b_.val,true, ?_,dD.symm,by rw[dC];exact dV,by rw[dC,apI];simp only[Nat.add_eq]at cq;omega⟩;simp[Instr.lookup,run_underlying hu,MapKept.run_getObj_map bl,f1,g1,Result.andThen]
 obtain⟨AG,ok,v1,v2,v3,v4⟩:=jy;have fJ:=W2 (ρ:=ρ) (I:=I) nB v3 v4 (s:=bb.1) (v:=bb.2) kY (fun p aE=>ay p (apQ _ aE));refine⟨_,rfl,v1, ?_⟩
 cases c with
 |false=>exact .hj fJ
 |true=>
  refine⟨#[AG, .bool ok],rfl,rfl,fun i hi=> ?_⟩
  match i,hi with
  |0,_=>exact fJ
  |1,_=>exact .c3 (by rw[v2];exact bB.bool _)
theorem Wo {tb:TypeId->b7}{t:TypeId}(hW:sE P tb t=true)(bI:cv N ρ I w){m k x:J}{AE nf tF:Value}(hm:bL (aN N ρ I) w ρ I m AE)(ae:bL (aN N ρ I) w ρ I k nf)(ai:bL (aN N ρ I) w ρ I x tF)
 {cd:List Prop} {v:J} {aj:aD} (h:sd tb (tb t) m k x I= .aZ cd v aj) (ay:∀p∈cd,p):
 ∃w',v= .un/\(Instr.mapUpdate t AE nf tF).run P w= .ok () w'/\cn N ρ I w ρ aj w':=by
 unfold sd at h;split at h;rotate_left
 ·cases h
 rename_i n hE e id Jq;split at h;rotate_left
 ·cases h
 rename_i n' ak l key r eo aF IQ rK;split at h;rotate_left
 ·cases h
 rename_i av cq xr;simp only[bS.aZ.injEq]at h;obtain⟨rfl,rfl,rfl⟩:=h;obtain rfl:=aoz av;have cq:=aoz cq;simp only[Nat.add_eq]at cq;have xr:=aoz xr;obtain⟨q,hu,A,a_,j2,nB,kg,g,bh,bq⟩:=G6 hW Jq;have gM:kc key:=ay _ (aqy ..);obtain⟨AD,a6,bj,bH,dO⟩:=vR IQ ae;have zQ:nU (aN N ρ I) w key nf:=⟨AD,a6,by omega,fun j aI=>dO j (by omega)⟩;obtain⟨je,lW⟩:=abq (w:=w) nB rK ai;obtain⟨aw,b,ax,ag,rfl⟩:=hm;have cf:=bI.ob id aw ax;rw[aF]at cf;obtain⟨ed,es,AF,bz,bl,cO,jJ,h_,qD⟩:=cf;rw[ag]at bz;obtain rfl:=aoK bz
 obtain⟨f1,f2,f3⟩:=Ph A a_ j2 cO (Z:=aN N ρ I) (w:=w) (fun i hi=>by
  obtain⟨b_,aA,aL,b3,cX,_⟩:=qD i hi
  exact⟨b_,aA,by omega,b3,cX⟩) gM (by omega) zQ
 have w_:b<w.heap.size:=bI.lt id aw b ax ag
 have fin:∀(u_:Array MapEntry) (zR:Nat) (ch:List (List R)),mb n' key r l=ch->(Instr.mapUpdate t (.map (some b)) nf tF).run P w= .ok () {w with heap:=w.heap.setIfInBounds b (.map u_ zR)}->
  u_.size=ch.length->(ch.map (jf n')).Nodup->(∀i,i<ch.length->∃e,u_[i]? =some e/\(ch.getD i []).length=ak/\kc ((ch.getD i []).take n')/\nU (aN N ρ I) w ((ch.getD i []).take n') e.key/\q2 (aN N ρ I) w ((ch.getD i []).drop n') e.val)->
  ∃w',J.un= .un/\(Instr.mapUpdate t (.map (some b)) nf tF).run P w= .ok () w'/\cn N ρ I w ρ (cQ I id (false, .map n' ak (mb n' key r l))) w':=by
  intro u_ zR ch iJ fq U aa az;rw[iJ,eI]
  have me:∀x,x≠b->({w with heap:=w.heap.setIfInBounds b (.map u_ zR)}:World).heap[x]? =w.heap[x]? :=fun x ai=>by
   simp[aqx,apk ai]
  have hm:∀x u,bB (aN N ρ I) w x u->bB (aN N ρ (I.set id (false, .map n' ak ch))) {w with heap:=w.heap.setIfInBounds b (.map u_ zR)} x u:=fun x u an=>
   an.mono fun di _ m7=>⟨me di fun aL=>m7 (.inr ⟨id,aw,ax,aL▸ag,eo⟩),fun dr=>m7 (by
    rcases dr with av|⟨i,l2,aW,bA,bZ⟩
    ·exact .inl av
    ·refine .inr ⟨i,l2,aW,bA, ?_⟩;rw[ij]at bZ
     by_cases aL:id=i
     ·subst aL;exact eo
     ·rwa [aox (by simp[aL])]at bZ)⟩
  refine⟨_,rfl,fq,cn.Re bI id aw b ax ag eo _ (by rw[aF];rfl) (by rw[aF];rfl) _ rfl rfl rfl (by simp) me ⟨b,u_,zR,ag,by simp[w_],U,jJ,aa,fun i hi=> ?_⟩⟩;obtain⟨aL,q1,cE,cS,gx,dV⟩:=az i hi;exact⟨aL,q1,cE,cS,gx.mono hm,dV.mono hm⟩
 have lH:(key++r).length=ak/\(key++r).take n'=key/\(key++r).drop n'=r:=by
  have ta:key.length=n':=by omega
  refine⟨by simp;omega,by rw[List.take_append_of_le_length (by omega),aqB (by omega)],by rw[List.drop_append_of_le_length (by omega),List.drop_of_length_le (by omega)];rfl⟩
 have Tn:jf n' (key++r)=key.map R.toInt:=by unfold jf;rw[lH.2.1]
 rcases f3 with⟨g1,g2⟩|⟨j,b_,mC,g1,g2,g3,g4,g5⟩
 ·obtain⟨_,_,dR⟩:=x0 (z:=[]) g2;refine fin (es.push ⟨nf,tF,AF⟩) (AF+1) (l++[key++r]) (dR key r rfl) ?_ (by simp[cO]) ?_ fun i hi=> ?_
  ·simp[Instr.mapUpdate,run_underlying hu,MapKept.run_getObj_map bl,f1,g1,MapKept.run_setObj_map _ bl,Result.andThen]
  ·rw[apd,aqG,List.nodup_append];refine⟨h_,by simp,fun a aR c aC=> ?_⟩;simp only[apo]at aC;subst aC;obtain⟨dD,va,rfl⟩:=aoQ.1 aR;rw[Tn];exact g2 dD va
  ·by_cases oi:i<l.length
   ·obtain⟨aL,q1,cE⟩:=qD i oi;have bh:(l++[key++r]).getD i []=l.getD i []:=by simp only[aoA];rw[apt oi]
    rw[bh];exact⟨aL,by rw[Array.getElem?_push,aox (by omega)];exact q1,cE⟩
   ·have aiZ:i=l.length:=by simp at hi;omega
    subst aiZ;have bh:(l++[key++r]).getD l.length []=key++r:=by simp[aoA]
    rw[bh,lH.2.1,lH.2.2];exact⟨⟨nf,tF,AF⟩,by rw[Array.getElem?_push,aoy cO.symm],lH.1,gM,zQ,lW⟩
 ·obtain⟨_,_,dR⟩:=v8 (z:=[]) h_ g4 g5;have iH:=(apr.1 g4).1;refine fin (es.modify j fun aL=>{aL with key:=nf,val:=tF}) AF (l.set j (key++r)) (dR key r rfl) ?_ (by simp[cO]) ?_ fun i hi=> ?_
  ·simp[Instr.mapUpdate,run_underlying hu,MapKept.run_getObj_map bl,f1,g1,g2,g3,f2,MapKept.run_setObj_map _ bl,Result.andThen]
  ·rw[aqn,Tn]
   have:(l.map (jf n')).set j (key.map R.toInt)=l.map (jf n'):=by
    apply List.ext_getElem?;intro i;rw[apj];split
    ·rename_i aL;subst aL;rw[aoy (by simpa using iH),apu,g4,apE,g5]
    ·rfl
   rw[this];exact h_
  ·have oi:i<l.length:=by simpa using hi
   obtain⟨aL,q1,cE⟩:=qD i oi
   by_cases vb:j=i
   ·subst vb;have bh:(l.set j (key++r)).getD j []=key++r:=by simp[aoA,iH]
    rw[bh,lH.2.1,lH.2.2];exact⟨{aL with key:=nf,val:=tF},by rw[aqH,aoy rfl,q1];rfl,lH.1,gM,zQ,lW⟩
   ·have bh:(l.set j (key++r)).getD i []=l.getD i []:=by simp only[aoA];rw[apj,aox vb]
    rw[bh];exact⟨aL,by rw[aqH,aox vb];exact q1,cE⟩
end
end Go.al
end
section
namespace Go.al
section
variable {P:Program} {N:Nat->Prop} {ρ:List Loc} {I:aD} {w:World}
theorem BW {Z:Nat->Prop}{v:J}{u:Value}(ae:w6 v=true)(h:eD Z w ρ I v u):u=wU v:=by
 cases v with
 |d x=>
  cases x with
  |int k n=>have h:bB Z w _ u:=h;cases h;rfl
  |bool b=>have h:bB Z w _ u:=h;cases h;rfl
  |_=>cases ae
 |bt=>exact h
 |bf=>exact h
 |_=>cases ae
theorem adb {Z:Nat->Prop}{v:J}{u:Value}(ae:xh v=true)(h:bL Z w ρ I v u):u=uR v:=by
 cases v with
 |agg l=>
  obtain⟨a,rfl,ay,an⟩:=h;have ae:eg w6 l=true:=ae;rw[fy,aoR]at ae;show Value.agg a=Value.agg (bE wU l).toArray
  congr 1
  apply Array.ext
  ·rw[dM];simpa using ay
  ·intro i U aa;have hi:i<l.length:=by omega
   have az:=BW (ae (l.getD i .un) (by simp[aoA,hi])) (an i hi);simp only[dM,List.getElem_toArray,List.getElem_map];simpa[aoH,aoA,U,hi]using az
 |d x=>exact BW (Z:=Z) (w:=w) (v:= .d x) (ρ:=ρ) (I:=I) ae h
 |bt=>exact BW (Z:=Z) (w:=w) (v:= .bt) (ρ:=ρ) (I:=I) rfl h
 |bf=>exact BW (Z:=Z) (w:=w) (v:= .bf) (ρ:=ρ) (I:=I) rfl h
 |_=>cases ae
theorem abt {Z:Nat->Prop}{bY:List J}{us:Array Value}(ae:eg xh bY=true)(ax:bY.length=us.toList.length)(h:∀i,i<bY.length->bL Z w ρ I (bY.getD i .un) (us.toList.getD i undef)):us=(bE uR bY).toArray:=by
 rw[fy,aoR]at ae;apply Array.ext
 ·rw[dM];simpa using ax.symm
 ·intro i U aa;have hi:i<bY.length:=by rw[ax];simpa using U
  have az:=adb (ae (bY.getD i .un) (by simp[aoA,hi])) (h i hi);simp only[dM,List.getElem_toArray,List.getElem_map];simpa[aoA,U,hi]using az
theorem W3 {s:TypeId}{i:b7}(hi:c1 P s i=true){bY:List (Nat×Nat×a7)}{cs:List cg}(h:i.ty= .struct bY cs)(f:Nat)(aU:f<bY.length)(n:Nat)(r:List R){u:Value}
 (hu:bL (aN N ρ I) w ρ I (.rw n r) u) (ax:fx i.ty f+(kF i.ty f).size<=n) {cd:List Prop} {v:J} {aj:aD}
 (he:(match kF i.ty f with
   | .aB s=>bS.aZ [s.p7 (r.getD (fx i.ty f) .undef)] (s.take (r.getD (fx i.ty f) .undef)) I
   |t'=>
    (match t'.jB with
    |true=> .aZ [] (.rw t'.size (lu r (fx i.ty f) t'.size n)) I
    |false=> .aZ (mY t'.cells r (fx i.ty f)).1 (.agg (mY t'.cells r (fx i.ty f)).2) I))= .aZ cd v aj) (ay:∀p∈cd,p):
 ∃cY,aj=I/\(Instr.field s u f).run P w= .ok cY w/\bL (aN N ρ I) w ρ I v cY:=by
 obtain⟨a,U,aa⟩:=xZ hi h;obtain⟨eh,g,a6,bj,bH,dO,fi,ho⟩:=GQ aa f aU;have s8:a[f]? =some eh:=by simpa using a6
 obtain⟨arr,rfl,aR,zL,an⟩:=hu;have IL:fx i.ty f=eh.offset:=by rw[h,fx,dT,<-bH]
 have b9:kF i.ty f=(bY.getD f (0,0, .no)).2.2:=by rw[h,kF,dT]
 rw[IL,b9]at ax he;obtain⟨d,jZ,h5⟩:=ho
 have So:∀m,m<g.size->eh.offset+g.size<=n->bB (aN N ρ I) w (r.getD (eh.offset+m) .undef) ((arr.extract eh.offset (eh.offset+g.size)).getD m undef):=fun m hm bh=>by
  have:=an (eh.offset+m) (by omega)
  have aA:(arr.extract eh.offset (eh.offset+g.size)).getD m undef=arr.getD (eh.offset+m) undef:=by
   rw[aoH,aoH,Array.getElem?_extract,aoy (by omega)]
  rw[aA];exact this
 have s0:∀lM,(bY.getD f (0,0, .no)).2.2.isAgg=true->(bY.getD f (0,0, .no)).2.2.cells=lM->(bY.getD f (0,0, .no)).2.2.size=lM.length->
  (match(bY.getD f (0,0, .no)).2.2.jB with
    |true=>bS.aZ [] (.rw (bY.getD f (0,0, .no)).2.2.size (lu r eh.offset (bY.getD f (0,0, .no)).2.2.size n)) I
    |false=> .aZ (mY (bY.getD f (0,0, .no)).2.2.cells r eh.offset).1 (.agg (mY (bY.getD f (0,0, .no)).2.2.cells r eh.offset).2) I)= .aZ cd v aj->
  ∃cY,aj=I/\(Instr.field s (.agg arr) f).run P w= .ok cY w/\bL (aN N ρ I) w ρ I v cY:=fun lM q1 cE cS he=>by
  rw[q1]at h5
  have fq:(Instr.field s (.agg arr) f).run P w= .ok (.agg (arr.extract eh.offset (eh.offset+g.size))) w:=by
   simp[Instr.field,underlying,U,s8,asAgg,part,qO jZ,h5,lh bj]
  split at he
  ·simp only[bS.aZ.injEq]at he;obtain⟨rfl,rfl,rfl⟩:=he;obtain⟨e3,eY⟩:=GP (j:=eh.offset) (n:=(bY.getD f (0,0, .no)).2.2.size) zL ax;refine⟨_,rfl,fq, .hj ⟨_,rfl,by rw[Array.size_extract];omega,e3,fun m hm=> ?_⟩⟩;rw[eY m hm];exact So m (by omega) (by omega)
  ·simp only[bS.aZ.injEq]at he;obtain⟨rfl,rfl,rfl⟩:=he;rw[cE]at ay⊢;obtain⟨e3,eY⟩:=GR (Z:=aN N ρ I) (w:=w) (ρ:=ρ) (I:=I) lM r eh.offset (fun m=>(arr.extract eh.offset (eh.offset+g.size)).getD m undef) (fun m hm=>So m (by omega) (by omega)) ay;exact⟨_,rfl,fq, .hj ⟨_,rfl,by rw[Array.size_extract];omega,fun m hm=>eY m (by omega)⟩⟩
 cases rk:(bY.getD f (0,0, .no)).2.2 with
 |aB st=>
  rw[rk]at ax h5 dO he;have bG:eh.offset<n:=by simp[a7.size]at ax;omega
  have jW:eh.offset<arr.size:=by omega
  simp only[bS.aZ.injEq]at he;obtain⟨rfl,rfl,rfl⟩:=he;refine⟨arr[eh.offset],rfl, ?_, ?_⟩
  ·simp[Instr.field,underlying,U,s8,asAgg,part,qO jZ,h5,a7.isAgg,jW]
  ·have:=an eh.offset bG;simp only[aoH,aqj jW,apA]at this;exact .c3 (tU this (ay _ (by simp)))
 |no=>
  rw[rk]at ax dO;simp[a7.size]at dO;omega
 |struct E9 lM=>rw[rk]at he s0;exact s0 lM rfl rfl (by simp[a7.size,cG]) he
 |arr n' b_ lM=>rw[rk]at he s0;exact s0 lM rfl rfl (by simp[a7.size,cG]) he
theorem W4 {s:TypeId}{i:b7}(hi:c1 P s i=true){f:Nat}{x:J}{u:Value}(ai:bL (aN N ρ I) w ρ I x u){cd:List Prop}{v:J}{aj:aD}
 (h:pR i.ty f x I= .aZ cd v aj) (ay:∀p∈cd,p):∃cY,aj=I/\(Instr.field s u f).run P w= .ok cY w/\bL (aN N ρ I) w ρ I v cY:=by
 unfold pR at h;split at h
 ·cases h
 ·rename_i ff
  obtain⟨bY,cs,b9,aU⟩:∃bY cs,i.ty= .struct bY cs/\f<bY.length:=by
   cases b9:i.ty with
   |struct bY cs=>
    rw[b9]at ff;have:f+1<=bU bY:=by simpa[su,Nat.blt]using ff
    rw[cG]at this;exact⟨bY,cs,rfl,by omega⟩
   |_=>rw[b9]at ff;simp[su]at ff
  split at h
  ·rename_i l;split at h
   ·rename_i hle;simp only[bS.aZ.injEq]at h;obtain⟨rfl,rfl,rfl⟩:=h;have hle:=aoY hle;rw[cG]at hle;obtain⟨u,U,aa⟩:=ZA (w:=w) hi b9 f aU l ai hle;exact⟨u,rfl,U,aa⟩
   ·cases h
  ·rename_i n r;split at h
   ·rename_i hle av;exact W3 hi b9 f aU n r ai (aoY hle) h ay
   ·cases h
  ·cases h
theorem Ct {tb:TypeId->b7}{t:TypeId}(h:pZ P tb t=true):sE P tb t=true/\yT P (tb t) t=true:=by
 unfold pZ at h;split at h
 ·rename_i U;exact⟨U,h⟩
 ·cases h
theorem ZO {tb:TypeId->b7}(bs:∀t,c1 P t (tb t)=true)(hW:∀t,pZ P tb t=true){o:Oper}{tm:List J}{a:Act}(bI:cv N ρ I w)(au:ek (aN N ρ I) w ρ I tm a.tmps)
 {cd:List Prop} {v:J} {aj:aD} (h:e0 tb o tm I= .aZ cd v aj) (ay:∀p∈cd,p):Good P N ρ I w (execOp a.eval o) v aj:=by
 unfold e0 at h;unfold execOp
 cases bQ:o.op with
 |move x=>
  simp only[bQ]at h⊢;simp only[bS.aZ.injEq]at h;obtain⟨rfl,rfl,rfl⟩:=h;exact .yU bI (eA au x)
 |assign x=>
  simp only[bQ]at h⊢;simp only[bS.aZ.injEq]at h;obtain⟨rfl,rfl,rfl⟩:=h;exact .yU bI (eA au x)
 |pick c x y=>
  simp only[bQ]at h⊢;obtain⟨b,rfl,ag,aP⟩:=Xv au h;refine⟨.value (if b then a.eval x else a.eval y),w,ρ,_, ?_, .inl rfl,cn.refl bI,aP⟩;rw[ag];cases b<;>rfl
 |alloc t=>
  simp only[bQ]at h⊢;obtain⟨u,w',ρ',U,aa,az⟩:=WY (bs t) bI h;exact nP U aa az rfl
 |box t x=>
  simp only[bQ]at h⊢;obtain⟨u,w',ρ',U,aa,az⟩:=Ym (P:=P) (t:=t) bI au h;exact nP U aa az rfl
 |build t bP=>
  simp only[bQ]at h⊢;obtain⟨u,rfl,U,aa⟩:=WZ (bs t) au bP h;exact iQ bI U aa rfl
 |buildSlice t n bP=>
  simp only[bQ]at h⊢;split at h
  ·rename_i k b9;split at h
   ·rename_i l ax av;obtain⟨u,w',ρ',U,aa,az⟩:=My (bs t) bI au bP n b9 ax (aoY av);unfold sA at h;split at h
    ·simp only[bS.aZ.injEq]at h;obtain⟨rfl,rfl,rfl⟩:=h;obtain⟨a6,bj⟩:=forget bI aa az (.inl ⟨k,l,rfl⟩);exact nP U a6 (v:= .d _) bj rfl
    ·simp only[bS.aZ.injEq]at h;obtain⟨rfl,rfl,rfl⟩:=h;rw[fV,cG];exact nP U aa az rfl
   ·cases h
  ·rename_i ak b9;split at h
   ·rename_i l ax av;obtain⟨u,w',ρ',U,aa,az⟩:=Gx (bs t) bI au bP n b9 ax (aoY av);unfold sA at h;split at h
    ·simp only[bS.aZ.injEq]at h;obtain⟨rfl,rfl,rfl⟩:=h;obtain⟨a6,bj⟩:=forget bI aa az (.inr ⟨ak,l,rfl⟩);exact nP U a6 (v:= .d _) bj rfl
    ·simp only[bS.aZ.injEq]at h;obtain⟨rfl,rfl,rfl⟩:=h;rw[fV,cG];exact nP U aa az rfl
   ·cases h
  ·cases h
 |load t p=>
  simp only[bQ]at h⊢;obtain⟨u,rfl,U,aa⟩:=GC (bs t) bI au h ay;exact iQ bI U aa rfl
 |store t p x=>
  simp only[bQ]at h⊢;obtain⟨w',rfl,U,aa⟩:=WX (bs t) bI au h ay;exact⟨.skip,w',ρ,undef,by simp[U], .inr ⟨rfl,rfl⟩,aa,bL.un⟩
 |nilCheck x=>
  simp only[bQ]at h⊢;have ai:=eA au x;split at h
  ·rename_i id j he;simp only[bS.aZ.injEq]at h;obtain⟨rfl,rfl,rfl⟩:=h;rw[he]at ai;have kZ:=ai;obtain⟨aw,b,U,aa,az,aW⟩:=ai;rw[aW]at kZ⊢;exact .yU bI kZ
  ·rename_i id n j he;simp only[bS.aZ.injEq]at h;obtain⟨rfl,rfl,rfl⟩:=h;rw[he]at ai;have kZ:=ai;obtain⟨aw,b,U,aa,az,aW,bA⟩:=ai;rw[aW]at kZ⊢;exact .yU bI kZ
  ·rename_i y n j he;simp only[bS.aZ.injEq]at h;obtain⟨rfl,rfl,rfl⟩:=h;rw[he]at ai;have kZ:=ai;obtain⟨b,off,cap,U,aa,az,aW⟩:=ai;rw[aW]at kZ⊢;exact .yU bI kZ
  ·cases h
 |binOp op t x y ty=>
  simp only[bQ]at h⊢;unfold yR at h;split at h
  ·obtain⟨u,rfl,U,aa⟩:=ZN (P:=P) (bs t) (Ct (hW t)).2 au h ay;exact iQ bI U aa rfl
  ·obtain⟨u,rfl,U,aa⟩:=Yi (P:=P) (bs t) au h ay;exact iQ bI U aa rfl
 |unOp op t x=>
  simp only[bQ]at h⊢;obtain⟨u,rfl,U,aa⟩:=Zx (P:=P) au h;exact iQ bI U aa rfl
 |convert src dst x=>
  simp only[bQ]at h⊢;obtain⟨u,rfl,U,aa⟩:=abo (bs src) (bs dst) bI au h ay;exact iQ bI U aa rfl
 |extract x i=>
  simp only[bQ]at h⊢;split at h
  ·rename_i l he;split at h
   ·rename_i bG;simp only[bS.aZ.injEq]at h;obtain⟨rfl,rfl,rfl⟩:=h;have bG:i+1<=bU l:=by simpa[Nat.blt]using bG
    rw[cG]at bG;obtain⟨u,U,aa⟩:=Xw (P:=P) au he bG;exact iQ bI U aa rfl
   ·cases h
  ·cases h
 |fieldAddr s x f=>
  simp only[bQ]at h⊢;split at h
  ·cases h
  ·rename_i ff;have ai:=eA au x
   obtain⟨bY,cs,b9,aU⟩:∃bY cs,(tb s).ty= .struct bY cs/\f<bY.length:=by
    cases b9:(tb s).ty with
    |struct bY cs=>
     rw[b9]at ff;have:f+1<=bU bY:=by simpa[su,Nat.blt]using ff
     rw[cG]at this;exact⟨bY,cs,rfl,by omega⟩
    |_=>rw[b9]at ff;simp[su]at ff
   have fq:=fun b o=>Xz (w:=w) (bs s) b9 f aU b o;split at h
   ·rename_i id off he;simp only[bS.aZ.injEq]at h;obtain⟨rfl,rfl,rfl⟩:=h;rw[he]at ai;obtain⟨aw,b,U,aa,az,aW⟩:=ai;refine iQ bI (by rw[aW];exact fq b off) ?_ rfl;exact .c3 ⟨aw,b,U,aa,az,rfl⟩
   ·rename_i id n j he;simp only[bS.aZ.injEq]at h;obtain⟨rfl,rfl,rfl⟩:=h;rw[he]at ai;obtain⟨aw,b,U,aa,az,aW,bA⟩:=ai;refine iQ bI (by rw[aW];exact fq b _) ?_ rfl;exact .c3 ⟨aw,b,U,aa,az,by rw[apy];rfl,bA⟩
   ·rename_i y n j he;simp only[bS.aZ.injEq]at h;obtain⟨rfl,rfl,rfl⟩:=h;rw[he]at ai;obtain⟨b,off,cap,U,aa,az,aW⟩:=ai;refine iQ bI (by rw[aW];exact fq b _) ?_ rfl;exact .c3 ⟨b,off,cap,U,aa,az,by rw[apy];rfl⟩
   ·cases h
 |field s x f=>
  simp only[bQ]at h⊢;obtain⟨u,rfl,U,aa⟩:=W4 (w:=w) (bs s) (eA au x) h ay;exact iQ bI U aa rfl
 |indexAddr t x i=>
  simp only[bQ]at h⊢;obtain⟨u,rfl,U,aa⟩:=Wk (bs t) bI au h ay;exact iQ bI U aa rfl
 |index t x i=>
  simp only[bQ]at h⊢;have ai:=eA au x;have hi:=eA au i;generalize aY tm x=ame at*;generalize aY tm i=ii at*;unfold ym at h;split at h
  ·rename_i k n;split at h
   ·rename_i l b9;simp only[bS.aZ.injEq]at h;obtain⟨rfl,rfl,rfl⟩:=h;have bc:0<=n:=ay _ (by simp);have U:n<(l.length:Int):=ay _ (by simp);obtain⟨s,hu,ax⟩:=tZ ai;have aA:=iS hi;have uT:=si (bs t) b9;have bG:n.toNat<s.data.size:=by rw[ax,aoF,apD]at U;omega
    refine iQ bI (u:= .int .u8 (s.data[n.toNat]).toNat) ?_ ?_ rfl
    ·rw[hu,aA]
     have bh:(if 0<=n then s[n.toNat]? else none)=some (s.data[n.toNat]):=by
      rw[aoy bc];have:n.toNat<s.size:=bG;rw[getElem?_pos s n.toNat this];rfl
     simp only[Instr.index,asIntOf,Sem.run_bind,Sem.run_pure,Result.andThen_ok,run_underlying uT,bh]
    ·rw[ax]
     have:((s.data.toList.map fun b=>(b.toNat:Int)).getD n.toNat 0)=((s.data[n.toNat]).toNat:Int):=by
      rw[aoA,apu,aqU,aqj bG];rfl
     rw[this];exact oN _ _
   ·rename_i m s _ z r b9;split at h
    ·rename_i bq;obtain rfl:=aoz bq;simp only[bS.aZ.injEq]at h;obtain⟨rfl,rfl,rfl⟩:=h;have bc:0<=n:=ay _ (by simp);have U:n<(z:Int):=ay _ (by simp);have aA:=iS hi;obtain⟨el,g,d,q1,cE,cS,gx,dV⟩:=Yj (bs t) b9;have cS:g.size=1:=cS;have dV:oX d=false:=dV;obtain⟨arr,hu,gb,jm,an⟩:=ai;have bG:n.toNat<arr.size:=by omega
     refine iQ bI (u:=arr[n.toNat]) ?_ ?_ rfl
     ·rw[hu,aA];simp[Instr.index,asIntOf,underlying,q1,bc,U,lh cE,cS,part,qO gx,dV,bG]
     ·have:=an n.toNat (by omega);simp only[aoH,aqj bG,apA]at this;exact .c3 (tU this (ay _ (by simp)))
    ·cases h
   ·cases h
  ·cases h
 |makeSlice t n c=>
  simp only[bQ]at h⊢;obtain⟨u,w',ρ',U,aa,az⟩:=XB (bs t) bI au h ay;exact nP U aa az rfl
 |slice t x lo hi dn=>
  simp only[bQ]at h⊢;obtain⟨u,ρ',U,aa,az⟩:=XD (bs t) bI au h ay;exact nP U aa az rfl
 |call c=>
  simp only[bQ]at h;split at h
  ·rename_i b aC;obtain⟨consts,he⟩:=Mz (a:=a) bQ aC;have:=Wn (P:=P) (N:=N) (ρ:=ρ) (w:=w) bs bI au h ay o.type consts;rw[<-he]at this;unfold execOp at this;rw[bQ]at this;exact this
  ·cases h
  ·unfold sv at h;split at h<;>cases h
  ·cases h
 |makeFunc fn first cap=>
  simp only[bQ]at h⊢;unfold yE at h;obtain⟨dh,U⟩:=HS au first
  obtain⟨l2,_⟩:=HS au cap;generalize bE (aY tm) first.toList=bY at h dh U
  generalize bE (aY tm) cap.toList=cs at h l2;split at h
  ·rename_i f
   have FV:cap.map a.eval=#[]:=by
    have:(cap.map a.eval).toList.length=0:=l2.symm;exact Array.eq_empty_of_size_eq_zero (by simpa using this)
   rw[FV];split at h
   ·simp only[bS.aZ.injEq]at h;obtain⟨rfl,rfl,rfl⟩:=h
    have xN:first.map a.eval=#[]:=by
     have:(first.map a.eval).toList.length=0:=dh.symm;exact Array.eq_empty_of_size_eq_zero (by simpa using this)
    rw[xN];exact iQ bI (u:= .func (.func f) #[] #[]) (v:= .fn f) rfl (.c3 rfl) rfl
   ·split at h
    ·rename_i ae;simp only[bS.aZ.injEq]at h;obtain⟨rfl,rfl,rfl⟩:=h;have e:=abt ae dh U;exact iQ bI (u:= .func (.func f) (first.map a.eval) #[]) (v:= .cls f bY) rfl (.c3 ⟨by rw[e],ae⟩) rfl
    ·cases h
  ·cases h
 |makeMap t r=>
  cases r with
  |some x=>simp only[bQ]at h;cases h
  |none=>
   simp only[bQ]at h⊢;obtain⟨u,w',ρ',U,aa,az⟩:=XE (P:=P) (Ct (hW t)).1 bI h;exact nP U aa az rfl
 |lookup t m k c=>
  simp only[bQ]at h⊢;obtain⟨u,rfl,U,aa⟩:=Yo (P:=P) (Ct (hW t)).1 bI (eA au m) (eA au k) h ay;exact iQ bI U aa rfl
 |mapUpdate t m k x=>
  simp only[bQ]at h⊢;obtain⟨w',rfl,U,aa⟩:=Wo (P:=P) (Ct (hW t)).1 bI (eA au m) (eA au k) (eA au x) h ay;exact⟨.skip,w',ρ,undef,by simp[U], .inr ⟨rfl,rfl⟩,aa,bL.un⟩
 |panic x=>
  simp only[bQ]at h;simp only[bS.aZ.injEq]at h;obtain⟨rfl,_⟩:=h;exact(ay False (by simp)).elim
 |_=>simp only[bQ]at h;cases h
end
end Go.al
end
section
namespace Go.al
def ie (P:Program)(f:FuncId)(T:gw):Prop:=
 (∃fn,P.funcs[f]? =some fn/\fn.body.isNone=false/\(fn.name== "runtime.NumGoroutine")=false)/\
 ∀(N:Nat->Prop) (ρ:List Loc) (I:aD) (w:World) (args:List J) (cm:Array Value) (K:J->aD->Prop),T args I K->cv N ρ I w->
  args.length=cm.size->(∀i,i<args.length->bL (aN N ρ I) w ρ I (args.getD i .un) (cm.getD i undef))->
  Calls P f cm w fun e w'=>∃r aj ρ' v,e= .returned v/\K r aj/\cn N ρ I w ρ' aj w'/\bL (aN N ρ' aj) w' ρ' aj r v
def Pj (P:Program)(f:FuncId)(T:gw):Prop:=
 ∀(N:Nat->Prop) (ρ:List Loc) (I:aD) (w:World) (args:List J) (cm:Array Value) (K:J->aD->Prop),T args I K->cv N ρ I w->
  args.length=cm.size->(∀i,i<args.length->bL (aN N ρ I) w ρ I (args.getD i .un) (cm.getD i undef))->
  ∃v w' r aj ρ',(callFunc f cm).run P w= .ok (.value v) w'/\K r aj/\cn N ρ I w ρ' aj w'/\bL (aN N ρ' aj) w' ρ' aj r v
def yp (P:Program)(f:FuncId)(T:gw):Prop:=ie P f T\/Pj P f T
section
variable {P:Program} {N:Nat->Prop} {ρ:List Loc} {I:aD} {w:World}
theorem ZP {N:Nat->Prop}{ρ:List Loc}{I cR:aD}{w:World}{A:Value->World->Prop}{v:J}{aj:aD}{id:Nat}(h:cn N ρ I w ρ cR w)
 (k:∃u w' ρ',A u w'/\cv N ρ' aj w'/\Fr ρ cR w ρ' aj w'/\(∀i,i≠id->eX ρ cR ρ' aj i)/\bL (aN N ρ' aj) w' ρ' aj v u):
 ∃u w' ρ',A u w'/\cv N ρ' aj w'/\Fr ρ I w ρ' aj w'/\(∀i,i≠id->eX ρ I ρ' aj i)/\bL (aN N ρ' aj) w' ρ' aj v u:=by
 obtain⟨u,w',ρ',U,aa,az,aW,bA⟩:=k;refine⟨u,w',ρ',U,aa,h.toFr.trans az,fun i hi=> ?_,bA⟩;intro aw ax;obtain⟨a1,a2,a3⟩:=h.same i aw ax;obtain⟨cZ,di,jd⟩:=aW i hi aw a1;exact⟨cZ,di.trans a2,jd.trans a3⟩
theorem MC (t:a7)(x:R)(i:Int)(j:Nat)(I:aD):loadData t x i j I= .bad\/∃s v,loadData t x i j I= .aZ s v I:=by
 unfold loadData;split
 ·split
  ·split
   ·exact .inr ⟨_,_,rfl⟩
   ·exact .inl rfl
  ·exact .inl rfl
 ·split
  ·split
   ·exact .inr ⟨_,_,rfl⟩
   ·split<;>exact .inr ⟨_,_,rfl⟩
   ·exact .inr ⟨_,_,rfl⟩
   ·exact .inl rfl
  ·exact .inl rfl
 ·exact .inl rfl
theorem Nx (t:a7)(x:R)(i:Int)(j:Nat)(I:aD):loadAt t x i j I= .bad\/∃s v,loadAt t x i j I= .aZ s v I:=by
 unfold loadAt;split
 ·exact .inr ⟨_,_,rfl⟩
 ·exact .inl rfl
theorem GI (t:a7)(p:J)(I:aD):hR t p I= .bad\/∃s v,hR t p I= .aZ s v I:=by
 unfold hR;split
 ·split
  ·split<;>first|exact .inr ⟨_,_,rfl⟩|exact .inl rfl
  ·exact .inl rfl
 ·exact MC _ _ _ _ _
 ·exact MC _ _ _ _ _
 ·exact Nx _ _ _ _ _
 ·exact Nx _ _ _ _ _
 ·exact .inl rfl
theorem W5 (t:a7)(p:J)(r:List R)(I:aD):qU t p r I= .bad\/∃s v aj,qU t p r I= .aZ s v aj:=by
 unfold qU
 (repeat' split)<;>first|exact .inr ⟨_,_,_,rfl⟩|exact .inl rfl
theorem Wp (t:a7)(id:Nat)(i:Int)(j:Nat)(v:J)(I:aD):qN t id i j v I= .bad\/∃s c6 aj,qN t id i j v I= .aZ s c6 aj:=by
 unfold qN
 (repeat' split)<;>first|exact .inr ⟨_,_,_,rfl⟩|exact .inl rfl
theorem W6 (t:a7)(p v:J)(I:aD):uc t p v I= .bad\/∃s c6 aj,uc t p v I= .aZ s c6 aj:=by
 unfold uc
 (repeat' split)<;>first|exact .inr ⟨_,_,_,rfl⟩|exact .inl rfl
theorem MD (t:a7)(p v:J)(I:aD):pO t p v I= .bad\/∃s c6 aj,pO t p v I= .aZ s c6 aj:=by
 unfold pO;split
 ·exact W5 _ _ _ _
 ·split
  ·exact Wp _ _ _ _ _ _
  ·exact W6 _ _ _ _
def bS.fixed:bS->Prop
 | .bad=>True
 | .aZ ..=>True
 |_=>False
theorem Pk {r:bS}(h:r= .bad\/∃s v o,r= .aZ s v o):r.fixed:=by
 rcases h with rfl|⟨_,_,_,rfl⟩<;>trivial
theorem BX {r:bS}(h:r.fixed):r= .bad\/∃s v o,r= .aZ s v o:=by
 cases r<;>first|exact .inl rfl|exact .inr ⟨_,_,_,rfl⟩|exact h.elim
theorem Wq (t:a7)(p:J)(I:aD):(hR t p I).fixed:=Pk ((GI t p I).imp id fun⟨s,v,h⟩=>⟨s,v,_,h⟩)
theorem V8 (t:a7)(p v:J)(I:aD):(pO t p v I).fixed:=Pk (MD t p v I)
theorem ZQ (t:a7)(x:J)(n:Int)(I:aD):o2 t x n I= .bad\/∃s v,o2 t x n I= .aZ s v I:=by
 unfold o2
 (repeat' split)<;>first|exact .inr ⟨_,_,rfl⟩|exact .inl rfl
theorem XF (t:a7)(x:J)(n:Int)(I:aD):(o2 t x n I).fixed:=by unfold o2;(repeat' split)<;>trivial
theorem VL (t:a7)(x i:J)(I:aD):(qJ t x i I).fixed:=by unfold qJ;(repeat' split)<;>first|trivial|exact XF _ _ _ _
theorem V9 (t:a7)(x i:J)(I:aD):(ym t x i I).fixed:=by unfold ym;(repeat' split)<;>trivial
theorem Wr (t:b7)(x i:J)(I:aD):(wy t x i I).fixed:=by unfold wy;(repeat' split)<;>trivial
theorem V_ (t:a7)(x:J)(lo hi dn:Option J)(I:aD):(kE t x lo hi dn I).fixed:=by unfold kE;(repeat' split)<;>trivial
theorem Wa (t:a7)(x:J)(lo hi dn:Option J)(I:aD):(sj t x lo hi dn I).fixed:=by
 unfold sj;split
 ·unfold pP;(repeat' split)<;>trivial
 ·exact V_ _ _ _ _ _ _
theorem Md (t:b7)(x:J)(lo hi dn:Option J)(I:aD):(um t x lo hi dn I).fixed:=by
 unfold um;split
 ·unfold BU;(repeat' split)<;>trivial
 ·exact Wa _ _ _ _ _ _
theorem Wb (t:b7)(x:J)(I:aD):(wg t x I).fixed:=by unfold wg;(repeat' split)<;>trivial
theorem V0 (tb:TypeId->b7)(t:b7)(m k:J)(c:Bool)(I:aD):(oM tb t m k c I).fixed:=by unfold oM;(repeat' split)<;>trivial
theorem LD (tb:TypeId->b7)(t:b7)(m k v:J)(I:aD):(sd tb t m k v I).fixed:=by unfold sd;(repeat' split)<;>trivial
theorem VW (tb:TypeId->b7)(t:b7)(I:aD):(x3 tb t I).fixed:=by unfold x3;(repeat' split)<;>trivial
theorem XG (op:BinOp)(t:a7)(x y:J)(I:aD):(p8 op t x y I).fixed:=by unfold p8;(repeat' split)<;>trivial
theorem Wc (t:a7)(f:Nat)(v:J)(I:aD):(pR t f v I).fixed:=by unfold pR;(repeat' split)<;>trivial
theorem Wd (t:a7)(ps:List (Nat×J))(I:aD):(pQ t ps I).fixed:=by unfold pQ;(repeat' split)<;>trivial
theorem L1 (t:a7)(I:aD):(yn t I).fixed:=by unfold yn;(repeat' split)<;>trivial
theorem ME (t:a7)(v:J)(I:aD):(yQ t v I).fixed:=by unfold yQ;(repeat' split)<;>trivial
theorem W7 (b:Bool)(ob:af)(I:aD):(sA b ob I).fixed:=by unfold sA;split<;>trivial
theorem Ws (c x y:J)(I:aD):(wx c x y I).fixed:=by unfold wx;(repeat' split)<;>trivial
theorem XH (op:UnOp)(x:J)(I:aD):(wT op x I).fixed:=by unfold wT;(repeat' split)<;>trivial
theorem Wt (s d:a7)(x:J)(I:aD):(nY s d x I).fixed:=by unfold nY;(repeat' split)<;>trivial
theorem Wu (fn:Fn)(first cap:List J)(I:aD):(yE fn first cap I).fixed:=by unfold yE;(repeat' split)<;>trivial
theorem GW {op:BinOp}{t:a7}{dy:Operand}{x y:J}{I:aD}{r:bS}(h:yR op t dy x y I=r)(an:r.fixed->False):oU op t dy x y I=r:=by
 unfold yR at h;split at h
 ·exact(an (h▸XG _ _ _ _ _)).elim
 ·exact h
theorem BG {t:b7}{x:J}{I:aD}{r:bS}(h:wg t x I=r)(an:r.fixed->False):False:=an (h▸Wb _ _ _)
def ade:Op->Bool
 | .binOp ..=>false
 | .call _=>false
 |_=>true
theorem Hx {tb:TypeId->b7}{o:Oper}{tm:List J}{I:aD}(aE:ade o.op=true):(e0 tb o tm I).fixed:=by
 unfold e0;split
 all_goals first
  |trivial
  |exact Ws _ _ _ _
  |exact L1 _ _
  |exact ME _ _ _
  |exact Wd _ _ _
  |exact Wq _ _ _
  |exact V8 _ _ _ _
  |exact XH _ _ _
  |exact Wt _ _ _ _
  |exact Wc _ _ _ _
  |exact VL _ _ _ _
  |exact V9 _ _ _ _
  |exact Wr _ _ _ _
  |exact Md _ _ _ _ _ _
  |exact VW _ _ _
  |exact V0 _ _ _ _ _ _
  |exact LD _ _ _ _ _ _
  |exact Wu _ _ _ _
  |(rename_i he;rw[he]at aE;exact absurd aE apN)
  |((repeat' split)<;>first|trivial|exact W7 _ _ _)
theorem Me (v:J)(args:List J)(tys:List TypeId):sv v args tys= .bad\/∃f a,sv v args tys= .call f a tys:=by
 unfold sv;split
 ·exact .inr ⟨_,_,rfl⟩
 ·exact .inr ⟨_,_,rfl⟩
 ·exact .inl rfl
theorem Oi {tb:TypeId->b7}{o:Oper}{tm:List J}{cd:List Prop}{v:J}{aj:aD}{id:Nat}(h:e0 tb o tm I= .grow cd v aj id):
 ∃c b,o.op= .call c/\c.callee= .builtin b/\kC tb b c.argTypes.toList (bE (aY tm) c.args.toList) I= .grow cd v aj id:=by
 have bc:=h;unfold e0 at h
 cases bQ:o.op with
 |call c=>
  simp only[bQ]at h;split at h
  ·rename_i b aC;exact⟨c,b,rfl,aC,h⟩
  ·cases h
  ·rename_i t _;rcases Me (b8 .un tm t) (bE (aY tm) c.args.toList) c.argTypes.toList with e|⟨_,_,e⟩<;>rw[e]at h<;>cases h
  ·cases h
 |binOp op t x y ty=>
  simp only[bQ]at h
  replace h:=GW h (fun h=>h)
  unfold oU at h;split at h
  ·split at h
   ·cases h
   ·cases h
   ·split at h
    ·cases op<;>simp[n4]at h
    ·cases h
  ·split at h<;>cases h
  ·split at h<;>cases h
  ·split at h<;>cases h
  all_goals first|cases h|(unfold jt at h;split at h<;>cases h)
 |_=>have:=Hx (tb:=tb) (o:=o) (tm:=tm) (I:=I) (by rw[bQ];rfl);rw[bc]at this;exact this.elim
theorem Yp {tb:TypeId->b7}(bs:∀t,c1 P t (tb t)=true){o:Oper}{tm:List J}{a:Act}(bI:cv N ρ I w)(au:ek (aN N ρ I) w ρ I tm a.tmps)
 {cd:List Prop} {v:J} {aj:aD} {id:Nat} (h:e0 tb o tm I= .grow cd v aj id) (ay:∀p∈cd,p):
 ∃u w' ρ',(execOp a.eval o).run P w= .ok (.value u) w'/\cv N ρ' (gy id aj) w'/\Fr ρ I w ρ' (gy id aj) w'/\(∀i,i≠id->eX ρ I ρ' (gy id aj) i)/\
  bL (aN N ρ' (gy id aj)) w' ρ' (gy id aj) v u:=by
 obtain⟨c,b,bQ,aC,h⟩:=Oi h;obtain⟨consts,he⟩:=Mz (a:=a) bQ aC;rw[he];unfold kC at h;split at h
 ·split at h
  ·cases h
  ·split at h<;>cases h
 ·rename_i x y ga;obtain⟨p,q,rb,aE,a_⟩:=Hu ga;have ai:=eA au p;have bp:=eA au q;rw[aE]at ai;rw[a_]at bp;rw[rb];clear ga aE a_ rb;obtain⟨cN,bp⟩:=Hv bI bp
  replace ai:=cN.lA ai
  refine ZP cN ?_
  replace bI:=cN.rel
  clear cN au;generalize lq I y=cR at*;generalize sL I y=oD at*;split at h
  ·rename_i n km ag;split at h
   ·rename_i oh;have oh:=aoz oh;have uW:=MA (tys:=c.argTypes) (by omega);obtain⟨b_,ae⟩:=qH (bs _) km
    have rJ:0<(tb (b8 0 c.argTypes.toList 0)).bytes:=by
     have:1<=(tb (b8 0 c.argTypes.toList 0)).bytes:=by simpa[Nat.blt]using ag
     omega
    have n9:∀(u:Value) (w':World),(Builtin.append_ #[b8 0 c.argTypes.toList 0,b8 0 c.argTypes.toList 1] o.type #[a.eval p,a.eval q]).run P w= .ok u w'->
     (builtin .append c.argTypes o.type consts (#[p,q].map a.eval)).run P w= .ok (.value u) w':=by
     intro u w' an;rw[uW];simp only[builtin,Sem.run_bind,aqE,aoX,aqo,an,Result.andThen_ok,Sem.run_pure]
    unfold sg at h;split at h
    ·split at h<;>cases h
    ·split at h
     ·split at h<;>cases h
     ·cases h
    ·split at h<;>cases h
    ·rename_i my x;split at h
     ·rename_i aU eo;split at h
      ·rename_i k l cy m aF;split at h
       ·rename_i oj;simp only[bS.grow.injEq]at h;obtain⟨rfl,rfl,rfl,rfl⟩:=h;obtain rfl:=js.1 oj
        obtain⟨u,w',ρ',U,aa,az,aW,bA⟩:=L0 (P:=P) (N:=N) (ρ:=ρ) (I:=cR) (w:=w) (ty:=o.type) (bs _) bI ae ai bp aU eo (.ad k (m++l)) (.inl ⟨k,l,m,rfl,aF,rfl⟩) rJ
         (by rw[aF];have:=ay _ (apo.2 rfl);exact this)
        rw[eI];exact⟨u,w',ρ',n9 _ _ U,aa,az,aW,bA⟩
       ·cases h
      ·rename_i ak l h3 m aF;split at h
       ·rename_i oj;simp only[bS.grow.injEq]at h;obtain⟨rfl,rfl,rfl,rfl⟩:=h;obtain rfl:=aoz oj
        obtain⟨u,w',ρ',U,aa,az,aW,bA⟩:=L0 (P:=P) (N:=N) (ρ:=ρ) (I:=cR) (w:=w) (ty:=o.type) (bs _) bI ae ai bp aU eo (.ar ak (m++l)) (.inr ⟨ak,l,m,rfl,aF,rfl⟩) rJ
         (by rw[aF];have:=ay _ (apo.2 rfl);exact this)
        rw[eI];exact⟨u,w',ρ',n9 _ _ U,aa,az,aW,bA⟩
       ·cases h
      ·cases h
     ·cases h
    ·cases h
   ·cases h
  ·cases h
 ·split at h<;>cases h
 ·split at h<;>cases h
 ·split at h
  ·exact(BG h (fun h=>h)).elim
  ·cases h
 ·cases h
theorem Qo {tb:TypeId->b7}{o:Oper}{tm:List J}{p:Bool->Prop}(h:e0 tb o tm I= .fB p):(∃op t x y ty,o.op= .binOp op t x y ty/\oU op (tb t).ty y (aY tm x) (aY tm y) I= .fB p):=by
 have bc:=h;unfold e0 at h
 cases bQ:o.op with
 |binOp op t x y ty=>simp only[bQ]at h;exact⟨op,t,x,y,ty,rfl,GW h (fun h=>h)⟩
 |call c=>
  simp only[bQ]at h;split at h
  ·unfold kC at h;split at h
   ·split at h
    ·cases h
    ·split at h<;>cases h
   ·split at h
    ·split at h
     ·unfold sg at h;split at h
      ·split at h<;>cases h
      ·split at h
       ·split at h<;>cases h
       ·cases h
      ·split at h<;>cases h
      ·split at h
       ·split at h
        ·split at h<;>cases h
        ·split at h<;>cases h
        ·cases h
       ·cases h
      ·cases h
     ·cases h
    ·cases h
   ·split at h<;>cases h
   ·split at h<;>cases h
   ·split at h
    ·exact(BG h (fun h=>h)).elim
    ·cases h
   ·cases h
  ·cases h
  ·rename_i t _;rcases Me (b8 .un tm t) (bE (aY tm) c.args.toList) c.argTypes.toList with e|⟨_,_,e⟩<;>rw[e]at h<;>cases h
  ·cases h
 |_=>have:=Hx (tb:=tb) (o:=o) (tm:=tm) (I:=I) (by rw[bQ];rfl);rw[bc]at this;exact this.elim
theorem Yq {tb:TypeId->b7}(bs:∀t,c1 P t (tb t)=true){o:Oper}{tm:List J}{a:Act}(au:ek (aN N ρ I) w ρ I tm a.tmps)
 {p:Bool->Prop} (h:e0 tb o tm I= .fB p):∃b,p b/\(execOp a.eval o).run P w= .ok (.value (.bool b)) w:=by
 obtain⟨op,t,x,y,ty,aF,ag⟩:=Qo h;obtain⟨b,U,aa⟩:=abn (P:=P) (bs t) au ag;refine⟨b,U, ?_⟩;unfold execOp;rw[aF];simp only[Sem.run_bind]at aa⊢
 cases bh:(eqGuard op t x y (a.eval x) (a.eval y)).run P w with
 |ok q w1=>
  rw[bh]at aa;simp only[Result.andThen_ok]at aa⊢;rw[aa];rfl
 |halt q w1=>rw[bh]at aa;cases aa
theorem adf {tb:TypeId->b7}{o:Oper}{tm:List J}{f:FuncId}{args:List J}{tys:List TypeId}(h:e0 tb o tm I= .call f args tys):
 ∃c,o.op= .call c/\((c.callee= .value (.func f)/\args=bE (aY tm) c.args.toList)\/∃t,c.callee= .value (.tmp t)/\
  ((b8 .un tm t= .fn f/\args=bE (aY tm) c.args.toList)\/∃l,b8 .un tm t= .cls f l/\args=eM l (bE (aY tm) c.args.toList))):=by
 have bc:=h;unfold e0 at h
 cases bQ:o.op with
 |call c=>
  simp only[bQ]at h;split at h
  ·exfalso;unfold kC at h;split at h
   ·split at h
    ·cases h
    ·split at h<;>cases h
   ·split at h
    ·split at h
     ·unfold sg at h;split at h
      ·split at h<;>cases h
      ·split at h
       ·split at h<;>cases h
       ·cases h
      ·split at h<;>cases h
      ·split at h
       ·split at h
        ·split at h<;>cases h
        ·split at h<;>cases h
        ·cases h
       ·cases h
      ·cases h
     ·cases h
    ·cases h
   ·split at h<;>cases h
   ·split at h<;>cases h
   ·split at h
    ·exact(BG h (fun h=>h)).elim
    ·cases h
   ·cases h
  ·rename_i g aC;simp only[bS.call.injEq]at h;obtain⟨rfl,rfl,rfl⟩:=h;exact⟨c,rfl, .inl ⟨aC,rfl⟩⟩
  ·rename_i t aC;unfold sv at h;split at h
   ·rename_i g aP;simp only[bS.call.injEq]at h;obtain⟨rfl,rfl,rfl⟩:=h;exact⟨c,rfl, .inr ⟨t,aC, .inl ⟨aP,rfl⟩⟩⟩
   ·rename_i g l aP;simp only[bS.call.injEq]at h;obtain⟨rfl,rfl,rfl⟩:=h;exact⟨c,rfl, .inr ⟨t,aC, .inr ⟨l,aP,rfl⟩⟩⟩
   ·cases h
  ·cases h
 |binOp op t x y ty=>
  simp only[bQ]at h
  replace h:=GW h (fun h=>h)
  unfold oU at h;split at h
  ·split at h
   ·cases h
   ·cases h
   ·split at h
    ·cases op<;>simp[n4]at h
    ·cases h
  ·split at h<;>cases h
  ·split at h<;>cases h
  ·split at h<;>cases h
  all_goals first|cases h|(unfold jt at h;split at h<;>cases h)
 |_=>have:=Hx (tb:=tb) (o:=o) (tm:=tm) (I:=I) (by rw[bQ];rfl);rw[bc]at this;exact this.elim
end
end Go.al
end
section
namespace Go.al
def p0:Loc:=⟨none,1,none⟩
section
variable {P:Program} {N:Nat->Prop} {ρ:List Loc} {I:aD} {w:World}
theorem x4 {Z:Nat->Prop}{t:J}{v:Value}{id:Nat}(aE:ρ[id]? =some p0)(h:eD Z w ρ I t v)(av:t.lz id):False:=by
 cases t<;>try exact av
 case vec i=>
  obtain rfl:i=id:=av;obtain⟨aw,U,_,az⟩:=h;rw[aE]at U;obtain rfl:=aoK U;have:=az rfl;cases this
 case ptr i off=>
  obtain rfl:i=id:=av;obtain⟨aw,b,U,aa,_⟩:=h;rw[aE]at U;obtain rfl:=aoK U;cases aa
 case optr i x y=>
  obtain rfl:i=id:=av;obtain⟨aw,b,U,aa,_⟩:=h;rw[aE]at U;obtain rfl:=aoK U;cases aa
 case oat i x y=>
  obtain rfl:i=id:=av;obtain⟨aw,b,U,aa,_⟩:=h;rw[aE]at U;obtain rfl:=aoK U;cases aa
 case mp i=>
  obtain rfl:i=id:=av;obtain⟨aw,b,U,aa,_⟩:=h;rw[aE]at U;obtain rfl:=aoK U;cases aa
 case tail i x=>
  obtain rfl:i=id:=av;obtain⟨aw,b,U,aa,_⟩:=h;rw[aE]at U;obtain rfl:=aoK U;cases aa
theorem Oj {Z:Nat->Prop}{w:World}{ρ:List Loc}{I:aD}{t:J}{v:Value}(av:∀l,t≠ .agg l)(an:∀n r,t≠ .rw n r)(h:ig Z w ρ I t v):eD Z w ρ I t v:=by
 cases t<;>first|exact h|exact absurd rfl (av _)|exact absurd rfl (an _ _)
theorem Pl {Z:Nat->Prop}{w:World}{ρ:List Loc}{I:aD}{t:J}{v:Value}(av:∀l,t≠ .tup l)(h:bL Z w ρ I t v):ig Z w ρ I t v:=by
 cases t<;>first|exact h|exact absurd rfl (av _)
theorem abu {t:TypeId}{i:b7}(hi:c1 P t i=true)(av:i.ty≠ .no)(h:cv N ρ I w){id:Nat}(aE:ρ[id]? =some p0):
 ∃u w' ρ',(Instr.alloc t true (.tuple #[])).run P w= .ok u w'/\cv N ρ' (I.set id (false, .cells i.ty.zero)) w'/\Fr ρ I w ρ' (I.set id (false, .cells i.ty.zero)) w'/\
  (∀j,j≠id->eX ρ I ρ' (I.set id (false, .cells i.ty.zero)) j)/\(∀fF v,bL (aN N ρ I) w ρ I fF v->bL (aN N ρ' (I.set id (false, .cells i.ty.zero))) w' ρ' (I.set id (false, .cells i.ty.zero)) fF v)/\
  bL (aN N ρ' (I.set id (false, .cells i.ty.zero))) w' ρ' (I.set id (false, .cells i.ty.zero)) (.ptr id 0) u:=by
 obtain⟨g,z,U,aa,az,aW⟩:=G4 (w:=w) (ρ:=ρ) (I:=I) hi av;have bG:=h.jU aE;have wV:id<ρ.length:=by rw[h.len];exact bG
 generalize ax:i.ty.zero=l at*
 have me:∀b,b<w.heap.size->(w.alloc (.cells z.cells t)).heap[b]? =w.heap[b]? :=fun b ag=>heap_alloc_old w _ b ag
 have iV:∀b,gz (ρ.set id ⟨some ⟨w.heap.size,0,none⟩,0,some w.heap.size⟩) (I.set id (false, .cells l)) b->gz ρ I b\/b=w.heap.size:=fun b ⟨j,aw,a6,bj,bH⟩=>by
  rw[apj]at a6
  by_cases e:id=j
  ·subst e;rw[aoy rfl,aoy wV]at a6;obtain rfl:=aoK a6;exact .inr (aoK bj).symm
  ·rw[aox e]at a6;rw[ij,aox (by simp[e])]at bH;exact .inl ⟨j,aw,a6,bj,bH⟩
 have cx:Fr ρ I w (ρ.set id ⟨some ⟨w.heap.size,0,none⟩,0,some w.heap.size⟩) (I.set id (false, .cells l)) (w.alloc (.cells z.cells t)):=by
  refine⟨rfl,rfl,rfl,by simp,fun b ag _=>me b ag,fun b ag=> ?_⟩;rcases iV b ag with ag|rfl
  ·exact .inl ag
  ·exact .inr (aoE _)
 have e6:∀j,j≠id->eX ρ I (ρ.set id ⟨some ⟨w.heap.size,0,none⟩,0,some w.heap.size⟩) (I.set id (false, .cells l)) j:=fun j aI aw dP=>by
  refine⟨by rw[apj,aox (apk aI)];exact dP, ?_⟩;rw[g_,aox (by simp[apk aI])];exact⟨rfl,rfl⟩
 have uA:∀x u,bB (aN N ρ I) w x u->bB (aN N (ρ.set id ⟨some ⟨w.heap.size,0,none⟩,0,some w.heap.size⟩) (I.set id (false, .cells l))) (w.alloc (.cells z.cells t)) x u:=fun x u ai=>
  ai.mono fun b ag bq=>⟨me b ag,fun dr=>by
   rcases dr with dr|dr
   ·exact bq (.inl dr)
   ·rcases iV b dr with dr|rfl
    ·exact bq (.inr dr)
    ·omega⟩
 have bc:∀fF v,eD (aN N ρ I) w ρ I fF v->eD (aN N (ρ.set id ⟨some ⟨w.heap.size,0,none⟩,0,some w.heap.size⟩) (I.set id (false, .cells l))) (w.alloc (.cells z.cells t)) (ρ.set id ⟨some ⟨w.heap.size,0,none⟩,0,some w.heap.size⟩) (I.set id (false, .cells l)) fF v:=
  fun fF v au=>au.mono uA fun j aI=>e6 j fun e=>x4 aE au (e▸aI)
 have tc:∀fF v,ig (aN N ρ I) w ρ I fF v->ig (aN N (ρ.set id ⟨some ⟨w.heap.size,0,none⟩,0,some w.heap.size⟩) (I.set id (false, .cells l))) (w.alloc (.cells z.cells t)) (ρ.set id ⟨some ⟨w.heap.size,0,none⟩,0,some w.heap.size⟩) (I.set id (false, .cells l)) fF v:=fun fF v au=>by
  cases fF with
  |agg x=>
   obtain⟨a,aA,aL,b3⟩:=au;exact⟨a,aA,aL,fun j aI=>bc _ _ (b3 j aI)⟩
  |rw n r=>
   obtain⟨a,aA,aL,cX,b3⟩:=au;exact⟨a,aA,aL,cX,fun j aI=>uA _ _ (b3 j aI)⟩
  |_=>exact .c3 (bc _ _ (Oj (by intro l e;cases e) (by intro n l e;cases e) au))
 have bI:cv N (ρ.set id ⟨some ⟨w.heap.size,0,none⟩,0,some w.heap.size⟩) (I.set id (false, .cells l)) (w.alloc (.cells z.cells t)):=by
  refine h.s7 cx (by simp[h.len]) (fun j cC aI k idx ae mw=> ?_) (fun j aw dP=> ?_)
  ·refine e6 idx fun e=> ?_
   have IS:j<ρ.length:=by
    rcases aqp j ρ.length with ai|ai
    ·exact ai
    ·rw[h.len]at ai;have:af.at I j= .gone:=by simp[af.at,dT,aoA,ape ai]
     rw[this]at aI;cases aI
   have cf:=h.ob j ρ[j] (by simp[IS]);rw[aI]at cf;obtain⟨b,aH,b_,_,_,_,_,fi⟩:=cf;exact x4 aE (fi k ae) (e▸mw)
  ·rw[apj]at dP
   by_cases e:id=j
   ·subst e;rw[aoy rfl,aoy wV]at dP;obtain rfl:=aoK dP;refine .inr ⟨fun b ag=> ?_, ?_⟩
    ·simp only[aoU]at ag;subst ag;refine⟨by simp,fun av=>absurd (h.fc _ av) (by omega),fun q j8 a_ zS _=> ?_⟩;rw[apj]at a_
     by_cases aL:id=q
     ·exact aL.symm
     ·rw[aox aL]at a_;have:=h.lt q j8 _ a_ zS;omega
    ·rw[g_,aoy ⟨rfl,bG⟩];exact⟨w.heap.size,z.cells,t,rfl,rfl,nR w _,az,fun k ae=>bc _ _ (aW _ k ae)⟩
   ·rw[aox e]at dP;exact .inl ⟨dP,by rw[g_,aox (by simp[e])],fun ai=>by rwa [ij,aox (by simp[e])]at ai,fun b ag=>me b (h.lt j aw b dP ag)⟩
 refine⟨_,_,_,by simp[Instr.alloc,zeroValue,typeInfo,U,aa,newVar,newRow],bI,cx,e6,fun fF v au=> ?_, .c3 ⟨_,w.heap.size,by rw[apj,aoy rfl,aoy wV],rfl,rfl,rfl⟩⟩
 cases fF with
 |tup x=>
  obtain⟨a,aA,aL,b3⟩:=au;exact⟨a,aA,aL,fun j aI=>tc _ _ (b3 j aI)⟩
 |_=>exact .hj (tc _ _ (Pl (by intro l e;cases e) au))
theorem ZR {Z:Nat->Prop}{t:J}{v:Value}{id:Nat}(h:eD Z w ρ I t v)(av:t.lz id):∃aw,ρ[id]? =some aw:=by
 cases t<;>try exact av.elim
 case vec i=>obtain rfl:i=id:=av;obtain⟨aw,U,_⟩:=h;exact⟨aw,U⟩
 case ptr i off=>obtain rfl:i=id:=av;obtain⟨aw,b,U,_⟩:=h;exact⟨aw,U⟩
 case optr i x y=>obtain rfl:i=id:=av;obtain⟨aw,b,U,_⟩:=h;exact⟨aw,U⟩
 case oat i x y=>obtain rfl:i=id:=av;obtain⟨aw,b,U,_⟩:=h;exact⟨aw,U⟩
 case mp i=>obtain rfl:i=id:=av;obtain⟨aw,b,U,_⟩:=h;exact⟨aw,U⟩
 case tail i x=>obtain rfl:i=id:=av;obtain⟨aw,b,U,_⟩:=h;exact⟨aw,U⟩
theorem RT (h:cv N ρ I w){id:Nat}(aE:ρ[id]? =some p0){eE:List Loc}{ob:af}{w':World}(ay:cn N ρ I w eE (I++[(false,ob)]) w')(cf:∀l,ob≠ .cells l){u:Value}
 (hu:bL (aN N eE (I++[(false,ob)])) w' eE (I++[(false,ob)]) (.vec I.length) u):
 ∃e1,cv N e1 (I.set id (false,ob)) w'/\Fr ρ I w e1 (I.set id (false,ob)) w'/\(∀j,j≠id->eX ρ I e1 (I.set id (false,ob)) j)/\
  (∀fF v,bL (aN N ρ I) w ρ I fF v->bL (aN N e1 (I.set id (false,ob))) w' e1 (I.set id (false,ob)) fF v)/\
  bL (aN N e1 (I.set id (false,ob))) w' e1 (I.set id (false,ob)) (.vec id) u:=by
 obtain⟨aw,aA,aL,b3⟩:∃aw,eE[I.length]? =some aw/\u= .slice aw.a (af.at (I++[(false,ob)]) I.length).len aw.cap/\(aw.a=none->aw.cap=0):=hu
 have bG:=h.jU aE;have wV:id<ρ.length:=by rw[h.len];exact bG
 have lN:∀j cC,ρ[j]? =some cC->eE[j]? =some cC:=fun j cC aI=>(ay.same j cC aI).1
 have dg:id≠I.length:=by omega
 have xa:∀j cC,(ρ.set id aw)[j]? =some cC->(j=id/\cC=aw)\/(j≠id/\ρ[j]? =some cC):=fun j cC aI=>by
  rw[apj]at aI
  by_cases e:id=j
  ·subst e;rw[aoy rfl,aoy wV]at aI;exact .inl ⟨rfl,(aoK aI).symm⟩
  ·rw[aox e]at aI;exact .inr ⟨fun h=>e h.symm,aI⟩
 have td:∀j cC,ρ[j]? =some cC->j<I.length:=fun j cC aI=>h.jU aI
 have iV:∀b,gz (ρ.set id aw) (I.set id (false,ob)) b->gz eE (I++[(false,ob)]) b:=fun b ⟨j,cC,a6,bj,bH⟩=>by
  rcases xa j cC a6 with⟨rfl,rfl⟩|⟨aI,a6⟩
  ·exact⟨I.length,cC,aA,bj,by rw[kI,aoy rfl]⟩
  ·rw[ij,aox (by simp[apk aI])]at bH;exact⟨j,cC,lN j cC a6,bj,by rw[kI,aox (by have:=td j cC a6;omega)];exact bH⟩
 have cx:Fr ρ I w (ρ.set id aw) (I.set id (false,ob)) w':=⟨ay.os,ay.tape,ay.output,ay.size,ay.ao,fun b ag=>ay.alive b (iV b ag)⟩
 have e6:∀j,j≠id->eX ρ I (ρ.set id aw) (I.set id (false,ob)) j:=fun j aI cC dP=>by
  refine⟨by rw[apj,aox (apk aI)];exact dP, ?_⟩;rw[g_,aox (by simp[apk aI])];exact⟨rfl,rfl⟩
 have HT:∀x v,bB (aN N eE (I++[(false,ob)])) w' x v->bB (aN N (ρ.set id aw) (I.set id (false,ob))) w' x v:=fun x v ai=>
  ai.mono fun b _ bq=>⟨rfl,fun dr=>by
   rcases dr with dr|dr
   ·exact bq (.inl dr)
   ·exact bq (.inr (iV b dr))⟩
 have Ih:∀j,j≠id->j<I.length->eX eE (I++[(false,ob)]) (ρ.set id aw) (I.set id (false,ob)) j:=fun j aI iH cC dP=>by
  have agl:j<ρ.length:=by rw[h.len];exact iH
  have bh:ρ[j]? =some ρ[j]:=aoM agl;have:=lN j _ bh;rw[dP]at this;obtain rfl:=aoK this;refine⟨by rw[apj,aox (apk aI)];exact bh, ?_⟩;rw[g_,aox (by simp[apk aI]),gN,aox (by omega)];exact⟨rfl,rfl⟩
 have names:∀j l,af.at I j= .cells l->∀k idx,k<l.length->(l.getD k .un).lz idx->idx≠id/\idx<I.length:=fun j l aI k idx ae mw=>by
  have IS:j<ρ.length:=by
   rcases aqp j ρ.length with ai|ai
   ·exact ai
   ·rw[h.len]at ai;have:af.at I j= .gone:=by simp[af.at,dT,aoA,ape ai]
    rw[this]at aI;cases aI
  have cf:=h.ob j ρ[j] (by simp[IS]);rw[aI]at cf;obtain⟨b,aH,b_,_,_,_,_,fi⟩:=cf;refine⟨fun e=>x4 aE (fi k ae) (e▸mw), ?_⟩;obtain⟨aoi,ai⟩:=ZR (fi k ae) mw;exact h.jU ai
 have bI:cv N (ρ.set id aw) (I.set id (false,ob)) w':=by
  refine h.Er cx (by simp[h.len]) (fun j l aI k idx ae mw=>e6 idx (names j l aI k idx ae mw).1) (fun j cC aI=> ?_)
  by_cases sp:j≠id/\hg I j
  ·obtain⟨s1,s2⟩:=sp;rcases xa j cC aI with⟨rfl,_⟩|⟨_,a6⟩
   ·exact absurd rfl s1
   ·exact .inl ⟨a6,by rw[g_,aox (by simp[apk s1])],fun ai=>by rwa [ij,aox (by simp[apk s1])]at ai,fun ai0=>absurd s2 ai0⟩
  have fresh:¬hg (I++[(false,ob)]) I.length:=nV (by rw[kI,aoy rfl])
  have kP:∀q,q<I.length->¬hg I q->¬hg (I++[(false,ob)]) q:=fun q a_ av ⟨f,n,ak,e⟩=>av ⟨by rwa [kI,aox (by omega)]at f,n,ak,by rwa [gN,aox (by omega)]at e⟩
  have RU:∀q,q≠id->¬hg (I.set id (false,ob)) q->¬hg I q:=fun q a_ av ⟨f,n,ak,e⟩=>av ⟨by rw[ij,aox (by simp[apk a_])];exact f,n,ak,by rw[g_,aox (by simp[apk a_])];exact e⟩
  refine .inr ⟨fun b ag=> ?_, ?_⟩
  ·have uniq:∀q j8,(ρ.set id aw)[q]? =some j8->j8.bu=some b->¬hg (I.set id (false,ob)) q->q=j:=fun q j8 a_ zS UA=>by
    rcases xa j cC aI with⟨rfl,rfl⟩|⟨hB,a6⟩<;>rcases xa q j8 a_ with⟨rfl,rfl⟩|⟨pc,bj⟩
    ·rfl
    ·have:=ay.rel.inj q I.length j8 cC b (lN q j8 bj) aA zS ag (kP q (td q j8 bj) (RU q pc UA)) fresh;have:=td q j8 bj;omega
    ·have:=ay.rel.inj j I.length cC j8 b (lN j cC a6) aA ag zS (kP j (td j cC a6) fun s=>sp ⟨hB,s⟩) fresh;have:=td j cC a6;omega
    ·exact ay.rel.inj q j j8 cC b (lN q j8 bj) (lN j cC a6) zS ag (kP q (td q j8 bj) (RU q pc UA)) (kP j (td j cC a6) fun s=>sp ⟨hB,s⟩)
   rcases xa j cC aI with⟨rfl,rfl⟩|⟨hB,a6⟩
   ·exact⟨ay.rel.lt _ _ _ aA ag,ay.rel.fK _ _ _ aA ag,uniq⟩
   ·exact⟨ay.rel.lt _ _ _ (lN j cC a6) ag,ay.rel.fK _ _ _ (lN j cC a6) ag,uniq⟩
  ·rcases xa j cC aI with⟨rfl,rfl⟩|⟨hB,a6⟩
   ·rw[g_,aoy ⟨rfl,bG⟩];have:=ay.rel.ob I.length cC aA;rw[gN,aoy rfl]at this;exact this.mono (fun _ _=>rfl) HT fun l ax=>absurd ax (cf l)
   ·rw[g_,aox (by simp[apk hB])];have:=ay.rel.ob j cC (lN j cC a6);rw[gN,aox (by have:=td j cC a6;omega)]at this;exact this.mono (fun _ _=>rfl) HT fun l ax k idx ae mw=>Ih idx (names j l ax k idx ae mw).1 (names j l ax k idx ae mw).2
 have uA:∀x v,bB (aN N ρ I) w x v->bB (aN N (ρ.set id aw) (I.set id (false,ob))) w' x v:=fun x v ai=>HT x v (ay.toFr.reads ai)
 have bc:∀fF v,eD (aN N ρ I) w ρ I fF v->eD (aN N (ρ.set id aw) (I.set id (false,ob))) w' (ρ.set id aw) (I.set id (false,ob)) fF v:=
  fun fF v au=>au.mono uA fun j aI=>e6 j fun e=>x4 aE au (e▸aI)
 have tc:∀fF v,ig (aN N ρ I) w ρ I fF v->ig (aN N (ρ.set id aw) (I.set id (false,ob))) w' (ρ.set id aw) (I.set id (false,ob)) fF v:=fun fF v au=>by
  cases fF with
  |agg x=>
   obtain⟨a,aA,aL,b3⟩:=au;exact⟨a,aA,aL,fun j aI=>bc _ _ (b3 j aI)⟩
  |rw n r=>
   obtain⟨a,aA,aL,cX,b3⟩:=au;exact⟨a,aA,aL,cX,fun j aI=>uA _ _ (b3 j aI)⟩
  |_=>exact .c3 (bc _ _ (Oj (by intro l e;cases e) (by intro n l e;cases e) au))
 refine⟨ρ.set id aw,bI,cx,e6,fun fF v au=> ?_, .c3 ⟨aw,by rw[apj,aoy rfl,aoy wV], ?_,b3⟩⟩
 ·cases fF with
  |tup x=>
   obtain⟨a,aA,aL,b3⟩:=au;exact⟨a,aA,aL,fun j aI=>tc _ _ (b3 j aI)⟩
  |_=>exact .hj (tc _ _ (Pl (by intro l e;cases e) au))
 ·rw[aL,gN,aoy rfl,g_,aoy ⟨rfl,bG⟩]
theorem abv (h:cv N ρ I w):cn N ρ I w (ρ++[p0]) (I++[(false, .gone)]) w:=by
 have cx:Fr ρ I w (ρ++[p0]) (I++[(false, .gone)]) w:=by
  refine⟨rfl,rfl,rfl,aoE _,fun b ag _=>rfl,fun b ⟨i,aw,U,aa,az⟩=> ?_⟩;rw[ao5]at U
  by_cases hi:i<ρ.length
  ·rw[aoy hi]at U;rw[kI,aox (by rw[<-h.len];omega)]at az;exact .inl ⟨i,aw,U,aa,az⟩
  ·rw[aox hi]at U
   cases a8:i-ρ.length with
   |zero=>simp[a8]at U;subst U;cases aa
   |succ n=>simp[a8]at U
 have e6:∀id,eX ρ I (ρ++[p0]) (I++[(false, .gone)]) id:=fun id=>GS h _ _ id
 refine{cx with rel:=h.s7 cx (by simp[h.len]) (fun _ _ _ _ id _ _=>e6 id) (fun i aw ax=> ?_),same:=e6};rw[ao5]at ax
 by_cases hi:i<ρ.length
 ·rw[aoy hi]at ax;exact .inl ⟨ax,by rw[gN,aox (by rw[<-h.len];omega)],fun ai=>by rwa [kI,aox (by rw[<-h.len];omega)]at ai,fun b ag=>rfl⟩
 ·rw[aox hi]at ax
  cases a8:i-ρ.length with
  |succ n=>simp[a8]at ax
  |zero=>
   simp[a8]at ax;subst ax;have eL:i=I.length:=by rw[<-h.len];omega
   refine .inr ⟨fun b ag=>(by cases ag), ?_⟩;rw[eL,gN,aoy rfl];trivial
theorem Ol:∀(n:Nat) (ρ:List Loc) (I:aD),cv N ρ I w->cn N ρ I w (ρ++List.replicate n p0) (I++List.replicate n (false, .gone)) w
 |0,ρ,I,h=>by simpa using cn.refl h
 |n+1,ρ,I,h=>by
  have U:=abv h;have aa:=Ol n _ _ U.rel;have:=U.trans aa;simpa[List.replicate_succ]using this
end
end Go.al
end
section
namespace Go.al
structure eC (N:Nat->Prop)(ρ:List Loc)(tm:List J)(I:aD)(a:Act)(w:World):Prop where
 eO:cv N ρ I w
 en:ek (aN N ρ I) w ρ I tm a.tmps
 hN:a.defers=[]
structure m0 (N:Nat->Prop)(ρ:List Loc)(I:aD)(a:Act)(w:World)(wr:Tmp->Bool)(K:List J->aD->Prop)(b5:Act)(w':World):Prop where
 ex:∃dI aj ρ',K dI aj/\eC N ρ' dI aj b5 w'/\Fr ρ I w ρ' aj w'
 same:∀t,wr t=false->b5.tmps.getD t undef=a.tmps.getD t undef
 ak:b5.tmps.size=a.tmps.size
section
variable {P:Program} {N:Nat->Prop}
def o3 (ops:Array Oper)(t:Tmp):Bool:=ops.toList.any fun o=>match o.dst with|some d=>Nat.beq d t|none=>false
theorem MY:∀(l:List Oper) (j:Nat),l7 l j=(l[j]?).bind (·.dst)
 |[],j=>by simp[l7]
 |o::r,0=>by simp[l7]
 |o::r,n+1=>by simp[l7,MY r n]
theorem abw (a:Act)(dst:Option Tmp)(v:Value)(t:Tmp)(h:dst≠some t):(a.put dst v).tmps.getD t undef=a.tmps.getD t undef:=by
 cases dst with
 |none=>rfl
 |some d=>
  simp only[Act.put];rw[vN,aox];rintro⟨rfl,_⟩;exact h rfl
theorem BH {ops:Array Oper}{i:Nat}{o:Oper}(aF:ops[i]? =some o){t:Tmp}(h:o3 ops t=false):o.dst≠some t:=by
 intro a8
 have hm:o∈ops.toList:=by
  obtain⟨hi,rfl⟩:=aqV.1 aF;simp
 unfold o3 at h;rw[List.any_eq_false]at h;have:=h o hm;rw[a8]at this;simp at this
theorem C2 {N:Nat->Prop}{ρ:List Loc}{tm:List J}{I:aD}{a:Act}{w:World}(h:eC N ρ tm I a w)(g:Tmp){b:Bool}(ag:a.tmps.getD g undef= .bool b):
 eC N ρ (cQ tm g (if b then .bt else .bf)) I a w:=by
 refine⟨h.eO,⟨by rw[eI];simpa using h.en.size,fun t=> ?_⟩,h.hN⟩;rw[eI,eu];split
 ·rename_i e;rw[<-e.1,ag];cases b<;>exact .c3 rfl
 ·exact h.en.at_ t
theorem ZS {o:Oper}{a:Act}{next next':Act->World->Prop}{Q lY:Exit->Act->World->Prop}(av:∀a w,next a w->next' a w)(a_:∀e a w,Q e a w->lY e a w){r:Result Next}
 (h:o.upon P a next Q r):o.upon P a next' lY r:=by
 unfold Oper.upon at h⊢;split at h
 ·exact av _ _ h
 ·exact av _ _ h
 ·exact av _ _ h
 ·refine h.mono fun e w an=> ?_
  cases e with
  |returned v=>exact av _ _ an
  |panicked c=>exact a_ _ _ _ an
  |outgrown=>obtain⟨x,y,b6⟩:=an;exact⟨x,y,a_ _ _ _ b6⟩
 ·exact h.mono fun v w an=>av _ _ an
 ·exact a_ _ _ _ h
 ·exact h.elim
theorem tW {ops:Array Oper}{Q lY:Exit->Act->World->Prop}(a_:∀e a w,Q e a w->lY e a w):∀(l:List Nat) (a:Act) (w:World),wpOps P ops Q l a w->wpOps P ops lY l a w
 |[],a,w,h=>a_ _ _ _ h
 |i::bM,a,w,h=>by
  simp only[wpOps]at h⊢;split
  ·rename_i aF;rw[aF]at h;exact tW a_ bM a w h
  ·rename_i o aF;rw[aF]at h;simp only at h;split
   ·rename_i hw;rw[aoy hw]at h;rcases h with h|⟨U,x,y,aa⟩
    ·exact .inl (ZS (fun a w=>tW a_ bM a w) a_ h)
    ·exact .inr ⟨U,x,y,a_ _ _ _ aa⟩
   ·rename_i hw;rw[aox hw]at h;exact tW a_ bM _ w h
theorem Gy (tb:TypeId->b7)(aJ:List (Tmp×Nat))(o:Oper)(tm:List J)(I:aD):cK tb aJ o tm I=e0 tb o tm I\/
 (∃t d id,o.op= .alloc t/\o.dst=some d/\fu d aJ=some id/\(cK tb aJ o tm I= .bad\/((tb t).ty≠ .no/\cK tb aJ o tm I= .aZ [] (.ptr id 0) (cQ I id (false, .cells (tb t).ty.zero)))))\/
 ∃t n bP d id,o.op= .buildSlice t n bP/\o.dst=some d/\fu d aJ=some id/\(cK tb aJ o tm I= .bad\/∃ob,sM (tb t) n (bE (fun p=>(p.1,aY tm p.2)) bP.toList) I=some ob/\cK tb aJ o tm I= .aZ [] (.vec id) (cQ I id (false,ob))):=by
 unfold cK;split
 ·rename_i t d aF a8;split
  ·rename_i id dJ;refine .inr (.inl ⟨t,d,id,aF,a8,dJ, ?_⟩);split
   ·exact .inl rfl
   ·exact .inl rfl
   ·rename_i av;exact .inr ⟨fun h=>av h,rfl⟩
   ·exact .inl rfl
  ·exact .inl rfl
 ·rename_i t n bP d aF a8;split
  ·rename_i id ax dJ;refine .inr (.inr ⟨t,n,bP,d,id,aF,a8,dJ, ?_⟩);split
   ·rename_i ob cf _;exact .inr ⟨ob,cf,rfl⟩
   ·exact .inl rfl
  ·exact .inl rfl
 ·exact .inl rfl
theorem abx {ρ:List Loc}{I:aD}{w:World}{tb:TypeId->b7}{t:TypeId}(bs:c1 P t (tb t)=true)(h:cv N ρ I w){tm:List J}{a:Act}(au:ek (aN N ρ I) w ρ I tm a.tmps){id:Nat}(aE:ρ[id]? =some p0)
 (n:Nat) (bP:Array (Nat×Operand)) {ob:af} (cf:sM (tb t) n (bE (fun p=>(p.1,aY tm p.2)) bP.toList) I=some ob):
 ∃u w' e1,(Instr.buildSlice t n (bP.map fun(i,x)=>(i,a.eval x))).run P w= .ok u w'/\cv N e1 (I.set id (false,ob)) w'/\Fr ρ I w e1 (I.set id (false,ob)) w'/\(∀j,j≠id->eX ρ I e1 (I.set id (false,ob)) j)/\
  (∀fF v,bL (aN N ρ I) w ρ I fF v->bL (aN N e1 (I.set id (false,ob))) w' e1 (I.set id (false,ob)) fF v)/\
  bL (aN N e1 (I.set id (false,ob))) w' e1 (I.set id (false,ob)) (.vec id) u:=by
 unfold sM at cf;split at cf
 ·rename_i k b9;split at cf
  ·rename_i l ax av;obtain rfl:=aoK cf;obtain⟨u,w',eE,U,aa,az⟩:=My (P:=P) bs h au bP n b9 ax (aoY av);obtain⟨e1,a6⟩:=RT h aE aa (fun l e=>by cases e) az;exact⟨u,w',e1,U,a6⟩
  ·cases cf
 ·rename_i ak b9;split at cf
  ·rename_i l ax av;obtain rfl:=aoK cf;obtain⟨u,w',eE,U,aa,az⟩:=Gx (P:=P) bs h au bP n b9 ax (aoY av);obtain⟨e1,a6⟩:=RT h aE aa (fun l e=>by cases e) az;exact⟨u,w',e1,U,a6⟩
  ·cases cf
 ·cases cf
theorem Yr {t:b7}{x y:J}{I aj:aD}{s:List Prop}{v:J}{id:Nat}(h:sg t x y I= .grow s v aj id):x= .vec id:=by
 unfold sg at h;split at h
 ·split at h<;>cases h
 ·split at h
  ·split at h<;>cases h
  ·cases h
 ·split at h<;>cases h
 ·rename_i i a;split at h
  ·split at h
   ·split at h
    ·simp only[bS.grow.injEq]at h;rw[h.2.2.2]
    ·cases h
   ·split at h
    ·simp only[bS.grow.injEq]at h;rw[h.2.2.2]
    ·cases h
   ·cases h
  ·cases h
 ·cases h
theorem aby {tb:TypeId->b7}{o:Oper}{tm:List J}{I aj:aD}{s:List Prop}{v:J}{id:Nat}(h:e0 tb o tm I= .grow s v aj id):∃x:Operand,aY tm x= .vec id:=by
 obtain⟨c,b,_,_,h⟩:=Oi h;generalize ga:bE (aY tm) c.args.toList=args at h;unfold kC at h;split at h
 ·split at h
  ·cases h
  ·split at h<;>cases h
 ·obtain⟨p,q,_,aE,_⟩:=Hu ga;split at h
  ·split at h
   ·exact⟨p,by rw[aE];exact Yr h⟩
   ·cases h
  ·cases h
 ·split at h<;>cases h
 ·split at h<;>cases h
 ·split at h
  ·exact(BG h (fun h=>h)).elim
  ·cases h
 ·cases h
def zk (aJ:List (Tmp×Nat))(ops:Array Oper)(is:List Nat)(ρ:List Loc):Prop:=∀i∈is,∀o d id,ops[i]? =some o->o.dst=some d->fu d aJ=some id->ρ[id]? =some p0
def Hy (aJ:List (Tmp×Nat))(ops:Array Oper):Prop:=∀(i j:Nat) (o p:Oper) (d e:Tmp) (id:Nat),ops[i]? =some o->ops[j]? =some p->o.dst=some d->p.dst=some e->fu d aJ=some id->fu e aJ=some id->i=j
theorem Bl {Z:Nat->Prop}{w:World}{ρ:List Loc}{I:aD}{v:J}(ae:w6 v=true):eD Z w ρ I v (wU v):=by
 cases v with
 |d x=>
  cases x with
  |int k n=>exact bB.int k n
  |bool b=>exact bB.bool b
  |_=>cases ae
 |bt=>rfl
 |bf=>rfl
 |_=>cases ae
theorem Ys {Z:Nat->Prop}{w:World}{ρ:List Loc}{I:aD}{v:J}(ae:xh v=true):bL Z w ρ I v (uR v):=by
 cases v with
 |agg l=>
  have ae:eg w6 l=true:=ae;rw[fy,aoR]at ae;refine .hj ⟨(bE wU l).toArray,rfl,by rw[dM];simp,fun i hi=> ?_⟩;have:=Bl (Z:=Z) (w:=w) (ρ:=ρ) (I:=I) (ae (l.getD i .un) (by simp[aoA,hi]));simpa[dM,aoH,aoA,hi]using this
 |d x=>exact .c3 (Bl (v:= .d x) ae)
 |bt=>exact .c3 (Bl (v:= .bt) rfl)
 |bf=>exact .c3 (Bl (v:= .bf) rfl)
 |_=>cases ae
theorem ZT {tb:TypeId->b7}{o:Oper}{tm:List J}{ρ:List Loc}{I:aD}{a:Act}{w:World}{f:FuncId}{args:List J}{tys:List TypeId}(au:ek (aN N ρ I) w ρ I tm a.tmps)(h:e0 tb o tm I= .call f args tys):
 ∃cm:Array Value,args.length=cm.size/\(∀j,j<args.length->bL (aN N ρ I) w ρ I (args.getD j .un) (cm.getD j undef))/\(execOp a.eval o).run P w=(callFunc f cm).run P w:=by
 obtain⟨c,bQ,h⟩:=adf h;obtain⟨hlen,ga⟩:=HS au c.args
 have rb:∀j,j<(bE (aY tm) c.args.toList).length->bL (aN N ρ I) w ρ I ((bE (aY tm) c.args.toList).getD j .un) ((c.args.map a.eval).getD j undef):=fun j aI=>by have:=ga j aI;simpa[aoH,aoA]using this
 have ax:(bE (aY tm) c.args.toList).length=(c.args.map a.eval).size:=by simpa using hlen
 rcases h with⟨aC,rfl⟩|⟨t,aC,⟨aP,rfl⟩|⟨l,aP,rfl⟩⟩
 ·refine⟨c.args.map a.eval,ax,rb, ?_⟩;unfold execOp;rw[bQ];simp only[resolve,aC,Deferred.ofValue,Act.eval,pure_bind,invoke];simp
 ·have ai:=au.at_ t;rw[<-dT,aP]at ai;have ai:a.tmps.getD t undef= .func (.func f) #[] #[]:=ai;refine⟨c.args.map a.eval,ax,rb, ?_⟩;unfold execOp;rw[bQ];simp only[resolve,aC,Act.eval,ai,Deferred.ofValue,pure_bind,invoke];simp
 ·have ai:=au.at_ t;rw[<-dT,aP]at ai;obtain⟨ai,ae⟩:a.tmps.getD t undef= .func (.func f) (bE uR l).toArray #[]/\eg xh l=true:=ai;rw[fy,aoR]at ae;refine⟨(bE uR l).toArray++c.args.map a.eval,by rw[fV,ao0,ax,Array.size_append,dM];simp,fun j aI=> ?_, ?_⟩
  ·rw[fV]at aI⊢;rw[aoA,aoH,ao5,Array.getElem?_append];have ay:(bE uR l).toArray.size=l.length:=by rw[dM];simp
   rw[ay]
   by_cases bG:j<l.length
   ·rw[aoy bG,aoy bG];have:=Ys (Z:=aN N ρ I) (w:=w) (ρ:=ρ) (I:=I) (ae (l.getD j .un) (by simp[aoA,bG]));simpa[dM,aoA,bG]using this
   ·rw[aox bG,aox bG];have:=rb (j-l.length) (by rw[ao0]at aI;omega);simpa[aoH,aoA]using this
  ·unfold execOp;rw[bQ];simp only[resolve,aC,Act.eval,ai,Deferred.ofValue,pure_bind,invoke];simp
theorem BI {tb:TypeId->b7}{bx:FuncId->gw}(bs:∀t,c1 P t (tb t)=true)(Fi:∀t,pZ P tb t=true)(eB:∀f args I K,bx f args I K->yp P f (bx f))(aJ:List (Tmp×Nat))(ops:Array Oper)(Ex:Hy aJ ops)(K:List J->aD->Prop):
 ∀(is:List Nat),(∀i∈is,i<ops.size)->is.Nodup->∀(tm:List J) (I:aD) (a:Act) (w:World) (ρ:List Loc),zk aJ ops is ρ->
  dw tb bx aJ ops.toList (is.map fun i=>ops.toList.getD i default) tm I K->eC N ρ tm I a w->
  wpOps P ops (fun e b5 w'=>e= .normal/\m0 N ρ I a w (o3 ops) K b5 w') is a w:=by
 intro is
 induction is with
 |nil=>
  intro _ _ tm I a w ρ _ h ay;exact⟨rfl,⟨tm,I,ρ,h,ay,Fr.refl _ _ _⟩,fun _ _=>rfl,rfl⟩
 |cons i bM bF=>
  intro bG xt tm I a w ρ Jr h ay;have hi:i<ops.size:=bG i (by simp);have aF:ops[i]? =some ops[i]:=by simp[hi]
  have m1:ops.toList.getD i default=ops[i]:=by simp[aoA,hi]
  simp only[aoX,m1]at h;simp only[wpOps,aF];have ai1:=bF (fun j aI=>bG j (by simp[aI])) (List.nodup_cons.1 xt).2
  have next:∀(gk:List J) (cR:aD) (w1:World) (eE:List Loc) (u:Value),dw tb bx aJ ops.toList (bM.map fun i=>ops.toList.getD i default) gk cR K->
   eC N eE gk cR (a.put ops[i].dst u) w1->Fr ρ I w eE cR w1->zk aJ ops bM eE->
   wpOps P ops (fun e b5 w'=>e= .normal/\m0 N ρ I a w (o3 ops) K b5 w') bM (a.put ops[i].dst u) w1:=by
   intro gk cR w1 eE u ae eR aU ai2;have:=ai1 gk cR (a.put ops[i].dst u) w1 eE ai2 ae eR;refine tW ?_ _ _ _ this;rintro e b5 w' ⟨he,⟨dI,aj,ρ',a6,bj,bH⟩,e6,cq⟩;refine⟨he,⟨dI,aj,ρ',a6,bj,aU.trans bH⟩,fun t au=> ?_,cq.trans (by cases ops[i].dst<;>simp[Act.put])⟩;rw[e6 t au,abw _ _ _ _ (BH aF au)]
  have rK:zk aJ ops bM ρ:=fun j aI=>Jr j (by simp[aI])
  have j2:∀{eE cR},(∀id,eX ρ I eE cR id)->zk aJ ops bM eE:=fun j3 j aI o d id aA b3 cX=>(j3 id _ (rK j aI o d id aA b3 cX)).1
  have run:∀(dG:List J),eC N ρ dG I a w->
   (match cK tb aJ ops[i] dG I with
     | .bad=>False
     | .aZ cd v aj=>gC cd (dw tb bx aJ ops.toList (bM.map fun i=>ops.toList.getD i default) (put dG ops[i].dst v) aj K)
     | .grow cd v aj id=>gC cd (dw tb bx aJ ops.toList (bM.map fun i=>ops.toList.getD i default) (put (bE (ev id) dG) ops[i].dst v) (gy id aj) K)
     | .fB p=>∀b:Bool,p b->dw tb bx aJ ops.toList (bM.map fun i=>ops.toList.getD i default) (put dG ops[i].dst (.d (.bool b))) I K
     | .call f args _=>bx f args I fun v aj=>dw tb bx aJ ops.toList (bM.map fun i=>ops.toList.getD i default) (put dG ops[i].dst v) aj K)->
   ops[i].wp P a w (wpOps P ops (fun e b5 w'=>e= .normal/\m0 N ρ I a w (o3 ops) K b5 w') bM) (fun e b5 w'=>e= .normal/\m0 N ρ I a w (o3 ops) K b5 w'):=by
   intro dG fe an;unfold Oper.wp;rcases Gy tb aJ ops[i] dG I with ai|⟨t,d,id,cH,cz,ei,ai⟩|⟨t,n,bP,d,id,cH,cz,ei,ai⟩;rotate_left
   ·rcases ai with ai|⟨av,ai⟩
    ·rw[ai]at an;exact an.elim
    rw[ai]at an;have an:dw tb bx aJ ops.toList (bM.map fun i=>ops.toList.getD i default) (put dG ops[i].dst (.ptr id 0)) (cQ I id (false, .cells (tb t).ty.zero)) K:=an;obtain⟨u,w',ρ',U,aa,az,aW,bA,bZ⟩:=abu (P:=P) (bs t) av fe.eO (Jr i (by simp) _ d id aF cz ei)
    have hex:(execOp a.eval ops[i]).run P w= .ok (.value u) w':=by
     unfold execOp;rw[cH];simp only[Sem.run_bind,U,Result.andThen_ok,Sem.run_pure]
    rw[hex];rw[eI]at an
    have eR:eC N ρ' (put dG ops[i].dst (.ptr id 0)) (I.set id (false, .cells (tb t).ty.zero)) (a.put ops[i].dst u) w':=
     ⟨aa,ek.put ⟨fe.en.size,fun t=>bA _ _ (fe.en.at_ t)⟩ _ bZ,by cases ops[i].dst<;>exact fe.hN⟩
    refine next _ _ _ _ u an eR az fun j aI o AH my aA b3 cX=> ?_
    have dg:my≠id:=fun e=>(List.nodup_cons.1 xt).1 (Ex j i o ops[i] AH d id aA aF b3 cz (e▸cX) ei▸aI);exact(aW my dg _ (rK j aI o AH my aA b3 cX)).1
   ·rcases ai with ai|⟨ob,cf,ai⟩
    ·rw[ai]at an;exact an.elim
    rw[ai]at an;have an:dw tb bx aJ ops.toList (bM.map fun i=>ops.toList.getD i default) (put dG ops[i].dst (.vec id)) (cQ I id (false,ob)) K:=an;obtain⟨u,w',ρ',U,aa,az,aW,bA,bZ⟩:=abx (P:=P) (bs t) fe.eO fe.en (Jr i (by simp) _ d id aF cz ei) n bP cf
    have hex:(execOp a.eval ops[i]).run P w= .ok (.value u) w':=by
     unfold execOp;rw[cH];simp only[Sem.run_bind,U,Result.andThen_ok,Sem.run_pure]
    rw[hex];rw[eI]at an
    have eR:eC N ρ' (put dG ops[i].dst (.vec id)) (I.set id (false,ob)) (a.put ops[i].dst u) w':=
     ⟨aa,ek.put ⟨fe.en.size,fun t=>bA _ _ (fe.en.at_ t)⟩ _ bZ,by cases ops[i].dst<;>exact fe.hN⟩
    refine next _ _ _ _ u an eR az fun j aI o AH my aA b3 cX=> ?_
    have dg:my≠id:=fun e=>(List.nodup_cons.1 xt).1 (Ex j i o ops[i] AH d id aA aF b3 cz (e▸cX) ei▸aI);exact(aW my dg _ (rK j aI o AH my aA b3 cX)).1
   rw[ai]at an;split at an
   ·exact an.elim
   ·rename_i cd v aj he;rw[gY]at an;obtain⟨rl,an⟩:=an;obtain⟨oB,w',ρ',u,U,aa,az,aW⟩:=ZO (P:=P) bs Fi fe.eO fe.en he rl;rw[U]
    have eR:eC N ρ' (put dG ops[i].dst v) aj (a.put ops[i].dst u) w':=
     ⟨az.rel,ek.put (fe.en.step az) _ aW,by cases ops[i].dst<;>exact fe.hN⟩
    have av:=next _ _ _ _ u an eR az.toFr (j2 az.same)
    rcases aa with rfl|⟨rfl,rfl⟩
    ·exact av
    ·exact av
   ·rename_i cd v aj id he;rw[gY]at an;obtain⟨rl,an⟩:=an;obtain⟨u,w',ρ',U,aa,az,aW,bA⟩:=Yp (P:=P) bs fe.eO fe.en he rl;rw[U]
    have zT:ek (aN N ρ' (gy id aj)) w' ρ' (gy id aj) (bE (ev id) dG) a.tmps:=by
     refine⟨by rw[dM];simpa using fe.en.size,fun t=> ?_⟩;have:=(fe.en.at_ t).kill id (fun _ _=>az.reads) aW;rw[dM]
     by_cases bG:t<dG.length
     ·simpa[aoA,bG]using this
     ·have aA:(dG.map (ev id)).getD t .un= .un:=by rw[aoA,ape (by simpa using bG)];rfl
      have aL:dG.getD t .un= .un:=by rw[aoA,ape (by omega)];rfl
      rw[aL]at this;rw[aA];exact this
    have eR:eC N ρ' (put (bE (ev id) dG) ops[i].dst v) (gy id aj) (a.put ops[i].dst u) w':=
     ⟨aa,ek.put zT _ bA,by cases ops[i].dst<;>exact fe.hN⟩
    refine next _ _ _ _ u an eR az fun j aI o d my aA b3 cX=> ?_
    have dg:my≠id:=fun e=>by
     obtain⟨x,ai3⟩:=aby he;have pe:=eA fe.en x;rw[ai3]at pe;exact x4 (Z:=aN N ρ I) (w:=w) (I:=I) (rK j aI o d my aA b3 cX) (show eD _ _ _ _ (.vec id) _ from pe) e.symm
    exact(aW my dg _ (rK j aI o d my aA b3 cX)).1
   ·rename_i p he;obtain⟨b,ag,U⟩:=Yq (P:=P) (w:=w) bs fe.en he;rw[U]
    have eR:eC N ρ (put dG ops[i].dst (.d (.bool b))) I (a.put ops[i].dst (.bool b)) w:=
     ⟨fe.eO,ek.put fe.en _ (jP b),by cases ops[i].dst<;>exact fe.hN⟩
    exact next _ _ _ _ _ (an b ag) eR (Fr.refl _ _ _) rK
   ·rename_i f args tys he;obtain⟨cm,hlen,rb,te⟩:=ZT (P:=P) fe.en he;rcases eB _ _ _ _ an with⟨⟨fn,rL,rM,ai4⟩,uU⟩|uU
    ·have hex:(execOp a.eval ops[i]).run P w= .ok (.enter f cm) w:=by
      rw[te];simp only[callFunc,Sem.run_bind,run_program,Result.andThen_ok,rL,rM,ai4];simp
     rw[hex];refine(uU N ρ I w _ _ _ an fe.eO hlen rb).mono ?_;rintro e w' ⟨r,aj,ρ',v,rfl,U,aa,az⟩
     have eR:eC N ρ' (put dG ops[i].dst r) aj (a.put ops[i].dst v) w':=
      ⟨aa.rel,ek.put (fe.en.step aa) _ az,by cases ops[i].dst<;>exact fe.hN⟩
     exact next _ _ _ _ v U eR aa.toFr (j2 aa.same)
    ·obtain⟨v,w',r,aj,ρ',fq,U,aa,az⟩:=uU N ρ I w _ _ _ an fe.eO hlen rb;rw[te,fq]
     have eR:eC N ρ' (put dG ops[i].dst r) aj (a.put ops[i].dst v) w':=
      ⟨aa.rel,ek.put (fe.en.step aa) _ az,by cases ops[i].dst<;>exact fe.hN⟩
     exact next _ _ _ _ v U eR aa.toFr (j2 aa.same)
  have skip:∀(dG:List J),eC N ρ dG I a w->dw tb bx aJ ops.toList (bM.map fun i=>ops.toList.getD i default) (put dG ops[i].dst .un) I K->
   wpOps P ops (fun e b5 w'=>e= .normal/\m0 N ρ I a w (o3 ops) K b5 w') bM (a.put ops[i].dst undef) w:=fun dG fe an=>
   next _ _ _ _ undef an ⟨fe.eO,ek.put fe.en _ bL.un,by cases ops[i].dst<;>exact fe.hN⟩ (Fr.refl _ _ _) rK
  unfold dw at h
  cases bh:ops[i].guard with
  |none=>
   rw[bh]at h;simp only[Region.wanted,bh,ao_];exact .inl (run tm ay h)
  |some amf=>
   obtain⟨j,want⟩:=amf;rw[bh]at h;simp only[Region.wanted,bh];have zU:l7 ops.toList j=(ops[j]?).bind (·.dst):=by rw[MY];simp
   simp only at h
   cases bp:l7 ops.toList j with
   |none=>
    rw[bp]at h;have:yielded ops a.tmps j=none:=by unfold yielded;rw[<-zU,bp];rfl
    rw[this];exact skip tm ay h
   |some g=>
    rw[bp]at h;simp only at h
    have Js:∀b,a.tmps.getD g undef= .bool b->yielded ops a.tmps j=some b:=by
     intro b ag;unfold yielded;rw[<-zU,bp];simp only[Option.bind_some]
     have:a.tmps[g]? =some (.bool b):=by
      rw[aoH]at ag
      cases a_:a.tmps[g]? with
      |none=>rw[a_]at ag;cases ag
      |some q=>rw[a_]at ag;simp at ag;rw[ag]
     rw[this]
    have cF:=ay.en.at_ g;rw[<-dT]at cF;split at h
    ·rename_i he;rw[he]at cF;have ag:a.tmps.getD g undef= .bool true:=cF;rw[Js true ag]
     cases want with
     |true=>simp only[beq_self_eq_true,ao_];exact .inl (run tm ay h)
     |false=>simp only[show(some true==some false)=false from rfl];exact skip tm ay h
    ·rename_i he;rw[he]at cF;have ag:a.tmps.getD g undef= .bool false:=cF;rw[Js false ag]
     cases want with
     |false=>simp only[beq_self_eq_true,ao_];exact .inl (run tm ay h)
     |true=>simp only[show(some false==some true)=false from rfl];exact skip tm ay h
    ·rename_i he;rw[he]at cF;have ag:a.tmps.getD g undef=undef:=cF
     have:yielded ops a.tmps j=none:=by
      unfold yielded;rw[<-zU,bp];simp only[Option.bind_some];rw[aoH]at ag
      cases a_:a.tmps[g]? with
      |none=>rfl
      |some q=>rw[a_]at ag;simp at ag;rw[ag];rfl
     rw[this];exact skip tm ay h
    ·rename_i b he;rw[he]at cF;have ag:=mI cF;rw[Js b ag];obtain⟨au,aU⟩:=h;have hy:=C2 ay g ag
     cases b with
     |true=>
      have au:=au rfl
      cases want with
      |true=>simp only[beq_self_eq_true,ao_];exact .inl (run _ hy au)
      |false=>simp only[show(some true==some false)=false from rfl];exact skip _ hy au
     |false=>
      have aU:=aU rfl
      cases want with
      |false=>simp only[beq_self_eq_true,ao_];exact .inl (run _ hy aU)
      |true=>simp only[show(some false==some true)=false from rfl];exact skip _ hy aU
    ·exact h.elim
end
end Go.al
end
section
namespace Go.al
def hv (T:gw):Prop:=
 (∀args I (K K':J->aD->Prop),(∀r o,K r o->K' r o)->T args I K->T args I K')/\∀args I K,T args I K->∃r o,K r o
section
variable {tb:TypeId->b7} {bx:FuncId->gw}
def fN (bx:FuncId->gw)(I:aD)(k:J->aD->Prop):bS->Prop
 | .bad=>False
 | .aZ cd v aj=>gC cd (k v aj)
 | .grow _ _ _ _=>False
 | .fB _=>False
 | .call f args _=>bx f args I k
theorem GJ {t:Tmp}{l:List Operand}:qZ t l=true↔Operand.tmp t∈l:=by
 induction l with
 |nil=>simp[qZ]
 |cons x r bF=>
  cases x with
  |tmp u=>
   simp only[qZ]
   by_cases h:u=t
   ·subst h;simp
   ·have:Nat.beq u t=false:=by
     cases ag:Nat.beq u t with
     |false=>rfl
     |true=>exact absurd (aoz ag) h
    rw[this];simp[bF,apk h]
  |_=>simp[qZ,bF]
theorem Ii {tm:List J}{dst:Option Tmp}{v:J}{x:Operand}(h:∀t,dst=some t->x≠ .tmp t):aY (put tm dst v) x=aY tm x:=by
 cases dst with
 |none=>rfl
 |some d=>
  cases x with
  |tmp t=>
   simp only[put,aY,eI,dT,eu];rw[aox];rintro⟨rfl,_⟩;exact h d rfl rfl
  |_=>rfl
theorem yd {o:Oper}{tm:List J}{dst:Option Tmp}{v:J}(h:l8 o dst=false){x:Operand}(ai:x∈o.op.operands.toList):aY (put tm dst v) x=aY tm x:=by
 refine Ii fun t au zV=> ?_;subst au zV;simp only[l8]at h;rw[GJ.2 ai]at h;cases h
theorem qL {α β:Type}{f g:α->β}{l:List α}(h:∀x∈l,f x=g x):bE f l=bE g l:=by
 rw[dM,dM];exact aqD h
theorem GK {o:Oper}{tm dI:List J}{I:aD}(h:∀x∈o.op.operands.toList,aY dI x=aY tm x):e0 tb o dI I=e0 tb o tm I:=by
 unfold e0
 cases bQ:o.op with
 |move x=>simp only[bQ]at h⊢;rw[h x (by simp[Op.operands])]
 |assign x=>simp only[bQ]at h⊢;rw[h x (by simp[Op.operands])]
 |pick c x y=>simp only[bQ]at h⊢;rw[h c (by simp[Op.operands]),h x (by simp[Op.operands]),h y (by simp[Op.operands])]
 |box t x=>simp only[bQ]at h⊢;rw[h x (by simp[Op.operands])]
 |build t bP=>
  simp only[bQ]at h⊢;have:bE (fun p=>(p.1,aY dI p.2)) bP.toList=bE (fun p=>(p.1,aY tm p.2)) bP.toList:=qL fun p aE=>by rw[h p.2 (by simp[Op.operands];exact⟨p.1,by simpa using aE⟩)]
  rw[this]
 |buildSlice t n bP=>
  simp only[bQ]at h⊢;have:bE (fun p=>(p.1,aY dI p.2)) bP.toList=bE (fun p=>(p.1,aY tm p.2)) bP.toList:=qL fun p aE=>by rw[h p.2 (by simp[Op.operands];exact⟨p.1,by simpa using aE⟩)]
  rw[this]
 |load t x=>simp only[bQ]at h⊢;rw[h x (by simp[Op.operands])]
 |store t x y=>simp only[bQ]at h⊢;rw[h x (by simp[Op.operands]),h y (by simp[Op.operands])]
 |nilCheck x=>simp only[bQ]at h⊢;rw[h x (by simp[Op.operands])]
 |binOp op t x y ty=>simp only[bQ]at h⊢;rw[h x (by simp[Op.operands]),h y (by simp[Op.operands])]
 |unOp op t x=>simp only[bQ]at h⊢;rw[h x (by simp[Op.operands])]
 |convert s d x=>simp only[bQ]at h⊢;rw[h x (by simp[Op.operands])]
 |extract x i=>simp only[bQ]at h⊢;rw[h x (by simp[Op.operands])]
 |fieldAddr s x f=>simp only[bQ]at h⊢;rw[h x (by simp[Op.operands])]
 |field s x f=>simp only[bQ]at h⊢;rw[h x (by simp[Op.operands])]
 |indexAddr t x i=>simp only[bQ]at h⊢;rw[h x (by simp[Op.operands]),h i (by simp[Op.operands])]
 |index t x i=>simp only[bQ]at h⊢;rw[h x (by simp[Op.operands]),h i (by simp[Op.operands])]
 |makeSlice t x y=>simp only[bQ]at h⊢;rw[h x (by simp[Op.operands]),h y (by simp[Op.operands])]
 |slice t x lo hi dn=>
  simp only[bQ]at h⊢
  have aF:∀q:Option Operand,(∀y,q=some y->aY dI y=aY tm y)->omap (aY dI) q=omap (aY tm) q:=by
   intro q a_
   cases q with
   |none=>rfl
   |some y=>simp only[omap,a_ y rfl]
  rw[h x (by simp[Op.operands]),aF lo (fun y bp=>h y (by subst bp;simp[Op.operands])),aF hi (fun y bp=>h y (by subst bp;simp[Op.operands])),aF dn (fun y bp=>h y (by subst bp;simp[Op.operands]))]
 |call c=>
  simp only[bQ]at h⊢;have:bE (aY dI) c.args.toList=bE (aY tm) c.args.toList:=qL fun x ai=>h x (by simp[Op.operands,Call.operands];exact .inr (by simpa using ai));rw[this]
  cases aC:c.callee with
  |value x=>
   cases x with
   |tmp t=>
    have e:b8 .un dI t=b8 .un tm t:=h (.tmp t) (by simp[Op.operands,Call.operands,aC]);simp only[e]
   |_=>rfl
  |_=>rfl
 |makeFunc fn first cap=>
  simp only[bQ]at h⊢;have U:bE (aY dI) first.toList=bE (aY tm) first.toList:=qL fun x ai=>h x (by simp[Op.operands];exact .inl (by simpa using ai))
  have aa:bE (aY dI) cap.toList=bE (aY tm) cap.toList:=qL fun x ai=>h x (by simp[Op.operands];exact .inr (by simpa using ai));rw[U,aa]
 |makeMap t r=>cases r<;>rfl
 |lookup t m k c=>simp only[bQ]at h⊢;rw[h m (by simp[Op.operands]),h k (by simp[Op.operands])]
 |mapUpdate t m k v=>simp only[bQ]at h⊢;rw[h m (by simp[Op.operands]),h k (by simp[Op.operands]),h v (by simp[Op.operands])]
 |_=>rfl
theorem G7 (I aj:aD)(s:cg){v:J}(h:J.ha v=true):J.hI I (s.norm I v)=J.hI aj (s.norm aj v):=by
 cases v<;>simp[J.ha]at h<;>cases s<;>rfl
theorem Ij (I aj:aD){v:J}(h:J.ha v=true):J.hI I v=J.hI aj v:=by
 cases v<;>simp[J.ha]at h<;>rfl
theorem Cu (I aj:aD):∀(cs:List cg) (aH:List J),eg J.ha aH=true->bE (J.hI I) (iE I cs aH)=bE (J.hI aj) (iE aj cs aH)
 |[],aH,h=>by
  rw[fy,aoR]at h;exact qL fun x ai=>Ij I aj (h x ai)
 |s::cs,[],_=>rfl
 |s::cs,v::aH,h=>by
  have U:J.ha v=true/\eg J.ha aH=true:=by
   rw[fy,aqb,aoL]at h;rw[fy];exact h
  show J.hI I (s.norm I v)::bE (J.hI I) (iE I cs aH)=J.hI aj (s.norm aj v)::bE (J.hI aj) (iE aj cs aH);rw[G7 I aj s U.1,Cu I aj cs aH U.2]
theorem G8 (I aj:aD)(cs:List cg){v:J}(h:eg J.ha v.cellsOf=true):mi I cs v=mi aj cs v:=Cu I aj cs _ h
theorem x1 (I aj:aD)(ak:Nat)(cs:List cg):∀(bP:List (Nat×J)) (i n:Nat),hs.go I ak cs i n bP=hs.go aj ak cs i n bP
 |[],i,0=>rfl
 |[],i,n+1=>rfl
 |_::_,i,0=>rfl
 |(j,v)::r,i,n+1=>by
  by_cases aP:∃m x,v= .rw m x
  ·obtain⟨m,x,rfl⟩:=aP;simp only[hs.go];rw[x1 I aj ak cs r]
  ·have gen:∀o:aD,hs.go o ak cs i (n+1) ((j,v)::r)=(match Nat.beq i j,Nat.beq (bU v.cellsOf) ak,eg J.ha v.cellsOf with
    |true,true,true=>(match hs.go o ak cs (Nat.succ i) n r with|some l=>some (mi o cs v::l)|none=>none)
    |_,_,_=>none):=fun o=>by cases v<;>first|rfl|exact absurd ⟨_,_,rfl⟩ aP
   rw[gen,gen,x1 I aj ak cs r];split
   ·rename_i U aa az;rw[G8 I aj cs az]
   ·rfl
theorem x5 (I aj:aD)(t:a7)(v:J):oV I t v=oV aj t v:=by
 cases v<;>try rfl
 rename_i l;simp only[oV];split
 ·rename_i _ _ h;rw[G8 I aj t.cells (v:= .agg l) h]
 ·rfl
theorem MZ (I aj:aD)(t:a7)(v:J):nZ I t v=nZ aj t v:=by
 have s0:∀l,(match Nat.beq (bU l) t.size,eg J.ha l with|true,true=>some (mi I t.cells (.agg l))|_,_=>none)=(match Nat.beq (bU l) t.size,eg J.ha l with|true,true=>some (mi aj t.cells (.agg l))|_,_=>none):=fun l=>by
  split
  ·rename_i _ h;rw[G8 I aj t.cells (v:= .agg l) h]
  ·rfl
 cases t with
 |aB s=>
  simp only[nZ];split
  ·rename_i h;rw[G7 I aj s h]
  ·rfl
 |_=>cases v<;>first|rfl|exact s0 _
theorem MF (I aj:aD)(cs:List cg)(bP:List (Nat×J)):∀(bY:List (Nat×Nat×a7)) (k:Nat),qV I cs bP k bY=qV aj cs bP k bY
 |[],_=>rfl
 |f::r,k=>by
  unfold qV;rw[MF I aj cs bP r]
  cases fu k bP with
  |none=>rfl
  |some v=>simp only[MZ I aj f.2.2 v]
theorem Wv (t:a7)(bP:List (Nat×J))(I aj:aD):(pQ t bP I= .bad/\pQ t bP aj= .bad)\/∃s v,pQ t bP I= .aZ s v I/\pQ t bP aj= .aZ s v aj:=by
 unfold pQ;split
 ·split
  ·rename_i bY cs _;rw[MF I aj cs bP bY 0];split<;>first|exact .inr ⟨_,_,rfl,rfl⟩|exact .inl ⟨rfl,rfl⟩
  ·split<;>first|exact .inr ⟨_,_,rfl,rfl⟩|exact .inl ⟨rfl,rfl⟩
  ·exact .inl ⟨rfl,rfl⟩
 ·split<;>first|exact .inr ⟨_,_,rfl,rfl⟩|exact .inl ⟨rfl,rfl⟩
theorem Ww (t:a7)(f:Nat)(x:J)(I aj:aD):(pR t f x I= .bad/\pR t f x aj= .bad)\/∃s v,pR t f x I= .aZ s v I/\pR t f x aj= .aZ s v aj:=by
 unfold pR
 (repeat' split)<;>first|exact .inr ⟨_,_,rfl,rfl⟩|exact .inl ⟨rfl,rfl⟩
theorem Yt (op:BinOp)(t:a7)(x y:J)(I aj:aD):(p8 op t x y I= .bad/\p8 op t x y aj= .bad)\/∃s v,p8 op t x y I= .aZ s v I/\p8 op t x y aj= .aZ s v aj:=by
 unfold p8;rw[x5 I aj t x,x5 I aj t y]
 (repeat' split)<;>first|exact .inr ⟨_,_,rfl,rfl⟩|exact .inl ⟨rfl,rfl⟩
theorem Yu (tb:TypeId->b7)(t:b7)(m k:J)(c:Bool)(I:aD):oM tb t m k c I= .bad\/∃s v,oM tb t m k c I= .aZ s v I:=by
 unfold oM
 (repeat' split)<;>first|exact .inr ⟨_,_,rfl⟩|exact .inl rfl
theorem abz (k:IntKind)(dst:a7)(x:J):(∀I,nY (.aB (.int k)) dst x I= .bad)\/∃s v,∀I,nY (.aB (.int k)) dst x I= .aZ s v I:=by
 unfold nY
 cases dst with
 |aB s=>
  cases s with
  |int cy=>
   cases x with
   |d a=>cases a<;>first|exact .inr ⟨_,_,fun _=>rfl⟩|exact .inl fun _=>rfl
   |_=>exact .inl fun _=>rfl
  |str=>
   cases x with
   |d a=>
    cases a with
    |ad cy l=>cases cy<;>exact .inl fun _=>rfl
    |_=>exact .inl fun _=>rfl
   |vec id=>
    refine .inl fun I=> ?_;simp only
    cases af.at I id with
    |ad cy l=>cases cy<;>rfl
    |_=>rfl
   |_=>exact .inl fun _=>rfl
  |_=>exact .inl fun _=>rfl
 |_=>exact .inl fun _=>rfl
theorem Sp {o:Oper}(aC:fv tb o.op=0)(hm:oW o.op=false)(tm:List J)(I aj:aD):
 (e0 tb o tm I= .bad/\e0 tb o tm aj= .bad)\/∃s v,e0 tb o tm I= .aZ s v I/\e0 tb o tm aj= .aZ s v aj:=by
 have bad:∀{x y:bS},x= .bad->y= .bad->(x= .bad/\y= .bad)\/∃s v,x= .aZ s v I/\y= .aZ s v aj:=fun U aa=> .inl ⟨U,aa⟩
 unfold e0;cases bQ:o.op<;>simp only[bQ,fv]at aC hm⊢<;>try (exact absurd aC (by decide))
 case move x=>exact .inr ⟨_,_,rfl,rfl⟩
 case buildSlice t n bP=>
  have ax:(tb t).lit=true:=by
   cases ag:(tb t).lit with
   |true=>rfl
   |false=>rw[ag]at aC;cases aC
  rw[ax];split
  ·split
   ·exact .inr ⟨_,_,rfl,rfl⟩
   ·exact .inl ⟨rfl,rfl⟩
  ·rw[show∀q,hs I q (tb t).fz n (bE (fun p=>(p.1,aY tm p.2)) bP.toList)=hs aj q (tb t).fz n (bE (fun p=>(p.1,aY tm p.2)) bP.toList)from fun q=>x1 I aj q _ _ 0 n];split
   ·exact .inr ⟨_,_,rfl,rfl⟩
   ·exact .inl ⟨rfl,rfl⟩
  ·exact .inl ⟨rfl,rfl⟩
 case build t bP=>exact Wv _ _ _ _
 case makeFunc fn first cap=>
  unfold yE;split
  ·split
   ·exact .inr ⟨_,_,rfl,rfl⟩
   ·split
    ·exact .inr ⟨_,_,rfl,rfl⟩
    ·exact .inl ⟨rfl,rfl⟩
  ·exact .inl ⟨rfl,rfl⟩
 case assign x=>exact .inr ⟨_,_,rfl,rfl⟩
 case pick c x y=>
  unfold wx;split
  ·exact .inr ⟨_,_,rfl,rfl⟩
  ·exact .inr ⟨_,_,rfl,rfl⟩
  ·split
   ·exact .inr ⟨_,_,rfl,rfl⟩
   ·exact .inr ⟨_,_,rfl,rfl⟩
   ·exact .inr ⟨_,_,rfl,rfl⟩
   ·exact .inr ⟨_,_,rfl,rfl⟩
   ·split
    ·exact .inr ⟨_,_,rfl,rfl⟩
    ·exact .inl ⟨rfl,rfl⟩
   ·exact .inl ⟨rfl,rfl⟩
  ·exact .inl ⟨rfl,rfl⟩
 case nilCheck x=>split<;>first|exact .inr ⟨_,_,rfl,rfl⟩|exact .inl ⟨rfl,rfl⟩
 case binOp op t x y ty=>
  have Jt:∀v,y= .const v->(∀a l c,v≠ .slice a l c):=by
   rintro v rfl a l c rfl;simp[oW,A_]at hm
  have ag:∀(op:BinOp) (dy:Operand) (k:IntKind) (a b:Int),(n4 op dy k a b I= .bad/\n4 op dy k a b aj= .bad)\/∃s v,n4 op dy k a b I= .aZ s v I/\n4 op dy k a b aj= .aZ s v aj:=by
   intro op dy k a b;cases op<;>first|exact .inr ⟨_,_,rfl,rfl⟩|exact .inl ⟨rfl,rfl⟩
  have aeT:∀(op:BinOp) (t:a7) (a b:Bool),(jt op t a b I= .bad/\jt op t a b aj= .bad)\/∃s v,jt op t a b I= .aZ s v I/\jt op t a b aj= .aZ s v aj:=by
   intro op t a b;unfold jt;split<;>first|exact .inr ⟨_,_,rfl,rfl⟩|exact .inl ⟨rfl,rfl⟩
  generalize hex:aY tm x=ame;generalize rC:aY tm y=amg
  have Ey:amg= .emp->A_ y=false->∀v,y≠ .const v:=by
   intro U aa v aP;subst aP;rw[U]at rC;have:=Rf rC;subst this;simp[A_]at aa
  unfold yR;split
  ·exact Yt _ _ _ _ _ _
  unfold oU;split
  ·split
   ·exact .inr ⟨_,_,rfl,rfl⟩
   ·exact .inr ⟨_,_,rfl,rfl⟩
   ·split
    ·exact ag _ _ _ _ _
    ·exact .inl ⟨rfl,rfl⟩
  ·split<;>first|exact .inr ⟨_,_,rfl,rfl⟩|exact .inl ⟨rfl,rfl⟩
  ·split
   ·exact absurd rfl (Ey rfl hm _)
   ·exact absurd rfl (Ey rfl hm _)
   ·exact .inl ⟨rfl,rfl⟩
  ·split
   ·exact absurd rfl (Ey rfl hm _)
   ·exact absurd rfl (Ey rfl hm _)
   ·exact .inl ⟨rfl,rfl⟩
  all_goals first|exact aeT _ _ _ _|exact .inl ⟨rfl,rfl⟩
 case unOp op t x=>unfold wT;split<;>first|exact .inr ⟨_,_,rfl,rfl⟩|exact .inl ⟨rfl,rfl⟩
 case convert s d x=>
  split at aC
  ·rename_i k ae;rw[ae];rcases abz k (tb d).ty (aY tm x)with h|⟨s,v,h⟩
   ·exact .inl ⟨h I,h aj⟩
   ·exact .inr ⟨s,v,h I,h aj⟩
  ·cases aC
 case extract x i=>
  split
  ·split
   ·exact .inr ⟨_,_,rfl,rfl⟩
   ·exact .inl ⟨rfl,rfl⟩
  ·exact .inl ⟨rfl,rfl⟩
 case fieldAddr s x f=>
  split
  ·exact .inl ⟨rfl,rfl⟩
  ·split<;>first|exact .inr ⟨_,_,rfl,rfl⟩|exact .inl ⟨rfl,rfl⟩
 case field s x f=>exact Ww _ _ _ _ _
 case index t x i=>
  unfold ym;split
  ·split
   ·exact .inr ⟨_,_,rfl,rfl⟩
   ·split
    ·exact .inr ⟨_,_,rfl,rfl⟩
    ·exact .inl ⟨rfl,rfl⟩
   ·exact .inl ⟨rfl,rfl⟩
  ·exact .inl ⟨rfl,rfl⟩
 case call c=>
  exfalso;revert aC;split<;>simp
theorem agm {o:Oper}(aC:fv tb o.op<=1)(hm:oW o.op=false)(tm:List J)(I:aD):e0 tb o tm I= .bad\/∃s v,e0 tb o tm I= .aZ s v I:=by
 by_cases bc:fv tb o.op=0
 ·rcases Sp (tb:=tb) bc hm tm I I with⟨h,_⟩|⟨s,v,h,_⟩
  ·exact .inl h
  ·exact .inr ⟨s,v,h⟩
 ·have U:fv tb o.op=1:=by omega
  clear bc aC;unfold e0;cases bQ:o.op<;>simp only[bQ,fv]at U⊢<;>try (exact absurd U (by decide))
  case buildSlice t n bP=>exfalso;revert U;cases (tb t).lit<;>simp
  case load t x=>exact GI _ _ _
  case lookup t m k c=>exact Yu _ _ _ _ _ _
  case convert s d x=>
   unfold nY;split<;>(try split)<;>first|exact .inr ⟨_,_,rfl⟩|exact .inl rfl
  case indexAddr t x i=>
   unfold qJ;split
   ·split
    ·split<;>first|exact .inr ⟨_,_,rfl⟩|exact .inl rfl
    ·split<;>first|exact .inr ⟨_,_,rfl⟩|exact .inl rfl
    ·exact .inr ⟨_,_,rfl⟩
    ·exact ZQ _ _ _ _
   ·exact .inl rfl
  case call c=>
   split
   ·rename_i b Ju;rw[Ju]at U;unfold kC;split
    ·split
     ·exact .inl rfl
     ·split<;>first|exact .inr ⟨_,_,rfl⟩|exact .inl rfl
    ·exact absurd U (by decide)
    ·split<;>first|exact .inr ⟨_,_,rfl⟩|exact .inl rfl
    ·split<;>first|exact .inr ⟨_,_,rfl⟩|exact .inl rfl
    ·exact absurd U (by decide)
    ·exact .inl rfl
   ·rename_i f te;rw[te]at U;simp at U
   ·rename_i t te;rw[te]at U;simp at U
   ·exact .inl rfl
theorem agn {o:Oper}(aC:fv tb o.op=2)(tm:List J)(I:aD):e0 tb o tm I= .bad\/(∃s v aj,e0 tb o tm I= .aZ s v aj)\/∃f args tys,e0 tb o tm I= .call f args tys:=by
 unfold e0;cases bQ:o.op<;>simp only[bQ,fv]at aC⊢<;>try (exact absurd aC (by decide))
 case alloc t=>exact(BX (L1 _ _)).imp id .inl
 case box t x=>exact(BX (ME _ _ _)).imp id .inl
 case convert s d x=>exfalso;revert aC;split<;>simp
 case buildSlice t n bP=>
  have ax:(tb t).lit=false:=by
   cases ag:(tb t).lit with
   |true=>rw[ag]at aC;cases aC
   |false=>rfl
  rw[ax];split
  ·split<;>first|exact .inl rfl|exact .inr (.inl ⟨_,_,_,rfl⟩)
  ·split<;>first|exact .inl rfl|exact .inr (.inl ⟨_,_,_,rfl⟩)
  ·exact .inl rfl
 case store t x y=>
  rcases MD (tb t).ty (aY tm x) (aY tm y) I with e|e
  ·exact .inl e
  ·exact .inr (.inl e)
 case makeSlice t x y=>
  unfold wy;split
  ·split<;>first|exact .inl rfl|exact .inr (.inl ⟨_,_,_,rfl⟩)
  ·exact .inl rfl
 case slice t x lo hi dn=>exact(BX (Md _ _ _ _ _ _)).imp id .inl
 case mapUpdate t m k v=>exact(BX (LD _ _ _ _ _ _)).imp id .inl
 case call c=>
  split
  ·rename_i b Ju;rw[Ju]at aC;exfalso;revert aC;cases b<;>simp
  ·exact .inr (.inr ⟨_,_,_,rfl⟩)
  ·rename_i t te;rw[te]at aC;simp at aC
  ·exact .inl rfl
theorem put_comm {tm:List J}{d e:Option Tmp}{u v:J}(h:fU d e=false):put (put tm d u) e v=put (put tm e v) d u:=by
 cases d with
 |none=>cases e<;>rfl
 |some d=>
  cases e with
  |none=>rfl
  |some e=>
   have dg:d≠e:=by
    rintro rfl;simp[fU]at h
   simp only[put,eI];exact List.set_comm _ _ dg
theorem G9 {s t:List Prop}{q:Prop}(h:gC s (gC t q)):gC t (gC s q):=by
 rw[gY,gY]at h⊢;exact⟨h.2.1,h.1,h.2.2⟩
end
end Go.al
end
section
namespace Go.al
def iB (ps:List a7)(T:List J->(J->Prop)->Prop):gw:=fun args I K=>
 match Nat.beq (bU ps) (bU args),eg J.plain (a7.eU I ps args)with
 |true,true=>T (a7.eU I ps args) fun v=>K v (cD I args)
 |_,_=>False
def k0 (T:List J->(J->Prop)->Prop):Prop:=
 (∀args (K K':J->Prop),(∀r,K r->K' r)->T args K->T args K')/\∀args K,T args K->∃r,K r
def af.plain:af->Bool
 | .cells l=>eg J.ra l
 | .ad ..=>true
 | .ar ..=>true
 |_=>false
def af.alike:af->af->Bool
 | .cells l, .cells ch=>Nat.beq (bU l) (bU ch)
 | .ad k _, .ad cy _=>jv k cy
 | .ar s _, .ar fL _=>Nat.beq s fL
 |_,_=>false
def C3:J->af->Bool
 | .vec _, .ad ..=>true
 | .vec _, .ar ..=>true
 | .ptr .., .cells l=>eg J.ra l
 |_,_=>false
def yH:J->af->Prop->Prop
 | .vec _,ob,q=>0<ob.len/\q
 |_,_,q=>q
def C4:J->Option Nat
 | .vec id=>some id
 | .ptr id _=>some id
 |_=>none
def mU:J->J
 | .vec _=> .vec 0
 | .ptr _ off=> .ptr 0 off
 |v=>v
def n1 (ps:List a7)(T:J->af->List J->(af->J->Prop)->Prop):gw:=fun args I K=>
 match args with
 |[]=>False
 |a0::bM=>
  match C4 a0 with
  |none=>False
  |some id=>
   match cw (cD I bM) id,C3 a0 (af.at I id),Nat.beq (bU ps) (bU bM),eg J.plain (a7.eU I ps bM)with
   |false,true,true,true=>yH a0 (af.at I id) (T (mU a0) (af.at I id) (a7.eU I ps bM) fun ob r=>
    (match af.alike (af.at I id) ob with|true=>K r (cQ (cD I bM) id (false,ob))|false=>False))
   |_,_,_,_=>False
def yV (n:Nat)(args:List J):List J:=b8 .un args n::eM (kM args n) (kL args (Nat.succ n))
def oR (ps:List a7)(T:J->af->List J->(af->J->Prop)->Prop):gw:=fun args I K=>
 match args with
 |[]=>False
 |a0::bM=>
  match C4 a0 with
  |none=>False
  |some id=>
   match cw (cD I bM) id,C3 a0 (af.at I id),Nat.beq (bU ps) (bU bM),eg J.plain (a7.eU I ps bM)with
   |false,true,true,true=>T (mU a0) (af.at I id) (a7.eU I ps bM) fun ob r=>
    (match af.alike (af.at I id) ob with|true=>K r (cQ (cD I bM) id (false,ob))|false=>False)
   |_,_,_,_=>False
def l6 (n:Nat)(ps:List a7)(T:J->af->List J->(af->J->Prop)->Prop):gw:=fun args I K=>
 match Nat.blt n (bU args)with
 |true=>oR ps T (yV n args) I K
 |false=>False
def kr (T:J->af->List J->(af->J->Prop)->Prop):Prop:=
 (∀a o args (K K':af->J->Prop),(∀o r,K o r->K' o r)->T a o args K->T a o args K')/\∀a o args K,T a o args K->∃o r,K o r
theorem x2 (a:J)(ob:af)(q:Prop):yH a ob q↔(∀id,a= .vec id->0<ob.len)/\q:=by
 cases a with
 |vec i=>simp[yH]
 |_=>simp[yH]
def pU (ps:List a7)(T:List J->(af->Prop)->Prop):gw:=fun args I K=>
 match Nat.beq (bU ps) (bU args),eg J.plain (a7.eU I ps args)with
 |true,true=>T (a7.eU I ps args) fun ob=>K (.vec (bU (cD I args))) (eM (cD I args) [(false,ob)])
 |_,_=>False
def nC (T:List J->(af->Prop)->Prop):Prop:=
 (∀args (K K':af->Prop),(∀r,K r->K' r)->T args K->T args K')/\∀args K,T args K->∃r,K r
def nj (ps:List a7)(T:List J->(J->Prop)->Prop):gw:=fun args I K=>
 match Nat.beq (bU ps) (bU args),eg J.plain (a7.eU I ps args)with
 |true,true=>T (a7.eU I ps args) fun v=>K v I
 |_,_=>False
def IT (T:gw):Prop:=(∃ps gU,k0 gU/\T=iB ps gU)\/(∃ps gU,kr gU/\T=n1 ps gU)\/∃ps gU,k0 gU/\T=nj ps gU
def It (T:gw):Prop:=∃ps gU,nC gU/\T=pU ps gU
def re (data:FuncId->Nat)(bx:FuncId->gw):Prop:=∀f,(data f=1->IT (bx f))/\(data f=2->It (bx f))
section
variable {tb:TypeId->b7} {bx:FuncId->gw} {aJ:List (Tmp×Nat)}
theorem iT {o:Oper}(h:p1 tb o.op=false)(tm:List J)(I:aD):cK tb aJ o tm I=e0 tb o tm I:=by
 unfold cK;split
 ·rename_i t d aF _;rw[aF]at h;cases h
 ·rename_i t n bP d aF _;rw[aF]at h;have ax:(tb t).lit=true:=by simpa[p1]using h
  rw[ax]
 ·rfl
theorem Ba {o:Oper}{tm dI:List J}{I:aD}(h:∀x∈o.op.operands.toList,aY dI x=aY tm x):cK tb aJ o dI I=cK tb aJ o tm I:=by
 unfold cK;split
 ·split
  ·rfl
  ·exact GK h
 ·rename_i t n bP d aF _;split
  ·have e:bE (fun p:Nat×Operand=>(p.1,aY dI p.2)) bP.toList=bE (fun p:Nat×Operand=>(p.1,aY tm p.2)) bP.toList:=by
    rw[dM,dM];refine aqD fun p aE=> ?_;rw[h p.2 (by rw[aF];simp[Op.operands];exact⟨p.1,by simpa using aE⟩)]
   rw[e]
  ·exact GK h
 ·exact GK h
theorem G_ {o:Oper}(aC:fv tb o.op<=1):p1 tb o.op=false:=by
 cases bQ:o.op<;>try rfl
 ·rw[bQ]at aC;exact absurd (show(2:Nat)<=1 from aC) (by decide)
 ·rename_i t n bP;rw[bQ]at aC;unfold p1;simp only[fv]at aC
  cases ag:(tb t).lit with
  |true=>simp[ag]
  |false=>rw[ag]at aC;exact absurd aC (by decide)
theorem uK {o:Oper}(aC:fv tb o.op=0)(hm:oW o.op=false)(tm:List J)(I aj:aD):
 (cK tb aJ o tm I= .bad/\cK tb aJ o tm aj= .bad)\/∃s v,cK tb aJ o tm I= .aZ s v I/\cK tb aJ o tm aj= .aZ s v aj:=by
 have U:fv tb o.op<=1:=by omega
 rw[iT (G_ U),iT (G_ U)];exact Sp aC hm tm I aj
theorem wW {o:Oper}(aC:fv tb o.op<=1)(hm:oW o.op=false)(tm:List J)(I:aD):cK tb aJ o tm I= .bad\/∃s v,cK tb aJ o tm I= .aZ s v I:=by
 rw[iT (G_ aC)];exact agm aC hm tm I
theorem uL {o:Oper}(aC:fv tb o.op=2)(tm:List J)(I:aD):cK tb aJ o tm I= .bad\/(∃s v aj,cK tb aJ o tm I= .aZ s v aj)\/∃f args tys,cK tb aJ o tm I= .call f args tys:=by
 rcases Gy tb aJ o tm I with h|⟨t,d,id,_,_,_,h|⟨_,h⟩⟩|⟨t,n,bP,d,id,_,_,_,h|⟨ob,_,h⟩⟩
 ·rw[h];exact agn aC tm I
 ·exact .inl h
 ·exact .inr (.inl ⟨_,_,_,h⟩)
 ·exact .inl h
 ·exact .inr (.inl ⟨_,_,_,h⟩)
theorem adg {a i:Oper}(hi:p2 tb a i=true)(eB:∀f args I K,bx f args I K->hv (bx f)){t:List J}{I:aD}{k:J->J->aD->Prop}
 (h:fN bx I (fun v aj=>fN bx aj (fun c6 gu=>k v c6 gu) (cK tb aJ i t aj)) (cK tb aJ a t I)):
 fN bx I (fun c6 aj=>fN bx aj (fun v gu=>k v c6 gu) (cK tb aJ a t aj)) (cK tb aJ i t I):=by
 simp only[p2,aoL,apB]at hi;obtain⟨⟨⟨⟨⟨aU,qq⟩,xu⟩,cN⟩,iL⟩,va⟩:=hi
 have C5:(fv tb a.op<=1/\fv tb i.op<=1)\/(fv tb a.op=0/\fv tb i.op=2)\/(fv tb a.op=2/\fv tb i.op=0):=by
  unfold p9 at aU;split at aU
  ·rename_i U aa;exact .inl ⟨aoY U,aoY aa⟩
  ·simp only[aoL]at aU;exact .inr (.inl ⟨aoz aU.1,aoz aU.2⟩)
  ·simp only[aoL]at aU;exact .inr (.inr ⟨aoz aU.1,aoz aU.2⟩)
  ·cases aU
 rcases C5 with⟨U,aa⟩|⟨U,aa⟩|⟨U,aa⟩
 ·
  rcases wW (tb:=tb) (aJ:=aJ) U qq t I with ag|⟨FW,FX,a8⟩
  ·rw[ag]at h;exact h.elim
  ·rw[a8]at h;simp only[fN]at h;rcases wW (tb:=tb) (aJ:=aJ) aa xu t I with ag|⟨j5,FY,iI⟩
   ·rw[ag]at h;exact((gY _ _).1 h).2.elim
   ·rw[iI]at h⊢;simp only[fN,a8]at h⊢;exact G9 h
 ·
  rcases uK (tb:=tb) (aJ:=aJ) U qq t I I with⟨ag,_⟩|⟨FW,FX,a8,_⟩
  ·rw[ag]at h;exact h.elim
  ·rw[a8]at h;simp only[fN]at h
   have h5:∀cc,cK tb aJ a t cc= .aZ FW FX cc:=fun cc=>by
    rcases uK (tb:=tb) (aJ:=aJ) U qq t I cc with⟨ag,_⟩|⟨s,v,a6,bj⟩
    ·rw[a8]at ag;cases ag
    ·rw[a8]at a6;cases a6;exact bj
   rcases uL (tb:=tb) (aJ:=aJ) aa t I with ag|⟨j5,FY,cc,iI⟩|⟨f,args,tys,iI⟩
   ·rw[ag]at h;exact((gY _ _).1 h).2.elim
   ·rw[iI]at h⊢;simp only[fN,h5]at h⊢;exact G9 h
   ·rw[iI]at h⊢;simp only[fN,h5]at h⊢;rw[gY]at h;obtain⟨rl,n9⟩:=h;refine(eB _ _ _ _ n9).1 _ _ _ _ (fun r o an=> ?_) n9;rw[gY];exact⟨rl,an⟩
 ·
  rcases uK (tb:=tb) (aJ:=aJ) aa xu t I I with⟨ag,gD⟩|⟨j5,FY,a8,_⟩
  ·
   exfalso
   have ep:∀cc,cK tb aJ i t cc= .bad:=fun cc=>by
    rcases uK (tb:=tb) (aJ:=aJ) aa xu t I cc with⟨_,k⟩|⟨s,v,a6,_⟩
    ·exact k
    ·rw[ag]at a6;cases a6
   rcases uL (tb:=tb) (aJ:=aJ) U t I with ag|⟨FW,FX,cc,iI⟩|⟨f,args,tys,iI⟩
   ·rw[ag]at h;exact h
   ·rw[iI]at h;simp only[fN,ep]at h;exact((gY _ _).1 h).2
   ·rw[iI]at h;simp only[fN,ep]at h;obtain⟨r,o,an⟩:=(eB _ _ _ _ h).2 _ _ _ h;exact an
  ·have h5:∀cc,cK tb aJ i t cc= .aZ j5 FY cc:=fun cc=>by
    rcases uK (tb:=tb) (aJ:=aJ) aa xu t I cc with⟨ag,_⟩|⟨s,v,a6,bj⟩
    ·rw[a8]at ag;cases ag
    ·rw[a8]at a6;cases a6;exact bj
   rw[a8];simp only[fN];rcases uL (tb:=tb) (aJ:=aJ) U t I with ag|⟨FW,FX,cc,iI⟩|⟨f,args,tys,iI⟩
   ·rw[ag]at h;exact h.elim
   ·rw[iI]at h⊢;simp only[fN,h5]at h⊢;exact G9 h
   ·rw[iI]at h⊢;simp only[fN,h5]at h⊢;have fR:=eB _ _ _ _ h;rw[gY];refine⟨?_,fR.1 _ _ _ _ (fun r o an=> ?_) h⟩
    ·obtain⟨r,o,an⟩:=fR.2 _ _ _ h;exact((gY _ _).1 an).1
    ·exact((gY _ _).1 an).2
def res (all:List Oper)(o:Oper)(tm:List J):Option (Bool×List J):=
 match o.guard with
 |none=>some (true,tm)
 |some (j,want)=>
  match l7 all j with
  |none=>some (false,tm)
  |some g=>
   match b8 .un tm g with
   | .bt=>some (want,tm)
   | .bf=>some (!want,tm)
   | .un=>some (false,tm)
   | .d (.bool true)=>some (want,cQ tm g .bt)
   | .d (.bool false)=>some (!want,cQ tm g .bf)
   |_=>none
def sQ (m:Bool)(bx:FuncId->gw)(I:aD)(k:J->aD->Prop)(r:bS):Prop:=
 match m with
 |true=>fN bx I k r
 |false=>k .un I
theorem x6 {all bM:List Oper}{o:Oper}{tm:List J}{I:aD}{K:List J->aD->Prop}
 (U:∀tm I s v cc id,cK tb aJ o tm I≠ .grow s v cc id) (aa:∀tm I p,cK tb aJ o tm I≠ .fB p):
 dw tb bx aJ all (o::bM) tm I K↔match res all o tm with
  |none=>False
  |some (m,dI)=>sQ m bx I (fun v aj=>dw tb bx aJ all bM (put dI o.dst v) aj K) (cK tb aJ o dI I):=by
 have run:∀dG:List J,(match cK tb aJ o dG I with
  | .bad=>False
  | .aZ cd v aj=>gC cd (dw tb bx aJ all bM (put dG o.dst v) aj K)
  | .grow cd v aj id=>gC cd (dw tb bx aJ all bM (put (bE (ev id) dG) o.dst v) (gy id aj) K)
  | .fB p=>∀b:Bool,p b->dw tb bx aJ all bM (put dG o.dst (.d (.bool b))) I K
  | .call f args _=>bx f args I fun v aj=>dw tb bx aJ all bM (put dG o.dst v) aj K)↔
  sQ true bx I (fun v aj=>dw tb bx aJ all bM (put dG o.dst v) aj K) (cK tb aJ o dG I):=by
  intro dG
  cases h:cK tb aJ o dG I with
  |grow s v cc id=>exact absurd h (U dG I s v cc id)
  |fB p=>exact absurd h (aa dG I p)
  |_=>rfl
 rw[dw];simp only;unfold res
 cases bh:o.guard with
 |none=>exact run tm
 |some p=>
  obtain⟨j,want⟩:=p;simp only
  cases bp:l7 all j with
  |none=>exact apm
  |some g=>
   simp only;generalize ax:b8 J.un tm g=x
   cases x with
   |bt=>
    cases want
    ·exact apm
    ·exact run tm
   |bf=>
    cases want
    ·exact run tm
    ·exact apm
   |un=>exact apm
   |d a=>
    cases a with
    |bool b=>
     cases b
     ·simp only[apP,false_implies,true_and,true_implies];cases want
      ·exact run _
      ·exact apm
     ·simp only[Bool.true_eq_false,false_implies,and_true,true_implies];cases want
      ·exact apm
      ·exact run _
    |_=>exact apm
   |_=>exact apm
theorem MG {α:Type}{d:α}{l:List α}{g h:Nat}{x:α}(av:g≠h):b8 d (cQ l g x) h=b8 d l h:=by
 rw[dT,dT,eI,aoA,aoA,List.getElem?_set_ne av]
theorem Gs {α:Type}{d:α}{l:List α}{g:Nat}{x:α}(h:g<l.length):b8 d (cQ l g x) g=x:=by
 rw[dT,eI,aoA,List.getElem?_set_self h];rfl
theorem Pm {tm:List J}{g:Nat}(h:b8 .un tm g≠ .un):g<tm.length:=by
 refine Nat.lt_of_not_le fun ai=>h ?_;rw[dT,aoA,ape ai];rfl
theorem Bm {a b:Option Tmp}:fU a b=true↔∃g,a=some g/\b=some g:=by
 cases a with
 |none=>simp[fU]
 |some x=>
  cases b with
  |none=>simp[fU]
  |some y=>
   simp only[fU];constructor
   ·intro h;obtain rfl:=aoz h;exact⟨x,rfl,rfl⟩
   ·rintro⟨g,U,aa⟩;cases U;cases aa;exact apz _
theorem Pn {all:List Oper}{o:Oper}{tm t:List J}{m:Bool}(h:res all o tm=some (m,t)):∃r x,t=put tm r x/\(r=none\/r=iR all o):=by
 unfold res at h;unfold iR
 cases bh:o.guard with
 |none=>rw[bh]at h;simp only[aoU,aoZ]at h;exact⟨none, .un,h.2.symm, .inl rfl⟩
 |some p=>
  obtain⟨j,want⟩:=p;rw[bh]at h;simp only at h⊢
  cases bp:l7 all j with
  |none=>rw[bp]at h;simp only[aoU,aoZ]at h;exact⟨none, .un,h.2.symm, .inl rfl⟩
  |some g=>
   rw[bp]at h;simp only at h;split at h
   ·simp only[aoU,aoZ]at h;exact⟨none, .un,h.2.symm, .inl rfl⟩
   ·simp only[aoU,aoZ]at h;exact⟨none, .un,h.2.symm, .inl rfl⟩
   ·simp only[aoU,aoZ]at h;exact⟨none, .un,h.2.symm, .inl rfl⟩
   ·simp only[aoU,aoZ]at h;exact⟨some g, .bt,h.2.symm, .inr rfl⟩
   ·simp only[aoU,aoZ]at h;exact⟨some g, .bf,h.2.symm, .inr rfl⟩
   ·cases h
theorem Cv {all:List Oper}{o:Oper}{tm:List J}{d:Option Tmp}{v:J}(a8:fU (iR all o) d=false):res all o (put tm d v)=(res all o tm).map fun p=>(p.1,put p.2 d v):=by
 cases d with
 |none=>
  have:∀t:List J,put t none v=t:=fun t=>rfl
  simp only[this];cases res all o tm<;>rfl
 |some d=>
  unfold iR at a8;unfold res
  cases bh:o.guard with
  |none=>rfl
  |some p=>
   obtain⟨j,want⟩:=p;rw[bh]at a8;simp only at a8⊢
   cases bp:l7 all j with
   |none=>rfl
   |some g=>
    rw[bp]at a8;simp only
    have dg:d≠g:=by
     rintro rfl;simp[fU]at a8
    have e:b8 J.un (put tm (some d) v) g=b8 J.un tm g:=MG dg
    have c:∀x,cQ (put tm (some d) v) g x=put (cQ tm g x) (some d) v:=fun x=>by
     simp only[put,eI];exact(List.set_comm _ _ (apk dg)).symm▸rfl
    rw[e];generalize b8 J.un tm g=x
    cases x with
    |d a=>
     cases a with
     |bool b=>cases b<;>simp[c]
     |_=>rfl
    |_=>rfl
theorem abA {all:List Oper}{a i:Oper}{g:Tmp}(aR:iR all a=some g)(hi:iR all i=some g){tm jK lP:List J}{qE vx:Bool}(U:res all a tm=some (qE,jK))(aa:res all i jK=some (vx,lP)):
 lP=jK/\res all i tm=some (vx,jK)/\res all a jK=some (qE,jK):=by
 unfold iR at aR hi
 cases rN:a.guard with
 |none=>rw[rN]at aR;cases aR
 |some FZ=>
  cases rO:i.guard with
  |none=>rw[rO]at hi;cases hi
  |some pi=>
   obtain⟨aoj,Kj⟩:=FZ;obtain⟨aok,F0⟩:=pi;rw[rN]at aR;rw[rO]at hi;simp only at aR hi;unfold res at U aa⊢;simp only[rN,rO,aR,hi]at U aa⊢;generalize ai:b8 J.un tm g=x at U⊢
   cases x with
   |bt=>simp only[aoU,aoZ]at U;obtain⟨rfl,rfl⟩:=U;simp only[ai,aoU,aoZ]at aa⊢;obtain⟨rfl,rfl⟩:=aa;simp
   |bf=>simp only[aoU,aoZ]at U;obtain⟨rfl,rfl⟩:=U;simp only[ai,aoU,aoZ]at aa⊢;obtain⟨rfl,rfl⟩:=aa;simp
   |un=>simp only[aoU,aoZ]at U;obtain⟨rfl,rfl⟩:=U;simp only[ai,aoU,aoZ]at aa⊢;obtain⟨rfl,rfl⟩:=aa;simp
   |d y=>
    have an:g<tm.length:=Pm (by rw[ai];intro h;cases h)
    cases y with
    |bool b=>
     cases b
     ·simp only[aoU,aoZ]at U;obtain⟨rfl,rfl⟩:=U;rw[Gs an]at aa⊢;simp only[aoU,aoZ]at aa⊢;obtain⟨rfl,rfl⟩:=aa;simp
     ·simp only[aoU,aoZ]at U;obtain⟨rfl,rfl⟩:=U;rw[Gs an]at aa⊢;simp only[aoU,aoZ]at aa⊢;obtain⟨rfl,rfl⟩:=aa;simp
    |_=>cases U
   |_=>cases U
theorem Om {o:Oper}{tm:List J}{r:Option Tmp}{x:J}(h:∀g,r=some g->qZ g o.op.operands.toList=false)(I:aD):cK tb aJ o (put tm r x) I=cK tb aJ o tm I:=by
 cases r with
 |none=>rfl
 |some g=>exact Ba fun y bp=>yd (dst:=some g) (show l8 o (some g)=false from h g rfl) bp
theorem abB {all:List Oper}{a i:Oper}(U:mK all a i=true)(aa:mK all i a=true){tm jK lP:List J}{qE vx:Bool}(oE:res all a tm=some (qE,jK))(vy:res all i jK=some (vx,lP)):
 ∃vz,res all i tm=some (vx,vz)/\res all a vz=some (qE,lP)/\(∀I,cK tb aJ a lP I=cK tb aJ a jK I)/\∀I,cK tb aJ i lP I=cK tb aJ i vz I:=by
 by_cases ay:fU (iR all a) (iR all i)=true
 ·obtain⟨g,F1,F2⟩:=Bm.1 ay;obtain⟨rfl,aA,aL⟩:=abA F1 F2 oE vy;exact⟨lP,aA,aL,fun _=>rfl,fun _=>rfl⟩
 ·have eR:fU (iR all a) (iR all i)=false:=by simpa using ay
  have lO:fU (iR all i) (iR all a)=false:=by
   cases ai:fU (iR all i) (iR all a)with
   |false=>rfl
   |true=>
    obtain⟨g,aA,aL⟩:=Bm.1 ai;exact absurd (Bm.2 ⟨g,aL,aA⟩) ay
  obtain⟨r,x,rfl,an⟩:=Pn oE
  have iL:fU (iR all i) r=false:=by
   rcases an with rfl|rfl
   ·cases iR all i<;>rfl
   ·exact lO
  rw[Cv iL]at vy
  cases tf:res all i tm with
  |none=>rw[tf]at vy;cases vy
  |some p=>
   obtain⟨aol,vz⟩:=p;rw[tf]at vy;simp only[apE,aoU,aoZ]at vy;obtain⟨rfl,rfl⟩:=vy;obtain⟨q,y,rfl,a_⟩:=Pn tf
   have zW:fU (iR all a) q=false:=by
    rcases a_ with rfl|rfl
    ·cases iR all a<;>rfl
    ·exact eR
   have Jm:fU q r=false:=by
    rcases a_ with rfl|rfl
    ·rfl
    ·exact iL
   refine⟨_,rfl, ?_,fun I=> ?_,fun I=> ?_⟩
   ·rw[Cv zW,oE];simp only[apE];rw[put_comm Jm]
   ·rw[put_comm Jm];refine Om (fun g bh=> ?_) I;subst bh;rcases a_ with a_|a_
    ·cases a_
    ·unfold mK at aa;rw[<-a_]at aa;simp only[aoL,ap3,apB]at aa;rcases aa.2 with az|az
     ·exact az
     ·rw[a_,eR]at az;cases az
   ·refine Om (fun g bh=> ?_) I;subst bh;rcases an with an|an
    ·cases an
    ·unfold mK at U;rw[<-an]at U;simp only[aoL,ap3,apB]at U;rcases U.2 with az|az
     ·exact az
     ·rw[an,lO]at az;cases az
theorem Mf {all:List Oper}{a i:Oper}(h:mK all a i=true):fU (iR all a) i.dst=false:=by
 unfold mK at h;split at h
 ·rename_i bh;rw[bh];rfl
 ·rename_i g bh;rw[bh];simp only[aoL,apB]at h;exact h.1
end
end Go.al
end
section
namespace Go.al
abbrev gone:Bool×af:=(true, .gone)
def hh (r:List Nat)(I aj:aD):Prop:=∀x∈r,b8 gone I x=b8 gone aj x
theorem mf {I:aD}{x:Nat}(h:cw I x=false):x<I.length:=by
 refine Nat.lt_of_not_le fun ai=> ?_;unfold cw at h;rw[dT,aoA,ape ai]at h;cases h
theorem hh.at_ {r:List Nat}{I aj:aD}(h:hh r I aj){x:Nat}(ai:x∈r):af.at I x=af.at aj x/\cw I x=cw aj x:=by
 have:=h x ai;unfold af.at cw;exact⟨apb Prod.snd this,apb Prod.fst this⟩
theorem ue (I:aD)(id:Nat)(p:Bool×af)(x:Nat):b8 gone (cQ I id p) x=if id=x/\id<I.length then p else b8 gone I x:=by
 rw[dT,eI,eu,dT]
theorem Hz (I:aD)(id:Nat)(p:Bool×af):(cQ I id p).length=I.length:=by rw[eI];simp
def aeU (I:aD):bS->aD
 | .aZ _ _ o=>o
 | .call _ args _=>cD I args
 |_=>I
theorem MH (t:a7)(x:R)(i:Int)(j:Nat):(∀I,loadData t x i j I= .bad)\/∃s v,∀I,loadData t x i j I= .aZ s v I:=by
 unfold loadData;split
 ·split
  ·split
   ·exact .inr ⟨_,_,fun _=>rfl⟩
   ·exact .inl fun _=>rfl
  ·exact .inl fun _=>rfl
 ·split
  ·split
   ·exact .inr ⟨_,_,fun _=>rfl⟩
   ·split<;>exact .inr ⟨_,_,fun _=>rfl⟩
   ·exact .inr ⟨_,_,fun _=>rfl⟩
   ·exact .inl fun _=>rfl
  ·exact .inl fun _=>rfl
 ·exact .inl fun _=>rfl
theorem Ny (t:a7)(x:R)(i:Int)(j:Nat):(∀I,loadAt t x i j I= .bad)\/∃s v,∀I,loadAt t x i j I= .aZ s v I:=by
 unfold loadAt;split
 ·exact .inr ⟨_,_,fun _=>rfl⟩
 ·exact .inl fun _=>rfl
def sR (I aj:aD)(a b:bS):Prop:=(a= .bad/\b= .bad)\/∃s v,a= .aZ s v I/\b= .aZ s v aj
theorem W8 (t:a7)(p:J){I aj:aD}(h:hh p.aJ I aj):sR I aj (hR t p I) (hR t p aj):=by
 cases p with
 |ptr id off=>
  have U:=(h.at_ (x:=id) (by simp[J.aJ,J.jx])).1;unfold hR;simp only;rw[U];split
  ·split
   ·exact .inr ⟨_,_,rfl,rfl⟩
   ·exact .inr ⟨_,_,rfl,rfl⟩
   ·exact .inr ⟨_,_,rfl,rfl⟩
   ·exact .inl ⟨rfl,rfl⟩
  ·exact .inl ⟨rfl,rfl⟩
 |optr id i j=>
  have U:=(h.at_ (x:=id) (by simp[J.aJ,J.jx])).1;unfold hR;simp only;rw[U];rcases MH t (af.at aj id).data i j with aa|⟨s,v,aa⟩
  ·exact .inl ⟨aa _,aa _⟩
  ·exact .inr ⟨s,v,aa _,aa _⟩
 |rptr x i j=>
  unfold hR;simp only;rcases MH t x i j with aa|⟨s,v,aa⟩
  ·exact .inl ⟨aa _,aa _⟩
  ·exact .inr ⟨s,v,aa _,aa _⟩
 |oat id i j=>
  have U:=(h.at_ (x:=id) (by simp[J.aJ,J.jx])).1;unfold hR;simp only;rw[U];rcases Ny t (af.at aj id).data i j with aa|⟨s,v,aa⟩
  ·exact .inl ⟨aa _,aa _⟩
  ·exact .inr ⟨s,v,aa _,aa _⟩
 |rat x i j=>
  unfold hR;simp only;rcases Ny t x i j with aa|⟨s,v,aa⟩
  ·exact .inl ⟨aa _,aa _⟩
  ·exact .inr ⟨s,v,aa _,aa _⟩
 |_=>exact .inl ⟨rfl,rfl⟩
theorem Yv (t:a7)(x:J)(n:Int){I aj:aD}(h:hh x.aJ I aj):sR I aj (o2 t x n I) (o2 t x n aj):=by
 unfold o2;split;rotate_left
 ·exact .inl ⟨rfl,rfl⟩
 cases x with
 |optr id a j=>
  have U:=(h.at_ (x:=id) (by simp[J.aJ,J.jx])).1;simp only;rw[U]
  (repeat' split)<;>first|exact .inr ⟨_,_,rfl,rfl⟩|exact .inl ⟨rfl,rfl⟩
 |rptr y a j=>
  cases y<;>simp only<;>(repeat' split)<;>first|exact .inr ⟨_,_,rfl,rfl⟩|exact .inl ⟨rfl,rfl⟩
 |_=>exact .inl ⟨rfl,rfl⟩
theorem We (t:a7)(x i:J){I aj:aD}(h:hh x.aJ I aj):sR I aj (qJ t x i I) (qJ t x i aj):=by
 unfold qJ;split
 ·cases x with
  |vec id=>
   have U:=(h.at_ (x:=id) (by simp[J.aJ,J.jx])).1;simp only;rw[U];split
   ·exact .inr ⟨_,_,rfl,rfl⟩
   ·exact .inl ⟨rfl,rfl⟩
  |d a=>
   simp only;split
   ·exact .inr ⟨_,_,rfl,rfl⟩
   ·exact .inl ⟨rfl,rfl⟩
  |emp=>exact .inr ⟨_,_,rfl,rfl⟩
  |_=>exact Yv t _ _ h
 ·exact .inl ⟨rfl,rfl⟩
theorem Yw (t:a7)(x:J){I aj:aD}(h:hh x.aJ I aj):uF t x I=uF t x aj:=by
 cases x with
 |vec id=>
  have U:=(h.at_ (x:=id) (by simp[J.aJ,J.jx])).1;unfold uF;simp only;rw[U]
 |d a=>cases a<;>rfl
 |_=>rfl
theorem adh (I aj:aD)(t:a7)(v:J)(h:eg J.ha v.cellsOf=true):bE (J.hI I) (t.norm I v).cellsOf=bE (J.hI aj) (t.norm aj v).cellsOf:=by
 cases v with
 |agg l=>
  have h:eg J.ha l=true:=h
  cases t with
  |aB s=>have e:∀o:aD,a7.norm o (.aB s) (.agg l)= .agg l:=fun o=>by cases s<;>rfl
         rw[e,e]
         exact qL fun x ai=>by
          rw[fy,aoR]at h;exact Ij I aj (h x ai)
  |struct bY cs=>exact Cu I aj cs l h
  |arr n e cs=>exact Cu I aj cs l h
  |no=>
   exact qL fun x ai=>by
    rw[fy,aoR]at h;exact Ij I aj (h x ai)
 |d a=>cases t with
  |aB s=>cases s<;>rfl
  |_=>rfl
 |bt=>cases t with
  |aB s=>cases s<;>rfl
  |_=>rfl
 |bf=>cases t with
  |aB s=>cases s<;>rfl
  |_=>rfl
 |emp=>cases t with
  |aB s=>cases s<;>rfl
  |_=>rfl
 |_=>exact absurd h (by simp[J.cellsOf,fy,J.ha])
def o6 (w:List Nat)(I aj:aD)(a b:bS):Prop:=(a= .bad/\b= .bad)\/∃s v id X,a= .aZ s v (cQ I id X)/\b= .aZ s v (cQ aj id X)/\w=[id]/\id<I.length/\id<aj.length
theorem Wx (t:a7)(p:J)(r:List R){I aj:aD}(h:hh p.aJ I aj):o6 p.aJ I aj (qU t p r I) (qU t p r aj):=by
 have bad:o6 p.aJ I aj .bad .bad:= .inl ⟨rfl,rfl⟩;unfold qU
 cases p with
 |optr id i j=>
  have hm:id∈J.aJ (.optr id i j):=by simp[J.aJ,J.jx]
  obtain⟨U,aa⟩:=h.at_ hm
  cases t.jB with
  |false=>exact bad
  |true=>
  simp only;rw[U,aa]
  cases bq:cw aj id with
  |true=>exact bad
  |false=>
  have dC:=mf bq;have dD:=mf (aa.trans bq);split
  ·split
   ·exact .inr ⟨_,_,_,_,rfl,rfl,rfl,dD,dC⟩
   ·exact bad
  ·exact bad
 |_=>cases t.jB<;>exact bad
theorem Wf (t:a7)(id:Nat)(i:Int)(j:Nat)(v:J){I aj:aD}(h:hh [id] I aj):o6 [id] I aj (qN t id i j v I) (qN t id i j v aj):=by
 have bad:o6 [id] I aj .bad .bad:= .inl ⟨rfl,rfl⟩;obtain⟨U,aa⟩:=h.at_ (apo.2 rfl);unfold qN
 cases t with
 |aB s=>
  simp only;rw[U,aa]
  cases bq:cw aj id with
  |true=>exact bad
  |false=>
  have dC:=mf bq;have dD:=mf (aa.trans bq);split
  ·rename_i a8;rw[G7 I aj s a8];exact .inr ⟨_,_,_,_,rfl,rfl,rfl,dD,dC⟩
  ·exact bad
 |_=>exact bad
theorem Wy (t:a7)(p v:J){I aj:aD}(h:hh p.aJ I aj):o6 p.aJ I aj (pO t p v I) (pO t p v aj):=by
 have bad:o6 p.aJ I aj .bad .bad:= .inl ⟨rfl,rfl⟩;unfold pO;rw[x5 I aj t v];split
 ·exact Wx t p _ h
 cases p with
 |oat id i j=>exact Wf t id i j v h
 |ptr id off=>
  have hm:id∈J.aJ (.ptr id off):=by simp[J.aJ,J.jx]
  obtain⟨U,aa⟩:=h.at_ hm;unfold uc;simp only;rw[U,aa]
  cases bq:cw aj id with
  |true=>exact bad
  |false=>
  have dC:=mf bq;have dD:=mf (aa.trans bq);split
  ·split
   ·exact .inr ⟨_,_,_,_,rfl,rfl,rfl,dD,dC⟩
   ·exact bad
  ·exact bad
 |optr id i j=>
  have hm:id∈J.aJ (.optr id i j):=by simp[J.aJ,J.jx]
  obtain⟨U,aa⟩:=h.at_ hm;unfold uc;simp only;rw[U,aa]
  cases bq:cw aj id with
  |true=>exact bad
  |false=>
  have dC:=mf bq;have dD:=mf (aa.trans bq);split
  ·split
   ·split
    ·exact .inr ⟨_,_,_,_,rfl,rfl,rfl,dD,dC⟩
    ·exact bad
   ·exact bad
  ·split
   ·rename_i a8;rw[adh I aj t v a8];exact .inr ⟨_,_,_,_,rfl,rfl,rfl,dD,dC⟩
   ·exact bad
  ·exact bad
 |_=>exact bad
theorem Nz (s:cg)(v:J){I aj:aD}(h:hh v.jx I aj):s.norm I v=s.norm aj v:=by
 cases v with
 |vec id=>
  have U:=(h.at_ (x:=id) (by simp[J.jx])).1;cases s<;>first|rfl|(show J.d _=J.d _;rw[U])
 |_=>cases s<;>rfl
theorem hh.mono {r mC:List Nat}{I aj:aD}(h:hh r I aj)(an:∀x∈mC,x∈r):hh mC I aj:=fun x ai=>h x (an x ai)
theorem GX:∀(cs:List cg) (aH:List J) {I aj:aD},hh (sY aH) I aj->iE I cs aH=iE aj cs aH
 |[],aH,_,_,_=>by cases aH<;>rfl
 |s::cs,[],_,_,_=>rfl
 |s::cs,v::aH,I,aj,h=>by
  have e:sY (v::aH)=v.jx++sY aH:=by show eM _ _=_;rw[fV]
  rw[e]at h;show s.norm I v::iE I cs aH=s.norm aj v::iE aj cs aH;rw[Nz s v (h.mono fun x ai=>by simp[ai]),GX cs aH (h.mono fun x ai=>by simp[ai])]
theorem ZU (t:a7)(v:J){I aj:aD}(h:hh v.aJ I aj):t.norm I v=t.norm aj v:=by
 cases t with
 |aB s=>
  cases v with
  |agg l=>cases s<;>rfl
  |_=>exact Nz s _ h
 |struct bY cs=>
  cases v with
  |agg l=>exact apb J.agg (GX cs l h)
  |_=>rfl
 |arr n e cs=>
  cases v with
  |agg l=>exact apb J.agg (GX cs l h)
  |_=>rfl
 |no=>cases v<;>rfl
theorem t_ (v:J)(aH:List J):gG (v::aH)=v.aJ++gG aH:=by show eM _ _=_;rw[fV]
theorem x7:∀(ts:List a7) (aH:List J) {I aj:aD},hh (gG aH) I aj->a7.eU I ts aH=a7.eU aj ts aH
 |[],aH,_,_,_=>by cases aH<;>rfl
 |t::ts,[],_,_,_=>rfl
 |t::ts,v::aH,I,aj,h=>by
  rw[t_]at h;show t.norm I v::a7.eU I ts aH=t.norm aj v::a7.eU aj ts aH;rw[ZU t v (h.mono fun x ai=>by simp[ai]),x7 ts aH (h.mono fun x ai=>by simp[ai])]
theorem wA {I:aD}{x:Nat}(h:af.at I x≠ .gone):x<I.length:=by
 refine Nat.lt_of_not_le fun ai=>h ?_;unfold af.at;rw[dT,aoA,ape ai];rfl
def n6 (w:List Nat)(f:aD->aD):Prop:=(∀I,(f I).length=I.length)/\(∀I x,x∉w->b8 gone (f I) x=b8 gone I x)/\
 ∀I aj x,b8 gone I x=b8 gone aj x->b8 gone (f I) x=b8 gone (f aj) x
theorem n6.comp {w w':List Nat}{f g:aD->aD}(aU:n6 w f)(bh:n6 w' g):n6 (w++w') (fun I=>g (f I)):=by
 refine⟨fun I=>by rw[bh.1,aU.1],fun I x ai=> ?_,fun I aj x ai=>bh.2.2 _ _ _ (aU.2.2 _ _ _ ai)⟩;rw[apV,not_or]at ai;rw[bh.2.1 _ _ ai.2,aU.2.1 _ _ ai.1]
theorem Gz (I:aD)(id x:Nat):b8 gone (e5 I id) x=if id=x then(true,af.at I id)else b8 gone I x:=by
 unfold e5;rw[ue]
 by_cases e:id=x
 ·subst e
  by_cases ax:id<I.length
  ·rw[aoy ⟨rfl,ax⟩,aoy rfl]
  ·rw[aox (fun h=>ax h.2),aoy rfl];have:b8 gone I id=gone:=by rw[dT,aoA,ape (by omega)];rfl
   unfold af.at;rw[show b8 (true,af.gone) I id=gone from this]
 ·rw[aox (fun h=>e h.1),aox e]
theorem L2 (id:Nat):n6 [id] (fun I=>e5 I id):=by
 refine⟨fun I=>Hz _ _ _,fun I x ai=> ?_,fun I aj x ai=> ?_⟩
 ·rw[Gz,aox];rintro rfl;simp at ai
 ·rw[Gz,Gz];split
  ·rename_i e;rw[e];unfold af.at;rw[show b8 (true,af.gone) I x=b8 (true,af.gone) aj x from ai]
  ·exact ai
theorem Po:n6 [] (fun I=>I):=⟨fun _=>rfl,fun _ _ _=>rfl,fun _ _ _ h=>h⟩
theorem Wz (v:J):n6 v.jx (fun I=>lq I v):=by
 have Jv:∀w,n6 w (fun I=>I):=fun w=>⟨fun _=>rfl,fun _ _ _=>rfl,fun _ _ _ h=>h⟩
 cases v with
 |vec id=>exact L2 id
 |_=>exact Jv _
theorem Mg:∀l:List J,n6 (sY l) (fun I=>uk I l)
 |[]=>Po
 |v::aH=>by
  have e:sY (v::aH)=v.jx++sY aH:=by show eM _ _=_;rw[fV]
  rw[e];exact(Wz v).comp (Mg aH)
theorem W9 (v:J):n6 v.aJ (fun I=>freeze I v):=by
 have Jv:∀w,n6 w (fun I=>I):=fun w=>⟨fun _=>rfl,fun _ _ _=>rfl,fun _ _ _ h=>h⟩
 cases v with
 |vec id=>exact L2 id
 |agg l=>exact Mg l
 |_=>exact Jv _
theorem A8:∀l:List J,n6 (gG l) (fun I=>cD I l)
 |[]=>Po
 |v::aH=>by
  rw[t_];exact(W9 v).comp (A8 aH)
section
variable {tb:TypeId->b7} {bx:FuncId->gw} {data:FuncId->Nat} {aJ:List (Tmp×Nat)} {n:Nat}
theorem ZV (eB:∀f args I K,bx f args I K->hv (bx f)){I:aD}{k cy:J->aD->Prop}(ae:∀v o,k v o->cy v o){r:bS}(h:fN bx I k r):fN bx I cy r:=by
 cases r with
 |aZ s v o=>exact v7 (ae v o) h
 |call f args tys=>exact(eB _ _ _ _ h).1 _ _ _ _ ae h
 |_=>exact h
structure aeg (bx:FuncId->gw)(n:Nat)(f:gP)(bD:aD->bS)(B:aD->(J->af->Prop)->Prop)(E:af->aD->aD):Prop where
 none:∀I s v o id,bD I≠ .grow s v o id
 To:∀I p,bD I≠ .fB p
 pull:∀I k,fN bx I k (bD I)↔B I fun v x=>k v (E x I)
 mono:∀I k cy,(∀v x,k v x->cy v x)->B I k->B I cy
 some:∀I k,B I k->∃v x,k v x
 same:∀I aj,hh f.r I aj->(f.ext=true->I.length=n/\aj.length=n)->∀k,B I k↔B aj k
 len:∀x I,(E x I).length=I.length+f.ext.toNat
 out:∀x I y,(f.ext=true->I.length=n)->y∉f.w->b8 gone (E x I) y=b8 gone I y
 Tp:∀I aj,hh f.r I aj->(f.ext=true->I.length=n/\aj.length=n)->(∃k,B I k)->(∃k,B aj k)->∀x,∀y∈f.w,b8 gone (E x I) y=b8 gone (E x aj) y
 calls:f.ext=true->f.call=true
 aZ:f.call=false->∀I,∃(S:Prop) (v:J) (x:af),∀k,B I k↔S/\k v x
def oY (bx:FuncId->gw)(n:Nat)(f:gP)(bD:aD->bS):Prop:=∃B E,aeg bx n f bD B E
theorem ua {f:gP}{bD:aD->bS}(hw:f.w=[])(ai:f.ext=false)(h:∀I aj,hh f.r I aj->sR I aj (bD I) (bD aj)):oY bx n f bD:=by
 have U:∀I,bD I= .bad\/∃s v,bD I= .aZ s v I:=fun I=>by
  rcases h I I (fun _ _=>rfl)with⟨h,_⟩|⟨s,v,h,_⟩
  ·exact .inl h
  ·exact .inr ⟨s,v,h⟩
 refine⟨fun I k=>fN bx I (fun v _=>k v .gone) (bD I),fun _ I=>I, ?_⟩;refine⟨fun I s v o id=> ?_,fun I p=> ?_,fun I k=> ?_,fun I k cy ae ag=> ?_,fun I k ag=> ?_,fun I aj ay _ k=> ?_,fun _ I=>by rw[ai];rfl,fun _ I y _ _=>rfl,fun I aj _ _ _ _ x y bp=>absurd (hw▸bp) apR,fun he=>absurd (ai.symm.trans he) apN,fun _ I=> ?_⟩
 ·rcases U I with h|⟨s,v,h⟩<;>rw[h]<;>simp
 ·rcases U I with h|⟨s,v,h⟩<;>rw[h]<;>simp
 ·rcases U I with h|⟨s,v,h⟩<;>rw[h]<;>exact apm
 ·rcases U I with h|⟨s,v,h⟩<;>rw[h]at ag⊢
  ·exact ag
  ·exact v7 (ae _ _) ag
 ·rcases U I with h|⟨s,v,h⟩<;>rw[h]at ag
  ·exact ag.elim
  ·exact⟨_,_,((gY _ _).1 ag).2⟩
 ·rcases h I aj ay with⟨U,aa⟩|⟨s,v,U,aa⟩<;>simp only[U,aa]<;>exact apm
 ·rcases U I with h|⟨s,v,h⟩<;>simp only[h]
  ·exact⟨False, .un, .gone,fun k=>by simp[fN]⟩
  ·exact⟨∀p∈s,p,v, .gone,fun k=>gY _ _⟩
theorem sm {f:gP}{bD:aD->bS}(ai:f.ext=false)(h:∀I aj,hh f.r I aj->o6 f.w I aj (bD I) (bD aj)):oY bx n f bD:=by
 have U:∀I,bD I= .bad\/∃s v id X,bD I= .aZ s v (cQ I id X)/\f.w=[id]/\id<I.length:=fun I=>by
  rcases h I I (fun _ _=>rfl)with⟨h,_⟩|⟨s,v,id,X,h,_,hm,ax,_⟩
  ·exact .inl h
  ·exact .inr ⟨s,v,id,X,h,hm,ax⟩
 refine⟨fun I k=>fN bx I (fun v _=>k v .gone) (bD I),fun _ I=>aeU I (bD I), ?_⟩;refine⟨fun I s v o id=> ?_,fun I p=> ?_,fun I k=> ?_,fun I k cy ae ag=> ?_,fun I k ag=> ?_,fun I aj ay _ k=> ?_,fun _ I=> ?_,fun _ I x _ ai=> ?_,fun I aj ay _ tg _ _ x ai=> ?_,fun he=>absurd (ai.symm.trans he) apN,fun _ I=> ?_⟩
 ·rcases U I with h|⟨s,v,id,X,h,_⟩<;>rw[h]<;>simp
 ·rcases U I with h|⟨s,v,id,X,h,_⟩<;>rw[h]<;>simp
 ·rcases U I with h|⟨s,v,id,X,h,_⟩<;>rw[h]<;>exact apm
 ·rcases U I with h|⟨s,v,id,X,h,_⟩<;>rw[h]at ag⊢
  ·exact ag
  ·exact v7 (ae _ _) ag
 ·rcases U I with h|⟨s,v,id,X,h,_⟩<;>rw[h]at ag
  ·exact ag.elim
  ·exact⟨_,_,((gY _ _).1 ag).2⟩
 ·rcases h I aj ay with⟨U,aa⟩|⟨s,v,id,X,U,aa,_⟩<;>simp only[U,aa]<;>exact apm
 ·rw[ai];rcases U I with h|⟨s,v,id,X,h,_⟩<;>rw[h]
  ·rfl
  ·exact Hz _ _ _
 ·rcases U I with h|⟨s,v,id,X,h,hm,_⟩<;>rw[h]
  ·rfl
  ·show b8 gone (cQ I id X) x=_;rw[ue,aox];rintro⟨rfl,_⟩;exact ai (by rw[hm];simp)
 ·rcases h I aj ay with⟨aa,az⟩|⟨s,v,id,X,aa,az,hm,dh,l2⟩
  ·obtain⟨k,ag⟩:=tg;rw[aa]at ag;exact ag.elim
  ·rw[aa,az];show b8 gone (cQ I id X) x=b8 gone (cQ aj id X) x;rw[hm]at ai;have ai:x=id:=by simpa using ai
   subst ai;rw[ue,ue,aoy ⟨rfl,dh⟩,aoy ⟨rfl,l2⟩]
 ·rcases U I with h|⟨s,v,id,X,h,_⟩<;>simp only[h]
  ·exact⟨False, .un, .gone,fun k=>by simp[fN]⟩
  ·exact⟨∀p∈s,p,v, .gone,fun k=>gY _ _⟩
theorem ZW {ps:List a7}{gU:List J->(J->Prop)->Prop}(bs:k0 gU){f:gP}{bD:aD->bS}{args:List J}(an:f.r=gG args)(hw:f.w=gG args)(aC:f.call=true)(ai:f.ext=false)
 (U:∀I s v o id,bD I≠ .grow s v o id) (aa:∀I p,bD I≠ .fB p) (st:∀I k,fN bx I k (bD I)=iB ps gU args I k):oY bx n f bD:=by
 have dP:=A8 args
 refine⟨fun I k=>iB ps gU args I fun v _=>k v .gone,fun _ I=>cD I args,U,aa,fun I k=> ?_,fun I k cy ae ag=> ?_,fun I k ag=> ?_,fun I aj ay _ k=> ?_,fun _ I=>by rw[ai];exact dP.1 I,
  fun _ I x _ bp=>dP.2.1 _ _ (hw▸bp),fun I aj ay _ _ _ _ x bp=>dP.2.2 _ _ _ (ay x (by rw[an,<-hw];exact bp)),fun _=>aC,fun h=>absurd (h.symm.trans aC) apN⟩
 ·rw[st];exact apm
 ·unfold iB at ag⊢;split
  ·rename_i aA aL;rw[aA,aL]at ag;exact bs.1 _ _ _ (fun r=>ae r _) ag
  ·rename_i ai;split at ag
   ·rename_i aA aL;exact(ai aA aL).elim
   ·exact ag
 ·unfold iB at ag;split at ag
  ·obtain⟨r,an⟩:=bs.2 _ _ ag;exact⟨r,_,an⟩
  ·exact ag.elim
 ·unfold iB;rw[x7 ps args (an▸ay)]
theorem ZX {ps:List a7}{gU:List J->(J->Prop)->Prop}(bs:k0 gU){f:gP}{bD:aD->bS}{args:List J}(an:f.r=gG args)(hw:f.w=gG args)(aC:f.call=true)(ai:f.ext=false)
 (U:∀I s v o id,bD I≠ .grow s v o id) (aa:∀I p,bD I≠ .fB p) (st:∀I k,fN bx I k (bD I)=nj ps gU args I k):oY bx n f bD:=by
 refine⟨fun I k=>nj ps gU args I fun v _=>k v .gone,fun _ I=>I,U,aa,fun I k=> ?_,fun I k cy ae ag=> ?_,fun I k ag=> ?_,fun I aj ay _ k=> ?_,fun _ I=>by rw[ai];rfl,
  fun _ I x _ _=>rfl,fun I aj ay _ _ _ _ x bp=>ay x (by rw[an,<-hw];exact bp),fun _=>aC,fun h=>absurd (h.symm.trans aC) apN⟩
 ·rw[st];exact apm
 ·unfold nj at ag⊢;split
  ·rename_i aA aL;rw[aA,aL]at ag;exact bs.1 _ _ _ (fun r=>ae r _) ag
  ·rename_i ai;split at ag
   ·rename_i aA aL;exact(ai aA aL).elim
   ·exact ag
 ·unfold nj at ag;split at ag
  ·obtain⟨r,an⟩:=bs.2 _ _ ag;exact⟨r,_,an⟩
  ·exact ag.elim
 ·unfold nj;rw[x7 ps args (an▸ay)]
theorem ZY {ps:List a7}{gU:J->af->List J->(af->J->Prop)->Prop}(bs:kr gU){f:gP}{bD:aD->bS}{args:List J}(an:f.r=gG args)(hw:f.w=gG args)(aC:f.call=true)(ai:f.ext=false)
 (U:∀I s v o id,bD I≠ .grow s v o id) (aa:∀I p,bD I≠ .fB p) (st:∀I k,fN bx I k (bD I)=n1 ps gU args I k):oY bx n f bD:=by
 match args with
 |[]=>
  refine⟨fun _ _=>False,fun _ I=>I,U,aa,fun I k=>by rw[st];exact apm,fun _ _ _ _ h=>h,fun _ _ h=>h.elim,fun _ _ _ _ _=>apm,fun _ _=>by rw[ai];rfl,fun _ _ _ _ _=>rfl,fun _ _ _ _ ⟨_,h⟩=>h.elim,fun _=>aC,fun h=>absurd (h.symm.trans aC) apN⟩
 |a0::bM=>
  have dP:=A8 bM
  cases dJ:C4 a0 with
  |none=>
   refine⟨fun _ _=>False,fun _ I=>I,U,aa,fun I k=>by rw[st];unfold n1;simp only[dJ],fun _ _ _ _ h=>h,fun _ _ h=>h.elim,fun _ _ _ _ _=>apm,fun _ _=>by rw[ai];rfl,fun _ _ _ _ _=>rfl,fun _ _ _ _ ⟨_,h⟩=>h.elim,fun _=>aC,fun h=>absurd (h.symm.trans aC) apN⟩
  |some id=>
   have hx:id∈gG (a0::bM):=by
    rw[t_];cases a0<;>simp[C4]at dJ<;>subst dJ<;>simp[J.aJ,J.jx]
   have zl:∀x∈gG bM,x∈gG (a0::bM):=fun x ai=>by rw[t_];simp[ai]
   let B:aD->(J->af->Prop)->Prop:=fun I k=>
    match cw (cD I bM) id,C3 a0 (af.at I id),Nat.beq (bU ps) (bU bM),eg J.plain (a7.eU I ps bM)with
    |false,true,true,true=>yH a0 (af.at I id) (gU (mU a0) (af.at I id) (a7.eU I ps bM) fun ob r=>(match af.alike (af.at I id) ob with|true=>k r ob|false=>False))
    |_,_,_,_=>False
   refine⟨B,fun x I=>cQ (cD I bM) id (false,x),U,aa,fun I k=> ?_,fun I k cy ae ag=> ?_,fun I k ag=> ?_,fun I aj ay _ k=> ?_,fun x I=>by rw[Hz,dP.1,ai];rfl,fun x I y _ bp=> ?_,fun I aj ay _ ⟨k,ae⟩ ⟨cy,qn⟩ x y bp=> ?_,fun _=>aC,fun h=>absurd (h.symm.trans aC) apN⟩
   ·rw[st];unfold n1;simp only[dJ];exact apm
   ·show B I cy;have ag:B I k:=ag;simp only[B]at ag⊢;split at ag
    ·rw[x2]at ag⊢;refine⟨ag.1,bs.1 _ _ _ _ _ (fun o r aF=> ?_) ag.2⟩;split
     ·rename_i aR;rw[aR]at aF;exact ae _ _ aF
     ·rename_i aR;rw[aR]at aF;exact aF
    ·exact ag.elim
   ·have ag:B I k:=ag;simp only[B]at ag;split at ag
    ·rw[x2]at ag;obtain⟨o,r,aF⟩:=bs.2 _ _ _ _ ag.2;split at aF
     ·exact⟨r,o,aF⟩
     ·exact aF.elim
    ·exact ag.elim
   ·rw[an]at ay;have aA:=(ay.at_ hx).1;have aL:cw (cD I bM) id=cw (cD aj bM) id:=apb Prod.fst (dP.2.2 I aj id (ay id hx));have b3:=x7 ps bM (ay.mono zl);show B I k↔B aj k;simp only[B];rw[aA,aL,b3]
   ·rw[hw]at bp;rw[ue,aox]
    ·exact dP.2.1 _ _ fun h=>bp (zl _ h)
    ·rintro⟨rfl,_⟩;exact bp hx
   ·rw[an]at ay;rw[hw]at bp
    have zP:∀(I:aD) (k:J->af->Prop),B I k->id<(cD I bM).length:=fun I k ag=>by
     simp only[B]at ag;split at ag
     ·rename_i bq _ _ _;exact mf bq
     ·exact ag.elim
    rw[ue,ue]
    by_cases e:id=y
    ·rw[aoy ⟨e,zP _ _ ae⟩,aoy ⟨e,zP _ _ qn⟩]
    ·rw[aox (fun h=>e h.1),aox (fun h=>e h.1)];exact dP.2.2 _ _ _ (ay y bp)
theorem Yx {ps:List a7}{gU:List J->(af->Prop)->Prop}(bs:nC gU){f:gP}{bD:aD->bS}{args:List J}(an:f.r=gG args)(hw:f.w=n::gG args)(aC:f.call=true)(ai:f.ext=true)
 (U:∀I s v o id,bD I≠ .grow s v o id) (aa:∀I p,bD I≠ .fB p) (st:∀I k,fN bx I k (bD I)=pU ps gU args I k):oY bx n f bD:=by
 have dP:=A8 args
 let B:aD->(J->af->Prop)->Prop:=fun I k=>
  match Nat.beq (bU ps) (bU args),eg J.plain (a7.eU I ps args)with
  |true,true=>gU (a7.eU I ps args) fun ob=>k (.vec (bU (cD I args))) ob
  |_,_=>False
 refine⟨B,fun ob I=>eM (cD I args) [(false,ob)],U,aa,fun I k=> ?_,fun I k cy ae ag=> ?_,fun I k ag=> ?_,fun I aj ay ax k=> ?_,fun x I=> ?_,fun x I y ax bp=> ?_,fun I aj ay ax _ _ x y bp=> ?_,
  fun _=>aC,fun h=>absurd (h.symm.trans aC) apN⟩
 ·rw[st];unfold pU;exact apm
 ·show B I cy;have ag:B I k:=ag;simp only[B]at ag⊢;split at ag
  ·exact bs.1 _ _ _ (fun r=>ae _ r) ag
  ·exact ag.elim
 ·have ag:B I k:=ag;simp only[B]at ag;split at ag
  ·obtain⟨r,an⟩:=bs.2 _ _ ag;exact⟨_,r,an⟩
  ·exact ag.elim
 ·show B I k↔B aj k;simp only[B];have e:bU (cD I args)=bU (cD aj args):=by rw[cG,cG,show(cD I args).length=I.length from dP.1 I,show(cD aj args).length=aj.length from dP.1 aj,(ax ai).1,(ax ai).2]
  rw[x7 ps args (an▸ay),e]
 ·rw[fV,ao0,dP.1,ai];rfl
 ·rw[hw,ao7,not_or]at bp;have e:(cD I args).length=I.length:=dP.1 I;have ax:=ax ai;rw[fV,dT,aoA,ao5];split
  ·rw[<-aoA,<-dT];exact dP.2.1 _ _ bp.2
  ·rename_i av;rw[dT,aoA,ape (l:=I) (by omega),ape (by simp;omega)]
 ·obtain⟨dh,l2⟩:=ax ai;have e:(cD I args).length=I.length:=dP.1 I;have b_:(cD aj args).length=aj.length:=dP.1 aj;show b8 gone (eM (cD I args) [(false,x)]) y=b8 gone (eM (cD aj args) [(false,x)]) y;rw[fV,fV,dT,dT,aoA,aoA,ao5,ao5,e,b_,dh,l2];split
  ·rename_i bG;rw[hw]at bp;have bp:y∈gG args:=(ao7.1 bp).resolve_left (by omega);rw[<-aoA,<-aoA,<-dT,<-dT];exact dP.2.2 _ _ _ (ay y (by rw[an];exact bp))
  ·rfl
theorem ZZ (t:a7)(id:Nat)(lo hi dn:Option J){I aj:aD}(h:hh [id] I aj):o6 [id] I aj (kE t (.vec id) lo hi dn I) (kE t (.vec id) lo hi dn aj):=by
 have U:=(h.at_ (x:=id) (by simp)).1;have bq:e5 I id=cQ I id (true,af.at aj id):=by unfold e5;rw[U]
 unfold kE
 cases dn with
 |none=>
  simp only;split
  ·rw[U,bq];split
   ·rename_i aF;split
    ·exact .inr ⟨_,_,_,_,rfl,rfl,rfl,wA (by rw[U,aF];simp),wA (by rw[aF];simp)⟩
    ·exact .inl ⟨rfl,rfl⟩
   ·rename_i aF;split
    ·exact .inr ⟨_,_,_,_,rfl,rfl,rfl,wA (by rw[U,aF];simp),wA (by rw[aF];simp)⟩
    ·exact .inl ⟨rfl,rfl⟩
   ·exact .inl ⟨rfl,rfl⟩
  ·exact .inl ⟨rfl,rfl⟩
 |some m=>
  have key:∀o:aD,kE t (.vec id) lo hi (some m) o= .bad:=fun o=>by
   unfold kE;generalize ma lo=a;generalize ma hi=b;split
   ·rename_i h;cases h
   ·rcases a with _|_|(_|_)|_<;>rcases b with _|_|(_|_)|_<;>rfl
   ·rfl
  unfold kE at key;exact .inl ⟨key I,key aj⟩
theorem Yy (t:a7)(x:J)(lo hi dn:Option J)(ai:∀id,x≠ .vec id)(I aj:aD):sR I aj (kE t x lo hi dn I) (kE t x lo hi dn aj):=by
 unfold kE
 cases dn with
 |none=>
  simp only;split
  ·cases x with
   |vec id=>exact absurd rfl (ai id)
   |d a=>
    cases a<;>simp only<;>first|exact .inl ⟨rfl,rfl⟩|(split<;>first|exact .inr ⟨_,_,rfl,rfl⟩|exact .inl ⟨rfl,rfl⟩)
   |emp=>simp only;split<;>first|exact .inr ⟨_,_,rfl,rfl⟩|exact .inl ⟨rfl,rfl⟩
   |_=>exact .inl ⟨rfl,rfl⟩
  ·exact .inl ⟨rfl,rfl⟩
 |some m=>
  split
  ·rename_i h;cases h
  ·split
   ·split<;>first|exact .inr ⟨_,_,rfl,rfl⟩|exact .inl ⟨rfl,rfl⟩
   ·split<;>first|exact .inr ⟨_,_,rfl,rfl⟩|exact .inl ⟨rfl,rfl⟩
   ·exact .inl ⟨rfl,rfl⟩
  ·exact .inl ⟨rfl,rfl⟩
theorem WA (t:a7)(id:Nat)(i:Int)(j:Nat)(lo hi dn:Option J){I aj:aD}(h:hh [id] I aj):o6 [id] I aj (pP t (.optr id i j) lo hi dn I) (pP t (.optr id i j) lo hi dn aj):=by
 have U:=(h.at_ (x:=id) (by simp)).1;have bq:e5 I id=cQ I id (true,af.at aj id):=by unfold e5;rw[U]
 unfold pP;split
 ·rename_i he;injection he with aA aL b3;subst aA aL b3;rw[U,bq];split
  ·rename_i aF _ _;split
   ·exact .inr ⟨_,_,_,_,rfl,rfl,rfl,wA (by rw[U,aF];simp),wA (by rw[aF];simp)⟩
   ·exact .inl ⟨rfl,rfl⟩
  ·exact .inl ⟨rfl,rfl⟩
 ·exact .inl ⟨rfl,rfl⟩
theorem MI (t:a7)(x:J)(lo hi dn:Option J)(ai:∀id i j,x≠ .optr id i j)(I:aD):pP t x lo hi dn I= .bad:=by
 unfold pP;split
 ·exact absurd rfl (ai _ _ _)
 ·rfl
theorem XI (tb:TypeId->b7)(t:b7)(m k:J)(c:Bool){I aj:aD}(h:hh m.aJ I aj):sR I aj (oM tb t m k c I) (oM tb t m k c aj):=by
 unfold oM;split
 ·rename_i n hE e id _;have U:=(h.at_ (x:=id) (by simp[J.aJ,J.jx])).1;rw[U,x5 I aj _ k]
  (repeat' split)<;>first|exact .inr ⟨_,_,rfl,rfl⟩|exact .inl ⟨rfl,rfl⟩
 ·exact .inl ⟨rfl,rfl⟩
theorem Wg (tb:TypeId->b7)(t:b7)(m k v:J){I aj:aD}(h:hh m.aJ I aj):o6 m.aJ I aj (sd tb t m k v I) (sd tb t m k v aj):=by
 have bad:o6 m.aJ I aj .bad .bad:= .inl ⟨rfl,rfl⟩;unfold sd;split
 ·rename_i n hE e id _;obtain⟨U,aa⟩:=h.at_ (x:=id) (by simp[J.aJ,J.jx]);rw[U,aa,x5 I aj _ k,MZ I aj _ v]
  cases bq:cw aj id with
  |true=>exact bad
  |false=>
   have dC:=mf bq;have dD:=mf (aa.trans bq)
   (repeat' split)<;>first|exact .inr ⟨_,_,_,_,rfl,rfl,rfl,dD,dC⟩|exact bad
 ·exact bad
theorem Z0 (s d:a7)(x:J){I aj:aD}(h:hh x.aJ I aj):sR I aj (nY s d x I) (nY s d x aj):=by
 unfold nY;split
 ·split<;>first|exact .inr ⟨_,_,rfl,rfl⟩|exact .inl ⟨rfl,rfl⟩
 ·split<;>first|exact .inr ⟨_,_,rfl,rfl⟩|exact .inl ⟨rfl,rfl⟩
 ·split<;>first|exact .inr ⟨_,_,rfl,rfl⟩|exact .inl ⟨rfl,rfl⟩
 ·rename_i id;have U:=(h.at_ (x:=id) (by simp[J.aJ,J.jx])).1;rw[U];split<;>first|exact .inr ⟨_,_,rfl,rfl⟩|exact .inl ⟨rfl,rfl⟩
 ·split<;>first|exact .inr ⟨_,_,rfl,rfl⟩|exact .inl ⟨rfl,rfl⟩
 ·exact .inl ⟨rfl,rfl⟩
theorem abC (tys:List TypeId)(args:List J){I aj:aD}(ay:hh (gG args) I aj):sR I aj (kC tb .len tys args I) (kC tb .len tys args aj):=by
 match args with
 |[]=>exact .inl ⟨rfl,rfl⟩
 |[x]=>
  have ai:hh x.aJ I aj:=ay.mono fun y bp=>by rw[t_];simp[bp]
  cases tys with
  |nil=>exact .inl ⟨rfl,rfl⟩
  |cons t r=>
   have e:∀o,kC tb .len (t::r) [x] o=(match uF (tb t).ty x o with|some n=> .aZ [] (.d (.int .i64 n)) o|none=> .bad):=fun o=>rfl
   rw[e,e,Yw (tb t).ty x ai];split
   ·exact .inr ⟨_,_,rfl,rfl⟩
   ·exact .inl ⟨rfl,rfl⟩
 |x::y::r=>
  have e:∀o,kC tb .len tys (x::y::r) o= .bad:=fun o=>by
   unfold kC;split
   ·rename_i h;cases h
   ·rename_i h _;exact absurd h (by decide)
   ·rename_i h _;exact absurd h (by decide)
   ·rename_i h _;exact absurd h (by decide)
   ·rename_i h _;exact absurd h (by decide)
   ·rfl
  rw[e,e];exact .inl ⟨rfl,rfl⟩
theorem uv (hH:re data bx)(o:Oper)(t:List J)(fR:(cA tb data aJ n o t).ok=true):oY bx n (cA tb data aJ n o t) (cK tb aJ o t):=by
 have RV:p1 tb o.op=false->fv tb o.op=0->oW o.op=false->∀f:gP,f.w=[]->f.ext=false->oY bx n f (cK tb aJ o t):=fun _ U aa f hw ai=>ua hw ai fun I aj _=>by
  rcases uK (tb:=tb) (aJ:=aJ) U aa t I aj with h|⟨s,v,h,k5⟩
  ·exact .inl h
  ·exact .inr ⟨s,v,h,k5⟩
 have ago:cA tb data aJ n o t=⟨Nat.beq (fv tb o.op) 0&& !oW o.op,false,[],[],false,kH tb o.op t,false⟩->p1 tb o.op=false->oY bx n (cA tb data aJ n o t) (cK tb aJ o t):=fun e aR=>by
  rw[e]at fR⊢;simp only[aoL,apB]at fR;exact RV aR (aoz fR.1) fR.2 _ rfl rfl
 cases bQ:o.op with
 |load ty p=>
  have e:cA tb data aJ n o t=⟨true,false,(aY t p).aJ,[],false,kH tb o.op t,false⟩:=by unfold cA;rw[bQ]
  rw[e];refine ua rfl rfl fun I aj ay=> ?_;rw[iT (by rw[bQ];rfl),iT (by rw[bQ];rfl)];unfold e0;rw[bQ];exact W8 _ _ ay
 |store ty p v=>
  have e:cA tb data aJ n o t=⟨true,false,(aY t p).aJ,(aY t p).aJ,false,false,false⟩:=by unfold cA;rw[bQ]
  rw[e];refine sm rfl fun I aj ay=> ?_;rw[iT (by rw[bQ];rfl),iT (by rw[bQ];rfl)];unfold e0;rw[bQ];exact Wy _ _ _ ay
 |indexAddr ty x i=>
  have e:cA tb data aJ n o t=⟨true,false,(aY t x).aJ,[],false,false,false⟩:=by unfold cA;rw[bQ]
  rw[e];refine ua rfl rfl fun I aj ay=> ?_;rw[iT (by rw[bQ];rfl),iT (by rw[bQ];rfl)];unfold e0;rw[bQ];exact We _ _ _ ay
 |lookup ty m k c=>
  have e:cA tb data aJ n o t=⟨true,false,(aY t m).aJ,[],false,false,false⟩:=by unfold cA;rw[bQ]
  rw[e];refine ua rfl rfl fun I aj ay=> ?_;rw[iT (by rw[bQ];rfl),iT (by rw[bQ];rfl)];unfold e0;rw[bQ];exact XI _ _ _ _ _ ay
 |mapUpdate ty m k v=>
  have e:cA tb data aJ n o t=⟨true,false,(aY t m).aJ,(aY t m).aJ,false,false,false⟩:=by unfold cA;rw[bQ]
  rw[e];refine sm rfl fun I aj ay=> ?_;rw[iT (by rw[bQ];rfl),iT (by rw[bQ];rfl)];unfold e0;rw[bQ];exact Wg _ _ _ _ _ ay
 |slice ty x lo hi dn=>
  have e:cA tb data aJ n o t=(match(tb ty).cut with|true=>mS|false=>⟨true,false,(aY t x).aJ,(aY t x).aJ,false,false,false⟩):=by unfold cA;rw[bQ];rfl
  rw[e]at fR⊢
  cases w7:(tb ty).cut with
  |true=>rw[w7]at fR;cases fR
  |false=>
  simp only
  have Kk:∀I,cK tb aJ o t I=sj (tb ty).ty (aY t x) (omap (aY t) lo) (omap (aY t) hi) (omap (aY t) dn) I:=fun I=>by
   rw[iT (by rw[bQ];rfl)];unfold e0;rw[bQ];show um (tb ty) _ _ _ _ I=_;unfold um;rw[w7]
  generalize aY t x=v at Kk
  cases Sq:(tb ty).ty.HN with
  |true=>
   have j9:∀I,cK tb aJ o t I=pP (tb ty).ty v (omap (aY t) lo) (omap (aY t) hi) (omap (aY t) dn) I:=fun I=>by rw[Kk];unfold sj;rw[Sq]
   by_cases aP:∃id i j,v= .optr id i j
   ·obtain⟨id,i,j,rfl⟩:=aP;refine sm rfl fun I aj ay=> ?_;rw[j9,j9];exact WA _ _ _ _ _ _ _ ay
   ·refine sm rfl fun I aj _=> ?_;rw[j9,j9,MI _ _ _ _ _ fun id i j e=>aP ⟨id,i,j,e⟩,MI _ _ _ _ _ fun id i j e=>aP ⟨id,i,j,e⟩];exact .inl ⟨rfl,rfl⟩
  |false=>
  have j9:∀I,cK tb aJ o t I=kE (tb ty).ty v (omap (aY t) lo) (omap (aY t) hi) (omap (aY t) dn) I:=fun I=>by rw[Kk];unfold sj;rw[Sq]
  by_cases aP:∃id,v= .vec id
  ·obtain⟨id,rfl⟩:=aP;refine sm rfl fun I aj ay=> ?_;rw[j9,j9];exact ZZ _ _ _ _ _ ay
  ·have aP:∀id,v≠ .vec id:=fun id e=>aP ⟨id,e⟩
   by_cases hw:v.aJ=[]
   ·rw[hw];refine ua rfl rfl fun I aj _=> ?_;rw[j9,j9];exact Yy _ _ _ _ _ aP _ _
   ·have ag:∀I,kE (tb ty).ty v (omap (aY t) lo) (omap (aY t) hi) (omap (aY t) dn) I= .bad:=fun I=>by
     have:∀a,v≠ .d a:=fun a e=>hw (by rw[e];rfl)
     have aa:v≠ .emp:=fun e=>hw (by rw[e];rfl);unfold kE;split
     ·split
      ·cases v<;>first|rfl|exact absurd rfl (aP _)|exact absurd rfl (this _)|exact absurd rfl aa
      ·rfl
     ·split<;>first|rfl|exact absurd rfl (this _)
     ·rfl
    refine sm rfl fun I aj _=> ?_;rw[j9,j9,ag,ag];exact .inl ⟨rfl,rfl⟩
 |convert amh F3 x=>
  have e:cA tb data aJ n o t=⟨true,false,(aY t x).aJ,[],false,false,false⟩:=by unfold cA;rw[bQ]
  rw[e];refine ua rfl rfl fun I aj ay=> ?_;rw[iT (by rw[bQ];rfl),iT (by rw[bQ];rfl)];unfold e0;rw[bQ];exact Z0 _ _ _ ay
 |alloc ty=>
  have e:cA tb data aJ n o t=(match o.dst with|some d=>(match fu d aJ with|some id=>⟨true,false,[id],[id],false,false,false⟩|none=>mS)|none=>mS):=by unfold cA;rw[bQ];rfl
  cases a8:o.dst with
  |none=>rw[e,a8]at fR;cases fR
  |some d=>
   cases ax:fu d aJ with
   |none=>rw[e,a8]at fR;simp only[ax]at fR;cases fR
   |some id=>
    rw[e,a8];simp only[ax];refine sm rfl fun I aj ay=> ?_
    have aL:∀I,cK tb aJ o t I=(match(tb ty).ty.jB,(tb ty).ty,cw I id with|false, .no,_=> .bad|false,_,true=> .bad|false,ty,false=> .aZ [] (.ptr id 0) (cQ I id (false, .cells ty.zero))|true,_,_=> .bad):=fun I=>by
     unfold cK;rw[bQ,a8];simp only[ax]
     rfl
    have bq:=(ay.at_ (x:=id) (by simp)).2;rw[aL,aL,bq]
    cases (tb ty).ty.jB with
    |true=>exact .inl ⟨rfl,rfl⟩
    |false=>
    cases dr:cw aj id with
    |true=>cases (tb ty).ty<;>exact .inl ⟨rfl,rfl⟩
    |false=>
     have dC:=mf dr;have dD:=mf (bq.trans dr)
     cases (tb ty).ty with
     |no=>exact .inl ⟨rfl,rfl⟩
     |_=>exact .inr ⟨_,_,_,_,rfl,rfl,rfl,dD,dC⟩
 |buildSlice ty q bP=>
  have e:cA tb data aJ n o t=(match(tb ty).lit with|true=>⟨true,false,[],[],false,kH tb o.op t,false⟩|false=>(match o.dst with|some d=>(match fu d aJ with|some id=>⟨true,false,[id],[id],false,false,false⟩|none=>mS)|none=>mS)):=by unfold cA;rw[bQ];rfl
  cases kQ:(tb ty).lit with
  |true=>
   rw[e,kQ];exact RV (by rw[bQ];simp[p1,kQ]) (by rw[bQ];simp[fv,kQ]) (by rw[bQ];rfl) _ rfl rfl
  |false=>
   cases a8:o.dst with
   |none=>rw[e,kQ,a8]at fR;cases fR
   |some d=>
    cases ax:fu d aJ with
    |none=>rw[e,kQ,a8]at fR;simp only[ax]at fR;cases fR
    |some id=>
     rw[e,kQ,a8];simp only[ax];refine sm rfl fun I aj ay=> ?_
     have aL:∀I,cK tb aJ o t I=(match sM (tb ty) q (bE (fun p=>(p.1,aY t p.2)) bP.toList) I,cw I id with|some ob,false=> .aZ [] (.vec id) (cQ I id (false,ob))|_,_=> .bad):=fun I=>by
      unfold cK;rw[bQ,a8];simp only[ax,kQ]
      rfl
     have b3:sM (tb ty) q (bE (fun p=>(p.1,aY t p.2)) bP.toList) I=sM (tb ty) q (bE (fun p=>(p.1,aY t p.2)) bP.toList) aj:=by
      have a_:∀z,hs I z (tb ty).fz q (bE (fun p=>(p.1,aY t p.2)) bP.toList)=hs aj z (tb ty).fz q (bE (fun p=>(p.1,aY t p.2)) bP.toList):=fun z=>x1 I aj z _ _ 0 q
      unfold sM;simp only[a_]
     have bq:=(ay.at_ (x:=id) (by simp)).2;rw[aL,aL,b3,bq];split
     ·rename_i dr;exact .inr ⟨_,_,_,_,rfl,rfl,rfl,mf (bq.trans dr),mf dr⟩
     ·exact .inl ⟨rfl,rfl⟩
 |call c=>
  have e:cA tb data aJ n o t=(match c.callee with
   | .builtin .len=>⟨true,false,gG (bE (aY t) c.args.toList),[],false,false,false⟩
   | .builtin .append=>⟨false,false,[],[],false,false,kG (bE (aY t) c.args.toList)⟩
   | .value (.func f)=>(match data f with|1=>⟨true,true,gG (bE (aY t) c.args.toList),gG (bE (aY t) c.args.toList),false,false,false⟩|2=>⟨true,true,gG (bE (aY t) c.args.toList),n::gG (bE (aY t) c.args.toList),true,false,false⟩|_=>mS)
   |_=>mS):=by unfold cA;rw[bQ];rfl
  have j9:∀I,cK tb aJ o t I=(match c.callee with
   | .builtin b=>kC tb b c.argTypes.toList (bE (aY t) c.args.toList) I
   | .value (.func f)=> .call f (bE (aY t) c.args.toList) c.argTypes.toList
   | .value (.tmp u)=>sv (b8 .un t u) (bE (aY t) c.args.toList) c.argTypes.toList
   |_=> .bad):=fun I=>by
   rw[iT (by rw[bQ];rfl)];unfold e0;rw[bQ]
   rfl
  cases aC:c.callee with
  |builtin b=>
   cases b with
   |len=>
    rw[e,aC];refine ua rfl rfl fun I aj ay=> ?_;rw[j9,j9,aC];simp only at ay⊢;exact abC _ _ ay
   |_=>rw[e,aC]at fR;cases fR
  |value x=>
   cases x with
   |func f=>
    have vA:∀I,cK tb aJ o t I= .call f (bE (aY t) c.args.toList) c.argTypes.toList:=fun I=>by rw[j9,aC]
    have U:∀I s v cc id,cK tb aJ o t I≠ .grow s v cc id:=fun I s v cc id=>by rw[vA];simp
    have aa:∀I p,cK tb aJ o t I≠ .fB p:=fun I p=>by rw[vA];simp
    generalize bE (aY t) c.args.toList=args at vA e;rw[aC]at e
    match xv:data f with
    |1=>
     simp only[xv]at e;rw[e];rcases(hH f).1 xv with⟨ps,gU,vc,ia⟩|⟨ps,gU,vc,ia⟩|⟨ps,gU,vc,ia⟩
     ·exact ZW vc (args:=args) rfl rfl rfl rfl U aa fun I k=>by rw[vA];show bx f args I k=_;rw[ia]
     ·exact ZY vc (args:=args) rfl rfl rfl rfl U aa fun I k=>by rw[vA];show bx f args I k=_;rw[ia]
     ·exact ZX vc (args:=args) rfl rfl rfl rfl U aa fun I k=>by rw[vA];show bx f args I k=_;rw[ia]
    |2=>
     simp only[xv]at e;rw[e];obtain⟨ps,gU,vc,ia⟩:=(hH f).2 xv;exact Yx vc (args:=args) rfl rfl rfl rfl U aa fun I k=>by rw[vA];show bx f args I k=_;rw[ia]
    |0=>simp only[xv]at e;rw[e]at fR;cases fR
    |n+3=>simp only[xv]at e;rw[e]at fR;cases fR
   |_=>rw[e,aC]at fR;cases fR
  |_=>rw[e,aC]at fR;cases fR
 |_=>
  refine ago ?_ (by rw[bQ];rfl);unfold cA;rw[bQ]
theorem wi {x:Nat}:∀{l:List Nat},qb x l=true↔x∈l
 |[]=>by simp[qb]
 |y::r=>by
  unfold qb
  by_cases h:x=y
  ·subst h;simp
  ·have:Nat.beq x y=false:=by
    cases ag:Nat.beq x y with
    |false=>rfl
    |true=>exact absurd (aoz ag) h
   rw[this];simp[h,wi (l:=r)]
theorem yq {m:List Nat}:∀{l:List Nat},uS l m=true↔∀x∈l,x∉m
 |[]=>by simp[uS]
 |y::r=>by
  unfold uS
  cases h:qb y m with
  |true=>simp[wi.1 h]
  |false=>
   have:y∉m:=fun hm=>by rw[wi.2 hm]at h;cases h
   simp[this,yq (l:=r)]
theorem abD (_:∀f args I K,bx f args I K->hv (bx f)){fX gS:gP}{Kl Km:aD->bS}(aR:oY bx n fX Kl)(hi:oY bx n gS Km)(aC:(fX.call&&gS.call)=false)
 (d1:∀x∈fX.w,x∉gS.w) (d2:∀x∈fX.w,x∉gS.r) (d3:∀x∈gS.w,x∉fX.r) {I:aD} (av:I.length=n) {k:J->J->aD->Prop}
 (h:fN bx I (fun v aj=>fN bx aj (fun c6 gu=>k v c6 gu) (Km aj)) (Kl I)):
 fN bx I (fun c6 aj=>fN bx aj (fun v gu=>k v c6 gu) (Kl aj)) (Km I):=by
 obtain⟨AI,nJ,aR⟩:=aR;obtain⟨F4,nK,hi⟩:=hi
 have nL:gS.ext=true->∀x,(nJ x I).length=n:=fun he x=>by
  have U:=hi.calls he
  have aa:fX.ext=false:=by
   cases ai:fX.ext with
   |false=>rfl
   |true=>have:=aR.calls ai;rw[U,this]at aC;cases aC
  rw[aR.len,aa];exact av
 have li:fX.ext=true->∀x,(nK x I).length=n:=fun he x=>by
  have U:=aR.calls he
  have aa:gS.ext=false:=by
   cases ai:gS.ext with
   |false=>rfl
   |true=>have:=hi.calls ai;rw[U,this]at aC;cases aC
  rw[hi.len,aa];exact av
 have Jw:∀x,hh gS.r (nJ x I) I:=fun x y bp=>aR.out _ _ _ (fun _=>av) fun hw=>d2 y hw bp
 have Jx:∀x,hh fX.r I (nK x I):=fun x y bp=>(hi.out _ _ _ (fun _=>av) fun hw=>d3 y hw bp).symm
 have k5:AI I fun v x=>F4 I fun c6 h8=>k v c6 (nK h8 (nJ x I)):=by
  refine aR.mono _ _ _ (fun v x aP=> ?_) ((aR.pull _ _).1 h);exact(hi.same _ _ (Jw x) (fun he=>⟨nL he x,av⟩) _).1 ((hi.pull _ _).1 aP)
 have F5:∃k,AI I k:=⟨_,k5⟩
 have UB:∃k,F4 I k:=by
  obtain⟨v,x,aP⟩:=aR.some _ _ k5;exact⟨_,aP⟩
 have ai5:∀x,∃k,AI (nK x I) k:=fun x=>⟨_,(aR.same _ _ (Jx x) (fun he=>⟨av,li he x⟩) _).1 k5⟩
 have ai6:∀x,∃k,F4 (nJ x I) k:=fun x=>by
  obtain⟨k,ae⟩:=UB;exact⟨k,(hi.same _ _ (Jw x) (fun he=>⟨nL he x,av⟩) _).2 ae⟩
 have heq:∀x h8,nK h8 (nJ x I)=nJ x (nK h8 I):=fun x h8=>by
  have ax:(nK h8 (nJ x I)).length=(nJ x (nK h8 I)).length:=by rw[hi.len,aR.len,aR.len,hi.len];omega
  have ai:∀y,b8 gone (nK h8 (nJ x I)) y=b8 gone (nJ x (nK h8 I)) y:=fun y=>by
   by_cases U:y∈fX.w
   ·rw[hi.out _ _ _ (fun he=>nL he x) (d1 y U)];exact aR.Tp _ _ (Jx h8) (fun he=>⟨av,li he h8⟩) F5 (ai5 h8) x y U
   ·rw[aR.out _ _ _ (fun he=>li he h8) U]
    by_cases aa:y∈gS.w
    ·exact(hi.Tp _ _ (fun z bq=>(Jw x z bq).symm) (fun he=>⟨av,nL he x⟩) UB (ai6 x) h8 y aa).symm
    ·rw[hi.out _ _ _ (fun he=>nL he x) aa,aR.out _ _ _ (fun _=>av) U,hi.out _ _ _ (fun _=>av) aa]
  apply List.ext_getElem?;intro y;have:=ai y;rw[dT,dT,aoA,aoA]at this
  by_cases bG:y<(nK h8 (nJ x I)).length
  ·rw[aoM bG,aoM (by rw[<-ax];exact bG)]at this⊢;simpa using this
  ·rw[ape (by omega),ape (by omega)]
 have goal:F4 I fun c6 h8=>AI I fun v x=>k v c6 (nK h8 (nJ x I)):=by
  cases qs:fX.call with
  |false=>
   obtain⟨S,v,x,h7⟩:=aR.aZ qs I;have aa:=(h7 _).1 k5;exact hi.mono _ _ _ (fun c6 h8 aP=>(h7 _).2 ⟨aa.1,aP⟩) aa.2
  |true=>
   have rP:gS.call=false:=by rw[qs]at aC;simpa using aC
   obtain⟨S,c6,h8,h7⟩:=hi.aZ rP I;refine(h7 _).2 ?_;have aa:AI I fun v x=>S/\k v c6 (nK h8 (nJ x I)):=aR.mono _ _ _ (fun v x aP=>(h7 _).1 aP) k5;obtain⟨v,x,aP⟩:=aR.some _ _ aa;exact⟨aP.1,aR.mono _ _ _ (fun v x aP=>aP.2) aa⟩
 refine(hi.pull _ _).2 (hi.mono _ _ _ (fun c6 h8 aP=> ?_) goal);refine(aR.pull _ _).2 ((aR.same _ _ (Jx h8) (fun he=>⟨av,li he h8⟩) _).1 (aR.mono _ _ _ (fun v x aP=> ?_) aP));rw[<-heq];exact aP
end
end Go.al
end
section
namespace Go.al
section
variable {tb:TypeId->b7} {bx:FuncId->gw} {data:FuncId->Nat} {aJ:List (Tmp×Nat)} {n:Nat}
def oc (c6 v:J):Prop:=c6=v\/((c6= .bt\/c6= .bf)/\∃b,v= .d (.bool b))
theorem oc.aeh {c6 v:J}(h:oc c6 v):c6.aJ=v.aJ:=by
 rcases h with rfl|⟨rfl|rfl,b,rfl⟩<;>rfl
theorem oc.ptr {c6 v:J}(h:oc c6 v):q9 c6=q9 v:=by
 rcases h with rfl|⟨rfl|rfl,b,rfl⟩<;>rfl
theorem oc.int {c6 v:J}(h:oc c6 v):q_ c6=q_ v:=by
 rcases h with rfl|⟨rfl|rfl,b,rfl⟩<;>rfl
theorem Z1 {f g:Operand->J}:∀l:List Operand,(∀x∈l,oc (f x) (g x))->kG (bE f l)=kG (bE g l)
 |[],_=>rfl
 |[x],_=>by
  show kG [f x]=kG [g x]
  have:∀v:J,kG [v]=false:=fun v=>by cases v<;>rfl
  rw[this,this]
 |[x,y],h=>by
  show kG [f x,f y]=kG [g x,g y]
  have no:∀v b,kG [v, .d (.bool b)]=false:=fun v b=>by cases v<;>rfl
  have e9:∀v,kG [v, .bt]=false:=fun v=>by cases v<;>rfl
  have hM:∀v,kG [v, .bf]=false:=fun v=>by cases v<;>rfl
  rcases h y (by simp)with e|⟨e,b,b_⟩
  ·rw[e];rcases h x (by simp)with e|⟨e|e,b,b_⟩
   ·rw[e]
   ·rw[e,b_];rfl
   ·rw[e,b_];rfl
  ·rw[b_,no];rcases e with e|e<;>rw[e]
   ·exact e9 _
   ·exact hM _
 |x::y::z::r,_=>by
  show kG (f x::f y::f z::bE f r)=kG (g x::g y::g z::bE g r)
  have:∀(a b c:J) (l:List J),kG (a::b::c::l)=false:=fun a b c l=>by unfold kG;split<;>first|rfl|(rename_i h;simp at h)
  rw[this,this]
theorem Yz {o:Op}{t t':List J}(h:∀x∈o.operands.toList,oc (aY t' x) (aY t x)):kH tb o t'=kH tb o t:=by
 cases o with
 |load ty p=>exact(h p (by simp[Op.operands])).ptr
 |fieldAddr ty x f=>exact(h x (by simp[Op.operands])).ptr
 |buildSlice ty q bP=>
  unfold kH;simp only
  have key:∀l:List (Nat×Operand),(∀p∈l,q_ (aY t' p.2)=q_ (aY t p.2))->eg (fun p:Nat×Operand=>q_ (aY t' p.2)) l=eg (fun p:Nat×Operand=>q_ (aY t p.2)) l:=by
   intro l
   induction l with
   |nil=>exact fun _=>rfl
   |cons x r bF=>
    intro ai;rw[fy,fy,aqb,aqb,<-fy,<-fy,ai x (by simp),bF fun y bp=>ai y (by simp[bp])]
  have this:=key bP.toList fun p aE=>(h p.2 (by simp[Op.operands];exact⟨p.1,by simpa using aE⟩)).int;rw[this]
 |_=>rfl
theorem NA {o:Oper}{t t':List J}(ae:∀x∈o.op.operands.toList,oc (aY t' x) (aY t x)):cA tb data aJ n o t'=cA tb data aJ n o t:=by
 have h:=fun x ai=>(ae x ai).aeh;have ay:=Yz (tb:=tb) ae
 have ax:∀l:List Operand,(∀x∈l,(aY t' x).aJ=(aY t x).aJ)->gG (bE (aY t') l)=gG (bE (aY t) l):=by
  intro l
  induction l with
  |nil=>exact fun _=>rfl
  |cons x r bF=>
   intro ai;show gG (aY t' x::bE (aY t') r)=gG (aY t x::bE (aY t) r);rw[t_,t_,ai x (by simp),bF fun y bp=>ai y (by simp[bp])]
 unfold cA
 cases bQ:o.op with
 |load ty p=>simp only[bQ]at h ay⊢;rw[h p (by simp[Op.operands]),ay]
 |store ty p v=>simp only[bQ]at h⊢;rw[h p (by simp[Op.operands])]
 |indexAddr ty x i=>simp only[bQ]at h⊢;rw[h x (by simp[Op.operands])]
 |slice ty x lo hi dn=>simp only[bQ]at h⊢;rw[h x (by simp[Op.operands])]
 |convert amh F3 x=>simp only[bQ]at h⊢;rw[h x (by simp[Op.operands])]
 |lookup ty m k c=>simp only[bQ]at h⊢;rw[h m (by simp[Op.operands])]
 |mapUpdate ty m k v=>simp only[bQ]at h⊢;rw[h m (by simp[Op.operands])]
 |call c=>
  simp only[bQ]at h ae⊢
  have hm:∀x∈c.args.toList,x∈(Op.call c).operands.toList:=fun x ai=>by simp[Op.operands,Call.operands];exact .inr (by simpa using ai)
  rw[ax c.args.toList fun x ai=>h x (hm x ai),Z1 c.args.toList fun x ai=>ae x (hm x ai)]
 |alloc ty=>rfl
 |_=>simp only[bQ]at ay⊢;rw[ay]
theorem uf {o:Oper}{t:List J}(h:(cA tb data aJ n o t).ok=true){n':Nat}(t':List J):(cA tb data aJ n' o t').ok=true:=by
 have key:(cA tb data aJ n' o t').ok=(cA tb data aJ n o t).ok:=by
  unfold cA
  cases o.op with
  |call c=>
   simp only;split<;>first|rfl|(split<;>rfl)
  |buildSlice ty q bP=>
   simp only;cases (tb ty).lit<;>rfl
  |slice ty x lo hi dn=>
   simp only;cases (tb ty).cut<;>rfl
  |_=>rfl
 rw[key];exact h
theorem Qp {tm:List J}{g:Nat}{b:Bool}(bh:b8 .un tm g= .d (.bool b)){y:J}(bp:y= .bt\/y= .bf)(x:Operand):oc (aY (cQ tm g y) x) (aY tm x):=by
 cases x with
 |tmp t=>
  show oc (b8 .un (cQ tm g y) t) (b8 .un tm t)
  by_cases e:g=t
  ·subst e;rw[Gs (Pm (by rw[bh];intro h;cases h)),bh];exact .inr ⟨bp,b,rfl⟩
  ·rw[MG e];exact .inl rfl
 |_=>exact .inl rfl
theorem adi {all:List Oper}{o:Oper}{tm t:List J}{m:Bool}(h:res all o tm=some (m,t))(x:Operand):oc (aY t x) (aY tm x):=by
 unfold res at h
 cases bh:o.guard with
 |none=>rw[bh]at h;simp only[aoU,aoZ]at h;rw[h.2];exact .inl rfl
 |some p=>
  obtain⟨j,want⟩:=p;rw[bh]at h;simp only at h
  cases bp:l7 all j with
  |none=>rw[bp]at h;simp only[aoU,aoZ]at h;rw[h.2];exact .inl rfl
  |some g=>
   rw[bp]at h;simp only at h;split at h
   ·simp only[aoU,aoZ]at h;rw[h.2];exact .inl rfl
   ·simp only[aoU,aoZ]at h;rw[h.2];exact .inl rfl
   ·simp only[aoU,aoZ]at h;rw[h.2];exact .inl rfl
   ·rename_i ax;simp only[aoU,aoZ]at h;rw[<-h.2];exact Qp ax (.inl rfl) x
   ·rename_i ax;simp only[aoU,aoZ]at h;rw[<-h.2];exact Qp ax (.inr rfl) x
   ·cases h
theorem BY {all:List Oper}{o:Oper}{tm t:List J}{m:Bool}(h:res all o tm=some (m,t))(q:Oper):cA tb data aJ n q t=cA tb data aJ n q tm:=NA fun x _=>adi h x
theorem HA {o:Oper}{tm:List J}{d:Option Tmp}{v:J}(h:l8 o d=false):cA tb data aJ n o (put tm d v)=cA tb data aJ n o tm:=NA fun _ ai=> .inl (yd h ai)
theorem RW {all:List Oper}{a i:Oper}(rN:mK all a i=true)(rO:mK all i a=true)(cN:fU a.dst i.dst=false)(iL:l8 i a.dst=false)(va:l8 a i.dst=false)
 (eB:∀f args I K,bx f args I K->hv (bx f))
 (nL:(∀tm I s v cc id,cK tb aJ a tm I≠ .grow s v cc id)/\∀tm I p,cK tb aJ a tm I≠ .fB p)
 (li:(∀tm I s v cc id,cK tb aJ i tm I≠ .grow s v cc id)/\∀tm I p,cK tb aJ i tm I≠ .fB p)
 {tm:List J} {I:aD} {K:List J->aD->Prop}
 (core:∀t,(∀q,cA tb data aJ n q t=cA tb data aJ n q tm)->∀(k:J->J->aD->Prop),fN bx I (fun v aj=>fN bx aj (fun c6 gu=>k v c6 gu) (cK tb aJ i t aj)) (cK tb aJ a t I)->
   fN bx I (fun c6 aj=>fN bx aj (fun v gu=>k v c6 gu) (cK tb aJ a t aj)) (cK tb aJ i t I))
 (h:dw tb bx aJ all [a,i] tm I K):dw tb bx aJ all [i,a] tm I K:=by
 have ci:∀(t:List J) (v:J) (o:aD),cK tb aJ i (put t a.dst v) o=cK tb aJ i t o:=fun t v o=>Ba fun x ai=>yd iL ai
 have xO:∀(t:List J) (v:J) (o:aD),cK tb aJ a (put t i.dst v) o=cK tb aJ a t o:=fun t v o=>Ba fun x ai=>yd va ai
 rw[x6 nL.1 nL.2]at h
 cases xo:res all a tm with
 |none=>rw[xo]at h;exact h.elim
 |some p=>
  obtain⟨qE,jK⟩:=p;rw[xo]at h;simp only at h
  have aA:∀v aj,dw tb bx aJ all [i] (put jK a.dst v) aj K↔_:=fun v aj=>x6 (tm:=put jK a.dst v) (I:=aj) (bM:=[]) (all:=all) (K:=K) li.1 li.2
  have aL:∀v,res all i (put jK a.dst v)=(res all i jK).map fun p=>(p.1,put p.2 a.dst v):=fun v=>Cv (Mf rO)
  have h:sQ qE bx I (fun v aj=>match(res all i jK).map fun p=>(p.1,put p.2 a.dst v)with
   |none=>False
   |some (m,dI)=>sQ m bx aj (fun v aj=>dw tb bx aJ all [] (put dI i.dst v) aj K) (cK tb aJ i dI aj)) (cK tb aJ a jK I):=by
   have:(fun v aj=>dw tb bx aJ all [i] (put jK a.dst v) aj K)=(fun v aj=>match(res all i jK).map fun p=>(p.1,put p.2 a.dst v)with
    |none=>False
    |some (m,dI)=>sQ m bx aj (fun v aj=>dw tb bx aJ all [] (put dI i.dst v) aj K) (cK tb aJ i dI aj)):=by
    funext v aj
    rw[<-aL v];exact propext (aA v aj)
   rw[<-this];exact h
  have ai7:∀(m:Bool) (r:bS),¬sQ m bx I (fun _ _=>False) r:=by
   intro m r ai
   cases m with
   |false=>exact ai
   |true=>
    cases r with
    |aZ s v o=>exact((gY _ _).1 ai).2
    |call f args tys=>
     obtain⟨_,_,an⟩:=(eB _ _ _ _ ai).2 _ _ _ ai;exact an
    |_=>exact ai
  cases u5:res all i jK with
  |none=>
   rw[u5]at h;exact(ai7 _ _ h).elim
  |some q=>
   obtain⟨vx,lP⟩:=q;rw[u5]at h;simp only[apE]at h;obtain⟨vz,a6,bj,bH,dO⟩:=abB (tb:=tb) rN rO xo u5;rw[x6 li.1 li.2,a6];simp only
   have b3:∀v aj,dw tb bx aJ all [a] (put vz i.dst v) aj K↔sQ qE bx aj (fun c6 aj=>dw tb bx aJ all [] (put (put lP i.dst v) a.dst c6) aj K) (cK tb aJ a (put lP i.dst v) aj):=fun v aj=>by
    rw[x6 nL.1 nL.2,Cv (Mf rN),bj]
    rfl
   have cX:(fun v aj=>dw tb bx aJ all [a] (put vz i.dst v) aj K)=fun v aj=>sQ qE bx aj (fun c6 aj=>dw tb bx aJ all [] (put (put lP a.dst c6) i.dst v) aj K) (cK tb aJ a lP aj):=by
    funext v aj
    refine(propext (b3 v aj)).trans ?_;rw[xO]
    congr 1
    funext c6 gu
    rw[put_comm cN]
   rw[cX,<-dO];rw[<-bH]at h;simp only[ci]at h
   cases qE with
   |false=>exact h
   |true=>
    cases vx with
    |false=>exact h
    |true=>
     have aU:∀q,cA tb data aJ n q lP=cA tb data aJ n q tm:=fun q=>(BY u5 q).trans (BY xo q)
     exact core lP aU (fun v c6 gu=>dw tb bx aJ all [] (put (put lP a.dst v) i.dst c6) gu K) h
theorem yr {all:List Oper}{a i:Oper}{fX gS:gP}(h:nr tb all a fX i gS=true):mK all a i=true/\mK all i a=true/\fU a.dst i.dst=false/\l8 i a.dst=false/\l8 a i.dst=false/\(p2 tb a i=true\/sZ fX gS=true):=by
 simp only[nr,uo,aoL,ap3,apB]at h;obtain⟨⟨⟨U,aa⟩,⟨az,aW⟩,bA⟩,bZ⟩:=h;exact⟨U,aa,az,aW,bA,bZ⟩
theorem aeV {all:List Oper}{a i:Oper}(hH:re data bx)(eB:∀f args I K,bx f args I K->hv (bx f)){tm:List J}{I:aD}(av:I.length=n){K:List J->aD->Prop}
 (hi:nr tb all a (cA tb data aJ n a tm) i (cA tb data aJ n i tm)=true)
 (h:dw tb bx aJ all [a,i] tm I K):dw tb bx aJ all [i,a] tm I K:=by
 obtain⟨rN,rO,cN,iL,va,aC⟩:=yr hi;rcases aC with bc|bc
 ·have zX:=bc;simp only[p2,aoL,apB]at zX;obtain⟨⟨⟨⟨⟨aU,qq⟩,xu⟩,_⟩,_⟩,_⟩:=zX
  have C5:(fv tb a.op<=1\/fv tb a.op=2)/\(fv tb i.op<=1\/fv tb i.op=2):=by
   unfold p9 at aU;split at aU
   ·rename_i U aa;exact⟨.inl (aoY U), .inl (aoY aa)⟩
   ·simp only[aoL]at aU;exact⟨.inl (by rw[aoz aU.1];decide), .inr (aoz aU.2)⟩
   ·simp only[aoL]at aU;exact⟨.inr (aoz aU.1), .inl (by rw[aoz aU.2];decide)⟩
   ·cases aU
  have low:∀{o:Oper},(fv tb o.op<=1\/fv tb o.op=2)->oW o.op=false->(∀tm I s v cc id,cK tb aJ o tm I≠ .grow s v cc id)/\∀tm I p,cK tb aJ o tm I≠ .fB p:=by
   intro o U aa;refine⟨fun tm I s v cc id=> ?_,fun tm I p=> ?_⟩
   ·rcases U with U|U
    ·rcases wW (tb:=tb) (aJ:=aJ) U aa tm I with h|⟨s,v,h⟩<;>rw[h]<;>simp
    ·rcases uL (tb:=tb) (aJ:=aJ) U tm I with h|⟨s,v,cc,h⟩|⟨f,args,tys,h⟩<;>rw[h]<;>simp
   ·rcases U with U|U
    ·rcases wW (tb:=tb) (aJ:=aJ) U aa tm I with h|⟨s,v,h⟩<;>rw[h]<;>simp
    ·rcases uL (tb:=tb) (aJ:=aJ) U tm I with h|⟨s,v,cc,h⟩|⟨f,args,tys,h⟩<;>rw[h]<;>simp
  exact RW (data:=data) (n:=n) rN rO cN iL va eB (low C5.1 qq) (low C5.2 xu) (fun t _ k ae=>adg bc eB ae) h
 ·have zX:=bc;simp only[sZ,aoL,apB]at zX;obtain⟨⟨⟨⟨⟨vB,vt⟩,lQ⟩,d1⟩,d2⟩,d3⟩:=zX
  have low:∀{o:Oper},(cA tb data aJ n o tm).ok=true->(∀tm I s v cc id,cK tb aJ o tm I≠ .grow s v cc id)/\∀tm I p,cK tb aJ o tm I≠ .fB p:=fun aF=>
   ⟨fun t I s v cc id=>(uv (n:=n) hH _ t (uf aF t)).elim fun _ ⟨_,h⟩=>h.none I s v cc id,fun t I p=>(uv (n:=n) hH _ t (uf aF t)).elim fun _ ⟨_,h⟩=>h.To I p⟩
  refine RW (data:=data) (n:=n) rN rO cN iL va eB (low vB) (low vt) (fun t au k ae=> ?_) h;have fX:=uv (tb:=tb) (aJ:=aJ) (n:=n) hH a t (uf vB t);have gS:=uv (tb:=tb) (aJ:=aJ) (n:=n) hH i t (uf vt t);rw[au]at fX gS;exact abD eB fX gS lQ (yq.1 d1) (yq.1 d2) (yq.1 d3) av ae
end
end Go.al
end
section
namespace Go.al
theorem Ha {f:J->J}(aU:f .un= .un)(l:List J)(n:Nat):b8 .un (bE f l) n=f (b8 .un l n):=by
 rw[dM,dT,dT,aoA,aoA,apu]
 cases l[n]? with
 |none=>exact aU.symm
 |some x=>rfl
theorem Z2 {id:Nat}{x:J}{j off:Nat}(h:ev id x= .ptr j off):x= .ptr j off/\j≠id:=by
 cases x with
 |ptr i o=>
  simp only[ev,fA]at h;split at h
  ·cases h
  ·rename_i ag;injection h with U aa;subst U aa;refine⟨rfl,fun e=> ?_⟩;subst e;simp at ag
 |vec i=>simp only[ev,fA]at h;split at h<;>cases h
 |optr i a b=>simp only[ev,fA]at h;split at h<;>cases h
 |oat i a b=>simp only[ev,fA]at h;split at h<;>cases h
 |mp i=>simp only[ev,fA]at h;split at h<;>cases h
 |tail i x=>simp only[ev,fA]at h;split at h<;>cases h
 |_=>simp[ev,fA]at h
theorem W_ {id j off:Nat}(h:j≠id):ev id (.ptr j off)= .ptr j off:=by
 simp only[ev,fA];split
 ·rename_i ag;exact absurd (aoz ag) h
 ·rfl
theorem Z3 (id:Nat)(v:J):o1 (fA id v)=ev id (o1 v):=by
 cases v with
 |ptr i o=>simp only[o1,ev,fA];cases Nat.beq i id<;>rfl
 |vec i=>simp only[o1,ev,fA];cases Nat.beq i id<;>rfl
 |optr i a b=>simp only[o1,ev,fA];cases Nat.beq i id<;>rfl
 |oat i a b=>simp only[o1,ev,fA];cases Nat.beq i id<;>rfl
 |mp i=>simp only[o1,ev,fA];cases Nat.beq i id<;>rfl
 |tail i x=>simp only[o1,ev,fA];cases Nat.beq i id<;>rfl
 |_=>rfl
theorem Z4 (c:Value)(j off:Nat):tB c≠ .ptr j off:=by
 intro h;unfold tB at h;split at h
 ·cases h
 ·unfold o_ at h;split at h<;>cases h
section
variable {tb:TypeId->b7} {bx:FuncId->gw} {data:FuncId->Nat} {aJ:List (Tmp×Nat)} {n:Nat}
theorem GL {tm:List J}{iw:Option Tmp}{v:J}{id:Nat}{x:Operand}(ai:∀t,iw=some t->x≠ .tmp t){j off:Nat}(h:aY (put (bE (ev id) tm) iw v) x= .ptr j off):aY tm x= .ptr j off/\j≠id:=by
 rw[Ii ai]at h
 cases x with
 |tmp t=>
  have h:b8 .un (bE (ev id) tm) t= .ptr j off:=h;rw[Ha rfl]at h;exact Z2 h
 |const c=>exact absurd h (Z4 c j off)
 |global g=>cases h
 |func f=>cases h
theorem XJ {id:Nat}{x:J}(h:q_ (ev id x)=true):ev id x=x:=by
 cases x with
 |ptr i o=>simp only[ev,fA]at h⊢;cases ag:Nat.beq i id<;>rw[ag]at h<;>first|rfl|cases h
 |vec i=>simp only[ev,fA]at h⊢;cases ag:Nat.beq i id<;>rw[ag]at h<;>first|rfl|cases h
 |optr i a b=>simp only[ev,fA]at h⊢;cases ag:Nat.beq i id<;>rw[ag]at h<;>first|rfl|cases h
 |oat i a b=>simp only[ev,fA]at h⊢;cases ag:Nat.beq i id<;>rw[ag]at h<;>first|rfl|cases h
 |mp i=>simp only[ev,fA]at h⊢;cases ag:Nat.beq i id<;>rw[ag]at h<;>first|rfl|cases h
 |tail i x=>simp only[ev,fA]at h⊢;cases ag:Nat.beq i id<;>rw[ag]at h<;>first|rfl|cases h
 |d a=>rfl
 |_=>cases h
theorem XK {tm:List J}{iw:Option Tmp}{v:J}{id:Nat}{x:Operand}(ai:∀t,iw=some t->x≠ .tmp t)(h:q_ (aY (put (bE (ev id) tm) iw v) x)=true):aY (put (bE (ev id) tm) iw v) x=aY tm x:=by
 rw[Ii ai]at h⊢
 cases x with
 |tmp t=>
  have e:aY (bE (ev id) tm) (.tmp t)=ev id (aY tm (.tmp t)):=Ha rfl _ _;rw[e]at h⊢;exact XJ h
 |_=>rfl
theorem Z5 {i:Oper}{tm:List J}{I:aD}{iw:Option Tmp}{v:J}{id:Nat}{ob:af}(an:l8 i iw=false)(_:∀l,af.at I id≠ .cells l)
 (ay:kH tb i.op (put (bE (ev id) tm) iw v)=true):
 kH tb i.op tm=true/\(cK tb aJ i (put (bE (ev id) tm) iw v) (gy id (cQ I id (false,ob)))= .bad\/
  ∃s w,cK tb aJ i (put (bE (ev id) tm) iw v) (gy id (cQ I id (false,ob)))= .aZ s (ev id w) (gy id (cQ I id (false,ob)))/\cK tb aJ i tm I= .aZ s w I):=by
 have ai:∀x∈i.op.operands.toList,∀t,iw=some t->x≠ .tmp t:=fun x ai t au zV=>by
  subst au zV;simp only[l8]at an;rw[GJ.2 ai]at an;cases an
 cases bQ:i.op with
 |load ty p=>
  rw[bQ]at ay ai;have aE:=ai p (by simp[Op.operands])
  have aA:∀(t:List J) (o:aD),cK tb aJ i t o=hR (tb ty).ty (aY t p) o:=fun t o=>by
   rw[iT (by rw[bQ];rfl)];unfold e0;rw[bQ]
  have ay:q9 (aY (put (bE (ev id) tm) iw v) p)=true:=ay;rw[aA,aA]
  cases aP:aY (put (bE (ev id) tm) iw v) p with
  |ptr j off=>
   obtain⟨U,aa⟩:=GL aE aP;refine⟨by show q9 (aY tm p)=true;rw[U];rfl, ?_⟩;rw[U];have cF:af.at (gy id (cQ I id (false,ob))) j=(af.at I j).kill id:=by rw[HQ,eI,g_,aox (by rintro⟨h,_⟩;exact aa h.symm)]
   unfold hR;simp only;rw[cF]
   cases aI:af.at I j with
   |cells l=>
    simp only[af.kill];have ax:bU (bE (fA id) l)=bU l:=by rw[cG,cG,dM,aoF]
    rw[ax]
    cases b9:(tb ty).ty with
    |aB q=>
     cases Nat.ble (off.add (a7.size (.aB q))) (bU l)with
     |false=>exact .inl rfl
     |true=>
      refine .inr ⟨_,o1 (b8 .un l off), ?_,rfl⟩;simp only;rw[<-Z3,Ha rfl]
    |struct bY cs=>
     cases Nat.ble (off.add (a7.size (.struct bY cs))) (bU l)with
     |false=>exact .inl rfl
     |true=>
      refine .inr ⟨_, .agg (kM (kL l off) (bU cs)), ?_,rfl⟩;simp only[ev,dM,ll,lk,aqA,List.map_drop]
    |arr m e cs=>
     cases Nat.ble (off.add (a7.size (.arr m e cs))) (bU l)with
     |false=>exact .inl rfl
     |true=>
      refine .inr ⟨_, .agg (kM (kL l off) (bU cs)), ?_,rfl⟩;simp only[ev,dM,ll,lk,aqA,List.map_drop]
    |no=>exact .inl rfl
   |_=>exact .inl rfl
  |_=>rw[aP]at ay;cases ay
 |fieldAddr ty x f=>
  rw[bQ]at ay ai;have aE:=ai x (by simp[Op.operands])
  have aA:∀(t:List J) (o:aD),cK tb aJ i t o=(match su (tb ty).ty f with
   |false=> .bad
   |true=>match aY t x with
    | .ptr id off=> .aZ [] (.ptr id (Nat.add off (fx (tb ty).ty f))) o
    | .optr id i j=> .aZ [] (.optr id i (Nat.add j (fx (tb ty).ty f))) o
    | .rptr a i j=> .aZ [] (.rptr a i (Nat.add j (fx (tb ty).ty f))) o
    |_=> .bad):=fun t o=>by
   rw[iT (by rw[bQ];rfl)];unfold e0;rw[bQ];rfl
  have ay:q9 (aY (put (bE (ev id) tm) iw v) x)=true:=ay;rw[aA,aA]
  cases aP:aY (put (bE (ev id) tm) iw v) x with
  |ptr j off=>
   obtain⟨U,aa⟩:=GL aE aP;refine⟨by show q9 (aY tm x)=true;rw[U];rfl, ?_⟩;rw[U]
   cases su (tb ty).ty f with
   |false=>exact .inl rfl
   |true=>exact .inr ⟨_, .ptr j (off.add (fx (tb ty).ty f)),by rw[W_ aa],rfl⟩
  |_=>rw[aP]at ay;cases ay
 |buildSlice ty q bP=>
  rw[bQ]at ay ai;unfold kH at ay;simp only at ay
  cases kQ:(tb ty).lit with
  |false=>rw[kQ]at ay;cases ay
  |true=>
   rw[kQ]at ay;simp only at ay;rw[fy,aoR]at ay
   have hG:∀p∈bP.toList,aY (put (bE (ev id) tm) iw v) p.2=aY tm p.2:=fun p aE=>XK (ai p.2 (by simp[Op.operands];exact⟨p.1,by simpa using aE⟩)) (ay p aE)
   have aL:bE (fun p:Nat×Operand=>(p.1,aY (put (bE (ev id) tm) iw v) p.2)) bP.toList=bE (fun p:Nat×Operand=>(p.1,aY tm p.2)) bP.toList:=qL fun p aE=>by rw[hG p aE]
   refine⟨?_, ?_⟩
   ·unfold kH;simp only[kQ];rw[fy,aoR];exact fun p aE=>by rw[<-hG p aE];exact ay p aE
   ·rw[iT (by rw[bQ];simp[p1,kQ]),iT (by rw[bQ];simp[p1,kQ])];unfold e0;rw[bQ];simp only;rw[aL]
    cases (tb ty).ty with
    |aB s=>
     cases s with
     |cu k=>
      simp only[kQ,sA];split
      ·exact .inr ⟨_,_,rfl,rfl⟩
      ·exact .inl rfl
     |dB z=>
      simp only[kQ,sA];have a_:hs (gy id (cQ I id (false,ob))) z (tb ty).fz q (bE (fun p=>(p.1,aY tm p.2)) bP.toList)=hs I z (tb ty).fz q (bE (fun p=>(p.1,aY tm p.2)) bP.toList):=x1 _ _ z _ _ 0 q;rw[a_];split
      ·exact .inr ⟨_,_,rfl,rfl⟩
      ·exact .inl rfl
     |_=>exact .inl rfl
    |_=>exact .inl rfl
 |_=>rw[bQ]at ay;cases ay
theorem adj {a:Oper}{tm:List J}(bh:(cA tb data aJ n a tm).DQ=true):(cA tb data aJ n a tm).ok=false/\fv tb a.op=3/\
 ∃id,∀I,cK tb aJ a tm I= .bad\/∃s ob,cK tb aJ a tm I= .grow s (.vec id) (cQ I id (false,ob)) id/\∀l,af.at I id≠ .cells l:=by
 unfold cA at bh⊢
 cases bQ:a.op with
 |call c=>
  rw[bQ]at bh;simp only at bh⊢
  have j9:∀I,cK tb aJ a tm I=(match c.callee with
   | .builtin b=>kC tb b c.argTypes.toList (bE (aY tm) c.args.toList) I
   | .value (.func f)=> .call f (bE (aY tm) c.args.toList) c.argTypes.toList
   | .value (.tmp u)=>sv (b8 .un tm u) (bE (aY tm) c.args.toList) c.argTypes.toList
   |_=> .bad):=fun I=>by
   rw[iT (by rw[bQ];rfl)];unfold e0;rw[bQ]
   rfl
  cases aC:c.callee with
  |builtin b=>
   rw[aC]at bh j9
   cases b with
   |append=>
    simp only at bh⊢;refine⟨trivial,by simp only[fv,aC], ?_⟩;generalize bE (aY tm) c.args.toList=args at bh j9
    have key:∃id x,args=[.vec id, .d x]:=by
     unfold kG at bh;split at bh
     ·exact⟨_,_,rfl⟩
     ·exact⟨_,_,rfl⟩
     ·cases bh
    obtain⟨id,x,rfl⟩:=key;refine⟨id,fun I=> ?_⟩;rw[j9];unfold kC;simp only;split
    ·split
     ·unfold sg;simp only[sL,lq];split
      ·split
       ·have aF:∀l,af.at I id≠ .cells l:=fun l e=>by simp_all
        split
        ·exact .inr ⟨_,_,rfl,aF⟩
        ·exact .inl rfl
       ·have aF:∀l,af.at I id≠ .cells l:=fun l e=>by simp_all
        split
        ·exact .inr ⟨_,_,rfl,aF⟩
        ·exact .inl rfl
       ·exact .inl rfl
      ·exact .inl rfl
     ·exact .inl rfl
    ·exact .inl rfl
   |_=>cases bh
  |value x=>
   rw[aC]at bh
   cases x with
   |func f=>
    simp only at bh;split at bh<;>cases bh
   |_=>cases bh
  |_=>rw[aC]at bh;cases bh
 |alloc ty=>
  rw[bQ]at bh;simp only at bh;split at bh
  ·split at bh<;>cases bh
  ·cases bh
 |slice ty x lo hi dn=>
  rw[bQ]at bh;simp only at bh;split at bh<;>cases bh
 |buildSlice ty q bP=>
  rw[bQ]at bh;simp only at bh;split at bh
  ·cases bh
  ·split at bh
   ·split at bh<;>cases bh
   ·cases bh
 |_=>rw[bQ]at bh;cases bh
end
end Go.al
end
section
namespace Go.al
section
variable {tb:TypeId->b7} {bx:FuncId->gw} {data:FuncId->Nat} {aJ:List (Tmp×Nat)} {tab:List Nat}
theorem vT (eB:∀f args I K,bx f args I K->hv (bx f)){all:List Oper}{K K':List J->aD->Prop}(ae:∀tm I,K tm I->K' tm I):
 ∀(l:List Oper) (tm:List J) (I:aD),dw tb bx aJ all l tm I K->dw tb bx aJ all l tm I K'
 |[],tm,I,h=>ae _ _ h
 |o::bM,tm,I,h=>by
  have bF:=fun tm I=>vT eB ae bM tm I (all:=all)
  have run:∀dG:List J,
   (match cK tb aJ o dG I with
     | .bad=>False
     | .aZ cd v aj=>gC cd (dw tb bx aJ all bM (put dG o.dst v) aj K)
     | .grow cd v aj id=>gC cd (dw tb bx aJ all bM (put (bE (ev id) dG) o.dst v) (gy id aj) K)
     | .fB p=>∀b:Bool,p b->dw tb bx aJ all bM (put dG o.dst (.d (.bool b))) I K
     | .call f args _=>bx f args I fun v aj=>dw tb bx aJ all bM (put dG o.dst v) aj K)->
   (match cK tb aJ o dG I with
     | .bad=>False
     | .aZ cd v aj=>gC cd (dw tb bx aJ all bM (put dG o.dst v) aj K')
     | .grow cd v aj id=>gC cd (dw tb bx aJ all bM (put (bE (ev id) dG) o.dst v) (gy id aj) K')
     | .fB p=>∀b:Bool,p b->dw tb bx aJ all bM (put dG o.dst (.d (.bool b))) I K'
     | .call f args _=>bx f args I fun v aj=>dw tb bx aJ all bM (put dG o.dst v) aj K'):=by
   intro dG an
   cases he:cK tb aJ o dG I with
   |bad=>rw[he]at an;exact an
   |aZ s v cc=>rw[he]at an;exact v7 (bF _ _) an
   |grow s v cc id=>rw[he]at an;exact v7 (bF _ _) an
   |fB p=>rw[he]at an;exact fun b ag=>bF _ _ (an b ag)
   |call f args tys=>rw[he]at an;exact(eB _ _ _ _ an).1 _ _ _ _ (fun r cc=>bF _ _) an
  unfold dw at h⊢;simp only at h⊢;split
  ·rename_i bh;rw[bh]at h;exact run tm h
  ·rename_i j want bh;rw[bh]at h;simp only at h;split
   ·rename_i bp;rw[bp]at h;exact bF _ _ h
   ·rename_i g bp;rw[bp]at h;simp only at h;split
    ·rename_i ax;rw[ax]at h;cases want
     ·exact bF _ _ h
     ·exact run _ h
    ·rename_i ax;rw[ax]at h;cases want
     ·exact run _ h
     ·exact bF _ _ h
    ·rename_i ax;rw[ax]at h;exact bF _ _ h
    ·rename_i b ax;rw[ax]at h;refine⟨fun ag=> ?_,fun ag=> ?_⟩
     ·have:=h.1 ag;cases want
      ·exact bF _ _ this
      ·exact run _ this
     ·have:=h.2 ag;cases want
      ·exact run _ this
      ·exact bF _ _ this
    ·rename_i U aa az aW;split at h
     ·rename_i ax;exact absurd ax U
     ·rename_i ax;exact absurd ax aa
     ·rename_i ax;exact absurd ax az
     ·rename_i b ax;exact absurd ax (aW b)
     ·exact h
theorem Z6 {o:Oper}{tm:List J}{I:aD}{p:Bool->Prop}(h:cK tb aJ o tm I= .fB p):∃b,p b:=by
 have h:e0 tb o tm I= .fB p:=by
  rcases Gy tb aJ o tm I with e|⟨t,d,id,_,_,_,e|⟨_,e⟩⟩|⟨t,n,bP,d,id,_,_,_,e|⟨ob,_,e⟩⟩
  ·rw[<-e];exact h
  ·rw[e]at h;cases h
  ·rw[e]at h;cases h
  ·rw[e]at h;cases h
  ·rw[e]at h;cases h
 obtain⟨op,t,x,y,ty,_,h⟩:=Qo h;unfold oU at h;split at h
 ·split at h
  ·cases h
  ·cases h
  ·split at h
   ·cases op<;>simp[n4]at h
   ·cases h
 ·split at h<;>cases h
 ·split at h
  ·simp only[bS.fB.injEq]at h;subst h;exact⟨false,fun h=>by cases h⟩
  ·simp only[bS.fB.injEq]at h;subst h;exact⟨true,fun h=>by cases h⟩
  ·cases h
 ·split at h
  ·simp only[bS.fB.injEq]at h;subst h;exact⟨false,fun h=>by cases h⟩
  ·simp only[bS.fB.injEq]at h;subst h;exact⟨true,fun h=>by cases h⟩
  ·cases h
 all_goals first|cases h|(unfold jt at h;split at h<;>cases h)
theorem Bn (eB:∀f args I K,bx f args I K->hv (bx f)){all:List Oper}{K:List J->aD->Prop}:∀(l:List Oper) (tm:List J) (I:aD),dw tb bx aJ all l tm I K->∃dI aj,K dI aj
 |[],tm,I,h=>⟨_,_,h⟩
 |o::bM,tm,I,h=>by
  have bF:=fun tm I=>Bn eB bM tm I (all:=all) (K:=K)
  have run:∀dG:List J,
   (match cK tb aJ o dG I with
     | .bad=>False
     | .aZ cd v aj=>gC cd (dw tb bx aJ all bM (put dG o.dst v) aj K)
     | .grow cd v aj id=>gC cd (dw tb bx aJ all bM (put (bE (ev id) dG) o.dst v) (gy id aj) K)
     | .fB p=>∀b:Bool,p b->dw tb bx aJ all bM (put dG o.dst (.d (.bool b))) I K
     | .call f args _=>bx f args I fun v aj=>dw tb bx aJ all bM (put dG o.dst v) aj K)->∃dI aj,K dI aj:=by
   intro dG an
   cases he:cK tb aJ o dG I with
   |bad=>rw[he]at an;exact an.elim
   |aZ s v cc=>rw[he]at an;exact bF _ _ ((gY _ _).1 an).2
   |grow s v cc id=>rw[he]at an;exact bF _ _ ((gY _ _).1 an).2
   |fB p=>
    rw[he]at an;obtain⟨b,ag⟩:=Z6 he;exact bF _ _ (an b ag)
   |call f args tys=>
    rw[he]at an;obtain⟨r,cc,k5⟩:=(eB _ _ _ _ an).2 _ _ _ an;exact bF _ _ k5
  unfold dw at h;simp only at h;split at h
  ·exact run tm h
  ·rename_i j want bh;split at h
   ·exact bF _ _ h
   ·rename_i g bp;split at h
    ·cases want
     ·exact bF _ _ h
     ·exact run _ h
    ·cases want
     ·exact run _ h
     ·exact bF _ _ h
    ·exact bF _ _ h
    ·rename_i b ax;cases b
     ·have:=h.2 rfl;cases want
      ·exact run _ this
      ·exact bF _ _ this
     ·have:=h.1 rfl;cases want
      ·exact bF _ _ this
      ·exact run _ this
    ·exact h.elim
theorem M0 {all:List Oper}{o:Oper}{r:List Oper}{tm:List J}{I:aD}{K:List J->aD->Prop}:dw tb bx aJ all (o::r) tm I K=dw tb bx aJ all [o] tm I (fun tm I=>dw tb bx aJ all r tm I K):=rfl
theorem GY {all:List Oper}{o:Oper}(ax:(∀tm I s v cc id,cK tb aJ o tm I≠ .grow s v cc id)/\∀tm I p,cK tb aJ o tm I≠ .fB p)(eB:∀f args I K,bx f args I K->hv (bx f))
 {tm:List J} {I:aD} {K K':List J->aD->Prop} {Q:aD->Prop} (Fj:Q I) (a_:∀t k,fN bx I k (cK tb aJ o t I)->fN bx I (fun v cc=>Q cc/\k v cc) (cK tb aJ o t I))
 (ae:∀m t v I,res all o tm=some (m,t)->Q I->K (put t o.dst v) I->K' (put t o.dst v) I) (h:dw tb bx aJ all [o] tm I K):dw tb bx aJ all [o] tm I K':=by
 rw[x6 ax.1 ax.2]at h⊢
 cases an:res all o tm with
 |none=>rw[an]at h;exact h
 |some p=>
  obtain⟨m,t⟩:=p;rw[an]at h;simp only at h⊢
  cases m with
  |true=>exact ZV eB (fun v cc aP=>ae _ _ v cc an aP.1 aP.2) (a_ _ _ h)
  |false=>exact ae _ _ .un _ an Fj h
theorem HU {o:Oper}{n n':Nat}{t t':List J}:(cA tb data aJ n o t).ext=(cA tb data aJ n' o t').ext:=by
 unfold cA
 cases o.op with
 |call c=>
  simp only;split<;>first|rfl|(split<;>rfl)
 |buildSlice ty q bP=>
  simp only;cases (tb ty).lit<;>rfl
 |alloc ty=>rfl
 |slice ty x lo hi dn=>
  simp only;cases (tb ty).cut<;>rfl
 |_=>rfl
theorem Rh {o:Oper}{n n':Nat}{t:List J}(h:(cA tb data aJ n o t).ext=true->n'=n):cA tb data aJ n' o t=cA tb data aJ n o t:=by
 by_cases e:n'=n
 ·rw[e]
 ·have he:(cA tb data aJ n o t).ext=false:=by
   cases ai:(cA tb data aJ n o t).ext with
   |false=>rfl
   |true=>exact absurd (h ai) e
  unfold cA at he⊢
  cases bQ:o.op with
  |call c=>
   simp only[bQ]at he⊢
   cases aC:c.callee with
   |value x=>
    cases x with
    |func f=>
     simp only[aC]at he⊢;split at he
     ·rename_i a8;simp
     ·cases he
     ·rfl
    |_=>rfl
   |builtin b=>cases b<;>rfl
   |_=>rfl
  |_=>rfl
theorem Pp {o:Oper}{n:Nat}{t:List J}(h:(cA tb data aJ n o t).ext=true):fv tb o.op=2/\(cA tb data aJ n o t).call=true:=by
 unfold cA at h⊢
 cases bQ:o.op with
 |call c=>
  simp only[bQ]at h⊢
  cases aC:c.callee with
  |value x=>
   cases x with
   |func f=>
    simp only[aC]at h⊢;split at h
    ·cases h
    ·rename_i a8;simp[fv,aC]
    ·cases h
   |_=>rw[aC]at h;cases h
  |builtin b=>rw[aC]at h;cases b<;>cases h
  |_=>rw[aC]at h;cases h
 |alloc ty=>
  rw[bQ]at h;simp only at h;split at h
  ·split at h<;>cases h
  ·cases h
 |slice ty x lo hi dn=>
  rw[bQ]at h;simp only at h;split at h<;>cases h
 |buildSlice ty q bP=>
  rw[bQ]at h;simp only at h;split at h
  ·cases h
  ·split at h
   ·split at h<;>cases h
   ·cases h
 |_=>rw[bQ]at h;cases h
theorem HB {all:List Oper}{a i:Oper}{tm gk:List J}{I:aD}{n e9:Nat}(hH:re data bx)(hi:nr tb all a (cA tb data aJ n a tm) i (cA tb data aJ e9 i gk)=true)
 (t:List J) (k:J->aD->Prop) (h:fN bx I k (cK tb aJ a t I)):fN bx I (fun v cc=>((cA tb data aJ e9 i gk).ext=true->cc.length=I.length)/\k v cc) (cK tb aJ a t I):=by
 obtain⟨_,_,_,_,_,aC⟩:=yr hi
 cases ai:(cA tb data aJ e9 i gk).ext with
 |false=>
  have e:(fun v cc=>((false=true)->(cc:aD).length=I.length)/\k v cc)=k:=by funext v cc;simp
  rw[e];exact h
 |true=>
  obtain⟨e3,eY⟩:=Pp ai;rcases aC with bc|bc
  ·simp only[p2,aoL,apB]at bc;obtain⟨⟨⟨⟨⟨aU,qq⟩,_⟩,_⟩,_⟩,_⟩:=bc
   have xO:fv tb a.op=0:=by
    unfold p9 at aU;rw[e3]at aU;split at aU
    ·rename_i _ aa;exact absurd aa (by decide)
    ·simp only[aoL]at aU;exact aoz aU.1
    ·rename_i _ aa;exact absurd aa (by decide)
    ·cases aU
   rcases uK (tb:=tb) (aJ:=aJ) xO qq t I I with⟨ag,_⟩|⟨s,v,a8,_⟩
   ·rw[ag]at h;exact h.elim
   ·rw[a8]at h⊢;exact v7 (fun ae=>⟨fun _=>rfl,ae⟩) h
  ·simp only[sZ,aoL,apB]at bc;obtain⟨⟨⟨⟨⟨vB,_⟩,lQ⟩,_⟩,_⟩,_⟩:=bc;obtain⟨B,E,dE⟩:=uv (tb:=tb) (aJ:=aJ) (n:=n) hH a t (uf vB t)
   have Jy:(cA tb data aJ n a t).ext=false:=by
    cases bp:(cA tb data aJ n a t).ext with
    |false=>rfl
    |true=>
     rw[HU (n':=n) (t':=tm)]at bp;have:=(Pp bp).2;rw[this,eY]at lQ;cases lQ
   refine(dE.pull _ _).2 (dE.mono _ _ _ (fun v x aP=>⟨fun _=> ?_,aP⟩) ((dE.pull _ _).1 h));rw[dE.len,Jy];rfl
theorem GM {all:List Oper}{K:List J->aD->Prop}(eB:∀f args I K,bx f args I K->hv (bx f)):∀(l:List (Nat×Oper)) (eZ y7:List (Nat×Oper×gP)) (tm:List J) (I:aD),(∀x∈y7,x∈eZ)->
 f_ tb bx data aJ all tab eZ l tm I K->f_ tb bx data aJ all tab y7 l tm I K
 |[],eZ,y7,tm,I,_,h=>h
 |x::bM,eZ,y7,tm,I,ay,h=>by
  unfold f_ at h⊢;split at h
  ·exact h.elim
  ·rename_i aC
   have vd:kV tb all tab x.1 x.2 (cA tb data aJ (bU I) x.2 tm) y7=true:=by
    unfold kV at aC⊢;rw[fy,aoR]at aC⊢;exact fun y bp=>aC y (ay y bp)
   rw[vd];refine vT eB (fun tm I b6=> ?_) _ _ _ h
   exact GM eB bM _ _ tm I (fun y bp=>by
    rcases ao7.1 bp with rfl|bp
    ·simp
    ·simp[ay y bp]) b6
theorem MJ (a b:Option Tmp):fU a b=fU b a:=by
 cases a<;>cases b<;>try rfl
 rename_i x y;show Nat.beq x y=Nat.beq y x
 cases h:Nat.beq x y with
 |true=>obtain rfl:=aoz h;exact h.symm
 |false=>
  cases k5:Nat.beq y x with
  |false=>rfl
  |true=>obtain rfl:=aoz k5;rw[h]at k5;cases k5
theorem YA (a b:Nat):p9 a b=p9 b a:=by
 unfold p9;cases Nat.ble a 1<;>cases Nat.ble b 1<;>simp[Bool.and_comm]
theorem Hb {all:List Oper}{a i:Oper}{fX gS:gP}(h:nr tb all a fX i gS=true):nr tb all i gS a fX=true:=by
 simp only[nr,uo,aoL,ap3,apB]at h⊢;obtain⟨⟨⟨U,aa⟩,⟨az,aW⟩,bA⟩,bZ⟩:=h;refine⟨⟨⟨aa,U⟩,⟨by rw[MJ];exact az,bA⟩,aW⟩, ?_⟩;rcases bZ with bZ|bZ
 ·left;simp only[p2,aoL,apB]at bZ⊢;obtain⟨⟨⟨⟨⟨a6,bj⟩,bH⟩,dO⟩,fi⟩,ho⟩:=bZ;exact⟨⟨⟨⟨⟨by rw[YA];exact a6,bH⟩,bj⟩,by rw[MJ];exact dO⟩,ho⟩,fi⟩
 ·right;simp only[sZ,aoL,apB]at bZ⊢;obtain⟨⟨⟨⟨⟨a6,bj⟩,bH⟩,dO⟩,fi⟩,ho⟩:=bZ;refine⟨⟨⟨⟨⟨bj,a6⟩,by rw[Bool.and_comm];exact bH⟩, ?_⟩,ho⟩,fi⟩;rw[yq]at dO⊢;exact fun x ai hk=>dO x hk ai
theorem Pq {all:List Oper}{a i:Oper}{tm gk:List J}{n e9:Nat}(hH:re data bx)(hi:nr tb all a (cA tb data aJ n a tm) i (cA tb data aJ e9 i gk)=true):
 (∀tm I s v cc id,cK tb aJ a tm I≠ .grow s v cc id)/\∀tm I p,cK tb aJ a tm I≠ .fB p:=by
 obtain⟨_,_,_,_,_,aC⟩:=yr hi;rcases aC with bc|bc
 ·simp only[p2,aoL,apB]at bc;obtain⟨⟨⟨⟨⟨aU,qq⟩,_⟩,_⟩,_⟩,_⟩:=bc
  have U:fv tb a.op<=1\/fv tb a.op=2:=by
   unfold p9 at aU;split at aU
   ·rename_i U aa;exact .inl (aoY U)
   ·simp only[aoL]at aU;exact .inl (by rw[aoz aU.1];decide)
   ·simp only[aoL]at aU;exact .inr (aoz aU.1)
   ·cases aU
  refine⟨fun tm I s v cc id=> ?_,fun tm I p=> ?_⟩
  ·rcases U with U|U
   ·rcases wW (tb:=tb) (aJ:=aJ) U qq tm I with h|⟨s,v,h⟩<;>rw[h]<;>simp
   ·rcases uL (tb:=tb) (aJ:=aJ) U tm I with h|⟨s,v,cc,h⟩|⟨f,args,tys,h⟩<;>rw[h]<;>simp
  ·rcases U with U|U
   ·rcases wW (tb:=tb) (aJ:=aJ) U qq tm I with h|⟨s,v,h⟩<;>rw[h]<;>simp
   ·rcases uL (tb:=tb) (aJ:=aJ) U tm I with h|⟨s,v,cc,h⟩|⟨f,args,tys,h⟩<;>rw[h]<;>simp
 ·simp only[sZ,aoL,apB]at bc;obtain⟨⟨⟨⟨⟨vB,_⟩,_⟩,_⟩,_⟩,_⟩:=bc;exact⟨fun t I s v cc id=>(uv (n:=n) hH _ t (uf vB t)).elim fun _ ⟨_,h⟩=>h.none I s v cc id,fun t I p=>(uv (n:=n) hH _ t (uf vB t)).elim fun _ ⟨_,h⟩=>h.To I p⟩
theorem Pr {o:Oper}(h:bare o=true):o.guard=none:=by
 unfold bare at h;split at h
 ·assumption
 ·cases h
theorem adk {o:Oper}{t:List J}{n:Nat}(h:(cA tb data aJ n o t).soft=true):kH tb o.op t=true:=by
 unfold cA at h
 cases bQ:o.op with
 |call c=>
  rw[bQ]at h;simp only at h;split at h
  ·cases h
  ·cases h
  ·split at h<;>cases h
  ·cases h
 |alloc ty=>
  rw[bQ]at h;simp only at h;split at h
  ·split at h<;>cases h
  ·cases h
 |slice ty x lo hi dn=>
  rw[bQ]at h;simp only at h;split at h<;>cases h
 |buildSlice ty q bP=>
  rw[bQ]at h;simp only at h;split at h
  ·exact h
  ·split at h
   ·split at h<;>cases h
   ·cases h
 |_=>first|(rw[bQ]at h;exact h)|(rw[bQ]at h;cases h)
theorem Z7 {o:Oper}{t t':List J}{n n':Nat}(ay:kH tb o.op t=true)(gd:kH tb o.op t'=true)(he:∀x∈o.op.operands.toList,(∃i j,aY t' x= .ptr i j)->aY t' x=aY t x):cA tb data aJ n o t=cA tb data aJ n' o t':=by
 unfold cA
 cases bQ:o.op with
 |load ty p=>
  rw[bQ]at ay gd he
  have U:aY t' p=aY t p:=he p (by simp[Op.operands]) (by
   have:q9 (aY t' p)=true:=gd
   cases aP:aY t' p with
   |ptr i j=>exact⟨i,j,rfl⟩
   |_=>rw[aP]at this;cases this)
  simp only[ay,gd,U]
 |fieldAddr ty x f=>rw[bQ]at ay gd;simp only[ay,gd]
 |buildSlice ty q bP=>
  rw[bQ]at ay gd;simp only[ay,gd]
 |_=>simp[bQ,kH]at ay
theorem Bo {all:List Oper}{o:Oper}(h:o.guard=none){tm:List J}{I:aD}{K:List J->aD->Prop}:dw tb bx aJ all [o] tm I K↔
 (match cK tb aJ o tm I with
   | .bad=>False
   | .aZ cd v aj=>gC cd (K (put tm o.dst v) aj)
   | .grow cd v aj id=>gC cd (K (put (bE (ev id) tm) o.dst v) (gy id aj))
   | .fB p=>∀b:Bool,p b->K (put tm o.dst (.d (.bool b))) I
   | .call f args _=>bx f args I fun v aj=>K (put tm o.dst v) aj):=by
 unfold dw;simp only[h];exact apm
theorem abE {id:Nat}{tm:List J}{d:Option Tmp}{v:J}:bE (ev id) (put tm d v)=put (bE (ev id) tm) d (ev id v):=by
 cases d with
 |none=>rfl
 |some x=>simp only[put,dM,eI,aqn]
theorem aeW (eB:∀f args I K,bx f args I K->hv (bx f)){all:List Oper}{a i:Nat×Oper}(bG:Nat.blt a.1 i.1=true)(DR:Nat.blt i.1 a.1=false)
 {C:List (Nat×Oper)} {eZ:List (Nat×Oper×gP)} {tm:List J} {I:aD} {K:List J->aD->Prop} (bh:(cA tb data aJ (bU I) a.2 tm).DQ=true) (ve:bit tab i.1 a.1=false)
 (h:f_ tb bx data aJ all tab eZ (a::i::C) tm I K):f_ tb bx data aJ all tab eZ (i::a::C) tm I K:=by
 obtain⟨g1,g2,id,g3⟩:=adj bh;unfold f_ at h;split at h
 ·exact h.elim
 rename_i qs
 have RX:sk a.2 (cA tb data aJ (bU I) a.2 tm) i.2 {cA tb data aJ (bU I) i.2 tm with soft:=true}=true:=by
  obtain⟨gk,cR,U⟩:=Bn eB _ _ _ h;unfold f_ at U;split at U
  ·exact U.elim
  ·rename_i aC;unfold kV at aC;rw[fy,aoR]at aC;have aE:=aC _ (aqy ..);unfold sD at aE;simp only[bG,ve,Bool.false_or,ap3]at aE;rcases aE with aE|aE
   ·obtain⟨_,_,_,_,_,ai⟩:=yr aE;rcases ai with ai|ai
    ·simp only[p2,aoL]at ai;have:=ai.1.1.1.1.1;rw[g2]at this;unfold p9 at this;revert this;cases Nat.ble (fv tb i.2.op) 1<;>simp<;>decide
    ·simp only[sZ,aoL]at ai;rw[g1]at ai;exact absurd ai.1.1.1.1.1 apN
   ·simp only[sk,aoL]at aE⊢;exact⟨⟨⟨⟨bh,trivial⟩,aE.1.1.2⟩,aE.1.2⟩,aE.2⟩
 simp only[sk,aoL]at RX;obtain⟨⟨⟨_,cN⟩,Tq⟩,m5⟩:=RX;have Sr:=cN;simp only[uo,aoL,apB]at Sr;obtain⟨⟨Tr,vf⟩,Fk⟩:=Sr;have F1:=Pr Tq;have F2:=Pr m5;rw[Bo F1]at h;rcases g3 I with ag|⟨s,ob,zY,Jt⟩
 ·rw[ag]at h;exact h.elim
 rw[zY]at h;simp only at h;rw[gY]at h;obtain⟨ay,h⟩:=h;unfold f_ at h;split at h
 ·exact h.elim
 rename_i rP;have IU:=rP;unfold kV at IU;rw[fy,aqb,aoL]at IU;obtain⟨aE,y6⟩:=IU
 have RY:(cA tb data aJ (bU (gy id (cQ I id (false,ob)))) i.2 (put (bE (ev id) tm) a.2.dst (.vec id))).soft=true:=by
  unfold sD at aE;simp only[bG,ve,Bool.false_or,ap3]at aE;rcases aE with aE|aE
  ·obtain⟨_,_,_,_,_,ai⟩:=yr aE;rcases ai with ai|ai
   ·simp only[p2,aoL]at ai;have:=ai.1.1.1.1.1;rw[g2]at this;unfold p9 at this;revert this;cases Nat.ble (fv tb i.2.op) 1<;>simp<;>decide
   ·simp only[sZ,aoL]at ai;rw[g1]at ai;exact absurd ai.1.1.1.1.1 apN
  ·simp only[sk,aoL]at aE;exact aE.1.1.1.2
 have Ts:=adk RY;obtain⟨ai8,y4⟩:=Z5 (aJ:=aJ) (I:=I) (ob:=ob) vf Jt Ts
 have Jz:cA tb data aJ (bU I) i.2 tm=cA tb data aJ (bU (gy id (cQ I id (false,ob)))) i.2 (put (bE (ev id) tm) a.2.dst (.vec id)):=Z7 ai8 Ts fun x ai ⟨j,off,e⟩=>by
  have hk:∀t,a.2.dst=some t->x≠ .tmp t:=fun t au zV=>by
   rw[au]at vf;subst zV;simp only[l8]at vf;rw[GJ.2 ai]at vf;cases vf
  rw[e,(GL hk e).1]
 rw[Bo F2]at h;rcases y4 with ag|⟨fL,w,jZ,th⟩
 ·rw[ag]at h;exact h.elim
 rw[jZ]at h;simp only at h;rw[gY]at h;obtain⟨gd,h⟩:=h;unfold f_
 have j0:kV tb all tab i.1 i.2 (cA tb data aJ (bU I) i.2 tm) eZ=true:=by
  rw[Jz];unfold kV;rw[fy];exact y6
 simp only[j0];rw[Bo F2,th];simp only;rw[gY];refine⟨gd, ?_⟩;unfold f_;have pf:cA tb data aJ (bU I) a.2 (put tm i.2.dst w)=cA tb data aJ (bU I) a.2 tm:=HA Fk
 have rF:kV tb all tab a.1 a.2 (cA tb data aJ (bU I) a.2 (put tm i.2.dst w)) ((i.1,i.2,cA tb data aJ (bU I) i.2 tm)::eZ)=true:=by
  rw[pf];unfold kV at qs⊢;rw[fy]at qs⊢;rw[aqb,aoL];refine⟨?_,qs⟩;unfold sD;simp only[DR,ve,Bool.false_or];rw[ap3];right;simp only[sk,aoL];exact⟨⟨⟨⟨bh,by rw[Jz];exact RY⟩,cN⟩,Tq⟩,m5⟩
 simp only[rF];rw[Bo F1]
 have e:cK tb aJ a.2 (put tm i.2.dst w) I= .grow s (.vec id) (cQ I id (false,ob)) id:=by
  rw[<-zY];exact Ba fun x ai=>yd Fk ai
 rw[e];simp only;rw[gY];refine⟨ay, ?_⟩;rw[abE,<-put_comm Tr,pf,Jz];refine GM eB _ _ _ _ _ (fun x ai=> ?_) h;simp only[ao7]at ai⊢;rcases ai with h|h|h
 ·exact .inr (.inl h)
 ·exact .inl h
 ·exact .inr (.inr h)
theorem aeX (hH:re data bx)(eB:∀f args I K,bx f args I K->hv (bx f)){all:List Oper}{a i:Nat×Oper}(bG:a.1<i.1)(ve:bit tab i.1 a.1=false)
 {C:List (Nat×Oper)} {eZ:List (Nat×Oper×gP)} {tm:List J} {I:aD} {K:List J->aD->Prop} (h:f_ tb bx data aJ all tab eZ (a::i::C) tm I K):
 f_ tb bx data aJ all tab eZ (i::a::C) tm I K:=by
 have w_:Nat.blt a.1 i.1=true:=Nat.ble_eq_true_of_le bG
 have DR:Nat.blt i.1 a.1=false:=by
  cases ag:Nat.blt i.1 a.1 with
  |false=>rfl
  |true=>
   have:i.1+1<=a.1:=aoY ag;omega
 cases zY:(cA tb data aJ (bU I) a.2 tm).DQ with
 |true=>exact aeW eB w_ DR zY ve h
 |false=>
 have FZ:∀gS,sD tb all tab i.1 i.2 gS (a.1,a.2,cA tb data aJ (bU I) a.2 tm)=nr tb all a.2 (cA tb data aJ (bU I) a.2 tm) i.2 gS:=fun gS=>by
  unfold sD sk;simp only[w_,ve,zY,Bool.false_or,Bool.false_and,Bool.or_false]
 unfold f_ at h;split at h
 ·exact h.elim
 rename_i qs
 have stat:mK all a.2 i.2=true/\mK all i.2 a.2=true/\uo a.2 i.2=true/\∃(gk:List J) (e9:Nat),nr tb all a.2 (cA tb data aJ (bU I) a.2 tm) i.2 (cA tb data aJ e9 i.2 gk)=true:=by
  obtain⟨gk,cR,U⟩:=Bn eB _ _ _ h;unfold f_ at U;split at U
  ·exact U.elim
  ·rename_i aC
   have aE:sD tb all tab i.1 i.2 (cA tb data aJ (bU cR) i.2 gk) (a.1,a.2,cA tb data aJ (bU I) a.2 tm)=true:=by
    unfold kV at aC;rw[fy,aoR]at aC;exact aC _ (by simp)
   rw[FZ]at aE;have Fl:=aE;simp only[nr,aoL]at Fl;exact⟨Fl.1.1.1,Fl.1.1.2,Fl.1.2,gk,_,aE⟩
 obtain⟨g1,g2,g3,gk,e9,nD⟩:=stat;have Tt:=g3;simp only[uo,aoL,apB]at Tt;obtain⟨⟨Tr,vf⟩,Fk⟩:=Tt;have nL:=Pq (data:=data) hH nD
 have gS:∀(m:Bool) (t:List J) (v:J) (cc:aD),res all a.2 tm=some (m,t)->((cA tb data aJ e9 i.2 gk).ext=true->cc.length=I.length)->cA tb data aJ (bU cc) i.2 (put t a.2.dst v)=cA tb data aJ (bU I) i.2 tm:=fun m t v cc an a_=>by
  rw[<-BY (n:=bU I) an,<-HA (n:=bU I) (v:=v) vf];refine Rh fun he=> ?_;rw[cG,cG];exact a_ (by rw[HU (n':=bU I) (t':=put t a.2.dst v)];exact he)
 have rP:kV tb all tab i.1 i.2 (cA tb data aJ (bU I) i.2 tm) ((a.1,a.2,cA tb data aJ (bU I) a.2 tm)::eZ)=true:=by
  cases aC:kV tb all tab i.1 i.2 (cA tb data aJ (bU I) i.2 tm) ((a.1,a.2,cA tb data aJ (bU I) a.2 tm)::eZ)with
  |true=>rfl
  |false=>
   exfalso
   have:=GY nL eB (K':=fun _ _=>False) (fun _=>rfl) (fun t k ae=>HB hH nD t k ae) (fun m t v aj an a_ ae=>by
    unfold f_ at ae;rw[gS m t v aj an a_,aC]at ae
    exact ae) h
   obtain⟨_,_,aU⟩:=Bn eB _ _ _ this;exact aU
 have Ez:=rP;unfold kV at Ez;rw[fy,aqb,aoL]at Ez;have EA:nr tb all a.2 (cA tb data aJ (bU I) a.2 tm) i.2 (cA tb data aJ (bU I) i.2 tm)=true:=by rw[<-FZ];exact Ez.1
 have li:=Pq (data:=data) hH (Hb EA)
 have aa:dw tb bx aJ all [a.2] tm I (fun t1 bz=>dw tb bx aJ all [i.2] t1 bz fun t2 bl=>f_ tb bx data aJ all tab ((i.1,i.2,cA tb data aJ (bU I) i.2 tm)::(a.1,a.2,cA tb data aJ (bU I) a.2 tm)::eZ) C t2 bl K):=by
  refine GY nL eB (fun _=>rfl) (fun t k ae=>HB hH nD t k ae) (fun m t v aj an a_ ae=> ?_) h;unfold f_ at ae;rw[gS m t v aj an a_]at ae;simp only[rP]at ae;exact ae
 have az:=aeV (K:=fun t2 bl=>f_ tb bx data aJ all tab ((i.1,i.2,cA tb data aJ (bU I) i.2 tm)::(a.1,a.2,cA tb data aJ (bU I) a.2 tm)::eZ) C t2 bl K) hH eB (cG I).symm EA aa;rw[M0]at az;unfold f_
 have j0:kV tb all tab i.1 i.2 (cA tb data aJ (bU I) i.2 tm) eZ=true:=by
  unfold kV;rw[fy];exact Ez.2
 simp only[j0]
 have rF:kV tb all tab a.1 a.2 (cA tb data aJ (bU I) a.2 tm) ((i.1,i.2,cA tb data aJ (bU I) i.2 tm)::eZ)=true:=by
  unfold kV at qs⊢;rw[fy]at qs⊢;rw[aqb,aoL];refine⟨?_,qs⟩;unfold sD;simp only[DR,ve,Bool.false_or];rw[ap3];exact .inl (Hb EA)
 refine GY li eB (fun _=>rfl) (fun t k ae=>HB hH (Hb EA) t k ae) (fun m t v aj an a_ ae=> ?_) az;unfold f_
 have fX:cA tb data aJ (bU aj) a.2 (put t i.2.dst v)=cA tb data aJ (bU I) a.2 tm:=by
  rw[<-BY (n:=bU I) an,<-HA (n:=bU I) (v:=v) Fk];refine Rh fun he=> ?_;rw[cG,cG];exact a_ (by rw[HU (n':=bU I) (t':=put t i.2.dst v)];exact he)
 rw[fX];simp only[rF];refine vT eB (fun tm I b6=> ?_) _ _ _ ae;refine GM eB _ _ _ _ _ (fun x ai=> ?_) b6;simp only[ao7]at ai⊢;rcases ai with h|h|h
 ·exact .inr (.inl h)
 ·exact .inl h
 ·exact .inr (.inr h)
theorem MK (eB:∀f args I K,bx f args I K->hv (bx f)){all:List Oper}{x:Nat×Oper}{r mC:List (Nat×Oper)}{K K':List J->aD->Prop}
 (an:∀eZ tm I,f_ tb bx data aJ all tab eZ r tm I K->f_ tb bx data aJ all tab eZ mC tm I K') {eZ:List (Nat×Oper×gP)} {tm:List J} {I:aD} (h:f_ tb bx data aJ all tab eZ (x::r) tm I K):
 f_ tb bx data aJ all tab eZ (x::mC) tm I K':=by
 unfold f_ at h⊢;split at h
 ·exact h.elim
 ·exact vT eB (fun tm I b6=>an _ _ _ b6) _ _ _ h
theorem RZ (hH:re data bx)(eB:∀f args I K,bx f args I K->hv (bx f)){all:List Oper}{i:Nat×Oper}{B:List (Nat×Oper)}:∀(A:List (Nat×Oper)),(∀a∈A,a.1<i.1/\bit tab i.1 a.1=false)->
 ∀(eZ:List (Nat×Oper×gP)) (tm:List J) (I:aD) (K:List J->aD->Prop),f_ tb bx data aJ all tab eZ (A++i::B) tm I K->f_ tb bx data aJ all tab eZ (i::(A++B)) tm I K
 |[],_,_,_,_,_,h=>h
 |a::A,dE,eZ,tm,I,K,h=>by
  have U:f_ tb bx data aJ all tab eZ (a::i::(A++B)) tm I K:=MK eB (fun eZ tm I h=>RZ hH eB A (fun x ai=>dE x (by simp[ai])) eZ tm I K h) h;exact aeX hH eB (dE a (by simp)).1 (dE a (by simp)).2 U
theorem ML (eB:∀f args I K,bx f args I K->hv (bx f)){all:List Oper}{K:List J->aD->Prop}:∀(l:List (Nat×Oper)) (eZ:List (Nat×Oper×gP)) (tm:List J) (I:aD),
 f_ tb bx data aJ all tab eZ l tm I K->dw tb bx aJ all (l.map (·.2)) tm I K
 |[],_,_,_,h=>h
 |x::r,eZ,tm,I,h=>by
  unfold f_ at h;split at h
  ·exact h.elim
  ·rw[aoX,M0];exact vT eB (fun tm I b6=>ML eB r _ tm I b6) _ _ _ h
def R0 (ops:Array Oper):Prop:=∀i,(h:i<ops.size)->∀e∈(ops[i]).after.toList,Region.binds .any e=true->e.on<i
def left (n:Nat)(listed:Array Bool):List Nat:=(List.range n).filter fun i=> !listed.getD i true
theorem HC {n:Nat}{listed:Array Bool}{i:Nat}(hi:i<n)(ay:listed.size=n)(av:listed.getD i true=false):
 ∃A B,left n listed=A++i::B/\left n (listed.setIfInBounds i true)=A++B/\∀a∈A,a<i/\listed.getD a true=false:=by
 have Ri:List.range n=List.range i++i::((List.range (n-i-1)).map (i+1+·)):=by
  rw[show n=i+(1+(n-i-1)) by omega,List.range_add,List.range_add];simp[apy]
 have m1:∀j,j≠i->(listed.setIfInBounds i true).getD j true=listed.getD j true:=fun j aI=>by
  simp only[aoH,aqx];rw[aox (apk aI)]
 have aeY:(listed.setIfInBounds i true).getD i true=true:=by
  simp only[aoH,aqx,ao_];split<;>rfl
 refine⟨(List.range i).filter fun j=> !listed.getD j true,((List.range (n-i-1)).map (i+1+·)).filter fun j=> !listed.getD j true, ?_, ?_,fun a aR=> ?_⟩
 ·unfold left;rw[Ri,aqq,apW];rw[aoy (by rw[av];rfl)]
 ·unfold left;rw[Ri,aqq,apW,aox (by rw[aeY];simp)]
  congr 1
  ·apply List.filter_congr;intro x ai;have:x<i:=by simpa using ai
   rw[m1 x (by omega)]
  ·apply List.filter_congr;intro x ai;obtain⟨y,_,rfl⟩:=aoQ.1 ai;rw[m1 _ (by omega)]
 ·rw[apn]at aR;exact⟨by simpa using aR.1,by simpa using aR.2⟩
theorem Z8 {listed:Array Bool}{a:Nat}(U:listed.getD a false=true)(aa:listed.getD a true=false):False:=by
 rw[aoH]at U aa
 by_cases h:a<listed.size
 ·rw[aqj h]at U aa;simp at U aa;rw[U]at aa;cases aa
 ·rw[Array.getElem?_eq_none (by omega)]at U;cases U
inductive Reach (ops:Array Oper):Nat->Nat->Prop
 |one {i:Nat} {e:Edge} (h:i<ops.size) (he:e∈(ops[i]).after.toList) (ag:Region.binds .any e=true):Reach ops i e.on
 |more {i k:Nat} {e:Edge} (h:i<ops.size) (he:e∈(ops[i]).after.toList) (ag:Region.binds .any e=true) (an:Reach ops e.on k):Reach ops i k
theorem XL {ops:Array Oper}{listed:Array Bool}(jo:∀j,(aI:j<ops.size)->listed.getD j false=true->∀e∈(ops[j]).after.toList,Region.binds .any e=true->listed.getD e.on false=true)
 {i k:Nat} (an:Reach ops i k):(∀h:i<ops.size,∀e∈(ops[i]).after.toList,Region.binds .any e=true->listed.getD e.on false=true)->listed.getD k false=true:=by
 induction an with
 |one h he ag=>exact fun an=>an h _ he ag
 |more h he ag _ bF=>exact fun an=>bF fun k5 b_ JA gD=>jo _ k5 (an h _ he ag) b_ JA gD
theorem adl (tab:List Nat)(n m:Nat):bit tab n m=(b8 0 tab n).testBit m:=by
 unfold bit;rw[Nat.testBit_eq_decide_div_mod_eq];show Nat.beq ((b8 0 tab n>>>m)&&&1) 1=_;rw[Nat.and_one_is_mod,Nat.shiftRight_eq_div_pow]
 cases h:decide (b8 0 tab n/2^m%2=1)with
 |true=>rw[aoJ h];rfl
 |false=>
  have h:=aoN h
  cases ag:Nat.beq (b8 0 tab n/2^m%2) 1 with
  |false=>rfl
  |true=>exact absurd (aoz ag) h
theorem GZ (tab:List Nat)(m:Nat):∀l:List Edge,(sC tab l).testBit m=true->∃e∈l,Region.binds .any e=true/\(m=e.on\/(b8 0 tab e.on).testBit m=true)
 |[],h=>by simp[sC]at h
 |e::r,h=>by
  unfold sC at h;split at h
  ·rename_i ag;have h:((2^e.on|||b8 0 tab e.on)|||sC tab r).testBit m=true:=h;rw[Nat.testBit_or,Nat.testBit_or,ap3,ap3]at h;rcases h with(h|h)|h
   ·rw[Nat.testBit_two_pow]at h;exact⟨e,by simp,ag, .inl (by simpa[eq_comm]using h)⟩
   ·exact⟨e,by simp,ag, .inr h⟩
   ·obtain⟨b_,U,aa⟩:=GZ tab m r h;exact⟨b_,by simp[U],aa⟩
  ·obtain⟨b_,U,aa⟩:=GZ tab m r h;exact⟨b_,by simp[U],aa⟩
theorem NB (ops:Array Oper):∀(r:List Oper) (acc:List Nat) (pre:List Oper),ops.toList=pre++r->pre.length=acc.length->(∀n m,(b8 0 acc n).testBit m=true->Reach ops n m)->
 ∀n m,(b8 0 (uq r acc) n).testBit m=true->Reach ops n m
 |[],acc,pre,_,_,h=>h
 |o::r,acc,pre,U,aa,h=>by
  unfold uq;rw[fV];refine NB ops r _ (pre++[o]) (by rw[U];simp) (by simp[aa]) fun n m ag=> ?_;rw[dT,aoA,ao5]at ag;split at ag
  ·exact h n m (by rw[dT,aoA];exact ag)
  ·rename_i av
   cases a8:n-acc.length with
   |succ k=>rw[a8]at ag;simp at ag
   |zero=>
    rw[a8]at ag;have ag:(sC acc o.after.toList).testBit m=true:=by simpa using ag
    have dg:n=pre.length:=by omega
    have bG:n<ops.size:=by
     rw[<-apD,U];simp;omega
    have ai9:ops[n]=o:=by
     have:ops.toList[n]? =some o:=by rw[U,dg];simp
     simpa[bG]using this
    obtain⟨e,he,qo,hm⟩:=GZ acc m _ ag;rw[<-ai9]at he;rcases hm with rfl|hm
    ·exact .one bG he qo
    ·exact .more bG he qo (h _ _ hm)
theorem Qq (hH:re data bx)(eB:∀f args I K,bx f args I K->hv (bx f)){ops:Array Oper}(aC:R0 ops)(Ss:∀n m,bit tab n m=true->Reach ops n m):∀(fuel t:Nat) (listed:Array Bool) (acc:List Nat),listed.size=ops.size->(left ops.size listed).length<=fuel->
 (∀j,(aI:j<ops.size)->listed.getD j false=true->∀e∈(ops[j]).after.toList,Region.binds .any e=true->listed.getD e.on false=true)->
 ∃ch,Region.linearise.go .any ops fuel t listed acc=acc.reverse++ch/\(∀i∈ch,i<ops.size)/\ch.Perm (left ops.size listed)/\
  ∀(eZ:List (Nat×Oper×gP)) (tm:List J) (I:aD) (K:List J->aD->Prop),f_ tb bx data aJ ops.toList tab eZ ((left ops.size listed).map fun i=>(i,ops.toList.getD i default)) tm I K->
   f_ tb bx data aJ ops.toList tab eZ (ch.map fun i=>(i,ops.toList.getD i default)) tm I K
 |0,t,listed,acc,ay,aU,jo=>by
  have he:left ops.size listed=[]:=apl.1 (by omega);refine⟨[],by simp[Region.linearise.go],(fun i h=>by cases h),by rw[he],fun eZ tm I K h=> ?_⟩;rw[he]at h;exact h
 |fuel+1,t,listed,acc,ay,aU,jo=>by
  unfold Region.linearise.go;simp only;generalize xw:((List.range ops.size).filter fun i=> !listed.getD i true&&((ops[i]?).map (·.after.all fun e=> !Region.binds .any e||listed.getD e.on false)).getD false)=rs;split
  ·rename_i i hi
   have hx:i∈rs:=by
    obtain⟨U,aa⟩:=apr.1 hi;exact aa▸apF U
   rw[<-xw,apn,aoL]at hx;obtain⟨bG,kX,uB⟩:=hx;have bG:i<ops.size:=by simpa using bG
   have kX:listed.getD i true=false:=by simpa using kX
   have uB:∀e∈(ops[i]).after.toList,Region.binds .any e=true->listed.getD e.on false=true:=by
    have U:ops[i]? =some ops[i]:=by simp[bG]
    rw[U]at uB;simp only[apE,apA]at uB;rw[<-Array.all_toList,aoR]at uB;intro e he ag;have:=uB e he;rw[ag]at this;simpa using this
   obtain⟨A,B,aA,aL,dE⟩:=HC bG ay kX
   obtain⟨ai_,a6,bj,UC,bH⟩:=Qq hH eB aC Ss fuel (t/rs.length) (listed.setIfInBounds i true) (i::acc) (by simpa using ay) (by
    rw[aL];rw[aA]at aU;simp at aU⊢;omega) (by
    have aeZ:∀x,listed.getD x false=true->(listed.setIfInBounds i true).getD x false=true:=fun x ai=>by
     simp only[aoH,aqx]at ai⊢;split
     ·rename_i e;subst e;rw[aoy (by omega)];rfl
     ·exact ai
    intro j aI ko e he ag;refine aeZ _ ?_
    by_cases tG:j=i
    ·subst tG;exact uB e he ag
    ·refine jo j aI ?_ e he ag;simp only[aoH,aqx]at ko⊢;rw[aox (apk tG)]at ko
     exact ko)
   refine⟨i::ai_,by rw[a6];simp,fun j aI=> ?_,by rw[aA];exact(List.Perm.cons i (by rw[aL]at UC;exact UC)).trans List.perm_middle.symm,fun eZ tm I K h=> ?_⟩
   ·rcases ao7.1 aI with rfl|aI
    ·exact bG
    ·exact bj j aI
   ·rw[aA,apd,aoX]at h
    have m1:∀j,(aI:j<ops.size)->ops.toList.getD j default=ops[j]:=fun j aI=>by simp[aoA,aI]
    have aE:=RZ (tb:=tb) (aJ:=aJ) hH eB (all:=ops.toList) (i:=(i,ops.toList.getD i default)) (B:=B.map fun i=>(i,ops.toList.getD i default))
     (A.map fun i=>(i,ops.toList.getD i default)) (fun x ai=>by
       obtain⟨a,aR,rfl⟩:=aoQ.1 ai;obtain⟨Fa,kW⟩:=dE a aR;refine⟨Fa, ?_⟩;simp only
       cases a8:bit tab i a with
       |false=>rfl
       |true=>exact(Z8 (XL jo (Ss _ _ a8) fun _=>uB) kW).elim) eZ tm I K h
    rw[aoX];refine MK eB (fun eZ tm I h=>bH eZ tm I K ?_) aE;rw[aL,apd];exact h
  ·rename_i uJ
   have aei:rs=[]:=by
    cases an:rs with
    |nil=>rfl
    |cons x y=>
     exfalso;have:t%rs.length<rs.length:=aph _ (by rw[an];simp);rw[aoM this]at uJ;cases uJ
   have R1:left ops.size listed=[]:=by
    cases ax:left ops.size listed with
    |nil=>rfl
    |cons m r=>
     exfalso;have hm:m∈left ops.size listed:=by rw[ax];simp
     have rQ:=hm;unfold left at rQ;rw[apn]at rQ;have bG:m<ops.size:=by simpa using rQ.1
     have kX:listed.getD m true=false:=by simpa using rQ.2
     obtain⟨A,B,aA,_,dE⟩:=HC bG ay kX
     have pg:A=[]:=by
      cases A with
      |nil=>rfl
      |cons a aom=>
       exfalso;rw[ax]at aA;simp only[apO,aqc]at aA;have:=(dE a (by simp)).1;omega
     have adm:∀a,a<m->listed.getD a false=true:=by
      intro a aR;have cq:a<listed.size:=by omega
      cases Fm:listed.getD a true with
      |true=>
       rw[aoH,aqj cq]at Fm⊢;simpa using Fm
      |false=>
       exfalso
       have hx:a∈left ops.size listed:=by
        unfold left;rw[apn];exact⟨by simp;omega,by rw[Fm];rfl⟩
       obtain⟨xP,ng,f1,_,ph⟩:=HC (n:=ops.size) (listed:=listed) (i:=a) (by omega) ay Fm;rw[ax]at f1
       cases xP with
       |nil=>simp only[List.nil_append,aqc]at f1;omega
       |cons q AJ=>
        simp only[apO,aqc]at f1;have:=(ph q (by simp)).1;omega
     have ff:m∈rs:=by
      rw[<-xw,apn,aoL];refine⟨by simpa using bG,by rw[kX];rfl, ?_⟩;have U:ops[m]? =some ops[m]:=by simp[bG]
      rw[U];simp only[apE,apA];rw[<-Array.all_toList,aoR];intro e he
      cases ag:Region.binds .any e with
      |false=>simp
      |true=>rw[adm e.on (aC m bG e he ag)];simp
     rw[aei]at ff;cases ff
   refine⟨[],by simp,(fun i h=>by cases h),by rw[R1],fun eZ tm I K h=> ?_⟩;rw[R1]at h;exact h
theorem Qr (ops:Array Oper):(List.range ops.size).map (fun i=>ops.toList.getD i default)=ops.toList:=by
 apply List.ext_getElem?;intro i
 by_cases h:i<ops.size
 ·simp[h,aoA]
 ·simp[h]
theorem Ps (n:Nat):left n (Array.replicate n false)=List.range n:=by
 unfold left;rw[List.filter_eq_self];intro i hi;have:i<n:=by simpa using hi
 simp[aoH,this]
theorem G0:∀(l:List Oper) (n:Nat),indexed l n=(List.range l.length).map fun i=>(n+i,l.getD i default)
 |[],n=>rfl
 |o::r,n=>by
  show(n,o)::indexed r (Nat.succ n)=_;rw[G0 r,apq,List.range_succ_eq_map,aoX,ap0]
  congr 1
  apply aqD;intro i _;simp only[Function.comp,List.getD_cons_succ,aoZ,and_true];omega
theorem Mh (d:Tmp)(o:Oper)(r:List Oper):nW d r<=nW d (o::r)/\(o.dst=some d->nW d (o::r)=nW d r+1):=by
 have e:nW d (o::r)=match fU (some d) o.dst with|true=>Nat.succ (nW d r)|false=>nW d r:=rfl
 refine⟨?_,fun h=> ?_⟩
 ·rw[e];split
  ·exact Nat.le_succ _
  ·exact aoE _
 ·rw[e,Bm.2 ⟨d,rfl,h⟩]
theorem Xa {d:Tmp}{l:List Oper}{j:Nat}{p:Oper}(h:l[j]? =some p)(aE:p.dst=some d):1<=nW d l:=by
 induction l generalizing j with
 |nil=>simp at h
 |cons x l bF=>
  obtain⟨e3,eY⟩:=Mh d x l
  cases j with
  |zero=>
   simp only[List.getElem?_cons_zero,aoU]at h;subst h;rw[eY aE];omega
  |succ j=>
   have:=bF (j:=j) (by simpa using h);omega
theorem M1 {d:Tmp}(l:List Oper)(i j:Nat)(o p:Oper)(U:l[i]? =some o)(aa:l[j]? =some p)(az:o.dst=some d)(aW:p.dst=some d)(bA:i<j):2<=nW d l:=by
 induction l generalizing i j with
 |nil=>simp at U
 |cons x l bF=>
  obtain⟨e3,eY⟩:=Mh d x l
  cases j with
  |zero=>omega
  |succ j=>
   simp only[List.getElem?_cons_succ]at aa
   cases i with
   |zero=>
    simp only[List.getElem?_cons_zero,aoU]at U;subst U;have:=Xa aa aW;rw[eY az];omega
   |succ i=>
    have:=bF i j (by simpa using U) aa (by omega);omega
theorem Bb:∀(l:List Tmp) (n:Nat) (d:Tmp) (id:Nat),fu d (ud l n)=some id->d∈l/\n<=id/\id<n+l.length/\l[id-n]? =some d
 |[],n,d,id,h=>by cases h
 |x::r,n,d,id,h=>by
  unfold ud at h;unfold fu at h;split at h
  ·rename_i ag;obtain rfl:=aoz ag;obtain rfl:=aoK h;simp
  ·obtain⟨U,aa,az,aW⟩:=Bb r (n+1) d id h;refine⟨by simp[U],by omega,by simp;omega, ?_⟩;rw[show id-n=(id-(n+1))+1 by omega];simpa using aW
theorem drawn {ops:Array Oper}(hH:re data bx)(eB:∀f args I K,bx f args I K->hv (bx f))(aF:yF tb ops.toList=true)(n:Nat)(dJ:aJ=ud (oQ tb ops.toList) n)(mixed:Bool)(hm:mixed=true)(t:Nat):
 Hy aJ ops/\(∀i∈Region.schedule mixed ops t,i<ops.size)/\(Region.schedule mixed ops t).Nodup/\∀(tm:List J) (I:aD) (K:List J->aD->Prop),f_ tb bx data aJ ops.toList (uq ops.toList []) [] (indexed ops.toList 0) tm I K->
  dw tb bx aJ ops.toList ((Region.schedule mixed ops t).map fun i=>ops.toList.getD i default) tm I K:=by
 have ay:Region.schedule mixed ops t=Region.linearise .any ops t:=by
  unfold Region.schedule;rw[aoy (by rw[hm];simp)]
 rw[ay];unfold yF at aF;rw[aoL,fy,fy,aoR,aoR]at aF;obtain⟨xm,zO⟩:=aF
 have hw:R0 ops:=fun i hi e he ag=>by
  have:=xm (i,ops[i]) (by
   rw[G0];refine aoQ.2 ⟨i,by simpa using hi, ?_⟩
   simp[aoA,hi])
  rw[aoR]at this;have:=this e he;have gD:Region.binds .any e=true:=ag;rw[gD]at this;have:e.on+1<=i:=by simpa[Nat.blt]using this
  omega
 have aI:Hy aJ ops:=by
  intro i j o p d e id U aa bA bZ fo dc;rw[dJ]at fo dc;obtain⟨fT,_,_,g1⟩:=Bb _ _ _ _ fo;obtain⟨_,_,_,g2⟩:=Bb _ _ _ _ dc;rw[g1]at g2;obtain rfl:=aoK g2;have aC:=aoz (zO d fT);rcases Nat.lt_trichotomy i j with bG|rfl|bG
  ·have:=M1 ops.toList i j o p (by simpa using U) (by simpa using aa) bA bZ bG;omega
  ·rfl
  ·have:=M1 ops.toList j i p o (by simpa using aa) (by simpa using U) bZ bA bG;omega
 obtain⟨ch,U,aa,aE,az⟩:=Qq (tb:=tb) (aJ:=aJ) (tab:=uq ops.toList []) hH eB hw (fun n m ag=>by
  rw[adl]at ag
  exact NB ops ops.toList [] [] rfl rfl (fun n m h=>by simp[b8]at h) n m ag) ops.size t (Array.replicate ops.size false) [] (by simp) (by rw[Ps];simp) (fun j aI ko=>by simp[aoH,aI]at ko)
 have:Region.linearise .any ops t=ch:=by unfold Region.linearise;rw[U];rfl
 rw[this];rw[Ps]at aE az;refine⟨aI,aa,aE.nodup_iff.2 List.nodup_range,fun tm I K h=> ?_⟩
 have aW:=ML eB _ _ _ _ (az [] tm I K (by
  rw[G0]at h
  simpa using h))
 rw[ap0]at aW;exact aW
end
end Go.al
end
section
namespace Go.al
theorem ds.Bp:∀(a b:List cg) (x:ds a) (y:ds b),ds.left a b (ds.append a b x y)=x
 |[],_,_,_=>rfl
 |_::dK,b,(x,r),y=>by simp only[ds.append,ds.left];rw[ds.Bp dK b r y]
theorem ds.Bc:∀(a b:List cg) (x:ds a) (y:ds b),ds.right a b (ds.append a b x y)=y
 |[],_,_,_=>rfl
 |_::dK,b,(x,r),y=>by simp only[ds.append,ds.right];rw[ds.Bc dK b r y]
section
variable {N:Nat->Prop} {ρ:List Loc} {I:aD} {w:World}
theorem M3 (h:cv N ρ I w)(s:cg){t:J}(aC:∀p∈(s.rj I t).1,p):
 ∃x:R,s.mk (s.rj I t).2= .d x/\∀u,bL (aN N ρ I) w ρ I t u->bB (aN N ρ I) w x u:=by
 have no:∀{q:Prop},(∀p∈[False],p)->q:=fun h=>(h False (by simp)).elim
 unfold cg.rj at aC⊢;split at aC
 ·rename_i k cy n;split at aC
  ·rename_i ae;obtain rfl:=js.1 ae;exact⟨_,rfl,fun u au=>au⟩
  ·exact no aC
 ·exact no aC
 ·exact⟨_,rfl,fun u au=>au⟩
 ·refine⟨_,rfl,fun u au=> ?_⟩;have au:u= .bool true:=au;subst au;exact .bool true
 ·refine⟨_,rfl,fun u au=> ?_⟩;have au:u= .bool false:=au;subst au;exact .bool false
 ·exact no aC
 ·exact⟨_,rfl,fun u au=>au⟩
 ·exact no aC
 ·rename_i k cy l;split at aC
  ·rename_i ae;obtain rfl:=js.1 ae;exact⟨_,rfl,fun u au=>au⟩
  ·exact no aC
 ·refine⟨_,rfl,fun u au=> ?_⟩;obtain⟨a,rfl⟩:=au;exact .jg _ _ _
 ·rename_i k id;split at aC
  ·rename_i cy l aF;simp only at aC;split at aC
   ·rename_i ae aU;obtain rfl:=js.1 ae;refine⟨_,rfl,fun u au=> ?_⟩;obtain⟨aw,ax,hu,_⟩:=au;have:=qK h ax aU (t:= .aB (.cu k)) (by rw[aF];exact js.2 rfl);rw[aF]at this hu;rw[hu];exact this
   ·exact no aC
  ·exact no aC
 ·exact no aC
 ·rename_i k cy l;split at aC
  ·rename_i ae;obtain rfl:=aoz ae;exact⟨_,rfl,fun u au=>au⟩
  ·exact no aC
 ·refine⟨_,rfl,fun u au=> ?_⟩;obtain⟨a,rfl⟩:=au;exact .kN _ _ _
 ·rename_i ak id;split at aC
  ·rename_i h3 l aF;simp only at aC;split at aC
   ·rename_i ae aU;obtain rfl:=aoz ae;refine⟨_,rfl,fun u au=> ?_⟩;obtain⟨aw,ax,hu,_⟩:=au;have:=qK h ax aU (t:= .aB (.dB ak)) (by rw[aF];exact apz ak);rw[aF]at this hu;rw[hu];exact this
   ·exact no aC
  ·exact no aC
 ·exact no aC
 ·exact⟨_,rfl,fun u au=>au⟩
 ·exact no aC
theorem Gq (h:cv N ρ I w):∀(cs:List cg) (aH:List J) (k:ds cs->Prop),x_ I cs aH k->
 ∃x,k x/\(sw cs x).length=aH.length/\∀(us:Nat->Value),(∀i,i<aH.length->eD (aN N ρ I) w ρ I (aH.getD i .un) (us i))->
  ∀i,i<aH.length->∃y:R,(sw cs x).getD i .un= .d y/\bB (aN N ρ I) w y (us i)
 |[],[],k,ae=>⟨(),ae,rfl,fun us _ i hi=>by simp at hi⟩
 |[],_::_,_,ae=>ae.elim
 |_::_,[],_,ae=>ae.elim
 |s::dK,v::aH,k,ae=>by
  simp only[x_]at ae;rw[gY]at ae;obtain⟨aC,ae⟩:=ae;obtain⟨y,U,aa⟩:=M3 h s aC;obtain⟨x,a6,bj,bH⟩:=Gq h dK aH _ ae;refine⟨((s.rj I v).2,x),a6,by simp[sw,bj],fun us an i hi=> ?_⟩
  cases i with
  |zero=>exact⟨y,by simpa[sw]using U,aa _ (.c3 (an 0 (by simp)))⟩
  |succ i=>
   obtain⟨ami,az,aW⟩:=bH (fun i=>us (i+1)) (fun i hi=>by have:=an (i+1) (by simpa using hi);simpa using this) i (by simpa using hi);exact⟨ami,by simpa[sw]using az,aW⟩
theorem GA {n:Nat}{t:J}(h:t.n5 n=true){id:Nat}(av:t.lz id):id<n:=by
 cases t with
 |vec j=>obtain rfl:j=id:=av;have:j+1<=n:=by simpa[J.n5,Nat.blt]using h
         omega
 |ptr j x=>obtain rfl:j=id:=av;have:j+1<=n:=by simpa[J.n5,Nat.blt]using h
           omega
 |optr j x y=>obtain rfl:j=id:=av;have:j+1<=n:=by simpa[J.n5,Nat.blt]using h
              omega
 |oat j x y=>obtain rfl:j=id:=av;have:j+1<=n:=by simpa[J.n5,Nat.blt]using h
             omega
 |mp j=>obtain rfl:j=id:=av;have:j+1<=n:=by simpa[J.n5,Nat.blt]using h
        omega
 |tail j x=>obtain rfl:j=id:=av;have:j+1<=n:=by simpa[J.n5,Nat.blt]using h
            omega
 |_=>exact av.elim
theorem On {t:J}{id:Nat}(U:∀l,t≠ .agg l)(aa:∀l,t≠ .tup l)(av:t.names id):t.lz id:=by
 cases t with
 |agg l=>exact absurd rfl (U l)
 |tup l=>exact absurd rfl (aa l)
 |_=>exact av
theorem Z9 {n:Nat}{t:J}(U:∀l,t≠ .agg l):t.under n=t.n5 n:=by
 cases t with
 |agg l=>exact absurd rfl (U l)
 |_=>rfl
theorem Z_ {t:J}(U:∀l,t≠ .agg l)(aa:∀n r,t≠ .rw n r):t.plain=t.ra:=by
 cases t with
 |agg l=>exact absurd rfl (U l)
 |rw n r=>exact absurd rfl (aa n r)
 |_=>rfl
theorem XM {n:Nat}{t:J}(h:t.under n=true){id:Nat}(av:t.names id):id<n:=by
 cases t with
 |agg l=>
  obtain⟨i,hi,av⟩:=av;simp only[J.under]at h;rw[fy,aoR]at h;have e:l.getD i .un=l[i]:=by simp[aoA,hi]
  rw[e]at av;exact GA (h _ (apF hi)) av
 |tup l=>simp[J.under,J.n5]at h
 |_=>rw[Z9 (by simp)]at h;exact GA h (On (by simp) (by simp) av)
theorem Bd {t:J}(h:t.ra=true){id:Nat}(av:t.lz id):False:=by
 cases t<;>simp only[J.lz]at av<;>simp[J.ra]at h
theorem GN {t:J}(h:t.plain=true){id:Nat}(av:t.names id):False:=by
 cases t with
 |agg l=>
  obtain⟨i,hi,av⟩:=av;simp only[J.plain]at h;rw[fy,aoR]at h;have e:l.getD i .un=l[i]:=by simp[aoA,hi]
  rw[e]at av;exact Bd (h _ (apF hi)) av
 |tup l=>simp[J.plain,J.ra]at h
 |rw n r=>exact av
 |_=>rw[Z_ (by simp) (by simp)]at h;exact Bd h (On (by simp) (by simp) av)
theorem Hc {v v0:J}(h:v.uz v0=true):v=v0:=by
 unfold J.uz at h;split at h<;>try rfl
 ·rw[aoz h]
 ·rw[aoL]at h;rw[aoz h.1,aoz h.2]
 ·rw[aoL]at h;rw[aoz h.1,aoz h.2]
 ·rw[aoz h]
 ·rw[aoz h]
 ·cases h
theorem XN {vC:Nat->Prop}{eE:List Loc}{cR:aD}{w1:World}{gk:List J}{a1 a:Act}{tm:List J}(n:Nat)(wr:Tmp->Bool)(h:cv N ρ I w)(au:ek (aN N ρ I) w ρ I tm a.tmps)
 (Fo:ek vC w1 eE cR gk a1.tmps) (e6:∀t,wr t=false->a.tmps.getD t undef=a1.tmps.getD t undef):
 ∀(dK:List (Tmp×vr)) (k:ds (lx dK)->Prop),sh n wr I gk dK tm k->
  ∃x,k x/\∀(Z':Nat->Prop) (ρ':List Loc) (aj:aD),(∀y u,bB (aN N ρ I) w y u->bB Z' w y u)->(∀y u,bB vC w1 y u->bB Z' w y u)->
   (∀id,id<n->eX ρ I ρ' aj id)->∀base,ek Z' w ρ' aj base a.tmps->ek Z' w ρ' aj (ur gk dK x base) a.tmps:=by
 intro dK
 induction dK with
 |nil=>intro k ae;exact⟨(),ae,fun Z' ρ' aj _ _ _ base ag=>ag⟩
 |cons p r bF=>
  intro k ae;obtain⟨t,amj⟩:=p
  have IV:∀{Z':Nat->Prop} {ρ':List Loc} {aj:aD} {base:List J} {v:J},ek Z' w ρ' aj base a.tmps->bL Z' w ρ' aj v (a.tmps.getD t undef)->ek Z' w ρ' aj (cQ base t v) a.tmps:=by
   intro Z' ρ' aj base v ag aP;refine⟨by rw[eI];simpa using ag.size,fun i=> ?_⟩;rw[eI,eu];split
   ·rename_i e;rw[<-e.1];exact aP
   ·exact ag.at_ i
  have cF:bL (aN N ρ I) w ρ I (b8 .un tm t) (a.tmps.getD t undef):=by rw[dT];exact au.at_ t
  cases amj with
  |aB s=>
   simp only[sh]at ae;rw[gY]at ae;obtain⟨aC,ae⟩:=ae;obtain⟨y,U,aa⟩:=M3 h s aC;have aa:=aa _ cF;obtain⟨x,a6,bj⟩:=bF _ ae;refine⟨((s.rj I (b8 .un tm t)).2,x),a6,fun Z' ρ' aj an iL ay base ag=> ?_⟩;exact IV (bj Z' ρ' aj an iL ay base ag) (by rw[U];exact .c3 (an _ _ aa))
  |agg cs=>
   simp only[sh]at ae;split at ae
   ·rename_i aH ks;rw[ks]at cF;obtain⟨arr,U,aa,az⟩:=cF;obtain⟨xs,q1,cE,cS⟩:=Gq h cs aH _ ae;have cS:=cS (fun i=>arr.getD i undef) az;obtain⟨x,a6,bj⟩:=bF _ q1;refine⟨ds.append cs (lx r) xs x,a6,fun Z' ρ' aj an iL ay base ag=> ?_⟩;simp only[ur,ds.Bp,ds.Bc];refine IV (bj Z' ρ' aj an iL ay base ag) (.hj ⟨arr,U,by rw[aa,cE],fun i hi=> ?_⟩);rw[cE]at hi;obtain⟨y,aW,bA⟩:=cS i hi;rw[aW];exact an _ _ bA
   ·exact ae.elim
  |ao=>
   simp only[sh]at ae;split at ae
   ·rename_i zZ;obtain⟨x,a6,bj⟩:=bF _ ae;refine⟨x,a6,fun Z' ρ' aj an iL ay base ag=> ?_⟩;simp only[ur];refine IV (bj Z' ρ' aj an iL ay base ag) ?_;unfold Rb at zZ;split at zZ
    ·cases zZ
    ·rename_i hu;split at zZ
     ·rename_i hw aE;rw[e6 t hw];have zm:bL vC w1 eE cR (b8 .un gk t) (a1.tmps.getD t undef):=by rw[dT];exact Fo.at_ t
      exact zm.mono iL fun id av=>(GN aE av).elim
     ·have:=Hc zZ;rw[<-this]at hu⊢;exact cF.mono an fun id av=>ay id (XM hu av)
   ·exact ae.elim
theorem v_ (dY:aD):∀(os:List s6) (i:Nat) (x:ds (kd os)),(ml dY os i x).length=os.length
 |[],_,_=>rfl
 | .ao::r,i,x=>apb (·+1) (v_ dY r (Nat.succ i) x)
 | .ad _::r,i,(_,x)=>apb (·+1) (v_ dY r (Nat.succ i) x)
 | .ar _::r,i,(_,x)=>apb (·+1) (v_ dY r (Nat.succ i) x)
 | .map _ _::r,i,(_,x)=>apb (·+1) (v_ dY r (Nat.succ i) x)
 | .cells cs::r,i,x=>apb (·+1) (v_ dY r (Nat.succ i) (ds.right cs (kd r) x))
structure rm (n:Nat)(N:Nat->Prop)(ρ:List Loc)(I:aD)(w:World)(i:Nat)(l:aD):Prop where
 F6:∀m,m<l.length->cw l m=cw I (i+m)
 ak:∀m,m<l.length->(af.at l m).len=(af.at I (i+m)).len/\(af.at l m).cJ=(af.at I (i+m)).cJ
 F7:∀m,m<l.length->cw l m=true->af.at l m=af.at I (i+m)
 rd:∀m,m<l.length->∀(Z':Nat->Prop) (ρ':List Loc) (aj:aD) (aw:Loc),(∀y u,bB (aN N ρ I) w y u->bB Z' w y u)->(∀id,id<n->eX ρ I ρ' aj id)->
  h0 (aN N ρ I) w ρ I aw (af.at I (i+m))->h0 Z' w ρ' aj aw (af.at l m)
theorem rm.cons {n:Nat}{i:Nat}{p:Bool×af}{l:aD}(U:p.1=cw I i)(aW:p.1=true->p.2=af.at I i)(aa:p.2.len=(af.at I i).len/\p.2.cJ=(af.at I i).cJ)
 (az:∀(Z':Nat->Prop) (ρ':List Loc) (aj:aD) (aw:Loc),(∀y u,bB (aN N ρ I) w y u->bB Z' w y u)->(∀id,id<n->eX ρ I ρ' aj id)->
   h0 (aN N ρ I) w ρ I aw (af.at I i)->h0 Z' w ρ' aj aw p.2) (h:rm n N ρ I w (i+1) l):rm n N ρ I w i (p::l)where
 F6:=fun m hm=>by
  cases m with
  |zero=>exact U
  |succ m=>rw[show i+(m+1)=i+1+m by omega];exact h.F6 m (by simpa using hm)
 ak:=fun m hm=>by
  cases m with
  |zero=>exact aa
  |succ m=>rw[show i+(m+1)=i+1+m by omega];exact h.ak m (by simpa using hm)
 F7:=fun m hm=>by
  cases m with
  |zero=>exact aW
  |succ m=>rw[show i+(m+1)=i+1+m by omega];exact h.F7 m (by simpa using hm)
 rd:=fun m hm=>by
  cases m with
  |zero=>exact az
  |succ m=>rw[show i+(m+1)=i+1+m by omega];exact h.rd m (by simpa using hm)
theorem aaa {cR:aD}(n:Nat)(h:cv N ρ I w):∀(os:List s6) (i:Nat) (k:ds (kd os)->Prop),n0 n cR os i I k->
 ∃x,k x/\rm n N ρ I w i (ml cR os i x):=by
 intro os
 induction os with
 |nil=>intro i k ae;exact⟨(),ae,⟨fun m hm=>by simp[ml]at hm,fun m hm=>by simp[ml]at hm,fun m hm=>by simp[ml]at hm,fun m hm=>by simp[ml]at hm⟩⟩
 |cons o r bF=>
  intro i k ae
  have cf:∀{f:Bool} {ob:af},b8 (true, .gone) I i=(f,ob)->af.at I i=ob/\cw I i=f:=fun h=>by simp[af.at,cw,h]
  cases o with
  |ao=>
   simp only[n0]at ae;split at ae
   ·rename_i hu;obtain⟨he,ae⟩:=ae;obtain⟨x,a6,bj⟩:=bF (i+1) _ ae;refine⟨x,a6,rm.cons (by rw[<-he];rfl) (fun _=>by rw[<-he];rfl) (by rw[<-he];exact⟨rfl,rfl⟩) (fun Z' ρ' aj aw an ay aF=> ?_) bj⟩;rw[<-he]at hu⊢;refine aF.mono (fun _ _=>rfl) an (fun l ax AB id oj av=>ay id ?_);have iJ:(b8 (true,af.gone) I i).2= .cells l:=ax;rw[iJ]at hu;simp only[af.under]at hu;rw[fy,aoR]at hu;have e:l.getD AB .un=l[AB]:=by simp[aoA,oj]
    rw[e]at av;exact GA (hu _ (apF oj)) av
   ·exact ae.elim
  |ad k4=>
   simp only[n0]at ae;split at ae
   ·rename_i a6 l ax;split at ae
    ·rename_i oj;obtain rfl:=js.1 oj;obtain⟨x,q1,cE⟩:=bF (i+1) _ ae;obtain⟨aA,aL⟩:=cf ax;refine⟨(l,x),q1,rm.cons aL.symm (fun h=>by cases h) (by rw[aA];exact⟨rfl,rfl⟩) (fun Z' ρ' aj aw an ay aF=> ?_) cE⟩;rw[aA]at aF;exact aF.mono (fun _ _=>rfl) an (fun l ax=>by cases ax)
    ·exact ae.elim
   ·exact ae.elim
  |ar AA=>
   simp only[n0]at ae;split at ae
   ·rename_i s1 l ax;split at ae
    ·rename_i oj;obtain rfl:=aoz oj;obtain⟨x,q1,cE⟩:=bF (i+1) _ ae;obtain⟨aA,aL⟩:=cf ax;refine⟨(l,x),q1,rm.cons aL.symm (fun h=>by cases h) (by rw[aA];exact⟨rfl,rfl⟩) (fun Z' ρ' aj aw an ay aF=> ?_) cE⟩;rw[aA]at aF;exact aF.mono (fun _ _=>rfl) an (fun l ax=>by cases ax)
    ·exact ae.elim
   ·exact ae.elim
  |map FQ AA=>
   simp only[n0]at ae;split at ae
   ·rename_i e9 s1 l ax;split at ae
    ·rename_i aja oj;obtain rfl:=aoz aja;obtain rfl:=aoz oj;obtain⟨x,q1,cE⟩:=bF (i+1) _ ae;obtain⟨aA,aL⟩:=cf ax;refine⟨(l,x),q1,rm.cons aL.symm (fun h=>by cases h) (by rw[aA];exact⟨rfl,rfl⟩) (fun Z' ρ' aj aw an ay aF=> ?_) cE⟩;rw[aA]at aF;exact aF.mono (fun _ _=>rfl) an (fun l ax=>by cases ax)
    ·exact ae.elim
   ·exact ae.elim
  |cells cs=>
   simp only[n0]at ae;split at ae
   ·rename_i aH ax;obtain⟨aA,aL⟩:=cf ax;obtain⟨xs,q1,cE,cS⟩:=Gq h cs aH _ ae;obtain⟨x,a6,bj⟩:=bF (i+1) _ q1;refine⟨ds.append cs (kd r) xs x,a6, ?_⟩;simp only[ml,ds.Bp,ds.Bc];refine rm.cons aL.symm (fun h=>by cases h) (by rw[aA];exact⟨cE,rfl⟩) (fun Z' ρ' aj aw an ay aF=> ?_) bj;rw[aA]at aF;obtain⟨ed,agp,ajb,e3,eY,j7,pD,pE⟩:=aF;refine⟨ed,agp,ajb,e3,eY,j7,by rw[cE];exact pD,fun m hm=> ?_⟩;rw[cE]at hm;obtain⟨y,d1,d2⟩:=cS _ pE m hm;rw[d1];exact an _ _ d2
   ·exact ae.elim
end
end Go.al
end
section
namespace Go.al
theorem wB {α:Type}(ρ:List α)(n:Nat)(d:α)(i:Nat)(l:α)(h:((ρ.take n)++List.replicate (n-ρ.length) d)[i]? =some l):
 i<n/\(ρ[i]? =some l\/(ρ.length<=i/\l=d)):=by
 rw[ao5]at h;split at h
 ·rename_i hi;simp only[ao3]at hi;rw[aps]at h;split at h
  ·rename_i av;exact⟨av, .inl h⟩
  ·cases h
 ·rename_i hi;simp only[ao3]at hi h;rw[ap1]at h;split at h
  ·rename_i av;refine⟨by omega, .inr ⟨by omega,(aoK h).symm⟩⟩
  ·cases h
theorem adn {α:Type}(ρ:List α)(n:Nat)(d:α)(i:Nat)(l:α)(hi:i<n)(h:ρ[i]? =some l):((ρ.take n)++List.replicate (n-ρ.length) d)[i]? =some l:=by
 obtain⟨U,aa⟩:=apr.1 h;rw[apt (by simp;omega),aps,aoy hi,h]
theorem abF (Z:Nat->Prop)(w:World)(ρ:List Loc)(I:aD)(n:Nat)(tmps:Array Value)(h:tmps.size=n):ek Z w ρ I (uQ .any n) tmps:=by
 refine⟨by rw[HP];simpa using h,fun t=> ?_⟩;rw[HP]
 by_cases au:t<n
 ·have:(List.replicate n J.any).getD t .un= .any:=by simp[aoA,au]
  rw[this];trivial
 ·have:(List.replicate n J.any).getD t .un= .un:=by simp[aoA,au]
  rw[this,aoH,Array.getElem?_eq_none (by omega)]
  rfl
theorem M4 {N vC:Nat->Prop}{eE ρ:List Loc}{e_ S:e2}{a1 a:Act}{w1 w:World}(wr:Tmp->Bool)(h:Head)(k:ds h.ps->Prop)
 (Fo:ek vC w1 eE e_.I e_.tm a1.tmps) (ay:eC N ρ S.tm S.I a w) (aU:∀y u,bB vC w1 y u->bB (aN N ρ S.I) w y u) (e6:∀t,wr t=false->a.tmps.getD t undef=a1.tmps.getD t undef)
 (cq:a.tmps.size=a1.tmps.size) (ae:pS wr h e_ S k):
 ∃x,k x/\∃ρ',eC N ρ' (ly h e_ x).tm (ly h e_ x).I a w/\Fr ρ S.I w ρ' (ly h e_ x).I w:=by
 unfold pS at ae;obtain⟨xs,ae,Rj⟩:=XN (a1:=a1) (a:=a) (bU h.I) wr ay.eO ay.en Fo e6 h.bN _ ae;obtain⟨AK,ae,e7⟩:=aaa (bU h.I) ay.eO h.I 0 _ ae;have ax:(ds.left (lx h.bN) (kd h.I) (ds.append (lx h.bN) (kd h.I) xs AK))=xs:=ds.Bp _ _ _ _;have an:(ds.right (lx h.bN) (kd h.I) (ds.append (lx h.bN) (kd h.I) xs AK))=AK:=ds.Bc _ _ _ _;refine⟨_,ae,ρ.take h.I.length++List.replicate (h.I.length-ρ.length) ⟨none,0,none⟩, ?_⟩;have hlen:(ml e_.I h.I 0 AK).length=h.I.length:=v_ _ _ _ _;unfold ly;simp only[ax,an];generalize ml e_.I h.I 0 AK=aj at e7 hlen⊢;rw[cG]at Rj e7
 have j3:∀id,id<h.I.length->eX ρ S.I (ρ.take h.I.length++List.replicate (h.I.length-ρ.length) ⟨none,0,none⟩) aj id:=fun id dJ aw dP=>by
  refine⟨adn _ _ _ _ _ dJ dP, ?_⟩;have:=e7.ak id (by omega);simpa using this
 have iV:∀b,gz (ρ.take h.I.length++List.replicate (h.I.length-ρ.length) ⟨none,0,none⟩) aj b->gz ρ S.I b:=fun b ⟨i,aw,aA,aL,b3⟩=>by
  obtain⟨hi,e|⟨_,e⟩⟩:=wB _ _ _ _ _ aA
  ·have:=e7.F6 i (by omega);rw[ao8]at this;exact⟨i,aw,e,aL,by rw[<-this];exact b3⟩
  ·rw[e]at aL;cases aL
 have cx:Fr ρ S.I w (ρ.take h.I.length++List.replicate (h.I.length-ρ.length) ⟨none,0,none⟩) aj w:=
  ⟨rfl,rfl,rfl,aoE _,fun _ _ _=>rfl,fun b ag=> .inl (iV b ag)⟩
 have sS:∀y u,bB (aN N ρ S.I) w y u->bB (aN N (ρ.take h.I.length++List.replicate (h.I.length-ρ.length) ⟨none,0,none⟩) aj) w y u:=fun _ _=>cx.reads
 have aej:∀y u,bB vC w1 y u->bB (aN N (ρ.take h.I.length++List.replicate (h.I.length-ρ.length) ⟨none,0,none⟩) aj) w y u:=fun y u an=>cx.reads (aU y u an)
 refine⟨⟨?_, ?_,ay.hN⟩,cx⟩
 ·refine{len:=by simp[hlen];omega,fc:=ay.eO.fc,lt:=fun i aw b aA aL=> ?_,inj:=fun i j li cC b aA aL b3 cX s1 s2=> ?_,fK:=fun i aw b aA aL=> ?_,ob:=fun i aw aA=> ?_}
  ·obtain⟨_,e|⟨_,e⟩⟩:=wB _ _ _ _ _ aA
   ·exact ay.eO.lt i aw b e aL
   ·rw[e]at aL;cases aL
  ·obtain⟨_,e|⟨_,e⟩⟩:=wB _ _ _ _ _ aA
   ·obtain⟨_,b_|⟨_,b_⟩⟩:=wB _ _ _ _ _ aL
    ·have back:∀i,i<aj.length->¬hg aj i->¬hg S.I i:=fun i hi av ⟨f,n,ak,q⟩=>by
      have UD:cw aj i=true:=by have:=e7.F6 i hi;rw[ao8]at this;rw[this];exact f
      have:=e7.F7 i hi UD;rw[ao8]at this;exact av ⟨UD,n,ak,by rw[this];exact q⟩
     exact ay.eO.inj i j li cC b e b_ b3 cX (back i (by omega) s1) (back j (by omega) s2)
    ·rw[b_]at cX;cases cX
   ·rw[e]at b3;cases b3
  ·obtain⟨_,e|⟨_,e⟩⟩:=wB _ _ _ _ _ aA
   ·exact ay.eO.fK i aw b e aL
   ·rw[e]at aL;cases aL
  ·obtain⟨hi,e⟩:=wB _ _ _ _ _ aA;refine e7.rd i (by omega) _ _ aj aw sS j3 ?_;rw[ao8];rcases e with e|⟨e,_⟩
   ·exact ay.eO.ob i aw e
   ·have:af.at S.I i= .gone:=by
     have ax:=ay.eO.len;simp only[af.at,dT,aoA];rw[ape (by omega)]
     rfl
    rw[this];trivial
 ·refine Rj _ _ aj sS aej j3 _ ?_;rw[cG];exact abF _ _ _ _ _ _ (by rw[cq];exact Fo.size)
theorem Bx {N:Nat->Prop}{eE ρ:List Loc}{e_ S:e2}{a1 a:Act}{w1 w:World}(wr:Tmp->Bool)(h:Head)(k:ds h.ps->Prop)
 (eR:eC N eE e_.tm e_.I a1 w1) (ay:eC N ρ S.tm S.I a w) (aU:Fr eE e_.I w1 ρ S.I w) (e6:∀t,wr t=false->a.tmps.getD t undef=a1.tmps.getD t undef)
 (cq:a.tmps.size=a1.tmps.size) (ae:pS wr h e_ S k):
 ∃x,k x/\∃ρ',eC N ρ' (ly h e_ x).tm (ly h e_ x).I a w/\Fr ρ S.I w ρ' (ly h e_ x).I w:=M4 wr h k eR.en ay (fun _ _=>aU.reads) e6 cq ae
theorem NC {N:Nat->Prop}{a:Act}{w:World}{ρ:List Loc}{S:e2}(id:Nat)(h:eC N ρ S.tm S.I a w):eC N ρ S.tm (e5 S.I id) a w/\Fr ρ S.I w ρ (e5 S.I id) w:=by
 have cN:cn N ρ S.I w ρ (e5 S.I id) w:=by unfold e5;rw[eI];exact cn.shut h.eO id
 exact⟨⟨cN.rel,h.en.step cN,h.hN⟩,cN.toFr⟩
theorem ye {N:Nat->Prop}{a:Act}{w:World}:∀(c:List (Tmp×cg)) (S:e2) (ρ:List Loc),eC N ρ S.tm S.I a w->
 eC N ρ (mO c S).tm (mO c S).I a w/\Fr ρ S.I w ρ (mO c S).I w
 |[],S,ρ,h=>⟨h,Fr.refl _ _ _⟩
 |(t,s)::r,S,ρ,h=>by
  unfold mO;split
  ·rename_i id he;obtain⟨U,aa⟩:=NC id h;obtain⟨a6,bj⟩:=ye r ⟨S.tm,e5 S.I id⟩ ρ U;exact⟨a6,aa.trans bj⟩
  ·exact ye r S ρ h
theorem tX {N:Nat->Prop}{a:Act}{w:World}:∀(c:List (Tmp×cg)) (S:e2) (ρ:List Loc),eC N ρ S.tm S.I a w->
 ∃ρ',eC N ρ' (iA c S).tm (iA c S).I a w/\Fr ρ S.I w ρ' (iA c S).I w
 |[],S,ρ,h=>⟨ρ,h,Fr.refl _ _ _⟩
 |(t,s)::r,S,ρ,h=>by
  unfold iA;split
  ·rename_i id he;obtain⟨U,aa⟩:=NC id h;obtain⟨ρ',a6,bj⟩:=tX r ⟨S.tm,e5 S.I id⟩ ρ U;exact⟨ρ',a6,aa.trans bj⟩
  ·exact tX r S ρ h
  ·rename_i s _ _ he _;have cF:=h.en.at_ t;rw[<-dT,he]at cF;obtain⟨x,ai⟩:=cF
   have key:∀(ob:af),(ob= .gone\/(∃k,ob= .ad k [])\/∃ak,ob= .ar ak [])->cn N ρ S.I w (ρ++[⟨x,0,none⟩]) (S.I++[(false,ob)]) w:=by
    intro ob aF;exact cn.nil h.eO false _ x aF
   have cf:uu s= .gone\/(∃k,uu s= .ad k [])\/∃ak,uu s= .ar ak []:=by
    cases s with
    |cu k=>exact .inr (.inl ⟨k,rfl⟩)
    |dB ak=>exact .inr (.inr ⟨ak,rfl⟩)
    |_=>exact .inl rfl
   have cN:=key _ cf;have ae0:(uu s).len=0:=by cases s<;>rfl
   have gd:eC N (ρ++[⟨x,0,none⟩]) (cQ S.tm t (.vec (bU S.I))) (eM S.I [(false,uu s)]) a w:=by
    rw[fV];refine⟨cN.rel,⟨by rw[eI];simpa using h.en.size,fun i=> ?_⟩,h.hN⟩;rw[eI,eu];split
    ·rename_i e;rw[<-e.1,ai];refine .c3 ⟨⟨x,0,none⟩,by rw[cG,<-h.eO.len];simp, ?_⟩;rw[gN,cG,aoy rfl,ae0];exact⟨rfl,fun _=>rfl⟩
    ·exact(h.en.step cN).at_ i
   obtain⟨ρ',a6,bj⟩:=tX r ⟨cQ S.tm t (.vec (bU S.I)),eM S.I [(false,uu s)]⟩ _ gd;refine⟨ρ',a6,Fr.trans ?_ bj⟩;rw[fV];exact cN.toFr
  ·exact tX r S ρ h
end Go.al
end
section
namespace Go.al
theorem least (p:Nat->Prop):∀n,p n->∃n,p n/\∀k,p k->n<=k:=by
 intro n
 induction n using Nat.strongRecOn with
 |_ n bF=>
  intro av;rcases Classical.em (∃k,k<n/\p k)with⟨k,ae,aE⟩|h
  ·exact bF k ae aE
  ·exact⟨n,av,fun k ae=>Nat.le_of_not_lt fun bG=>h ⟨k,bG,ae⟩⟩
open Classical in
theorem Gw {P:Program}{Q:Exit->Act->World->Prop}{a:Act}{w:World}{c:Code}{α:Type}(aK:α->Act->World->Prop)(m:α->Nat)(ck:α)(bc:aK ck a w)
 (round:∀x a w,aK x a w->c.wp P (Exit.then (fun b5 w'=>∃y,aK y b5 w'/\m y<m x) Q) a w):(Code.loop c).wp P Q a w:=by
 have hex:∀a w,(∃x,aK x a w)->∃n,(∃x,aK x a w/\m x=n)/\∀k,(∃x,aK x a w/\m x=k)->n<=k:=fun a w ⟨x,ai⟩=>least _ _ ⟨x,ai,rfl⟩
 let AL:Act->World->Nat:=fun a w=>if h:∃x,aK x a w then Classical.choose (hex a w h)else 0
 have hle:∀y a w,aK y a w->AL a w<=m y:=fun y a w bp=>by
  have h:∃x,aK x a w:=⟨y,bp⟩
  simp only[AL,dif_pos h];exact(Classical.choose_spec (hex a w h)).2 _ ⟨y,bp,rfl⟩
 have cF:∀a w,(∃x,aK x a w)->∃x,aK x a w/\m x=AL a w:=fun a w h=>by
  simp only[AL,dif_pos h];exact(Classical.choose_spec (hex a w h)).1
 refine wp_loop (fun a w=>∃x,aK x a w) AL ⟨ck,bc⟩ fun a w fs=> ?_;obtain⟨x,ai,hm⟩:=cF a w fs;refine wp_mono (round x a w ai) fun e b5 w' h=> ?_
 cases e with
 |normal=>
  obtain⟨y,bp,bG⟩:=h;exact⟨⟨y,bp⟩,hm▸ap4 (hle y b5 w' bp) bG⟩
 |_=>exact h
def hd.to:hd->Exit
 | .normal=> .normal
 | .exit i=> .exit i
 | .goto l=> .goto l
 | .ret=> .ret
theorem BJ:∀(dK:List cg) (f:ds dK->Prop),y3 dK f->∀x,f x
 |[],_,h,()=>h
 |_::dK,f,h,(x,r)=>BJ dK (fun r=>f (x,r)) (h x) r
section
variable {P:Program} {N:Nat->Prop}
theorem m0.weaken {ρ eE:List Loc}{I cR:aD}{a a1 b5:Act}{w w1 w':World}{wr Tu:Tmp->Bool}{K K':List J->aD->Prop}(h:m0 N eE cR a1 w1 Tu K b5 w')
 (aU:Fr ρ I w eE cR w1) (ay:∀t,wr t=false->Tu t=false/\a1.tmps.getD t undef=a.tmps.getD t undef) (cq:a1.tmps.size=a.tmps.size)
 (ae:∀tm I,K tm I->K' tm I):m0 N ρ I a w wr K' b5 w':=by
 obtain⟨dI,aj,ρ',a6,bj,bH⟩:=h.ex;exact⟨⟨dI,aj,ρ',ae _ _ a6,bj,aU.trans bH⟩,fun t au=>(h.same t (ay t au).1).trans (ay t au).2,h.ak.trans cq⟩
theorem Oo {ρ:List Loc}{S:e2}{a:Act}{w:World}(ay:eC N ρ S.tm S.I a w)(c:Operand):bL (aN N ρ S.I) w ρ S.I (aY S.tm c) (a.eval c):=eA ay.en c
structure gA (P:Program)(E:bw):Prop where
 ty:∀t,c1 P t (E.tb t)=true
 more:∀t,pZ P E.tb t=true
 om:∀f args I K,E.bx f args I K->yp P f (E.bx f)
 ok:∀f args I K,E.bx f args I K->hv (E.bx f)
 mixed:P.follows .mixedOrders=true
 data:re E.kind E.bx
theorem Hd (E:bw)(cW:gA P E)(c:Code):
 ∀(bu:Nat) (S:e2) (K:hd->e2->Prop) (a:Act) (w:World) (ρ:List Loc),gQ E c bu S K->eC N ρ S.tm S.I a w->
  c.wp P (fun e b5 w'=>∃b_:hd,e=b_.to/\m0 N ρ S.I a w (Code.eH c) (fun tm I=>K b_ ⟨tm,I⟩) b5 w') a w:=by
 obtain⟨bs,Fi,eB,amk,hW,oF⟩:=cW
 have self:∀{ρ:List Loc} {S:e2} {a:Act} {w:World} {wr:Tmp->Bool} {K:e2->Prop},eC N ρ S.tm S.I a w->K S->m0 N ρ S.I a w wr (fun tm I=>K ⟨tm,I⟩) a w:=
  fun{ρ S a w wr K} ay ae=>⟨⟨S.tm,S.I,ρ,ae,ay,Fr.refl _ _ _⟩,fun _ _=>rfl,rfl⟩
 induction c with
 |skip=>intro bu S K a w ρ h ay;exact wp_skip ⟨.normal,rfl,self ay h⟩
 |label l=>intro bu S K a w ρ h ay;exact wp_label ⟨.normal,rfl,self ay h⟩
 |exit id=>intro bu S K a w ρ h ay;exact wp_exit ⟨.exit id,rfl,self ay h⟩
 |goto l=>intro bu S K a w ρ h ay;exact wp_goto ⟨.goto l,rfl,self ay h⟩
 |ret=>intro bu S K a w ρ h ay;exact wp_ret ⟨.ret,rfl,self ay h⟩
 |region id ops draw=>
  intro bu S K a w ρ h ay
  cases draw with
  |false=>
   have h:dw E.tb E.bx [] ops.toList ops.toList S.tm S.I (fun tm I=>K .normal ⟨tm,I⟩):=h;refine wp_region (tW (fun e b5 w' b6=> ?_) _ _ _ (BI bs Fi eB [] ops (fun i j o p d e id _ _ _ _ h=>by cases h) _ (List.range ops.size) (fun i hi=>by simpa using hi) List.nodup_range S.tm S.I a w ρ (fun i _ o d id _ _ h=>by cases h) (by rw[Qr];exact h) ay));obtain⟨rfl,aE⟩:=b6;exact⟨.normal,rfl,aE⟩
  |true=>
   have aC:yF E.tb ops.toList=true:=by
    cases ai:yF E.tb ops.toList with
    |true=>rfl
    |false=>simp only[gQ,ai]at h
   have h:f_ E.tb E.bx E.kind (ud (oQ E.tb ops.toList) (bU S.I)) ops.toList (uq ops.toList []) [] (indexed ops.toList 0) S.tm (eM S.I (uQ (false, .gone) (bU (oQ E.tb ops.toList)))) fun tm I=>K .normal ⟨tm,I⟩:=by
    simp only[gQ,aC]at h;exact h
   refine wp_region_draw fun t=> ?_;obtain⟨Ex,hi,xt,ae⟩:=drawn (tb:=E.tb) oF amk aC _ rfl (P.follows .mixedOrders) hW t;have cN:cn N ρ S.I w ρ S.I {w with drawn:=w.drawn+1}:=cn.drew ay.eO rfl rfl rfl rfl;have ajc:=Ol (bU (oQ E.tb ops.toList)) _ _ cN.rel;have zn:=cN.trans ajc;rw[fV,HP]at h
   have ae1:zk (ud (oQ E.tb ops.toList) (bU S.I)) ops (Region.schedule (P.follows .mixedOrders) ops t) (ρ++List.replicate (bU (oQ E.tb ops.toList)) p0):=by
    intro i _ o d id _ _ aW;obtain⟨_,g1,g2,_⟩:=Bb _ _ _ _ aW;rw[cG]at g1 g2;have ax:=ay.eO.len;rw[apJ (by omega),ap1,aoy (by rw[cG];omega)]
   refine tW (fun e b5 w' b6=> ?_) _ _ _ (BI bs Fi eB _ ops Ex _ _ hi xt S.tm _ a {w with drawn:=w.drawn+1} _ ae1 (ae _ _ _ h) ⟨zn.rel,ay.en.step zn,ay.hN⟩);obtain⟨rfl,aE⟩:=b6;exact⟨.normal,rfl,aE.weaken zn.toFr (fun _ au=>⟨au,rfl⟩) rfl fun _ _ h=>h⟩
 |seq x y rR rS=>
  intro bu S K a w ρ h ay
  have gR:∀t,Code.eH (.seq x y) t=false->Code.eH x t=false/\Code.eH y t=false:=fun t au=>by
   simpa[Code.eH,aq1]using au
  unfold gQ at h;split at h
  ·refine wp_seq (wp_mono (rR bu S _ a w ρ h ay) fun e a1 w1 b6=> ?_);obtain⟨b_,rfl,aE⟩:=b6
   cases b_ with
   |normal=>
    obtain⟨gk,cR,eE,a6,bj,bH⟩:=aE.ex;refine wp_mono (rS bu ⟨gk,cR⟩ K a1 w1 eE a6 bj) fun e a2 db b6=> ?_;obtain⟨b_,rfl,z1⟩:=b6;exact⟨b_,rfl,z1.weaken bH (fun t au=>⟨(gR t au).2,aE.same t (gR t au).1⟩) aE.ak fun _ _ h=>h⟩
   |exit i=>exact⟨.exit i,rfl,aE.weaken (Fr.refl _ _ _) (fun t au=>⟨(gR t au).1,rfl⟩) rfl fun _ _ h=>h⟩
   |goto l=>exact⟨.goto l,rfl,aE.weaken (Fr.refl _ _ _) (fun t au=>⟨(gR t au).1,rfl⟩) rfl fun _ _ h=>h⟩
   |ret=>exact⟨.ret,rfl,aE.weaken (Fr.refl _ _ _) (fun t au=>⟨(gR t au).1,rfl⟩) rfl fun _ _ h=>h⟩
  ·rename_i a8 aI;obtain⟨bm,U,aa⟩:=h;obtain⟨iu,fe,ti⟩:=tX a8.conv S ρ ay
   refine wp_seq (wp_mono (rR bu _ _ a w iu U fe) fun e a1 w1 b6=> ?_);obtain⟨b_,rfl,aE⟩:=b6
   cases b_ with
   |normal=>
    obtain⟨gk,cR,eE,a6,bj,bH⟩:=aE.ex;obtain⟨g1,g2⟩:=ye a8.conv ⟨gk,cR⟩ eE bj
    obtain⟨z,bq,e1,lO,rM⟩:=Bx (S:=mO a8.conv ⟨gk,cR⟩) _ a8 _ fe g1 (bH.trans g2) aE.same aE.ak a6;refine wp_mono (rS bu _ K a1 w1 e1 (BJ _ _ aa z bq) lO) fun e a2 db b6=> ?_;obtain⟨b_,rfl,z1⟩:=b6;exact⟨b_,rfl,z1.weaken (ti.trans ((bH.trans g2).trans rM)) (fun t au=>⟨(gR t au).2,aE.same t (gR t au).1⟩) aE.ak fun _ _ h=>h⟩
   |exit i=>exact⟨.exit i,rfl,aE.weaken ti (fun t au=>⟨(gR t au).1,rfl⟩) rfl fun _ _ h=>h⟩
   |goto l=>exact⟨.goto l,rfl,aE.weaken ti (fun t au=>⟨(gR t au).1,rfl⟩) rfl fun _ _ h=>h⟩
   |ret=>exact⟨.ret,rfl,aE.weaken ti (fun t au=>⟨(gR t au).1,rfl⟩) rfl fun _ _ h=>h⟩
 |cond c x y rR rS=>
  intro bu S K a w ρ h ay
  have gR:∀t,Code.eH (.cond c x y) t=false->Code.eH x t=false/\Code.eH y t=false:=fun t au=>by
   simpa[Code.eH,aq1]using au
  have cF:=Oo ay c;unfold gQ at h
  have tC:∀e_,e_.I=S.I->gQ E x bu e_ K->eC N ρ e_.tm e_.I a w->x.wp P (fun e b5 w'=>∃b_:hd,e=b_.to/\m0 N ρ S.I a w (Code.eH (.cond c x y)) (fun tm I=>K b_ ⟨tm,I⟩) b5 w') a w:=fun e_ aF h ay=>by
   refine wp_mono (rR bu e_ K a w ρ h ay) fun e b5 w' b6=> ?_;obtain⟨b_,rfl,aE⟩:=b6;exact⟨b_,rfl,aE.weaken (by rw[aF];exact Fr.refl _ _ _) (fun t au=>⟨(gR t au).1,rfl⟩) rfl fun _ _ h=>h⟩
  have UE:∀e_,e_.I=S.I->gQ E y bu e_ K->eC N ρ e_.tm e_.I a w->y.wp P (fun e b5 w'=>∃b_:hd,e=b_.to/\m0 N ρ S.I a w (Code.eH (.cond c x y)) (fun tm I=>K b_ ⟨tm,I⟩) b5 w') a w:=fun e_ aF h ay=>by
   refine wp_mono (rS bu e_ K a w ρ h ay) fun e b5 w' b6=> ?_;obtain⟨b_,rfl,aE⟩:=b6;exact⟨b_,rfl,aE.weaken (by rw[aF];exact Fr.refl _ _ _) (fun t au=>⟨(gR t au).2,rfl⟩) rfl fun _ _ h=>h⟩
  split at h
  ·rename_i he;rw[he]at cF;exact wp_cond_true cF (tC S rfl h ay)
  ·rename_i he;rw[he]at cF;exact wp_cond_false cF (UE S rfl h ay)
  ·rename_i b he;rw[he]at cF;have ag:=mI cF;split at h
   ·rename_i t;have hy:=C2 ay t ag
    cases b with
    |true=>exact wp_cond_true ag (tC ⟨cQ S.tm t .bt,S.I⟩ rfl (h.1 rfl) hy)
    |false=>exact wp_cond_false ag (UE ⟨cQ S.tm t .bf,S.I⟩ rfl (h.2 rfl) hy)
   ·exact h.elim
  ·exact h.elim
 |block id c bF=>
  intro bu S K a w ρ h ay;unfold gQ at h;refine wp_block (wp_mono (bF id S _ a w ρ h ay) fun e b5 w' b6=> ?_);obtain⟨b_,rfl,aE⟩:=b6
  cases b_ with
  |normal=>exact⟨.normal,rfl,aE⟩
  |goto l=>exact⟨.goto l,rfl,aE⟩
  |ret=>exact⟨.ret,rfl,aE⟩
  |exit i=>
   simp only at aE;show(if i=id then _ else _);split
   ·rename_i hi;subst hi;simp only[apz]at aE;exact⟨.normal,rfl,aE⟩
   ·rename_i hi
    have:Nat.beq i id=false:=by
     cases ag:Nat.beq i id with
     |false=>rfl
     |true=>exact absurd (aoz ag) hi
    simp only[this]at aE;exact⟨.exit i,rfl,aE⟩
 |loop c bF=>
  intro bu S K a w ρ h ay;unfold gQ at h;simp only at h;obtain⟨aK,m,bc,U⟩:=h;obtain⟨iu,fe,ti⟩:=tX (E.loops bu).conv S ρ ay
  obtain⟨ck,kZ,eE,eR,rL⟩:=Bx (fun _=>false) _ _ fe fe (Fr.refl _ _ _) (fun _ _=>rfl) rfl bc
  refine Gw (fun x b5 w'=>h4.app _ aK x/\∃ρ',eC N ρ' (ly (E.loops bu) (iA (E.loops bu).conv S) x).tm (ly (E.loops bu) (iA (E.loops bu).conv S) x).I b5 w'/\
   Fr iu (iA (E.loops bu).conv S).I w ρ' (ly (E.loops bu) (iA (E.loops bu).conv S) x).I w'/\(∀t,Code.eH c t=false->b5.tmps.getD t undef=a.tmps.getD t undef)/\b5.tmps.size=a.tmps.size)
   (h4.app _ m) ck ⟨kZ,eE,eR,rL,fun _ _=>rfl,rfl⟩ ?_
  rintro x a1 w1 ⟨fs,e1,lO,rM,j3,cq⟩;refine wp_mono (bF bu _ _ a1 w1 e1 (BJ _ _ U x fs) lO) fun e a2 db b6=> ?_;obtain⟨b_,rfl,aE⟩:=b6
  have hw:∀t,Code.eH (.loop c) t=false->Code.eH c t=false/\a1.tmps.getD t undef=a.tmps.getD t undef:=fun t au=>⟨au,j3 t au⟩
  cases b_ with
  |normal=>
   obtain⟨Tv,St,ajd,a6,bj,bH⟩:=aE.ex;obtain⟨g1,g2⟩:=ye (E.loops bu).conv ⟨Tv,St⟩ ajd bj
   obtain⟨y,bp,JB,JC,Fp⟩:=Bx (S:=mO (E.loops bu).conv ⟨Tv,St⟩) (Code.eH c) _ _ fe g1 ((rM.trans bH).trans g2) (fun t au=>(aE.same t au).trans (j3 t au)) (aE.ak.trans cq) a6;exact⟨y,⟨bp.1,JB,JC,((rM.trans bH).trans g2).trans Fp,fun t au=>(aE.same t au).trans (j3 t au),aE.ak.trans cq⟩,bp.2⟩
  |exit i=>exact⟨.exit i,rfl,aE.weaken (ti.trans rM) hw cq fun _ _ h=>h⟩
  |goto l=>exact⟨.goto l,rfl,aE.weaken (ti.trans rM) hw cq fun _ _ h=>h⟩
  |ret=>exact⟨.ret,rfl,aE.weaken (ti.trans rM) hw cq fun _ _ h=>h⟩
 |scope c bF=>
  intro bu S K a w ρ h ay;unfold gQ at h;refine wp_scope_straight (wp_mono (bF bu S _ a w ρ h ay) fun e b5 w' b6=> ?_);obtain⟨b_,rfl,aE⟩:=b6
  cases b_ with
  |normal=>exact⟨.normal,rfl,aE⟩
  |exit i=>exact⟨.exit i,rfl,aE⟩
  |ret=>exact⟨.ret,rfl,aE⟩
  |goto l=>
   obtain⟨_,_,_,k,_⟩:=aE.ex;exact k.elim
 |_=>intro bu S K a w ρ h ay;exact h.elim
end
end Go.al
end
section
namespace Go.al
def sn:List a7->J->Bool
 |[_],v=>v.plain
 |_, .tup l=>eg J.plain l
 |_,_=>false
def mm (ts:List a7)(K:J->Prop):J->aD->Prop:=fun r I=>match sn ts (mc I ts r)with|true=>K (mc I ts r)|false=>False
theorem ND {ps:List a7}{T:List J->(J->Prop)->Prop}(h:k0 T):hv (iB ps T):=by
 refine⟨fun args I K K' ae bs=> ?_,fun args I K bs=> ?_⟩
 ·unfold iB at bs⊢;split
  ·rename_i U aa;rw[U,aa]at bs;exact h.1 _ _ _ (fun r=>ae r _) bs
  ·rename_i ai;split at bs
   ·rename_i U aa;exact(ai U aa).elim
   ·exact bs
 ·unfold iB at bs;split at bs
  ·obtain⟨r,an⟩:=h.2 _ _ bs;exact⟨r,_,an⟩
  ·exact bs.elim
section
variable {N:Nat->Prop} {ρ:List Loc} {I:aD} {w:World}
def wX (id:Nat):J->Prop
 | .vec i=>i=id
 | .agg l=>∃i,i<l.length/\l.getD i .un= .vec id
 |_=>False
theorem M5 (I:aD)(id i:Nat):af.at (e5 I id) i=af.at I i:=by
 unfold e5;rw[eI,g_];split
 ·rename_i e;rw[e.1]
 ·rfl
theorem Bq (I:aD)(id i:Nat)(h:i=id\/cw I i=true):cw (e5 I id) i=true:=by
 unfold e5;rw[eI,ij];split
 ·rfl
 ·rename_i e;rcases h with rfl|h
  ·simp only[true_and,Nat.not_lt]at e;simp only[cw,dT,aoA];rw[ape e];rfl
  ·exact h
theorem Mi (h:cv N ρ I w)(id:Nat):cn N ρ I w ρ (e5 I id) w:=by
 unfold e5;rw[eI];exact cn.shut h id
theorem MM:∀(l:List J) (I:aD),cv N ρ I w->cn N ρ I w ρ (uk I l) w/\(∀i,af.at (uk I l) i=af.at I i)/\(∀i,cw I i=true->cw (uk I l) i=true)/\
 ∀j id,j<l.length->l.getD j .un= .vec id->cw (uk I l) id=true
 |[],I,h=>⟨cn.refl h,fun _=>rfl,fun _ h=>h,fun j id aI=>by simp at aI⟩
 |v::aH,I,h=>by
  have aP:cn N ρ I w ρ (lq I v) w/\(∀i,af.at (lq I v) i=af.at I i)/\(∀i,cw I i=true->cw (lq I v) i=true)/\∀id,v= .vec id->cw (lq I v) id=true:=by
   cases v with
   |vec id=>exact⟨Mi h id,M5 I id,fun i hi=>Bq I id i (.inr hi),fun my e=>by cases e;exact Bq I id id (.inl rfl)⟩
   |_=>exact⟨cn.refl h,fun _=>rfl,fun _ h=>h,fun id e=>by cases e⟩
  obtain⟨U,aa,az,aW⟩:=aP;obtain⟨a6,bj,bH,dO⟩:=MM aH (lq I v) U.rel;refine⟨U.trans a6,fun i=>(bj i).trans (aa i),fun i hi=>bH i (az i hi),fun j id aI aP=> ?_⟩
  cases j with
  |zero=>exact bH id (aW id (by simpa using aP))
  |succ j=>exact dO j id (by simpa using aI) (by simpa using aP)
theorem XO (h:cv N ρ I w)(v:J):cn N ρ I w ρ (freeze I v) w/\(∀i,af.at (freeze I v) i=af.at I i)/\(∀i,cw I i=true->cw (freeze I v) i=true)/\
 ∀id,wX id v->cw (freeze I v) id=true:=by
 cases v with
 |vec id=>exact⟨Mi h id,M5 I id,fun i hi=>Bq I id i (.inr hi),fun my e=>by cases e;exact Bq I id id (.inl rfl)⟩
 |agg l=>
  obtain⟨U,aa,az,aW⟩:=MM l I h;exact⟨U,aa,az,fun id ⟨i,hi,e⟩=>aW i id hi e⟩
 |_=>exact⟨cn.refl h,fun _=>rfl,fun _ h=>h,fun id e=>e.elim⟩
theorem pK:∀(l:List J) (I:aD),cv N ρ I w->cn N ρ I w ρ (cD I l) w/\(∀i,af.at (cD I l) i=af.at I i)/\(∀i,cw I i=true->cw (cD I l) i=true)/\
 ∀j id,j<l.length->wX id (l.getD j .un)->cw (cD I l) id=true
 |[],I,h=>⟨cn.refl h,fun _=>rfl,fun _ h=>h,fun j id aI=>by simp at aI⟩
 |v::aH,I,h=>by
  obtain⟨U,aa,az,aW⟩:=XO h v;obtain⟨a6,bj,bH,dO⟩:=pK aH (freeze I v) U.rel;refine⟨U.trans a6,fun i=>(bj i).trans (aa i),fun i hi=>bH i (az i hi),fun j id aI aP=> ?_⟩
  cases j with
  |zero=>exact bH id (aW id (by simpa using aP))
  |succ j=>exact dO j id (by simpa using aI) (by simpa using aP)
theorem abG (h:cv N ρ I w){id:Nat}{aw:Loc}(ax:ρ[id]? =some aw)(aU:cw I id=true):
 bB (aN N ρ I) w (af.at I id).data (.slice aw.a (af.at I id).len aw.cap):=by
 cases aF:af.at I id with
 |ad k l=>have:=qK h ax aU (t:= .aB (.cu k)) (by rw[aF];exact js.2 rfl);rw[aF]at this;exact this
 |ar ak l=>have:=qK h ax aU (t:= .aB (.dB ak)) (by rw[aF];exact apz ak);rw[aF]at this;exact this
 |_=>exact .undef _ rfl
theorem M6 (h:cv N ρ I w){dY:aD}(cF:∀i,af.at I i=af.at dY i)(s:cg){t:J}{u:Value}(au:eD (aN N ρ I) w ρ I t u)(aU:∀id,t= .vec id->cw I id=true):
 eD (aN N ρ I) w ρ I (s.norm dY t) u:=by
 have vec:∀id,t= .vec id->eD (aN N ρ I) w ρ I (.d (af.at dY id).data) u:=fun id e=>by
  subst e;obtain⟨aw,ax,hu,_⟩:=au;rw[hu,<-cF];exact abG h ax (aU id rfl)
 unfold cg.norm;split
 ·obtain⟨a,rfl⟩:=au;exact .jg _ _ _
 ·exact vec _ rfl
 ·obtain⟨a,rfl⟩:=au;exact .kN _ _ _
 ·exact vec _ rfl
 ·have au:u= .bool true:=au;subst au;exact .bool true
 ·have au:u= .bool false:=au;subst au;exact .bool false
 ·exact au
theorem Oq (dY:aD):∀(cs:List cg) (aH:List J) (i:Nat),i<aH.length->(iE dY cs aH).getD i .un=aH.getD i .un\/∃s:cg,(iE dY cs aH).getD i .un=s.norm dY (aH.getD i .un)
 |[],aH,i,h=>by cases aH<;>exact .inl rfl
 |s::dK,[],i,h=>by simp at h
 |s::dK,v::aH,0,h=> .inr ⟨s,rfl⟩
 |s::dK,v::aH,i+1,h=>by
  have:=Oq dY dK aH i (by simpa using h);simpa[iE]using this
theorem Mj (h:cv N ρ I w){dY:aD}(cF:∀i,af.at I i=af.at dY i)(cs:List cg){l:List J}{u:Value}(au:ig (aN N ρ I) w ρ I (.agg l) u)(aU:∀id,wX id (.agg l)->cw I id=true):
 ig (aN N ρ I) w ρ I (.agg (iE dY cs l)) u:=by
 obtain⟨a,U,aa,az⟩:=au;refine⟨a,U,by rw[yc];exact aa,fun i hi=> ?_⟩;rw[yc]at hi;rcases Oq dY cs l i hi with e|⟨s,e⟩
 ·rw[e];exact az i hi
 ·rw[e];exact M6 h cF s (az i hi) fun id dJ=>aU id ⟨i,hi,dJ⟩
theorem YB (h:cv N ρ I w){dY:aD}(cF:∀i,af.at I i=af.at dY i)(t:a7){v:J}{u:Value}(au:ig (aN N ρ I) w ρ I v u)(aU:∀id,wX id v->cw I id=true):
 ig (aN N ρ I) w ρ I (t.norm dY v) u:=by
 cases t with
 |aB s=>
  cases v with
  |agg l=>cases s<;>exact au
  |rw r=>cases s<;>exact au
  |tup l=>exact au.elim
  |_=>exact .c3 (M6 h cF s au fun id e=>aU id (by rw[e];rfl))
 |struct bY cs=>
  cases v with
  |agg l=>exact Mj h cF cs au aU
  |_=>exact au
 |arr n e cs=>
  cases v with
  |agg l=>exact Mj h cF cs au aU
  |_=>exact au
 |no=>cases v<;>exact au
theorem pL {Z Z':Nat->Prop}{w w':World}{ρ ρ':List Loc}{I aj:aD}{v:J}{u:Value}(aE:v.plain=true)(h:ig Z w ρ I v u)(an:∀x u,bB Z w x u->bB Z' w' x u):
 ig Z' w' ρ' aj v u:=h.mono an fun id av=>(GN (id:=id) aE (by
  cases v with
  |tup l=>exact h.elim
  |_=>exact av)).elim
theorem cn.more {w':World}(h:cv N ρ I w)(U:w'.os=w.os)(aa:w'.tape=w.tape)(az:w'.output=w.output)(ay:w.heap.size<=w'.heap.size)
 (ae:∀b,b<w.heap.size->w'.heap[b]? =w.heap[b]?):cn N ρ I w ρ I w':=by
 have cx:Fr ρ I w ρ I w':=⟨U,aa,az,ay,fun b ag _=>ae b ag,fun b ag=> .inl ag⟩;exact{cx with rel:=h.s7 cx h.len (fun _ _ _ _ i _ _=>eX.refl ρ I i) (fun i l ax=> .inl ⟨ax,rfl,id,fun b ag=>ae b (h.lt i l b ax ag)⟩),same:=eX.refl ρ I}
end
theorem vY {tb:TypeId->b7}{tm:List J}{I:aD}:∀{rvs:List ResultVar},q0 tb tm I rvs=true->lj tb tm I rvs=true/\jS tb tm I rvs=[]
 |[],_=>⟨rfl,rfl⟩
 | .tmp t::r,h=>vY (rvs:=r) h
 | .cell a t::r,h=>by
  unfold q0 at h;split at h
  ·rename_i id off v aj U aa;obtain⟨a6,bj⟩:=vY (rvs:=r) h;refine⟨by unfold lj;rw[aa,U];exact a6, ?_⟩;show(match hR (tb t).ty (b8 .un tm a) I with| .aZ s _ _=>eM s (jS tb tm I r)|_=>jS tb tm I r)=[];rw[aa];exact bj
  ·cases h
theorem Br {P:Program}(E:bw)(cW:gA P E){fn:Func}{rvs:List ResultVar}(h:fn.results=rvs.toArray){N:Nat->Prop}{ρ:List Loc}{tm:List J}{I:aD}{a:Act}{w:World}
 (ay:eC N ρ tm I a w) (bh:lj E.tb tm I rvs=true) (qt:∀p∈jS E.tb tm I rvs,p):
 ∃aH:List Value,(results fn a.tmps).run P w= .ok (if rvs.length=1 then aH.getD 0 undef else .tuple aH.toArray) w/\aH.length=rvs.length/\(gO E.tb tm I rvs).length=rvs.length/\
  ∀i,bL (aN N ρ I) w ρ I ((gO E.tb tm I rvs).getD i .un) (aH.getD i undef):=by
 have key:∀g:ResultVar->Sem Value,(∀t,g (.tmp t)=pure (a.tmps.getD t undef))->(∀x t,g (.cell x t)=do loadVar t (<-asAddr (a.tmps.getD x undef)))->
  ∀rvs:List ResultVar,lj E.tb tm I rvs=true->(∀p∈jS E.tb tm I rvs,p)->∃aH:List Value,(rvs.mapM g).run P w= .ok aH w/\aH.length=rvs.length/\(gO E.tb tm I rvs).length=rvs.length/\
   ∀i,bL (aN N ρ I) w ρ I ((gO E.tb tm I rvs).getD i .un) (aH.getD i undef):=by
  intro g g1 g2 rvs
  induction rvs with
  |nil=>exact fun _ _=>⟨[],by simp,rfl,rfl,fun i=>by show bL _ _ _ _ (([]:List J).getD i .un) _;simpa using bL.un⟩
  |cons r rs bF=>
   intro bh qt
   have a8:∃u,(g r).run P w= .ok u w/\∃x,gO E.tb tm I (r::rs)=x::gO E.tb tm I rs/\bL (aN N ρ I) w ρ I x u/\lj E.tb tm I rs=true/\∀p∈jS E.tb tm I rs,p:=by
    cases r with
    |tmp t=>exact⟨_,by rw[g1];rfl,_,rfl,by rw[dT];exact ay.en.at_ t,bh,qt⟩
    |cell x t=>
     have run:∀s v aj,hR (E.tb t).ty (b8 .un tm x) I= .aZ s v aj->(∃b off,a.tmps.getD x undef= .pointer (some ⟨b,off,none⟩))->lj E.tb tm I rs=true->
      ∃u,(g (.cell x t)).run P w= .ok u w/\∃y,gO E.tb tm I (.cell x t::rs)=y::gO E.tb tm I rs/\bL (aN N ρ I) w ρ I y u/\lj E.tb tm I rs=true/\∀p∈jS E.tb tm I rs,p:=fun s v aj ax ⟨b,off,hu⟩ bh=>by
      have aje:jS E.tb tm I (.cell x t::rs)=s++jS E.tb tm I rs:=by
       show(match hR (E.tb t).ty (b8 .un tm x) I with| .aZ s _ _=>eM s (jS E.tb tm I rs)|_=>jS E.tb tm I rs)=_;rw[ax,<-fV]
      rw[aje]at qt;obtain⟨u,_,bj,bH⟩:=GC (cW.ty t) ay.eO (op:= .tmp x) ay.en (by rw[show aY tm (.tmp x)=b8 .un tm x from rfl];exact ax) (fun p aE=>qt p (List.mem_append_left _ aE));refine⟨u, ?_,v, ?_,bH,bh,fun p aE=>qt p (List.mem_append_right _ aE)⟩
      ·rw[g2,hu];rw[show a.eval (.tmp x)=a.tmps.getD x undef from rfl,hu]at bj;simpa[Instr.loadAt,Instr.sureAddr,asAddr]using bj
      ·show(match hR (E.tb t).ty (b8 .un tm x) I with| .aZ _ v _=>v|_=> .any)::_=_;rw[ax]
     have pe:=ay.en.at_ x;rw[<-dT]at pe;unfold lj at bh;split at bh
     ·rename_i id off s v aj ai ax;rw[ai]at pe;obtain⟨aw,b,_,_,_,hu⟩:=pe;exact run _ _ _ ax ⟨_,_,hu⟩ bh
     ·rename_i id q off s v aj ai ax;rw[ai]at pe;obtain⟨aw,b,_,_,_,hu,_⟩:=pe;exact run _ _ _ ax ⟨_,_,hu⟩ bh
     ·cases bh
   obtain⟨u,U,x,aa,az,aW,bA⟩:=a8;obtain⟨aH,i1,i2,i3,i4⟩:=bF aW bA;refine⟨u::aH, ?_,by simp[i2],by rw[aa];simp[i3],fun i=> ?_⟩
   ·simp[List.mapM_cons,U,i1]
   ·rw[aa]
    cases i with
    |zero=>exact az
    |succ i=>simpa using i4 i
 let g:ResultVar->Sem Value:=fun r=>match r with| .tmp t=>pure (a.tmps.getD t undef)| .cell x t=>do loadVar t (<-asAddr (a.tmps.getD x undef))
 have e:results fn a.tmps=(do let aH<-fn.results.mapM g;pure (if h:aH.size=1 then aH[0]else .tuple aH)):=by
  unfold results
  rfl
 obtain⟨aH,U,aa,az,aW⟩:=key g (fun _=>rfl) (fun _ _=>rfl) rvs bh qt;refine⟨aH, ?_,aa,az,aW⟩;rw[e,h,List.mapM_toArray];simp only[Sem.run_bind,Sem.run_map,U,Result.andThen_ok]
 match aH,rvs,aa with
 |[],[],_=>rfl
 |[u],[_],_=>rfl
 |_::_::_,_::_::_,_=>
  rw[dif_neg (by simp),aox (by simp)];rfl
theorem nX {α:Type}{f:α->Bool}{l:List α}(h:eg f l=true)(d:α)(i:Nat)(hi:i<l.length):f (l.getD i d)=true:=by
 rw[fy,aoR]at h;have:l.getD i d=l[i]:=by simp[aoA,hi]
 rw[this];exact h _ (apF hi)
theorem qP (I:aD):∀(ts:List a7) (aH:List J),ts.length=aH.length->(a7.eU I ts aH).length=aH.length
 |[],[],_=>rfl
 |[],_::_,h=>by simp at h
 |_::_,[],h=>by simp at h
 |t::ts,v::aH,h=>apb (·+1) (qP I ts aH (by simpa using h))
theorem qQ (I:aD):∀(ts:List a7) (aH:List J),ts.length=aH.length->∀i,i<aH.length->∃t:a7,(a7.eU I ts aH).getD i .un=t.norm I (aH.getD i .un)
 |[],[],_,i,hi=>by simp at hi
 |[],_::_,h,_,_=>by simp at h
 |_::_,[],h,_,_=>by simp at h
 |t::ts,v::aH,h,0,_=>⟨t,rfl⟩
 |t::ts,v::aH,h,i+1,hi=>by
  obtain⟨t',e⟩:=qQ I ts aH (by simpa using h) i (by simpa using hi);exact⟨t',by simpa[a7.eU]using e⟩
theorem abH (I:aD)(t:a7)(l:List J):(t.norm I (.tup l))= .tup l:=by
 cases t with
 |aB s=>cases s<;>rfl
 |_=>rfl
theorem pM {N:Nat->Prop}{ρ:List Loc}{I:aD}{w:World}(h:cv N ρ I w){dY:aD}(cF:∀i,af.at I i=af.at dY i)(t:a7){v:J}{u:Value}(aE:(t.norm dY v).plain=true)
 (au:bL (aN N ρ I) w ρ I v u) (aU:∀id,wX id v->cw I id=true):ig (aN N ρ I) w ρ I (t.norm dY v) u:=by
 refine YB h cF t ?_ aU
 cases v with
 |tup l=>rw[abH]at aE;cases aE
 |_=>exact au
section
variable {P:Program}
def iM (P:Program)(c:Code)(S:e2)(K:hd->e2->Prop):Prop:=
 ∀(N:Nat->Prop) (a:Act) (w:World) (ρ:List Loc),eC N ρ S.tm S.I a w->c.wp P (fun e b5 w'=>∃b_:hd,e=b_.to/\m0 N ρ S.I a w (Code.eH c) (fun tm I=>K b_ ⟨tm,I⟩) b5 w') a w
def EB (E:bw)(rvs:List ResultVar)(K:J->aD->Prop):hd->e2->Prop:=fun e S=>
 match e with
 | .normal| .ret=>(match lj E.tb S.tm S.I rvs with|true=>gC (jS E.tb S.tm S.I rvs) (K (one (gO E.tb S.tm S.I rvs)) S.I)|false=>False)
 |_=>False
theorem iM.of (E:bw)(cW:gA P E){c:Code}{bu:Nat}{S:e2}{K:hd->e2->Prop}(h:gQ E c bu S K):iM P c S K:=fun _ a w ρ ay=>Hd E cW c bu S K a w ρ h ay
theorem M7 (E:bw)(cW:gA P E)
 {f:FuncId} {fn:Func} {c:Code} (aU:P.funcs[f]? =some fn) (ag:fn.body=some c) {rvs:List ResultVar} (an:fn.results=rvs.toArray)
 {N:Nat->Prop} {ρ:List Loc} {I:aD} {w:World} {args:List J} {cm:Array Value} {K:J->aD->Prop} (h:iM P c ⟨pad fn.ntmps args,I⟩ (EB E rvs K)) (aF:cv N ρ I w)
 (ax:args.length=cm.size) (aR:∀i,i<args.length->bL (aN N ρ I) w ρ I (args.getD i .un) (cm.getD i undef)):
 Calls P f cm w fun e w'=>∃(rs:List J) (aj:aD) (ρ':List Loc) (aH:List Value),e= .returned (if rvs.length=1 then aH.getD 0 undef else .tuple aH.toArray)/\rs.length=rvs.length/\aH.length=rvs.length/\
  K (one rs) aj/\cv N ρ' aj w'/\Fr ρ I w ρ' aj w'/\∀i,bL (aN N ρ' aj) w' ρ' aj (rs.getD i .un) (aH.getD i undef):=by
 refine calls_of_wp aU ag ?_
 have ay:eC N ρ (pad fn.ntmps args) I {tmps:=cm++Array.replicate (fn.ntmps-cm.size) undef,defers:=[]} w:=by
  refine⟨aF,⟨by rw[sF];simp[ax],fun t=> ?_⟩,rfl⟩;rw[sF]
  by_cases au:t<args.length
  ·have aA:(args++List.replicate (fn.ntmps-args.length) J.un).getD t .un=args.getD t .un:=by simp[aoA,apt au]
   have aL:(cm++Array.replicate (fn.ntmps-cm.size) undef).getD t undef=cm.getD t undef:=by simp[aoH,aq0 (show t<cm.size by omega)]
   rw[aA,aL];exact aR t au
  ·have aA:(args++List.replicate (fn.ntmps-args.length) J.un).getD t .un= .un:=by
    rw[aoA,apJ (by omega),ap1];split<;>rfl
   have aL:(cm++Array.replicate (fn.ntmps-cm.size) undef).getD t undef=undef:=by
    rw[aoH,Array.getElem?_append_right (by omega),Array.getElem?_replicate];split<;>rfl
   rw[aA,aL];exact bL.un
 refine wp_mono (h N _ w ρ ay) fun e b5 w' b6=> ?_;obtain⟨b_,rfl,aE⟩:=b6;obtain⟨dI,aj,ρ',a6,bj,bH⟩:=aE.ex
 have fin:(match lj E.tb dI aj rvs with|true=>gC (jS E.tb dI aj rvs) (K (one (gO E.tb dI aj rvs)) aj)|false=>False)->b5.defers=[]/\∃v,(results fn b5.tmps).run P w'= .ok v w'/\
  ∃(rs:List J) (aj:aD) (ρ':List Loc) (aH:List Value),Ending.returned v= .returned (if rvs.length=1 then aH.getD 0 undef else .tuple aH.toArray)/\rs.length=rvs.length/\aH.length=rvs.length/\
  K (one rs) aj/\cv N ρ' aj w'/\Fr ρ I w ρ' aj w'/\∀i,bL (aN N ρ' aj) w' ρ' aj (rs.getD i .un) (aH.getD i undef):=fun ae=>by
  split at ae;rotate_left
  ·exact ae.elim
  rename_i bh;rw[gY]at ae;obtain⟨qt,ae⟩:=ae;obtain⟨aH,dC,dD,dR,la⟩:=Br E cW an bj bh qt;exact⟨bj.hN,_,dC,_,aj,ρ',aH,rfl,dR,dD,ae,bj.eO,bH,la⟩
 cases b_ with
 |normal=>exact fin a6
 |ret=>exact fin a6
 |_=>exact a6.elim
theorem x8 (E:bw)(cW:gA P E)
 {f:FuncId} {fn:Func} {c:Code} (aU:P.funcs[f]? =some fn) (ag:fn.body=some c) {rvs:List ResultVar} (an:fn.results=rvs.toArray)
 {N:Nat->Prop} {ρ:List Loc} {I:aD} {w:World} {args:List J} {cm:Array Value} {K:J->aD->Prop} (h:mQ E fn.ntmps rvs c args I K) (aF:cv N ρ I w)
 (ax:args.length=cm.size) (aR:∀i,i<args.length->bL (aN N ρ I) w ρ I (args.getD i .un) (cm.getD i undef)):
 Calls P f cm w fun e w'=>∃(rs:List J) (aj:aD) (ρ':List Loc) (aH:List Value),e= .returned (if rvs.length=1 then aH.getD 0 undef else .tuple aH.toArray)/\rs.length=rvs.length/\aH.length=rvs.length/\
  K (one rs) aj/\cv N ρ' aj w'/\Fr ρ I w ρ' aj w'/\∀i,bL (aN N ρ' aj) w' ρ' aj (rs.getD i .un) (aH.getD i undef):=by
 refine M7 E cW aU ag an (.of E cW (bu:=1000000) ?_) aF ax aR;unfold mQ at h;exact h
end
end Go.al
end
section
namespace Go.al
section
variable {P:Program}
theorem He {f:FuncId}{fn:Func}{c:Code}(aU:P.funcs[f]? =some fn)(ag:fn.body=some c)(av:(fn.name== "runtime.NumGoroutine")=false){rvs:List ResultVar}
 {ps ts:List a7} (gJ:ts.length=rvs.length) {T:List J->(J->Prop)->Prop}
 (gg:∀args K,T args K->∀(N:Nat->Prop) (w:World) (cm:Array Value),cv N [] [] w->args.length=cm.size->(∀i,i<args.length->bL (aN N [] []) w [] [] (args.getD i .un) (cm.getD i undef))->
   Calls P f cm w fun e w'=>∃(nh:Nat->Prop) (rs:List J) (aj:aD) (ρ':List Loc) (aH:List Value),e= .returned (if rvs.length=1 then aH.getD 0 undef else .tuple aH.toArray)/\rs.length=rvs.length/\aH.length=rvs.length/\
    mm ts K (one rs) aj/\(∀b,N b->nh b)/\cv nh ρ' aj w'/\Fr [] [] w ρ' aj w'/\∀i,bL (aN nh ρ' aj) w' ρ' aj (rs.getD i .un) (aH.getD i undef)):ie P f (iB ps T):=by
 refine⟨⟨fn,aU,by rw[ag];rfl,av⟩, ?_⟩;intro N ρ I w args cm K h aF ax aR;unfold iB at h;split at h;rotate_left
 ·exact h.elim
 rename_i U aa;have hlen:ps.length=args.length:=by have:=aoz U;rwa [cG,cG]at this
 obtain⟨s1,s2,k7,mD⟩:=pK args I aF;have y8:=qP I ps args hlen
 have hT:cv (aN N ρ (cD I args)) [] [] w:=
  {len:=rfl
   fc:=fun b ag=>by
    rcases ag with ag|⟨i,aw,aA,aL,_⟩
    ·exact aF.fc b ag
    ·exact aF.lt i aw b aA aL
   lt:=fun i aw b e=>by simp at e
   inj:=fun i j li cC b e=>by simp at e
   fK:=fun i aw b e=>by simp at e
   ob:=fun i aw e=>by simp at e}
 have ga:∀i,i<(a7.eU I ps args).length->bL (aN (aN N ρ (cD I args)) [] []) w [] [] ((a7.eU I ps args).getD i .un) (cm.getD i undef):=fun i hi=>by
  obtain⟨t,e⟩:=qQ I ps args hlen i (by omega);have aE:=nX aa .un i hi;rw[e]at aE⊢;have bA:=pM s1.rel s2 t aE (s1.lA (aR i (by omega))) fun id aP=>mD i id (by omega) aP;refine .hj (pL aE bA fun x u ai=>ai.mono fun b _ bq=>⟨rfl,fun dr=> ?_⟩);rcases dr with dr|⟨j,aw,aA,_⟩
  ·exact bq dr
  ·simp at aA
 refine(gg _ _ h _ w cm hT (by omega) ga).mono ?_;rintro e w' ⟨nh,rs,aj,ρ',aH,rfl,dh,l2,ae,fM,bI,cx,fJ⟩;obtain⟨q1,cE,cS,gx⟩:=pK rs aj bI;have hold:cn N ρ (cD I args) w ρ (cD I args) w':=cn.more s1.rel cx.os cx.tape cx.output cx.size fun b ag=>cx.ao b ag fun⟨i,aw,aA,_⟩=>by simp at aA
 have sS:∀x u,bB (aN nh ρ' (cD aj rs)) w' x u->bB (aN N ρ (cD I args)) w' x u:=fun x u ai=>
  ai.mono fun b _ bq=>⟨rfl,fun dr=>bq (.inl (fM b dr))⟩
 unfold mm at ae;split at ae;rotate_left
 ·exact ae.elim
 rename_i ir;refine⟨_,_,ρ,_,rfl,ae,s1.trans hold, ?_⟩
 have Su:∀j id,j<rs.length->wX id (rs.getD j .un)->cw (cD aj rs) id=true:=gx
 by_cases U:rvs.length=1
 ·rw[aoy U]
  match rs,aH,ts,(by omega:rs.length=1),(by omega:aH.length=1),(by omega:ts.length=1)with
  |[x],[u],[t],_,_,_=>
   have e:mc aj [t] (one [x])=t.norm aj x:=rfl;rw[e]at ir⊢;have aE:(t.norm aj x).plain=true:=ir;exact .hj (pL aE (pM q1.rel cE t aE (q1.lA (fJ 0)) fun id aP=>Su 0 id (by simp) aP) sS)
 ·rw[aox U]
  have aA:one rs= .tup rs:=by
   match rs,dh with
   |[],_=>rfl
   |[x],dh=>exact absurd dh.symm U
   |_::_::_,_=>rfl
  have aL:∀l,mc aj ts (.tup l)= .tup (a7.eU aj ts l):=fun l=>by
   match ts,gJ with
   |[],_=>rfl
   |[x],gJ=>exact absurd gJ.symm U
   |_::_::_,_=>rfl
  have b3:∀l,sn ts (.tup l)=eg J.plain l:=fun l=>by
   match ts,gJ with
   |[],_=>rfl
   |[x],gJ=>exact absurd gJ.symm U
   |_::_::_,_=>rfl
  rw[aA,aL]at ir⊢;rw[b3]at ir;have jm:=qP aj ts rs (by omega);refine⟨aH.toArray,rfl,by rw[jm];simp;omega,fun i hi=> ?_⟩;obtain⟨t,e⟩:=qQ aj ts rs (by omega) i (by omega);have aE:=nX ir .un i hi;rw[e]at aE⊢;have:=pL (ρ':=ρ) (aj:=cD I args) aE (pM q1.rel cE t aE (q1.lA (fJ i)) fun id aP=>Su i id (by omega) aP) sS;have cX:aH.toArray.getD i undef=aH.getD i undef:=by simp[aoH,aoA]
  rw[cX];exact this
theorem XP (E:bw)(cW:gA P E)
 {f:FuncId} {fn:Func} {c:Code} (aU:P.funcs[f]? =some fn) (ag:fn.body=some c) (av:(fn.name== "runtime.NumGoroutine")=false) {rvs:List ResultVar} (an:fn.results=rvs.toArray)
 {ps ts:List a7} (gJ:ts.length=rvs.length) {T:List J->(J->Prop)->Prop} (gg:∀args K,T args K->iM P c ⟨pad fn.ntmps args,[]⟩ (EB E rvs (mm ts K))):ie P f (iB ps T):=
 He aU ag av gJ fun args K h N w cm aF ax aR=>(M7 E cW aU ag an (gg args K h) aF ax aR).mono (by
  rintro e w' ⟨rs,aj,ρ',aH,U,dh,l2,ae,bI,cx,fJ⟩
  exact⟨N,rs,aj,ρ',aH,U,dh,l2,ae,fun _ h=>h,bI,cx,fJ⟩)
theorem YC (E:bw)(cW:gA P E)
 {f:FuncId} {fn:Func} {c:Code} (aU:P.funcs[f]? =some fn) (ag:fn.body=some c) (av:(fn.name== "runtime.NumGoroutine")=false) {rvs:List ResultVar} (an:fn.results=rvs.toArray)
 {ps ts:List a7} (gJ:ts.length=rvs.length) {T:List J->(J->Prop)->Prop} (gg:∀args K,T args K->mQ E fn.ntmps rvs c args [] (mm ts K)):ie P f (iB ps T):=
 He aU ag av gJ fun args K h N w cm aF ax aR=>(x8 E cW aU ag an (gg args K h) aF ax aR).mono (by
  rintro e w' ⟨rs,aj,ρ',aH,U,dh,l2,ae,bI,cx,fJ⟩
  exact⟨N,rs,aj,ρ',aH,U,dh,l2,ae,fun _ h=>h,bI,cx,fJ⟩)
end
end Go.al
end
