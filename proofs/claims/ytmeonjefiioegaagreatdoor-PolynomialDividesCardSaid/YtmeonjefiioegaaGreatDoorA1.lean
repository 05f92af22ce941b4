/- Helpers for the statements: conditions under which code does what is wanted, and proofs that they suffice. Condition: none. -/
import Derived.Test.YtmeonjefiioegaaGreatDoorA0
section
namespace Go.aj
open Go.WideMaps
section
variable {P:Program} {N:Nat->Prop} {ρ:List Loc} {I:aF} {w:World}
def rz (l:List Int):Value:= .agg ((l.map (Value.int .i64)).toArray)
theorem abk {a b:List Int}(h:rz a=rz b):a=b:=by
 unfold rz at h;injection h with h;have h:a.map (Value.int .i64)=b.map (Value.int .i64):=by simpa using h
 exact(List.map_inj_right (fun x y e=>by injection e)).1 h
theorem QA {Z:Nat->Prop}{r:List U}{u:Value}(h:nX Z w r u)(ae:kd r):u=rz (r.map U.toInt):=by
 rw[Hv h fun x ak=>(ae x ak).1,rz,ap5];rfl
theorem mapM_some {α β:Type}{f:α->Option β}:∀{l:List α},(∀i∈l,∃y,f i=some y)->∃lb,l.mapM f=some lb
 |[],_=>⟨[],rfl⟩
 |x::r,h=>by
  obtain⟨y,bn⟩:=h x (by simp);obtain⟨lb,Jt⟩:=mapM_some (f:=f) (l:=r) fun i hi=>h i (by simp[hi]);exact⟨y::lb,by rw[List.mapM_cons,bn,Jt];rfl⟩
theorem Pq {hN q:TypeId}{n:Nat}(A:ArrKey P hN q n)(aZ:P.underlying q=some (.int .i64))(cr:∃m,P.types.size=m+1){l:List Int}(az:l.length=n)(ae:∀x∈l,-9223372036854775808<=x/\x<=9223372036854775807):
 ∃x2,keyOf P hN (rz l)=some x2:=by
 have ai7:=A.keyType cr;obtain⟨m,hm⟩:=cr;unfold keyOf;simp only[A.hu];rw[aoB (by simp[ai7,rz,Value.formed,A.hu,A.size,az]),hm];unfold Program.keyLits;simp only[A.hu,rz,Value.cells];rw[aoB (by simp[A.size,az])]
 obtain⟨lb,Jt⟩:=mapM_some (f:=fun i=>P.keyLits (m+1) q (((l.map (Value.int .i64)).toArray.toList.drop (i*P.cellsOf q)).take (P.cellsOf q))) (l:=List.range n) (fun i hi=>by
  have hi:i<l.length:=by rw[az];simpa using hi
  have ak:=ae l[i] (apJ hi)
  have aA:(((l.map (Value.int .i64)).toArray.toList.drop (i*P.cellsOf q)).take (P.cellsOf q))=[Value.int .i64 l[i]]:=by
   rw[A.one,ao_]
   have aY:(l.map (Value.int .i64)).drop i=Value.int .i64 l[i]::(l.map (Value.int .i64)).drop (i+1):=by
    rw[apZ (by simpa using hi)];simp
   simp only[aY,List.take_succ_cons,List.take_zero]
  rw[aA];unfold Program.keyLits;rw[aZ]
  have hw:(Lit.int .i64 l[i]).wf=true:=by
   simp only[Lit.wf,aoM,aoG];exact⟨ak.1,ak.2⟩
  exact⟨[.int .i64 l[i]],by simp[hw]⟩)
 rw[Jt];exact⟨_,rfl⟩
theorem yl {n:Nat}{z:List U}{k:List Int}:∀{l:List (List U)},(∀r∈l,ji n r≠k)->dy n z l k=z/\mR n l k=false/\∀key v,key.map U.toInt=k->mg n key v l=l++[key++v]
 |[],_=>⟨rfl,rfl,fun _ _ _=>rfl⟩
 |r::l,h=>by
  obtain⟨aa,ad,ax⟩:=yl (n:=n) (z:=z) (k:=k) (l:=l) fun r ao=>h r (by simp[ao]);have bc:=h r (by simp);refine⟨by rw[dy,aoA bc,aa],by rw[mR,aoA bc,ad],fun key v ae=> ?_⟩;rw[mg,aoA (by rw[ae];exact bc),ax key v ae];rfl
theorem wv {n:Nat}{z:List U}{k:List Int}:∀{l:List (List U)} {j:Nat} {r:List U},(l.map (ji n)).Nodup->l[j]? =some r->ji n r=k->
 dy n z l k=r.drop n/\mR n l k=true/\∀key v,key.map U.toInt=k->mg n key v l=l.set j (key++v)
 |[],j,r,_,h,_=>by simp at h
 |x::l,0,r,_,h,ae=>by
  obtain rfl:x=r:=by simpa using h
  exact⟨by rw[dy,aoB ae],by rw[mR,aoB ae],fun key v e=>by rw[mg,aoB (by rw[e];exact ae)];rfl⟩
 |x::l,j+1,r,aY,h,ae=>by
  have h:l[j]? =some r:=by simpa using h
  simp only[ape,aqR]at aY;have ak:ji n x≠k:=fun e=>aY.1 (aoO.2 ⟨r,ap7 h,by rw[ae,e]⟩);obtain⟨aa,ad,ax⟩:=wv (z:=z) aY.2 h ae;refine⟨by rw[dy,aoA ak,aa],by rw[mR,aoA ak,ad],fun key v e=> ?_⟩;rw[mg,aoA (by rw[e];exact ak),ax key v e];rfl
theorem G5 {tb:TypeId->b4}{t:TypeId}(h:sK P tb t=true){n:Nat}{hN e:TypeId}(hm:(tb t).mp=some (n,hN,e)):
 ∃q,P.underlying t=some (.map hN e)/\ArrKey P hN q n/\P.underlying q=some (.int .i64)/\(∃m,P.types.size=m+1)/\uJ (tb e).ty=true/\0<(tb e).ty.size/\∃g,P.info? e=some g/\IK (tb e).ty g.zero=true:=by
 unfold sK at h;rw[hm]at h;simp only at h;split at h
 ·rename_i k v m q hu ae;simp only[aoM]at h;obtain⟨⟨⟨⟨⟨⟨⟨⟨⟨aa,ad⟩,ax⟩,aV⟩,bp⟩,b1⟩,fM⟩,c6⟩,k6⟩,Fb⟩:=h;obtain rfl:=aoE aa;obtain rfl:=aoE ad;obtain rfl:=aoE ax
  have aZ:P.underlying q=some (.int .i64):=by
   split at b1
   ·rename_i aZ;exact aZ
   ·cases b1
  refine⟨q,hu,⟨ae,by unfold Program.plainKey;rw[aZ],aoE aV,aoE bp⟩,aZ, ?_,k6, ?_, ?_⟩
  ·have:0+1<=P.types.size:=ao9 fM;exact⟨P.types.size-1,by omega⟩
  ·have:0+1<=(tb v).ty.size:=ao9 c6;omega
  ·split at Fb
   ·rename_i g bg;exact⟨g,bg,Fb⟩
   ·cases Fb
 ·cases h
theorem GU {t:bb}(h:uJ t=true):(∃s,t= .aE s)\/∃bW cs,t= .struct bW cs/\cs.length<=8/\cs.length≠1:=by
 cases t with
 |aE s=>exact .inl ⟨s,rfl⟩
 |struct bW cs=>
  refine .inr ⟨bW,cs,rfl, ?_⟩;unfold uJ at h;simp only at h;split at h
  ·rename_i aa ad;rw[cO]at aa ad;constructor
   ·exact Nat.le_of_not_lt fun bG=>by
     have:Nat.blt 8 cs.length=true:=Nat.ble_eq_true_of_le bG;rw[this]at aa;cases aa
   ·intro e;rw[e]at ad;cases ad
  ·cases h
 |_=>cases h
theorem W_ {t:bb}(au:uJ t=true){r:List U}{u:Value}(ao:q6 (aL N ρ I) w r u)(az:r.length=t.size){s:List Prop}{v:R}(h:C8 t r=some (s,v))(ay:∀p∈s,p):
 iq (aL N ρ I) w ρ I v u:=by
 rcases GU au with⟨st,rfl⟩|⟨bW,cs,rfl,c6,aa⟩
 ·simp only[C8,aoY,ao5]at h;obtain⟨rfl,rfl⟩:=h;rcases ao with⟨x,rfl,ak⟩|⟨cT,_⟩
  ·exact .dc (tY ak (ay _ (by simp)))
  ·exact absurd az cT
 ·have az:r.length=cs.length:=by rw[az];simp[bb.size,cO]
  have nw:(bb.struct bW cs).ja=false:=by
   cases ah:(bb.struct bW cs).ja with
   |false=>rfl
   |true=>
    have:8+1<=bV cs:=ao9 ah;rw[cO]at this;omega
  simp only[C8,nw,aoY,ao5]at h;obtain⟨rfl,rfl⟩:=h;rcases ao with⟨x,rfl,ak⟩|⟨_,a,rfl,a1,a2⟩
  ·simp at az;omega
  ·obtain⟨fi,fb⟩:=GQ (Z:=aL N ρ I) (w:=w) (ρ:=ρ) (I:=I) cs r 0 (fun m=>a.getD m undef) (fun m hm=>by rw[ao8];exact a2 m (by omega)) ay;exact⟨a,rfl,by omega,fun i hi=>fb i (by omega)⟩
theorem abl {t:bb}(au:uJ t=true){v:R}{u:Value}{r:List U}(h:n4 I t v=some r)(aM:bF (aL N ρ I) w ρ I v u):r.length=t.size/\q6 (aL N ρ I) w r u:=by
 have iK:t≠ .no:=fun e=>by rw[e]at au;cases au
 obtain⟨aa,ad,ax⟩:=Gu (Z:=aL N ρ I) h iK aM;refine⟨aa, ?_⟩;rcases GU au with⟨st,rfl⟩|⟨bW,cs,rfl,c6,cT⟩
 ·have az:r.length=1:=aa;obtain⟨x,rfl⟩:=List.length_eq_one_iff.1 az
  have aY:v.hj=true:=by
   simp only[n4]at h;split at h
   ·rename_i aY;exact aY
   ·cases h
  have aH:=(wb (Gr aY) aM).2;have:=ax 0 (by simp[bb.size]);rw[yy aH]at this;exact .inl ⟨x,rfl,by simpa using this⟩
 ·have az:r.length=cs.length:=by rw[aa];simp[bb.size,cO]
  have s7:∃a,u= .agg a:=by
   simp only[n4]at h;split at h
   ·obtain⟨a,rfl,_⟩:=aM;exact⟨a,rfl⟩
   ·obtain⟨a,rfl,_⟩:=aM;exact⟨a,rfl⟩
   ·cases h
  obtain⟨a,rfl⟩:=s7;refine .inr ⟨by omega,a,rfl, ?_,fun j aK=>ax j (by omega)⟩;have:a.size=(bb.struct bW cs).size:=ad;omega
theorem abm {t:bb}{e:TypeId}(aM:uJ t=true){g:TypeInfo}(bg:P.info? e=some g)(bm:IK t g.zero=true)(Z:Nat->Prop):
 ∃z,(zeroValue e).run P w= .ok z w/\q6 Z w (pU t) z/\(pU t).length=t.size:=by
 cases ko:g.zero with
 |none=>rw[ko]at bm;cases t<;>cases bm
 |some z=>
  rw[ko]at bm;refine⟨z,by simp[zeroValue,typeInfo,bg,ko], ?_⟩;rcases GU aM with⟨st,rfl⟩|⟨bW,cs,rfl,c6,cT⟩
  ·exact⟨.inl ⟨_,rfl,MD bm⟩,rfl⟩
  ·have hlen:(pU (.struct bW cs)).length=cs.length:=by simp[pU,bb.cells,dP]
   cases z with
   |agg aI=>
    obtain⟨aa,ad⟩:=qL (Z:=Z) (w:=w) (show mO cs aI.toList=true from bm);refine⟨.inr ⟨by omega,aI,rfl,by rw[hlen,<-aa];simp,fun j aK=> ?_⟩,by rw[hlen];simp[bb.size,cO]⟩;have:=ad j (by omega);simpa[pU,bb.cells,aoJ,aoC]using this
   |_=>cases bm
theorem XL {tb:TypeId->b4}{t:TypeId}(iN:sK P tb t=true)(bI:ct N ρ I w){ch:List Prop}{v:R}{al:aF}(h:yp tb (tb t) I= .a6 ch v al):
 ∃u w' ρ',(Instr.makeMap t none).run P w= .ok u w'/\cn N ρ I w ρ' al w'/\bF (aL N ρ' al) w' ρ' al v u:=by
 unfold yp at h;split at h;rotate_left
 ·cases h
 rename_i n hN e hm;simp only[bT.a6.injEq]at h;obtain⟨rfl,rfl,rfl⟩:=h;obtain⟨q,_,_,_,_,_,og,_⟩:=G5 iN hm;rw[fZ,cO];refine⟨_,_,_,by simp[Instr.makeMap],cn.alloc bI false (.map n (n+(tb e).ty.size) []) (.map #[] 0) 0 ⟨w.heap.size,#[],0,rfl,nU w _,rfl,by omega,by simp,fun i hi=>by simp at hi⟩, .dc ⟨_,w.heap.size,qZ bI _,rfl,rfl⟩⟩
theorem Pr {hN q:TypeId}{n:Nat}(A:ArrKey P hN q n)(aZ:P.underlying q=some (.int .i64))(cr:∃m,P.types.size=m+1){Z:Nat->Prop}{es:Array MapEntry}{l:List (List U)}(hlen:es.size=l.length)
 (ai8:∀i,i<l.length->∃e,es[i]? =some e/\n<=(l.getD i []).length/\kd ((l.getD i []).take n)/\nX Z w ((l.getD i []).take n) e.key) {key:List U} {u:Value} (ae:kd key) (az:key.length=n) (hu:nX Z w key u):
 (∀em,(Instr.checkKey em 10000 hN u).run P w= .ok () w)/\(Instr.keyThatStays u u).run P w= .ok u w/\
 (((Instr.findKey hN u es.toList).run P w= .ok none w/\∀r∈l,ji n r≠key.map U.toInt)\/
   ∃j e r,(Instr.findKey hN u es.toList).run P w= .ok (some (j,e.val)) w/\es[j]? =some e/\e.key=u/\l[j]? =some r/\ji n r=key.map U.toInt):=by
 have K:=A.law
 have Ad:∀{r:List U},kd r->∀x∈r.map U.toInt,-9223372036854775808<=x/\x<=9223372036854775807:=fun h x ak=>by
  obtain⟨y,bn,rfl⟩:=aoO.1 ak;exact(h y bn).2
 have jn:=QA hu ae;obtain⟨x2,ti⟩:=Pq A aZ cr (l:=key.map U.toInt) (by simp[az]) (Ad ae);rw[<-jn]at ti
 have each:∀i (hi:i<l.length),∃e,es[i]? =some e/\e.key=rz (ji n l[i])/\∃x2,keyOf P hN e.key=some x2:=fun i hi=>by
  obtain⟨e,aA,aG,bR,cY⟩:=ai8 i hi;have bg:l.getD i []=l[i]:=by simp[aoC,hi]
  rw[bg]at aG bR cY;have:=QA cY bR;refine⟨e,aA,this, ?_⟩;rw[this];exact Pq A aZ cr (by simp;omega) (Ad bR)
 have keys:∀e∈es.toList,∃x2,keyOf P hN e.key=some x2:=fun e he=>by
  obtain⟨i,hi⟩:=List.mem_iff_getElem?.1 he;have ot:i<l.length:=by have:=(apt.1 hi).1;simp at this;omega
  obtain⟨cb,aA,_,bR⟩:=each i ot;rw[aqP,aA]at hi;obtain rfl:=aoL hi;exact bR
 refine⟨fun em=>K.check w em ti,K.stays w ti, ?_⟩;rcases K.find w ti es.toList keys with⟨aa,ad⟩|⟨j,e,aa,ad,ax⟩
 ·refine .inl ⟨aa,fun r ao td=> ?_⟩;obtain⟨i,hi,rfl⟩:=List.mem_iff_getElem.1 ao;obtain⟨e,aA,aG,_⟩:=each i hi;exact ad e (ap7 (by rw[aqP];exact aA)) (by rw[aG,td,jn])
 ·rw[aqP]at ad;have iI:j<l.length:=by have:=(aqS.1 ad).1;omega
  obtain⟨cb,aA,aG,_⟩:=each j iI;rw[ad]at aA;obtain rfl:=aoL aA;refine .inr ⟨j,e,l[j],aa,ad,ax,aoQ iI, ?_⟩;rw[aG,jn]at ax;exact abk ax
theorem Yu {tb:TypeId->b4}{t:TypeId}(iN:sK P tb t=true)(bI:ct N ρ I w){m k:R}{AT nh:Value}(hm:bF (aL N ρ I) w ρ I m AT)(ae:bF (aL N ρ I) w ρ I k nh)
 {c:Bool} {ch:List Prop} {v:R} {al:aF} (h:oL tb (tb t) m k c I= .a6 ch v al) (ay:∀p∈ch,p):
 ∃u,al=I/\(Instr.lookup t AT nh c).run P w= .ok u w/\bF (aL N ρ I) w ρ I v u:=by
 unfold oL at h;split at h;rotate_left
 ·cases h
 rename_i n hN e id Ju;split at h;rotate_left
 ·cases h
 rename_i n' an l key aH IQ;split at h;rotate_left
 ·cases h
 rename_i bd aB cr xF kW;simp only[bT.a6.injEq]at h;obtain⟨rfl,rfl,rfl⟩:=h;obtain rfl:=aoE aB;have cr:=aoE cr;have xF:=aoE xF;obtain⟨q,hu,A,aZ,j4,nD,og,g,bg,bm⟩:=G5 iN Ju;have fF:kd key:=ay _ (aqz ..);obtain⟨AS,a7,bl,bH,dJ⟩:=wg IQ ae;have Ae:nX (aL N ρ I) w key nh:=⟨AS,a7,by omega,fun j aK=>dJ j (by omega)⟩;obtain⟨aw,b,az,ah,rfl⟩:=hm;have cf:=bI.ob id aw az;rw[aH]at cf;obtain⟨ey,es,AU,bu,br,cQ,ld,jf,qD⟩:=cf;rw[ah]at bu;obtain rfl:=aoL bu;obtain⟨z,la,z2,z3⟩:=abm (w:=w) nD bg bm (aL N ρ I)
 obtain⟨f1,f2,f3⟩:=Pr A aZ j4 cQ (Z:=aL N ρ I) (w:=w) (fun i hi=>by
  obtain⟨cb,aA,aG,bR,cY,_⟩:=qD i hi
  exact⟨cb,aA,by omega,bR,cY⟩) fF (by omega) Ae
 have jZ:∃AV ok,(Instr.lookup t (.map (some b)) nh c).run P w= .ok (if c then .tuple #[AV, .bool ok]else AV) w/\ok=mR n' l (key.map U.toInt)/\
  q6 (aL N ρ I) w (dy n' (pU (tb e).ty) l (key.map U.toInt)) AV/\(dy n' (pU (tb e).ty) l (key.map U.toInt)).length=(tb e).ty.size:=by
  rcases f3 with⟨g1,g2⟩|⟨j,cb,r,g1,g2,g3,g4,g5⟩
  ·obtain⟨dG,dD,_⟩:=yl (z:=pU (tb e).ty) g2;refine⟨z,false, ?_,dD.symm,by rw[dG];exact z2,by rw[dG];exact z3⟩;simp[Instr.lookup,run_underlying hu,MapKept.run_getObj_map br,f1,g1,la,Result.andThen]
  ·obtain⟨dG,dD,_⟩:=wv (z:=pU (tb e).ty) jf g4 g5;have iI:=(apt.1 g4).1;obtain⟨aG,q1,cI,cV,gF,dX⟩:=qD j iI;rw[g2]at q1;obtain rfl:=aoL q1;have pb:l.getD j []=r:=by rw[aoC,g4];rfl
   rw[pb]at cI dX;refine⟨cb.val,true, ?_,dD.symm,by rw[dG];exact dX,by rw[dG,apP];simp only[Nat.add_eq]at cr;omega⟩;simp[Instr.lookup,run_underlying hu,MapKept.run_getObj_map br,f1,g1,Result.andThen]
 obtain⟨AV,ok,v1,v2,v3,v4⟩:=jZ;have gv:=W_ (ρ:=ρ) (I:=I) nD v3 v4 (s:=bd.1) (v:=bd.2) kW (fun p aD=>ay p (aqa _ aD));refine⟨_,rfl,v1, ?_⟩
 cases c with
 |false=>exact .ht gv
 |true=>
  refine⟨#[AV, .bool ok],rfl,rfl,fun i hi=> ?_⟩
  match i,hi with
  |0,_=>exact gv
  |1,_=>exact .dc (by rw[v2];exact bA.bool _)
theorem Ww {tb:TypeId->b4}{t:TypeId}(iN:sK P tb t=true)(bI:ct N ρ I w){m k x:R}{AT nh tL:Value}(hm:bF (aL N ρ I) w ρ I m AT)(ae:bF (aL N ρ I) w ρ I k nh)(ak:bF (aL N ρ I) w ρ I x tL)
 {ch:List Prop} {v:R} {al:aF} (h:sf tb (tb t) m k x I= .a6 ch v al) (ay:∀p∈ch,p):
 ∃w',v= .un/\(Instr.mapUpdate t AT nh tL).run P w= .ok () w'/\cn N ρ I w ρ al w':=by
 unfold sf at h;split at h;rotate_left
 ·cases h
 rename_i n hN e id Ju;split at h;rotate_left
 ·cases h
 rename_i n' an l key r en aH IQ qm;split at h;rotate_left
 ·cases h
 rename_i aB cr xF;simp only[bT.a6.injEq]at h;obtain⟨rfl,rfl,rfl⟩:=h;obtain rfl:=aoE aB;have cr:=aoE cr;simp only[Nat.add_eq]at cr;have xF:=aoE xF;obtain⟨q,hu,A,aZ,j4,nD,og,g,bg,bm⟩:=G5 iN Ju;have fF:kd key:=ay _ (aqz ..);obtain⟨AS,a7,bl,bH,dJ⟩:=wg IQ ae;have Ae:nX (aL N ρ I) w key nh:=⟨AS,a7,by omega,fun j aK=>dJ j (by omega)⟩;obtain⟨jo,ky⟩:=abl (w:=w) nD qm ak;obtain⟨aw,b,az,ah,rfl⟩:=hm;have cf:=bI.ob id aw az;rw[aH]at cf;obtain⟨ey,es,AU,bu,br,cQ,ld,jf,qD⟩:=cf;rw[ah]at bu;obtain rfl:=aoL bu
 obtain⟨f1,f2,f3⟩:=Pr A aZ j4 cQ (Z:=aL N ρ I) (w:=w) (fun i hi=>by
  obtain⟨cb,aA,aG,bR,cY,_⟩:=qD i hi
  exact⟨cb,aA,by omega,bR,cY⟩) fF (by omega) Ae
 have xp:b<w.heap.size:=bI.lt id aw b az ah
 have fin:∀(vi:Array MapEntry) (Af:Nat) (cy:List (List U)),mg n' key r l=cy->(Instr.mapUpdate t (.map (some b)) nh tL).run P w= .ok () {w with heap:=w.heap.setIfInBounds b (.map vi Af)}->
  vi.size=cy.length->(cy.map (ji n')).Nodup->(∀i,i<cy.length->∃e,vi[i]? =some e/\(cy.getD i []).length=an/\kd ((cy.getD i []).take n')/\nX (aL N ρ I) w ((cy.getD i []).take n') e.key/\q6 (aL N ρ I) w ((cy.getD i []).drop n') e.val)->
  ∃w',R.un= .un/\(Instr.mapUpdate t (.map (some b)) nh tL).run P w= .ok () w'/\cn N ρ I w ρ (c0 I id (false, .map n' an (mg n' key r l))) w':=by
  intro vi Af cy iJ ft aa ad ax;rw[iJ,e2]
  have mj:∀x,x≠b->({w with heap:=w.heap.setIfInBounds b (.map vi Af)}:World).heap[x]? =w.heap[x]? :=fun x ak=>by
   simp[aqy,apq ak]
  have hm:∀x u,bA (aL N ρ I) w x u->bA (aL N ρ (I.set id (false, .map n' an cy))) {w with heap:=w.heap.setIfInBounds b (.map vi Af)} x u:=fun x u ao=>
   ao.mono fun c9 _ na=>⟨mj c9 fun aG=>na (.inr ⟨id,aw,az,aG▸ah,en⟩),fun dn=>na (by
    rcases dn with aB|⟨i,df,aV,bp,b1⟩
    ·exact .inl aB
    ·refine .inr ⟨i,df,aV,bp, ?_⟩;rw[ir]at b1
     by_cases aG:id=i
     ·subst aG;exact en
     ·rwa [aoA (by simp[aG])]at b1)⟩
  refine⟨_,rfl,ft,cn.Ru bI id aw b az ah en _ (by rw[aH];rfl) (by rw[aH];rfl) _ rfl rfl rfl (by simp) mj ⟨b,vi,Af,ah,by simp[xp],aa,ld,ad,fun i hi=> ?_⟩⟩;obtain⟨aG,q1,cI,cV,gF,dX⟩:=ax i hi;exact⟨aG,q1,cI,cV,gF.mono hm,dX.mono hm⟩
 have lG:(key++r).length=an/\(key++r).take n'=key/\(key++r).drop n'=r:=by
  have ti:key.length=n':=by omega
  refine⟨by simp;omega,by rw[List.take_append_of_le_length (by omega),aqB (by omega)],by rw[List.drop_append_of_le_length (by omega),List.drop_of_length_le (by omega)];rfl⟩
 have TB:ji n' (key++r)=key.map U.toInt:=by unfold ji;rw[lG.2.1]
 rcases f3 with⟨g1,g2⟩|⟨j,cb,l0,g1,g2,g3,g4,g5⟩
 ·obtain⟨_,_,ei⟩:=yl (z:=[]) g2;refine fin (es.push ⟨nh,tL,AU⟩) (AU+1) (l++[key++r]) (ei key r rfl) ?_ (by simp[cQ]) ?_ fun i hi=> ?_
  ·simp[Instr.mapUpdate,run_underlying hu,MapKept.run_getObj_map br,f1,g1,MapKept.run_setObj_map _ br,Result.andThen]
  ·rw[apn,List.map_singleton,List.nodup_append];refine⟨jf,by simp,fun a aS c aC=> ?_⟩;simp only[apr]at aC;subst aC;obtain⟨dD,rK,rfl⟩:=aoO.1 aS;rw[TB];exact g2 dD rK
  ·by_cases ot:i<l.length
   ·obtain⟨aG,q1,cI⟩:=qD i ot;have bg:(l++[key++r]).getD i []=l.getD i []:=by simp only[aoC];rw[apy ot]
    rw[bg];exact⟨aG,by rw[Array.getElem?_push,aoA (by omega)];exact q1,cI⟩
   ·have ai9:i=l.length:=by simp at hi;omega
    subst ai9;have bg:(l++[key++r]).getD l.length []=key++r:=by simp[aoC]
    rw[bg,lG.2.1,lG.2.2];exact⟨⟨nh,tL,AU⟩,by rw[Array.getElem?_push,aoB cQ.symm],lG.1,fF,Ae,ky⟩
 ·obtain⟨_,_,ei⟩:=wv (z:=[]) jf g4 g5;have iI:=(apt.1 g4).1;refine fin (es.modify j fun aG=>{aG with key:=nh,val:=tL}) AU (l.set j (key++r)) (ei key r rfl) ?_ (by simp[cQ]) ?_ fun i hi=> ?_
  ·simp[Instr.mapUpdate,run_underlying hu,MapKept.run_getObj_map br,f1,g1,g2,g3,f2,MapKept.run_setObj_map _ br,Result.andThen]
  ·rw[aqs,TB]
   have:(l.map (ji n')).set j (key.map U.toInt)=l.map (ji n'):=by
    apply List.ext_getElem?;intro i;rw[apo];split
    ·rename_i aG;subst aG;rw[aoB (by simpa using iI),apv,g4,apI,g5]
    ·rfl
   rw[this];exact jf
  ·have ot:i<l.length:=by simpa using hi
   obtain⟨aG,q1,cI⟩:=qD i ot
   by_cases vj:j=i
   ·subst vj;have bg:(l.set j (key++r)).getD j []=key++r:=by simp[aoC,iI]
    rw[bg,lG.2.1,lG.2.2];exact⟨{aG with key:=nh,val:=tL},by rw[aqE,aoB rfl,q1];rfl,lG.1,fF,Ae,ky⟩
   ·have bg:(l.set j (key++r)).getD i []=l.getD i []:=by simp only[aoC];rw[apo,aoA vj]
    rw[bg];exact⟨aG,by rw[aqE,aoA vj];exact q1,cI⟩
end
end Go.aj
end
section
namespace Go.aj
section
variable {P:Program} {N:Nat->Prop} {ρ:List Loc} {I:aF} {w:World}
theorem B5 {Z:Nat->Prop}{v:R}{u:Value}(ae:xk v=true)(h:eE Z w ρ I v u):u=w_ v:=by
 cases v with
 |d x=>
  cases x with
  |int k n=>have h:bA Z w _ u:=h;cases h;rfl
  |bool b=>have h:bA Z w _ u:=h;cases h;rfl
  |_=>cases ae
 |bt=>exact h
 |bf=>exact h
 |_=>cases ae
theorem ac4 {Z:Nat->Prop}{v:R}{u:Value}(ae:xw v=true)(h:bF Z w ρ I v u):u=uU v:=by
 cases v with
 |agg l=>
  obtain⟨a,rfl,ay,ao⟩:=h;have ae:ef xk l=true:=ae;rw[fH,aoU]at ae;show Value.agg a=Value.agg (bz w_ l).toArray
  congr 1
  apply Array.ext
  ·rw[dP];simpa using ay
  ·intro i aa ad;have hi:i<l.length:=by omega
   have ax:=B5 (ae (l.getD i .un) (by simp[aoC,hi])) (ao i hi);simp only[dP,List.getElem_toArray,List.getElem_map];simpa[aoJ,aoC,aa,hi]using ax
 |d x=>exact B5 (Z:=Z) (w:=w) (v:= .d x) (ρ:=ρ) (I:=I) ae h
 |bt=>exact B5 (Z:=Z) (w:=w) (v:= .bt) (ρ:=ρ) (I:=I) rfl h
 |bf=>exact B5 (Z:=Z) (w:=w) (v:= .bf) (ρ:=ρ) (I:=I) rfl h
 |_=>cases ae
theorem abn {Z:Nat->Prop}{bW:List R}{us:Array Value}(ae:ef xw bW=true)(az:bW.length=us.toList.length)(h:∀i,i<bW.length->bF Z w ρ I (bW.getD i .un) (us.toList.getD i undef)):us=(bz uU bW).toArray:=by
 rw[fH,aoU]at ae;apply Array.ext
 ·rw[dP];simpa using az.symm
 ·intro i aa ad;have hi:i<bW.length:=by rw[az];simpa using aa
  have ax:=ac4 (ae (bW.getD i .un) (by simp[aoC,hi])) (h i hi);simp only[dP,List.getElem_toArray,List.getElem_map];simpa[aoC,aa,hi]using ax
theorem Xa {s:TypeId}{i:b4}(hi:c4 P s i=true){bW:List (Nat×Nat×bb)}{cs:List b6}(h:i.ty= .struct bW cs)(f:Nat)(aT:f<bW.length)(n:Nat)(r:List U){u:Value}
 (hu:bF (aL N ρ I) w ρ I (.rw n r) u) (az:fG i.ty f+(kE i.ty f).size<=n) {ch:List Prop} {v:R} {al:aF}
 (he:(match kE i.ty f with
   | .aE s=>bT.a6 [s.p3 (r.getD (fG i.ty f) .undef)] (s.take (r.getD (fG i.ty f) .undef)) I
   |t'=>
    (match t'.ja with
    |true=> .a6 [] (.rw t'.size (lu r (fG i.ty f) t'.size n)) I
    |false=> .a6 (mZ t'.cells r (fG i.ty f)).1 (.agg (mZ t'.cells r (fG i.ty f)).2) I))= .a6 ch v al) (ay:∀p∈ch,p):
 ∃c2,al=I/\(Instr.field s u f).run P w= .ok c2 w/\bF (aL N ρ I) w ρ I v c2:=by
 obtain⟨a,aa,ad⟩:=yk hi h;obtain⟨eh,g,a7,bl,bH,dJ,eZ,gE⟩:=GP ad f aT;have te:a[f]? =some eh:=by simpa using a7
 obtain⟨arr,rfl,aS,z_,ao⟩:=hu;have IL:fG i.ty f=eh.offset:=by rw[h,fG,d_,<-bH]
 have b_:kE i.ty f=(bW.getD f (0,0, .no)).2.2:=by rw[h,kE,d_]
 rw[IL,b_]at az he;obtain⟨d,j1,ic⟩:=gE
 have SD:∀m,m<g.size->eh.offset+g.size<=n->bA (aL N ρ I) w (r.getD (eh.offset+m) .undef) ((arr.extract eh.offset (eh.offset+g.size)).getD m undef):=fun m hm bg=>by
  have:=ao (eh.offset+m) (by omega)
  have aA:(arr.extract eh.offset (eh.offset+g.size)).getD m undef=arr.getD (eh.offset+m) undef:=by
   rw[aoJ,aoJ,Array.getElem?_extract,aoB (by omega)]
  rw[aA];exact this
 have s7:∀lK,(bW.getD f (0,0, .no)).2.2.isAgg=true->(bW.getD f (0,0, .no)).2.2.cells=lK->(bW.getD f (0,0, .no)).2.2.size=lK.length->
  (match(bW.getD f (0,0, .no)).2.2.ja with
    |true=>bT.a6 [] (.rw (bW.getD f (0,0, .no)).2.2.size (lu r eh.offset (bW.getD f (0,0, .no)).2.2.size n)) I
    |false=> .a6 (mZ (bW.getD f (0,0, .no)).2.2.cells r eh.offset).1 (.agg (mZ (bW.getD f (0,0, .no)).2.2.cells r eh.offset).2) I)= .a6 ch v al->
  ∃c2,al=I/\(Instr.field s (.agg arr) f).run P w= .ok c2 w/\bF (aL N ρ I) w ρ I v c2:=fun lK q1 cI cV he=>by
  rw[q1]at ic
  have ft:(Instr.field s (.agg arr) f).run P w= .ok (.agg (arr.extract eh.offset (eh.offset+g.size))) w:=by
   simp[Instr.field,underlying,aa,te,asAgg,part,qR j1,ic,lk bl]
  split at he
  ·simp only[bT.a6.injEq]at he;obtain⟨rfl,rfl,rfl⟩:=he;obtain⟨fi,fb⟩:=GO (j:=eh.offset) (n:=(bW.getD f (0,0, .no)).2.2.size) z_ az;refine⟨_,rfl,ft, .ht ⟨_,rfl,by rw[Array.size_extract];omega,fi,fun m hm=> ?_⟩⟩;rw[fb m hm];exact SD m (by omega) (by omega)
  ·simp only[bT.a6.injEq]at he;obtain⟨rfl,rfl,rfl⟩:=he;rw[cI]at ay⊢;obtain⟨fi,fb⟩:=GQ (Z:=aL N ρ I) (w:=w) (ρ:=ρ) (I:=I) lK r eh.offset (fun m=>(arr.extract eh.offset (eh.offset+g.size)).getD m undef) (fun m hm=>SD m (by omega) (by omega)) ay;exact⟨_,rfl,ft, .ht ⟨_,rfl,by rw[Array.size_extract];omega,fun m hm=>fb m (by omega)⟩⟩
 cases rm:(bW.getD f (0,0, .no)).2.2 with
 |aE st=>
  rw[rm]at az ic dJ he;have bG:eh.offset<n:=by simp[bb.size]at az;omega
  have jY:eh.offset<arr.size:=by omega
  simp only[bT.a6.injEq]at he;obtain⟨rfl,rfl,rfl⟩:=he;refine⟨arr[eh.offset],rfl, ?_, ?_⟩
  ·simp[Instr.field,underlying,aa,te,asAgg,part,qR j1,ic,bb.isAgg,jY]
  ·have:=ao eh.offset bG;simp only[aoJ,aqo jY,apC]at this;exact .dc (tY this (ay _ (by simp)))
 |no=>
  rw[rm]at az dJ;simp[bb.size]at dJ;omega
 |struct E4 lK=>rw[rm]at he s7;exact s7 lK rfl rfl (by simp[bb.size,cO]) he
 |arr n' cb lK=>rw[rm]at he s7;exact s7 lK rfl rfl (by simp[bb.size,cO]) he
theorem Xb {s:TypeId}{i:b4}(hi:c4 P s i=true){f:Nat}{x:R}{u:Value}(ak:bF (aL N ρ I) w ρ I x u){ch:List Prop}{v:R}{al:aF}
 (h:pQ i.ty f x I= .a6 ch v al) (ay:∀p∈ch,p):∃c2,al=I/\(Instr.field s u f).run P w= .ok c2 w/\bF (aL N ρ I) w ρ I v c2:=by
 unfold pQ at h;split at h
 ·cases h
 ·rename_i fh
  obtain⟨bW,cs,b_,aT⟩:∃bW cs,i.ty= .struct bW cs/\f<bW.length:=by
   cases b_:i.ty with
   |struct bW cs=>
    rw[b_]at fh;have:f+1<=bV bW:=by simpa[sz,Nat.blt]using fh
    rw[cO]at this;exact⟨bW,cs,rfl,by omega⟩
   |_=>rw[b_]at fh;simp[sz]at fh
  split at h
  ·rename_i l;split at h
   ·rename_i hle;simp only[bT.a6.injEq]at h;obtain⟨rfl,rfl,rfl⟩:=h;have hle:=ao9 hle;rw[cO]at hle;obtain⟨u,aa,ad⟩:=ZE (w:=w) hi b_ f aT l ak hle;exact⟨u,rfl,aa,ad⟩
   ·cases h
  ·rename_i n r;split at h
   ·rename_i hle aB;exact Xa hi b_ f aT n r ak (ao9 hle) h ay
   ·cases h
  ·cases h
theorem CD {tb:TypeId->b4}{t:TypeId}(h:pV P tb t=true):sK P tb t=true/\zf P (tb t) t=true:=by
 unfold pV at h;split at h
 ·rename_i aa;exact⟨aa,h⟩
 ·cases h
theorem ZS {tb:TypeId->b4}(bs:∀t,c4 P t (tb t)=true)(iN:∀t,pV P tb t=true){o:Oper}{tm:List R}{a:Act}(bI:ct N ρ I w)(au:eg (aL N ρ I) w ρ I tm a.tmps)
 {ch:List Prop} {v:R} {al:aF} (h:e4 tb o tm I= .a6 ch v al) (ay:∀p∈ch,p):Good P N ρ I w (execOp a.eval o) v al:=by
 unfold e4 at h;unfold execOp
 cases bK:o.op with
 |move x=>
  simp only[bK]at h⊢;simp only[bT.a6.injEq]at h;obtain⟨rfl,rfl,rfl⟩:=h;exact .zg bI (eA au x)
 |assign x=>
  simp only[bK]at h⊢;simp only[bT.a6.injEq]at h;obtain⟨rfl,rfl,rfl⟩:=h;exact .zg bI (eA au x)
 |pick c x y=>
  simp only[bK]at h⊢;obtain⟨b,rfl,ah,aM⟩:=XC au h;refine⟨.value (if b then a.eval x else a.eval y),w,ρ,_, ?_, .inl rfl,cn.refl bI,aM⟩;rw[ah];cases b<;>rfl
 |alloc t=>
  simp only[bK]at h⊢;obtain⟨u,w',ρ',aa,ad,ax⟩:=ME (bs t) bI h;exact nS aa ad ax rfl
 |box t x=>
  simp only[bK]at h⊢;obtain⟨u,w',ρ',aa,ad,ax⟩:=Ys (P:=P) (t:=t) bI au h;exact nS aa ad ax rfl
 |build t bN=>
  simp only[bK]at h⊢;obtain⟨u,rfl,aa,ad⟩:=W7 (bs t) au bN h;exact iQ bI aa ad rfl
 |buildSlice t n bN=>
  simp only[bK]at h⊢;split at h
  ·rename_i k b_;split at h
   ·rename_i l az aB;obtain⟨u,w',ρ',aa,ad,ax⟩:=MJ (bs t) bI au bN n b_ az (ao9 aB);unfold sG at h;split at h
    ·simp only[bT.a6.injEq]at h;obtain⟨rfl,rfl,rfl⟩:=h;obtain⟨a7,bl⟩:=forget bI ad ax (.inl ⟨k,l,rfl⟩);exact nS aa a7 (v:= .d _) bl rfl
    ·simp only[bT.a6.injEq]at h;obtain⟨rfl,rfl,rfl⟩:=h;rw[fZ,cO];exact nS aa ad ax rfl
   ·cases h
  ·rename_i an b_;split at h
   ·rename_i l az aB;obtain⟨u,w',ρ',aa,ad,ax⟩:=Gx (bs t) bI au bN n b_ az (ao9 aB);unfold sG at h;split at h
    ·simp only[bT.a6.injEq]at h;obtain⟨rfl,rfl,rfl⟩:=h;obtain⟨a7,bl⟩:=forget bI ad ax (.inr ⟨an,l,rfl⟩);exact nS aa a7 (v:= .d _) bl rfl
    ·simp only[bT.a6.injEq]at h;obtain⟨rfl,rfl,rfl⟩:=h;rw[fZ,cO];exact nS aa ad ax rfl
   ·cases h
  ·cases h
 |load t p=>
  simp only[bK]at h⊢;obtain⟨u,rfl,aa,ad⟩:=GC (bs t) bI au h ay;exact iQ bI aa ad rfl
 |store t p x=>
  simp only[bK]at h⊢;obtain⟨w',rfl,aa,ad⟩:=W6 (bs t) bI au h ay;exact⟨.skip,w',ρ,undef,by simp[aa], .inr ⟨rfl,rfl⟩,ad,bF.un⟩
 |nilCheck x=>
  simp only[bK]at h⊢;have ak:=eA au x;split at h
  ·rename_i id j he;simp only[bT.a6.injEq]at h;obtain⟨rfl,rfl,rfl⟩:=h;rw[he]at ak;have kX:=ak;obtain⟨aw,b,aa,ad,ax,aV⟩:=ak;rw[aV]at kX⊢;exact .zg bI kX
  ·rename_i id n j he;simp only[bT.a6.injEq]at h;obtain⟨rfl,rfl,rfl⟩:=h;rw[he]at ak;have kX:=ak;obtain⟨aw,b,aa,ad,ax,aV,bp⟩:=ak;rw[aV]at kX⊢;exact .zg bI kX
  ·rename_i y n j he;simp only[bT.a6.injEq]at h;obtain⟨rfl,rfl,rfl⟩:=h;rw[he]at ak;have kX:=ak;obtain⟨b,off,cap,aa,ad,ax,aV⟩:=ak;rw[aV]at kX⊢;exact .zg bI kX
  ·cases h
 |binOp op t x y ty=>
  simp only[bK]at h⊢;unfold zd at h;split at h
  ·obtain⟨u,rfl,aa,ad⟩:=ZR (P:=P) (bs t) (CD (iN t)).2 au h ay;exact iQ bI aa ad rfl
  ·obtain⟨u,rfl,aa,ad⟩:=Yo (P:=P) (bs t) au h ay;exact iQ bI aa ad rfl
 |unOp op t x=>
  simp only[bK]at h⊢;obtain⟨u,rfl,aa,ad⟩:=ZB (P:=P) au h;exact iQ bI aa ad rfl
 |convert src dst x=>
  simp only[bK]at h⊢;obtain⟨u,rfl,aa,ad⟩:=abj (bs src) (bs dst) bI au h ay;exact iQ bI aa ad rfl
 |extract x i=>
  simp only[bK]at h⊢;split at h
  ·rename_i l he;split at h
   ·rename_i bG;simp only[bT.a6.injEq]at h;obtain⟨rfl,rfl,rfl⟩:=h;have bG:i+1<=bV l:=by simpa[Nat.blt]using bG
    rw[cO]at bG;obtain⟨u,aa,ad⟩:=XD (P:=P) au he bG;exact iQ bI aa ad rfl
   ·cases h
  ·cases h
 |fieldAddr s x f=>
  simp only[bK]at h⊢;split at h
  ·cases h
  ·rename_i fh;have ak:=eA au x
   obtain⟨bW,cs,b_,aT⟩:∃bW cs,(tb s).ty= .struct bW cs/\f<bW.length:=by
    cases b_:(tb s).ty with
    |struct bW cs=>
     rw[b_]at fh;have:f+1<=bV bW:=by simpa[sz,Nat.blt]using fh
     rw[cO]at this;exact⟨bW,cs,rfl,by omega⟩
    |_=>rw[b_]at fh;simp[sz]at fh
   have ft:=fun b o=>XG (w:=w) (bs s) b_ f aT b o;split at h
   ·rename_i id off he;simp only[bT.a6.injEq]at h;obtain⟨rfl,rfl,rfl⟩:=h;rw[he]at ak;obtain⟨aw,b,aa,ad,ax,aV⟩:=ak;refine iQ bI (by rw[aV];exact ft b off) ?_ rfl;exact .dc ⟨aw,b,aa,ad,ax,rfl⟩
   ·rename_i id n j he;simp only[bT.a6.injEq]at h;obtain⟨rfl,rfl,rfl⟩:=h;rw[he]at ak;obtain⟨aw,b,aa,ad,ax,aV,bp⟩:=ak;refine iQ bI (by rw[aV];exact ft b _) ?_ rfl;exact .dc ⟨aw,b,aa,ad,ax,by rw[apA];rfl,bp⟩
   ·rename_i y n j he;simp only[bT.a6.injEq]at h;obtain⟨rfl,rfl,rfl⟩:=h;rw[he]at ak;obtain⟨b,off,cap,aa,ad,ax,aV⟩:=ak;refine iQ bI (by rw[aV];exact ft b _) ?_ rfl;exact .dc ⟨b,off,cap,aa,ad,ax,by rw[apA];rfl⟩
   ·cases h
 |field s x f=>
  simp only[bK]at h⊢;obtain⟨u,rfl,aa,ad⟩:=Xb (w:=w) (bs s) (eA au x) h ay;exact iQ bI aa ad rfl
 |indexAddr t x i=>
  simp only[bK]at h⊢;obtain⟨u,rfl,aa,ad⟩:=Ws (bs t) bI au h ay;exact iQ bI aa ad rfl
 |index t x i=>
  simp only[bK]at h⊢;have ak:=eA au x;have hi:=eA au i;generalize a_ tm x=amb at*;generalize a_ tm i=ii at*;unfold yJ at h;split at h
  ·rename_i k n;split at h
   ·rename_i l b_;simp only[bT.a6.injEq]at h;obtain⟨rfl,rfl,rfl⟩:=h;have bc:0<=n:=ay _ (by simp);have aa:n<(l.length:Int):=ay _ (by simp);obtain⟨s,hu,az⟩:=uc ak;have aA:=jh hi;have uW:=sm (bs t) b_;have bG:n.toNat<s.data.size:=by rw[az,aoK,apH]at aa;omega
    refine iQ bI (u:= .int .u8 (s.data[n.toNat]).toNat) ?_ ?_ rfl
    ·rw[hu,aA]
     have bg:(if 0<=n then s[n.toNat]? else none)=some (s.data[n.toNat]):=by
      rw[aoB bc];have:n.toNat<s.size:=bG;rw[getElem?_pos s n.toNat this];rfl
     simp only[Instr.index,asIntOf,Sem.run_bind,Sem.run_pure,Result.andThen_ok,run_underlying uW,bg]
    ·rw[az]
     have:((s.data.toList.map fun b=>(b.toNat:Int)).getD n.toNat 0)=((s.data[n.toNat]).toNat:Int):=by
      rw[aoC,apv,aqP,aqo bG];rfl
     rw[this];exact oM _ _
   ·rename_i m s _ z r b_;split at h
    ·rename_i bm;obtain rfl:=aoE bm;simp only[bT.a6.injEq]at h;obtain⟨rfl,rfl,rfl⟩:=h;have bc:0<=n:=ay _ (by simp);have aa:n<(z:Int):=ay _ (by simp);have aA:=jh hi;obtain⟨el,g,d,q1,cI,cV,gF,dX⟩:=Yp (bs t) b_;have cV:g.size=1:=cV;have dX:oU d=false:=dX;obtain⟨arr,hu,gn,jm,ao⟩:=ak;have bG:n.toNat<arr.size:=by omega
     refine iQ bI (u:=arr[n.toNat]) ?_ ?_ rfl
     ·rw[hu,aA];simp[Instr.index,asIntOf,underlying,q1,bc,aa,lk cI,cV,part,qR gF,dX,bG]
     ·have:=ao n.toNat (by omega);simp only[aoJ,aqo bG,apC]at this;exact .dc (tY this (ay _ (by simp)))
    ·cases h
   ·cases h
  ·cases h
 |makeSlice t n c=>
  simp only[bK]at h⊢;obtain⟨u,w',ρ',aa,ad,ax⟩:=XI (bs t) bI au h ay;exact nS aa ad ax rfl
 |slice t x lo hi dr=>
  simp only[bK]at h⊢;obtain⟨u,ρ',aa,ad,ax⟩:=XK (bs t) bI au h ay;exact nS aa ad ax rfl
 |call c=>
  simp only[bK]at h;split at h
  ·rename_i b aC;obtain⟨consts,he⟩:=MK (a:=a) bK aC;have:=Wv (P:=P) (N:=N) (ρ:=ρ) (w:=w) bs bI au h ay o.type consts;rw[<-he]at this;unfold execOp at this;rw[bK]at this;exact this
  ·cases h
  ·unfold sA at h;split at h<;>cases h
  ·cases h
 |makeFunc fn first cap=>
  simp only[bK]at h⊢;unfold y0 at h;obtain⟨dj,aa⟩:=HS au first
  obtain⟨df,_⟩:=HS au cap;generalize bz (a_ tm) first.toList=bW at h dj aa
  generalize bz (a_ tm) cap.toList=cs at h df;split at h
  ·rename_i f
   have FM:cap.map a.eval=#[]:=by
    have:(cap.map a.eval).toList.length=0:=df.symm;exact Array.eq_empty_of_size_eq_zero (by simpa using this)
   rw[FM];split at h
   ·simp only[bT.a6.injEq]at h;obtain⟨rfl,rfl,rfl⟩:=h
    have x3:first.map a.eval=#[]:=by
     have:(first.map a.eval).toList.length=0:=dj.symm;exact Array.eq_empty_of_size_eq_zero (by simpa using this)
    rw[x3];exact iQ bI (u:= .func (.func f) #[] #[]) (v:= .fn f) rfl (.dc rfl) rfl
   ·split at h
    ·rename_i ae;simp only[bT.a6.injEq]at h;obtain⟨rfl,rfl,rfl⟩:=h;have e:=abn ae dj aa;exact iQ bI (u:= .func (.func f) (first.map a.eval) #[]) (v:= .cls f bW) rfl (.dc ⟨by rw[e],ae⟩) rfl
    ·cases h
  ·cases h
 |makeMap t r=>
  cases r with
  |some x=>simp only[bK]at h;cases h
  |none=>
   simp only[bK]at h⊢;obtain⟨u,w',ρ',aa,ad,ax⟩:=XL (P:=P) (CD (iN t)).1 bI h;exact nS aa ad ax rfl
 |lookup t m k c=>
  simp only[bK]at h⊢;obtain⟨u,rfl,aa,ad⟩:=Yu (P:=P) (CD (iN t)).1 bI (eA au m) (eA au k) h ay;exact iQ bI aa ad rfl
 |mapUpdate t m k x=>
  simp only[bK]at h⊢;obtain⟨w',rfl,aa,ad⟩:=Ww (P:=P) (CD (iN t)).1 bI (eA au m) (eA au k) (eA au x) h ay;exact⟨.skip,w',ρ,undef,by simp[aa], .inr ⟨rfl,rfl⟩,ad,bF.un⟩
 |panic x=>
  simp only[bK]at h;simp only[bT.a6.injEq]at h;obtain⟨rfl,_⟩:=h;exact(ay False (by simp)).elim
 |_=>simp only[bK]at h;cases h
end
end Go.aj
end
section
namespace Go.aj
def iC (P:Program)(f:FuncId)(T:gA):Prop:=
 (∃fn,P.funcs[f]? =some fn/\fn.body.isNone=false/\(fn.name== "runtime.NumGoroutine")=false)/\
 ∀(N:Nat->Prop) (ρ:List Loc) (I:aF) (w:World) (args:List R) (cq:Array Value) (K:R->aF->Prop),T args I K->ct N ρ I w->
  args.length=cq.size->(∀i,i<args.length->bF (aL N ρ I) w ρ I (args.getD i .un) (cq.getD i undef))->
  Calls P f cq w fun e w'=>∃r al ρ' v,e= .returned v/\K r al/\cn N ρ I w ρ' al w'/\bF (aL N ρ' al) w' ρ' al r v
def Ps (P:Program)(f:FuncId)(T:gA):Prop:=
 ∀(N:Nat->Prop) (ρ:List Loc) (I:aF) (w:World) (args:List R) (cq:Array Value) (K:R->aF->Prop),T args I K->ct N ρ I w->
  args.length=cq.size->(∀i,i<args.length->bF (aL N ρ I) w ρ I (args.getD i .un) (cq.getD i undef))->
  ∃v w' r al ρ',(callFunc f cq).run P w= .ok (.value v) w'/\K r al/\cn N ρ I w ρ' al w'/\bF (aL N ρ' al) w' ρ' al r v
def yL (P:Program)(f:FuncId)(T:gA):Prop:=iC P f T\/Ps P f T
section
variable {P:Program} {N:Nat->Prop} {ρ:List Loc} {I:aF} {w:World}
theorem ZT {N:Nat->Prop}{ρ:List Loc}{I c1:aF}{w:World}{A:Value->World->Prop}{v:R}{al:aF}{id:Nat}(h:cn N ρ I w ρ c1 w)
 (k:∃u w' ρ',A u w'/\ct N ρ' al w'/\Fr ρ c1 w ρ' al w'/\(∀i,i≠id->eR ρ c1 ρ' al i)/\bF (aL N ρ' al) w' ρ' al v u):
 ∃u w' ρ',A u w'/\ct N ρ' al w'/\Fr ρ I w ρ' al w'/\(∀i,i≠id->eR ρ I ρ' al i)/\bF (aL N ρ' al) w' ρ' al v u:=by
 obtain⟨u,w',ρ',aa,ad,ax,aV,bp⟩:=k;refine⟨u,w',ρ',aa,ad,h.toFr.trans ax,fun i hi=> ?_,bp⟩;intro aw az;obtain⟨a1,a2,a3⟩:=h.same i aw az;obtain⟨cW,c9,iM⟩:=aV i hi aw a1;exact⟨cW,c9.trans a2,iM.trans a3⟩
theorem MN (t:bb)(x:U)(i:Int)(j:Nat)(I:aF):loadData t x i j I= .bad\/∃s v,loadData t x i j I= .a6 s v I:=by
 unfold loadData;split
 ·split
  ·split
   ·exact .inr ⟨_,_,rfl⟩
   ·exact .inl rfl
  ·exact .inl rfl
 ·split
  ·split
   ·exact .inr ⟨_,_,rfl⟩
   ·split<;>exact .inr ⟨_,_,rfl⟩
   ·exact .inr ⟨_,_,rfl⟩
   ·exact .inl rfl
  ·exact .inl rfl
 ·exact .inl rfl
theorem NJ (t:bb)(x:U)(i:Int)(j:Nat)(I:aF):loadAt t x i j I= .bad\/∃s v,loadAt t x i j I= .a6 s v I:=by
 unfold loadAt;split
 ·exact .inr ⟨_,_,rfl⟩
 ·exact .inl rfl
theorem M_ (t:bb)(p:R)(I:aF):h7 t p I= .bad\/∃s v,h7 t p I= .a6 s v I:=by
 unfold h7;split
 ·split
  ·split<;>first|exact .inr ⟨_,_,rfl⟩|exact .inl rfl
  ·exact .inl rfl
 ·exact MN _ _ _ _ _
 ·exact MN _ _ _ _ _
 ·exact NJ _ _ _ _ _
 ·exact NJ _ _ _ _ _
 ·exact .inl rfl
theorem Xc (t:bb)(p:R)(r:List U)(I:aF):qX t p r I= .bad\/∃s v al,qX t p r I= .a6 s v al:=by
 unfold qX
 (repeat' split)<;>first|exact .inr ⟨_,_,_,rfl⟩|exact .inl rfl
theorem Wx (t:bb)(id:Nat)(i:Int)(j:Nat)(v:R)(I:aF):qQ t id i j v I= .bad\/∃s c7 al,qQ t id i j v I= .a6 s c7 al:=by
 unfold qQ
 (repeat' split)<;>first|exact .inr ⟨_,_,_,rfl⟩|exact .inl rfl
theorem Xd (t:bb)(p v:R)(I:aF):ug t p v I= .bad\/∃s c7 al,ug t p v I= .a6 s c7 al:=by
 unfold ug
 (repeat' split)<;>first|exact .inr ⟨_,_,_,rfl⟩|exact .inl rfl
theorem MO (t:bb)(p v:R)(I:aF):pN t p v I= .bad\/∃s c7 al,pN t p v I= .a6 s c7 al:=by
 unfold pN;split
 ·exact Xc _ _ _ _
 ·split
  ·exact Wx _ _ _ _ _ _
  ·exact Xd _ _ _ _
def bT.fixed:bT->Prop
 | .bad=>True
 | .a6 ..=>True
 |_=>False
theorem Pt {r:bT}(h:r= .bad\/∃s v o,r= .a6 s v o):r.fixed:=by
 rcases h with rfl|⟨_,_,_,rfl⟩<;>trivial
theorem B6 {r:bT}(h:r.fixed):r= .bad\/∃s v o,r= .a6 s v o:=by
 cases r<;>first|exact .inl rfl|exact .inr ⟨_,_,_,rfl⟩|exact h.elim
theorem Wy (t:bb)(p:R)(I:aF):(h7 t p I).fixed:=Pt ((M_ t p I).imp id fun⟨s,v,h⟩=>⟨s,v,_,h⟩)
theorem Wf (t:bb)(p v:R)(I:aF):(pN t p v I).fixed:=Pt (MO t p v I)
theorem ZU (t:bb)(x:R)(n:Int)(I:aF):oZ t x n I= .bad\/∃s v,oZ t x n I= .a6 s v I:=by
 unfold oZ
 (repeat' split)<;>first|exact .inr ⟨_,_,rfl⟩|exact .inl rfl
theorem XM (t:bb)(x:R)(n:Int)(I:aF):(oZ t x n I).fixed:=by unfold oZ;(repeat' split)<;>trivial
theorem VS (t:bb)(x i:R)(I:aF):(qM t x i I).fixed:=by unfold qM;(repeat' split)<;>first|trivial|exact XM _ _ _ _
theorem Wg (t:bb)(x i:R)(I:aF):(yJ t x i I).fixed:=by unfold yJ;(repeat' split)<;>trivial
theorem Wz (t:b4)(x i:R)(I:aF):(wQ t x i I).fixed:=by unfold wQ;(repeat' split)<;>trivial
theorem Wh (t:bb)(x:R)(lo hi dr:Option R)(I:aF):(kD t x lo hi dr I).fixed:=by unfold kD;(repeat' split)<;>trivial
theorem Wi (t:bb)(x:R)(lo hi dr:Option R)(I:aF):(sn t x lo hi dr I).fixed:=by
 unfold sn;split
 ·unfold pO;(repeat' split)<;>trivial
 ·exact Wh _ _ _ _ _ _
theorem Mn (t:b4)(x:R)(lo hi dr:Option R)(I:aF):(uu t x lo hi dr I).fixed:=by
 unfold uu;split
 ·unfold B3;(repeat' split)<;>trivial
 ·exact Wi _ _ _ _ _ _
theorem Wj (t:b4)(x:R)(I:aF):(wD t x I).fixed:=by unfold wD;(repeat' split)<;>trivial
theorem V9 (tb:TypeId->b4)(t:b4)(m k:R)(c:Bool)(I:aF):(oL tb t m k c I).fixed:=by unfold oL;(repeat' split)<;>trivial
theorem LN (tb:TypeId->b4)(t:b4)(m k v:R)(I:aF):(sf tb t m k v I).fixed:=by unfold sf;(repeat' split)<;>trivial
theorem V4 (tb:TypeId->b4)(t:b4)(I:aF):(yp tb t I).fixed:=by unfold yp;(repeat' split)<;>trivial
theorem XN (op:BinOp)(t:bb)(x y:R)(I:aF):(p4 op t x y I).fixed:=by unfold p4;(repeat' split)<;>trivial
theorem Wk (t:bb)(f:Nat)(v:R)(I:aF):(pQ t f v I).fixed:=by unfold pQ;(repeat' split)<;>trivial
theorem Wl (t:bb)(ps:List (Nat×R))(I:aF):(pP t ps I).fixed:=by unfold pP;(repeat' split)<;>trivial
theorem Ma (t:bb)(I:aF):(uh t I).fixed:=by unfold uh;(repeat' split)<;>trivial
theorem MP (t:bb)(v:R)(I:aF):(zc t v I).fixed:=by unfold zc;(repeat' split)<;>trivial
theorem Xe (b:Bool)(ob:ag)(I:aF):(sG b ob I).fixed:=by unfold sG;split<;>trivial
theorem WA (c x y:R)(I:aF):(wP c x y I).fixed:=by unfold wP;(repeat' split)<;>trivial
theorem XO (op:UnOp)(x:R)(I:aF):(w9 op x I).fixed:=by unfold w9;(repeat' split)<;>trivial
theorem WB (s d:bb)(x:R)(I:aF):(n3 s d x I).fixed:=by unfold n3;(repeat' split)<;>trivial
theorem WC (fn:Fn)(first cap:List R)(I:aF):(y0 fn first cap I).fixed:=by unfold y0;(repeat' split)<;>trivial
theorem GV {op:BinOp}{t:bb}{dC:Operand}{x y:R}{I:aF}{r:bT}(h:zd op t dC x y I=r)(ao:r.fixed->False):oR op t dC x y I=r:=by
 unfold zd at h;split at h
 ·exact(ao (h▸XN _ _ _ _ _)).elim
 ·exact h
theorem BS {t:b4}{x:R}{I:aF}{r:bT}(h:wD t x I=r)(ao:r.fixed->False):False:=ao (h▸Wj _ _ _)
def ac5:Op->Bool
 | .binOp ..=>false
 | .call _=>false
 |_=>true
theorem Hw {tb:TypeId->b4}{o:Oper}{tm:List R}{I:aF}(aD:ac5 o.op=true):(e4 tb o tm I).fixed:=by
 unfold e4;split
 all_goals first
  |trivial
  |exact WA _ _ _ _
  |exact Ma _ _
  |exact MP _ _ _
  |exact Wl _ _ _
  |exact Wy _ _ _
  |exact Wf _ _ _ _
  |exact XO _ _ _
  |exact WB _ _ _ _
  |exact Wk _ _ _ _
  |exact VS _ _ _ _
  |exact Wg _ _ _ _
  |exact Wz _ _ _ _
  |exact Mn _ _ _ _ _ _
  |exact V4 _ _ _
  |exact V9 _ _ _ _ _ _
  |exact LN _ _ _ _ _ _
  |exact WC _ _ _ _
  |(rename_i he;rw[he]at aD;exact absurd aD apD)
  |((repeat' split)<;>first|trivial|exact Xe _ _ _)
theorem Mo (v:R)(args:List R)(tys:List TypeId):sA v args tys= .bad\/∃f a,sA v args tys= .call f a tys:=by
 unfold sA;split
 ·exact .inr ⟨_,_,rfl⟩
 ·exact .inr ⟨_,_,rfl⟩
 ·exact .inl rfl
theorem Ow {tb:TypeId->b4}{o:Oper}{tm:List R}{ch:List Prop}{v:R}{al:aF}{id:Nat}(h:e4 tb o tm I= .grow ch v al id):
 ∃c b,o.op= .call c/\c.callee= .builtin b/\kB tb b c.argTypes.toList (bz (a_ tm) c.args.toList) I= .grow ch v al id:=by
 have bc:=h;unfold e4 at h
 cases bK:o.op with
 |call c=>
  simp only[bK]at h;split at h
  ·rename_i b aC;exact⟨c,b,rfl,aC,h⟩
  ·cases h
  ·rename_i t _;rcases Mo (b8 .un tm t) (bz (a_ tm) c.args.toList) c.argTypes.toList with e|⟨_,_,e⟩<;>rw[e]at h<;>cases h
  ·cases h
 |binOp op t x y ty=>
  simp only[bK]at h
  replace h:=GV h (fun h=>h)
  unfold oR at h;split at h
  ·split at h
   ·cases h
   ·cases h
   ·split at h
    ·cases op<;>simp[n9]at h
    ·cases h
  ·split at h<;>cases h
  ·split at h<;>cases h
  ·split at h<;>cases h
  all_goals first|cases h|(unfold jw at h;split at h<;>cases h)
 |_=>have:=Hw (tb:=tb) (o:=o) (tm:=tm) (I:=I) (by rw[bK];rfl);rw[bc]at this;exact this.elim
theorem Yv {tb:TypeId->b4}(bs:∀t,c4 P t (tb t)=true){o:Oper}{tm:List R}{a:Act}(bI:ct N ρ I w)(au:eg (aL N ρ I) w ρ I tm a.tmps)
 {ch:List Prop} {v:R} {al:aF} {id:Nat} (h:e4 tb o tm I= .grow ch v al id) (ay:∀p∈ch,p):
 ∃u w' ρ',(execOp a.eval o).run P w= .ok (.value u) w'/\ct N ρ' (gH id al) w'/\Fr ρ I w ρ' (gH id al) w'/\(∀i,i≠id->eR ρ I ρ' (gH id al) i)/\
  bF (aL N ρ' (gH id al)) w' ρ' (gH id al) v u:=by
 obtain⟨c,b,bK,aC,h⟩:=Ow h;obtain⟨consts,he⟩:=MK (a:=a) bK aC;rw[he];unfold kB at h;split at h
 ·split at h
  ·cases h
  ·split at h<;>cases h
 ·rename_i x y gl;obtain⟨p,q,rf,aD,aZ⟩:=Ht gl;have ak:=eA au p;have bn:=eA au q;rw[aD]at ak;rw[aZ]at bn;rw[rf];clear gl aD aZ rf;obtain⟨cR,bn⟩:=Hu bI bn
  replace ak:=cR.lz ak
  refine ZT cR ?_
  replace bI:=cR.rel
  clear cR au;generalize lr I y=c1 at*;generalize sR I y=qB at*;split at h
  ·rename_i n kn ah;split at h
   ·rename_i oq;have oq:=aoE oq;have uZ:=ML (tys:=c.argTypes) (by omega);obtain⟨cb,ae⟩:=qK (bs _) kn
    have rJ:0<(tb (b8 0 c.argTypes.toList 0)).bytes:=by
     have:1<=(tb (b8 0 c.argTypes.toList 0)).bytes:=by simpa[Nat.blt]using ah
     omega
    have od:∀(u:Value) (w':World),(Builtin.append_ #[b8 0 c.argTypes.toList 0,b8 0 c.argTypes.toList 1] o.type #[a.eval p,a.eval q]).run P w= .ok u w'->
     (builtin .append c.argTypes o.type consts (#[p,q].map a.eval)).run P w= .ok (.value u) w':=by
     intro u w' ao;rw[uZ];simp only[builtin,Sem.run_bind,aqD,ape,List.map_nil,ao,Result.andThen_ok,Sem.run_pure]
    unfold sk at h;split at h
    ·split at h<;>cases h
    ·split at h
     ·split at h<;>cases h
     ·cases h
    ·split at h<;>cases h
    ·rename_i j5 x;split at h
     ·rename_i aT en;split at h
      ·rename_i k l cz m aH;split at h
       ·rename_i ou;simp only[bT.grow.injEq]at h;obtain⟨rfl,rfl,rfl,rfl⟩:=h;obtain rfl:=jt.1 ou
        obtain⟨u,w',ρ',aa,ad,ax,aV,bp⟩:=L_ (P:=P) (N:=N) (ρ:=ρ) (I:=c1) (w:=w) (ty:=o.type) (bs _) bI ae ak bn aT en (.af k (m++l)) (.inl ⟨k,l,m,rfl,aH,rfl⟩) rJ
         (by rw[aH];have:=ay _ (apr.2 rfl);exact this)
        rw[e2];exact⟨u,w',ρ',od _ _ aa,ad,ax,aV,bp⟩
       ·cases h
      ·rename_i an l ib m aH;split at h
       ·rename_i ou;simp only[bT.grow.injEq]at h;obtain⟨rfl,rfl,rfl,rfl⟩:=h;obtain rfl:=aoE ou
        obtain⟨u,w',ρ',aa,ad,ax,aV,bp⟩:=L_ (P:=P) (N:=N) (ρ:=ρ) (I:=c1) (w:=w) (ty:=o.type) (bs _) bI ae ak bn aT en (.av an (m++l)) (.inr ⟨an,l,m,rfl,aH,rfl⟩) rJ
         (by rw[aH];have:=ay _ (apr.2 rfl);exact this)
        rw[e2];exact⟨u,w',ρ',od _ _ aa,ad,ax,aV,bp⟩
       ·cases h
      ·cases h
     ·cases h
    ·cases h
   ·cases h
  ·cases h
 ·split at h<;>cases h
 ·split at h<;>cases h
 ·split at h
  ·exact(BS h (fun h=>h)).elim
  ·cases h
 ·cases h
theorem QB {tb:TypeId->b4}{o:Oper}{tm:List R}{p:Bool->Prop}(h:e4 tb o tm I= .fJ p):(∃op t x y ty,o.op= .binOp op t x y ty/\oR op (tb t).ty y (a_ tm x) (a_ tm y) I= .fJ p):=by
 have bc:=h;unfold e4 at h
 cases bK:o.op with
 |binOp op t x y ty=>simp only[bK]at h;exact⟨op,t,x,y,ty,rfl,GV h (fun h=>h)⟩
 |call c=>
  simp only[bK]at h;split at h
  ·unfold kB at h;split at h
   ·split at h
    ·cases h
    ·split at h<;>cases h
   ·split at h
    ·split at h
     ·unfold sk at h;split at h
      ·split at h<;>cases h
      ·split at h
       ·split at h<;>cases h
       ·cases h
      ·split at h<;>cases h
      ·split at h
       ·split at h
        ·split at h<;>cases h
        ·split at h<;>cases h
        ·cases h
       ·cases h
      ·cases h
     ·cases h
    ·cases h
   ·split at h<;>cases h
   ·split at h<;>cases h
   ·split at h
    ·exact(BS h (fun h=>h)).elim
    ·cases h
   ·cases h
  ·cases h
  ·rename_i t _;rcases Mo (b8 .un tm t) (bz (a_ tm) c.args.toList) c.argTypes.toList with e|⟨_,_,e⟩<;>rw[e]at h<;>cases h
  ·cases h
 |_=>have:=Hw (tb:=tb) (o:=o) (tm:=tm) (I:=I) (by rw[bK];rfl);rw[bc]at this;exact this.elim
theorem Yw {tb:TypeId->b4}(bs:∀t,c4 P t (tb t)=true){o:Oper}{tm:List R}{a:Act}(au:eg (aL N ρ I) w ρ I tm a.tmps)
 {p:Bool->Prop} (h:e4 tb o tm I= .fJ p):∃b,p b/\(execOp a.eval o).run P w= .ok (.value (.bool b)) w:=by
 obtain⟨op,t,x,y,ty,aH,ah⟩:=QB h;obtain⟨b,aa,ad⟩:=abi (P:=P) (bs t) au ah;refine⟨b,aa, ?_⟩;unfold execOp;rw[aH];simp only[Sem.run_bind]at ad⊢
 cases bg:(eqGuard op t x y (a.eval x) (a.eval y)).run P w with
 |ok q w1=>
  rw[bg]at ad;simp only[Result.andThen_ok]at ad⊢;rw[ad];rfl
 |halt q w1=>rw[bg]at ad;cases ad
theorem ac6 {tb:TypeId->b4}{o:Oper}{tm:List R}{f:FuncId}{args:List R}{tys:List TypeId}(h:e4 tb o tm I= .call f args tys):
 ∃c,o.op= .call c/\((c.callee= .value (.func f)/\args=bz (a_ tm) c.args.toList)\/∃t,c.callee= .value (.tmp t)/\
  ((b8 .un tm t= .fn f/\args=bz (a_ tm) c.args.toList)\/∃l,b8 .un tm t= .cls f l/\args=eS l (bz (a_ tm) c.args.toList))):=by
 have bc:=h;unfold e4 at h
 cases bK:o.op with
 |call c=>
  simp only[bK]at h;split at h
  ·exfalso;unfold kB at h;split at h
   ·split at h
    ·cases h
    ·split at h<;>cases h
   ·split at h
    ·split at h
     ·unfold sk at h;split at h
      ·split at h<;>cases h
      ·split at h
       ·split at h<;>cases h
       ·cases h
      ·split at h<;>cases h
      ·split at h
       ·split at h
        ·split at h<;>cases h
        ·split at h<;>cases h
        ·cases h
       ·cases h
      ·cases h
     ·cases h
    ·cases h
   ·split at h<;>cases h
   ·split at h<;>cases h
   ·split at h
    ·exact(BS h (fun h=>h)).elim
    ·cases h
   ·cases h
  ·rename_i g aC;simp only[bT.call.injEq]at h;obtain⟨rfl,rfl,rfl⟩:=h;exact⟨c,rfl, .inl ⟨aC,rfl⟩⟩
  ·rename_i t aC;unfold sA at h;split at h
   ·rename_i g aM;simp only[bT.call.injEq]at h;obtain⟨rfl,rfl,rfl⟩:=h;exact⟨c,rfl, .inr ⟨t,aC, .inl ⟨aM,rfl⟩⟩⟩
   ·rename_i g l aM;simp only[bT.call.injEq]at h;obtain⟨rfl,rfl,rfl⟩:=h;exact⟨c,rfl, .inr ⟨t,aC, .inr ⟨l,aM,rfl⟩⟩⟩
   ·cases h
  ·cases h
 |binOp op t x y ty=>
  simp only[bK]at h
  replace h:=GV h (fun h=>h)
  unfold oR at h;split at h
  ·split at h
   ·cases h
   ·cases h
   ·split at h
    ·cases op<;>simp[n9]at h
    ·cases h
  ·split at h<;>cases h
  ·split at h<;>cases h
  ·split at h<;>cases h
  all_goals first|cases h|(unfold jw at h;split at h<;>cases h)
 |_=>have:=Hw (tb:=tb) (o:=o) (tm:=tm) (I:=I) (by rw[bK];rfl);rw[bc]at this;exact this.elim
end
end Go.aj
end
section
namespace Go.aj
def n6:Loc:=⟨none,1,none⟩
section
variable {P:Program} {N:Nat->Prop} {ρ:List Loc} {I:aF} {w:World}
theorem yq {Z:Nat->Prop}{t:R}{v:Value}{id:Nat}(aD:ρ[id]? =some n6)(h:eE Z w ρ I t v)(aB:t.ly id):False:=by
 cases t<;>try exact aB
 case vec i=>
  obtain rfl:i=id:=aB;obtain⟨aw,aa,_,ax⟩:=h;rw[aD]at aa;obtain rfl:=aoL aa;have:=ax rfl;cases this
 case ptr i off=>
  obtain rfl:i=id:=aB;obtain⟨aw,b,aa,ad,_⟩:=h;rw[aD]at aa;obtain rfl:=aoL aa;cases ad
 case optr i x y=>
  obtain rfl:i=id:=aB;obtain⟨aw,b,aa,ad,_⟩:=h;rw[aD]at aa;obtain rfl:=aoL aa;cases ad
 case oat i x y=>
  obtain rfl:i=id:=aB;obtain⟨aw,b,aa,ad,_⟩:=h;rw[aD]at aa;obtain rfl:=aoL aa;cases ad
 case mp i=>
  obtain rfl:i=id:=aB;obtain⟨aw,b,aa,ad,_⟩:=h;rw[aD]at aa;obtain rfl:=aoL aa;cases ad
 case tail i x=>
  obtain rfl:i=id:=aB;obtain⟨aw,b,aa,ad,_⟩:=h;rw[aD]at aa;obtain rfl:=aoL aa;cases ad
theorem Ox {Z:Nat->Prop}{w:World}{ρ:List Loc}{I:aF}{t:R}{v:Value}(aB:∀l,t≠ .agg l)(ao:∀n r,t≠ .rw n r)(h:iq Z w ρ I t v):eE Z w ρ I t v:=by
 cases t<;>first|exact h|exact absurd rfl (aB _)|exact absurd rfl (ao _ _)
theorem Pu {Z:Nat->Prop}{w:World}{ρ:List Loc}{I:aF}{t:R}{v:Value}(aB:∀l,t≠ .tup l)(h:bF Z w ρ I t v):iq Z w ρ I t v:=by
 cases t<;>first|exact h|exact absurd rfl (aB _)
theorem abo {t:TypeId}{i:b4}(hi:c4 P t i=true)(aB:i.ty≠ .no)(h:ct N ρ I w){id:Nat}(aD:ρ[id]? =some n6):
 ∃u w' ρ',(Instr.alloc t true (.tuple #[])).run P w= .ok u w'/\ct N ρ' (I.set id (false, .cells i.ty.zero)) w'/\Fr ρ I w ρ' (I.set id (false, .cells i.ty.zero)) w'/\
  (∀j,j≠id->eR ρ I ρ' (I.set id (false, .cells i.ty.zero)) j)/\(∀fc v,bF (aL N ρ I) w ρ I fc v->bF (aL N ρ' (I.set id (false, .cells i.ty.zero))) w' ρ' (I.set id (false, .cells i.ty.zero)) fc v)/\
  bF (aL N ρ' (I.set id (false, .cells i.ty.zero))) w' ρ' (I.set id (false, .cells i.ty.zero)) (.ptr id 0) u:=by
 obtain⟨g,z,aa,ad,ax,aV⟩:=G3 (w:=w) (ρ:=ρ) (I:=I) hi aB;have bG:=h.jW aD;have xa:id<ρ.length:=by rw[h.len];exact bG
 generalize az:i.ty.zero=l at*
 have mj:∀b,b<w.heap.size->(w.alloc (.cells z.cells t)).heap[b]? =w.heap[b]? :=fun b ah=>heap_alloc_old w _ b ah
 have iV:∀b,gJ (ρ.set id ⟨some ⟨w.heap.size,0,none⟩,0,some w.heap.size⟩) (I.set id (false, .cells l)) b->gJ ρ I b\/b=w.heap.size:=fun b ⟨j,aw,a7,bl,bH⟩=>by
  rw[apo]at a7
  by_cases e:id=j
  ·subst e;rw[aoB rfl,aoB xa]at a7;obtain rfl:=aoL a7;exact .inr (aoL bl).symm
  ·rw[aoA e]at a7;rw[ir,aoA (by simp[e])]at bH;exact .inl ⟨j,aw,a7,bl,bH⟩
 have cH:Fr ρ I w (ρ.set id ⟨some ⟨w.heap.size,0,none⟩,0,some w.heap.size⟩) (I.set id (false, .cells l)) (w.alloc (.cells z.cells t)):=by
  refine⟨rfl,rfl,rfl,by simp,fun b ah _=>mj b ah,fun b ah=> ?_⟩;rcases iV b ah with ah|rfl
  ·exact .inl ah
  ·exact .inr (aoH _)
 have e9:∀j,j≠id->eR ρ I (ρ.set id ⟨some ⟨w.heap.size,0,none⟩,0,some w.heap.size⟩) (I.set id (false, .cells l)) j:=fun j aK aw dQ=>by
  refine⟨by rw[apo,aoA (apq aK)];exact dQ, ?_⟩;rw[gN,aoA (by simp[apq aK])];exact⟨rfl,rfl⟩
 have uE:∀x u,bA (aL N ρ I) w x u->bA (aL N (ρ.set id ⟨some ⟨w.heap.size,0,none⟩,0,some w.heap.size⟩) (I.set id (false, .cells l))) (w.alloc (.cells z.cells t)) x u:=fun x u ak=>
  ak.mono fun b ah bm=>⟨mj b ah,fun dn=>by
   rcases dn with dn|dn
   ·exact bm (.inl dn)
   ·rcases iV b dn with dn|rfl
    ·exact bm (.inr dn)
    ·omega⟩
 have bc:∀fc v,eE (aL N ρ I) w ρ I fc v->eE (aL N (ρ.set id ⟨some ⟨w.heap.size,0,none⟩,0,some w.heap.size⟩) (I.set id (false, .cells l))) (w.alloc (.cells z.cells t)) (ρ.set id ⟨some ⟨w.heap.size,0,none⟩,0,some w.heap.size⟩) (I.set id (false, .cells l)) fc v:=
  fun fc v au=>au.mono uE fun j aK=>e9 j fun e=>yq aD au (e▸aK)
 have tj:∀fc v,iq (aL N ρ I) w ρ I fc v->iq (aL N (ρ.set id ⟨some ⟨w.heap.size,0,none⟩,0,some w.heap.size⟩) (I.set id (false, .cells l))) (w.alloc (.cells z.cells t)) (ρ.set id ⟨some ⟨w.heap.size,0,none⟩,0,some w.heap.size⟩) (I.set id (false, .cells l)) fc v:=fun fc v au=>by
  cases fc with
  |agg x=>
   obtain⟨a,aA,aG,bR⟩:=au;exact⟨a,aA,aG,fun j aK=>bc _ _ (bR j aK)⟩
  |rw n r=>
   obtain⟨a,aA,aG,cY,bR⟩:=au;exact⟨a,aA,aG,cY,fun j aK=>uE _ _ (bR j aK)⟩
  |_=>exact .dc (bc _ _ (Ox (by intro l e;cases e) (by intro n l e;cases e) au))
 have bI:ct N (ρ.set id ⟨some ⟨w.heap.size,0,none⟩,0,some w.heap.size⟩) (I.set id (false, .cells l)) (w.alloc (.cells z.cells t)):=by
  refine h.tc cH (by simp[h.len]) (fun j cF aK k idx ae mz=> ?_) (fun j aw dQ=> ?_)
  ·refine e9 idx fun e=> ?_
   have IS:j<ρ.length:=by
    rcases aqg j ρ.length with ak|ak
    ·exact ak
    ·rw[h.len]at ak;have:ag.at I j= .gone:=by simp[ag.at,d_,aoC,api ak]
     rw[this]at aK;cases aK
   have cf:=h.ob j ρ[j] (by simp[IS]);rw[aK]at cf;obtain⟨b,aI,cb,_,_,_,_,eZ⟩:=cf;exact yq aD (eZ k ae) (e▸mz)
  ·rw[apo]at dQ
   by_cases e:id=j
   ·subst e;rw[aoB rfl,aoB xa]at dQ;obtain rfl:=aoL dQ;refine .inr ⟨fun b ah=> ?_, ?_⟩
    ·simp only[aoY]at ah;subst ah;refine⟨by simp,fun aB=>absurd (h.fC _ aB) (by omega),fun q h3 aZ Ag _=> ?_⟩;rw[apo]at aZ
     by_cases aG:id=q
     ·exact aG.symm
     ·rw[aoA aG]at aZ;have:=h.lt q h3 _ aZ Ag;omega
    ·rw[gN,aoB ⟨rfl,bG⟩];exact⟨w.heap.size,z.cells,t,rfl,rfl,nU w _,ax,fun k ae=>bc _ _ (aV _ k ae)⟩
   ·rw[aoA e]at dQ;exact .inl ⟨dQ,by rw[gN,aoA (by simp[e])],fun ak=>by rwa [ir,aoA (by simp[e])]at ak,fun b ah=>mj b (h.lt j aw b dQ ah)⟩
 refine⟨_,_,_,by simp[Instr.alloc,zeroValue,typeInfo,aa,ad,newVar,newRow],bI,cH,e9,fun fc v au=> ?_, .dc ⟨_,w.heap.size,by rw[apo,aoB rfl,aoB xa],rfl,rfl,rfl⟩⟩
 cases fc with
 |tup x=>
  obtain⟨a,aA,aG,bR⟩:=au;exact⟨a,aA,aG,fun j aK=>tj _ _ (bR j aK)⟩
 |_=>exact .ht (tj _ _ (Pu (by intro l e;cases e) au))
theorem ZV {Z:Nat->Prop}{t:R}{v:Value}{id:Nat}(h:eE Z w ρ I t v)(aB:t.ly id):∃aw,ρ[id]? =some aw:=by
 cases t<;>try exact aB.elim
 case vec i=>obtain rfl:i=id:=aB;obtain⟨aw,aa,_⟩:=h;exact⟨aw,aa⟩
 case ptr i off=>obtain rfl:i=id:=aB;obtain⟨aw,b,aa,_⟩:=h;exact⟨aw,aa⟩
 case optr i x y=>obtain rfl:i=id:=aB;obtain⟨aw,b,aa,_⟩:=h;exact⟨aw,aa⟩
 case oat i x y=>obtain rfl:i=id:=aB;obtain⟨aw,b,aa,_⟩:=h;exact⟨aw,aa⟩
 case mp i=>obtain rfl:i=id:=aB;obtain⟨aw,b,aa,_⟩:=h;exact⟨aw,aa⟩
 case tail i x=>obtain rfl:i=id:=aB;obtain⟨aw,b,aa,_⟩:=h;exact⟨aw,aa⟩
theorem Rx (h:ct N ρ I w){id:Nat}(aD:ρ[id]? =some n6){eH:List Loc}{ob:ag}{w':World}(ay:cn N ρ I w eH (I++[(false,ob)]) w')(cf:∀l,ob≠ .cells l){aw:Loc}(aA:eH[I.length]? =some aw):
 ∃dN,ct N dN (I.set id (false,ob)) w'/\Fr ρ I w dN (I.set id (false,ob)) w'/\(∀j,j≠id->eR ρ I dN (I.set id (false,ob)) j)/\
  (∀fc v,bF (aL N ρ I) w ρ I fc v->bF (aL N dN (I.set id (false,ob))) w' dN (I.set id (false,ob)) fc v)/\dN[id]? =some aw/\id<I.length:=by
 have bG:=h.jW aD;have xa:id<ρ.length:=by rw[h.len];exact bG
 have lM:∀j cF,ρ[j]? =some cF->eH[j]? =some cF:=fun j cF aK=>(ay.same j cF aK).1
 have cT:id≠I.length:=by omega
 have xq:∀j cF,(ρ.set id aw)[j]? =some cF->(j=id/\cF=aw)\/(j≠id/\ρ[j]? =some cF):=fun j cF aK=>by
  rw[apo]at aK
  by_cases e:id=j
  ·subst e;rw[aoB rfl,aoB xa]at aK;exact .inl ⟨rfl,(aoL aK).symm⟩
  ·rw[aoA e]at aK;exact .inr ⟨fun h=>e h.symm,aK⟩
 have tk:∀j cF,ρ[j]? =some cF->j<I.length:=fun j cF aK=>h.jW aK
 have iV:∀b,gJ (ρ.set id aw) (I.set id (false,ob)) b->gJ eH (I++[(false,ob)]) b:=fun b ⟨j,cF,a7,bl,bH⟩=>by
  rcases xq j cF a7 with⟨rfl,rfl⟩|⟨aK,a7⟩
  ·exact⟨I.length,cF,aA,bl,by rw[kH,aoB rfl]⟩
  ·rw[ir,aoA (by simp[apq aK])]at bH;exact⟨j,cF,lM j cF a7,bl,by rw[kH,aoA (by have:=tk j cF a7;omega)];exact bH⟩
 have cH:Fr ρ I w (ρ.set id aw) (I.set id (false,ob)) w':=⟨ay.os,ay.tape,ay.output,ay.size,ay.ar,fun b ah=>ay.alive b (iV b ah)⟩
 have e9:∀j,j≠id->eR ρ I (ρ.set id aw) (I.set id (false,ob)) j:=fun j aK cF dQ=>by
  refine⟨by rw[apo,aoA (apq aK)];exact dQ, ?_⟩;rw[gN,aoA (by simp[apq aK])];exact⟨rfl,rfl⟩
 have HT:∀x v,bA (aL N eH (I++[(false,ob)])) w' x v->bA (aL N (ρ.set id aw) (I.set id (false,ob))) w' x v:=fun x v ak=>
  ak.mono fun b _ bm=>⟨rfl,fun dn=>by
   rcases dn with dn|dn
   ·exact bm (.inl dn)
   ·exact bm (.inr (iV b dn))⟩
 have aee:∀j,j≠id->j<I.length->eR eH (I++[(false,ob)]) (ρ.set id aw) (I.set id (false,ob)) j:=fun j aK iI cF dQ=>by
  have agm:j<ρ.length:=by rw[h.len];exact iI
  have bg:ρ[j]? =some ρ[j]:=aoQ agm;have:=lM j _ bg;rw[dQ]at this;obtain rfl:=aoL this;refine⟨by rw[apo,aoA (apq aK)];exact bg, ?_⟩;rw[gN,aoA (by simp[apq aK]),gM,aoA (by omega)];exact⟨rfl,rfl⟩
 have names:∀j l,ag.at I j= .cells l->∀k idx,k<l.length->(l.getD k .un).ly idx->idx≠id/\idx<I.length:=fun j l aK k idx ae mz=>by
  have IS:j<ρ.length:=by
   rcases aqg j ρ.length with ak|ak
   ·exact ak
   ·rw[h.len]at ak;have:ag.at I j= .gone:=by simp[ag.at,d_,aoC,api ak]
    rw[this]at aK;cases aK
  have cf:=h.ob j ρ[j] (by simp[IS]);rw[aK]at cf;obtain⟨b,aI,cb,_,_,_,_,eZ⟩:=cf;refine⟨fun e=>yq aD (eZ k ae) (e▸mz), ?_⟩;obtain⟨aoo,ak⟩:=ZV (eZ k ae) mz;exact h.jW ak
 have bI:ct N (ρ.set id aw) (I.set id (false,ob)) w':=by
  refine h.Er cH (by simp[h.len]) (fun j l aK k idx ae mz=>e9 idx (names j l aK k idx ae mz).1) (fun j cF aK=> ?_)
  by_cases sp:j≠id/\hq I j
  ·obtain⟨s1,s2⟩:=sp;rcases xq j cF aK with⟨rfl,_⟩|⟨_,a7⟩
   ·exact absurd rfl s1
   ·exact .inl ⟨a7,by rw[gN,aoA (by simp[apq s1])],fun ak=>by rwa [ir,aoA (by simp[apq s1])]at ak,fun ai_=>absurd s2 ai_⟩
  have fresh:¬hq (I++[(false,ob)]) I.length:=nY (by rw[kH,aoB rfl])
  have kQ:∀q,q<I.length->¬hq I q->¬hq (I++[(false,ob)]) q:=fun q aZ aB ⟨f,n,an,e⟩=>aB ⟨by rwa [kH,aoA (by omega)]at f,n,an,by rwa [gM,aoA (by omega)]at e⟩
  have R6:∀q,q≠id->¬hq (I.set id (false,ob)) q->¬hq I q:=fun q aZ aB ⟨f,n,an,e⟩=>aB ⟨by rw[ir,aoA (by simp[apq aZ])];exact f,n,an,by rw[gN,aoA (by simp[apq aZ])];exact e⟩
  refine .inr ⟨fun b ah=> ?_, ?_⟩
  ·have uniq:∀q h3,(ρ.set id aw)[q]? =some h3->h3.bE=some b->¬hq (I.set id (false,ob)) q->q=j:=fun q h3 aZ Ag UJ=>by
    rcases xq j cF aK with⟨rfl,rfl⟩|⟨h1,a7⟩<;>rcases xq q h3 aZ with⟨rfl,rfl⟩|⟨th,bl⟩
    ·rfl
    ·have:=ay.rel.inj q I.length h3 cF b (lM q h3 bl) aA Ag ah (kQ q (tk q h3 bl) (R6 q th UJ)) fresh;have:=tk q h3 bl;omega
    ·have:=ay.rel.inj j I.length cF h3 b (lM j cF a7) aA ah Ag (kQ j (tk j cF a7) fun s=>sp ⟨h1,s⟩) fresh;have:=tk j cF a7;omega
    ·exact ay.rel.inj q j h3 cF b (lM q h3 bl) (lM j cF a7) Ag ah (kQ q (tk q h3 bl) (R6 q th UJ)) (kQ j (tk j cF a7) fun s=>sp ⟨h1,s⟩)
   rcases xq j cF aK with⟨rfl,rfl⟩|⟨h1,a7⟩
   ·exact⟨ay.rel.lt _ _ _ aA ah,ay.rel.fR _ _ _ aA ah,uniq⟩
   ·exact⟨ay.rel.lt _ _ _ (lM j cF a7) ah,ay.rel.fR _ _ _ (lM j cF a7) ah,uniq⟩
  ·rcases xq j cF aK with⟨rfl,rfl⟩|⟨h1,a7⟩
   ·rw[gN,aoB ⟨rfl,bG⟩];have:=ay.rel.ob I.length cF aA;rw[gM,aoB rfl]at this;exact this.mono (fun _ _=>rfl) HT fun l az=>absurd az (cf l)
   ·rw[gN,aoA (by simp[apq h1])];have:=ay.rel.ob j cF (lM j cF a7);rw[gM,aoA (by have:=tk j cF a7;omega)]at this;exact this.mono (fun _ _=>rfl) HT fun l az k idx ae mz=>aee idx (names j l az k idx ae mz).1 (names j l az k idx ae mz).2
 have uE:∀x v,bA (aL N ρ I) w x v->bA (aL N (ρ.set id aw) (I.set id (false,ob))) w' x v:=fun x v ak=>HT x v (ay.toFr.reads ak)
 have bc:∀fc v,eE (aL N ρ I) w ρ I fc v->eE (aL N (ρ.set id aw) (I.set id (false,ob))) w' (ρ.set id aw) (I.set id (false,ob)) fc v:=
  fun fc v au=>au.mono uE fun j aK=>e9 j fun e=>yq aD au (e▸aK)
 have tj:∀fc v,iq (aL N ρ I) w ρ I fc v->iq (aL N (ρ.set id aw) (I.set id (false,ob))) w' (ρ.set id aw) (I.set id (false,ob)) fc v:=fun fc v au=>by
  cases fc with
  |agg x=>
   obtain⟨a,aA,aG,bR⟩:=au;exact⟨a,aA,aG,fun j aK=>bc _ _ (bR j aK)⟩
  |rw n r=>
   obtain⟨a,aA,aG,cY,bR⟩:=au;exact⟨a,aA,aG,cY,fun j aK=>uE _ _ (bR j aK)⟩
  |_=>exact .dc (bc _ _ (Ox (by intro l e;cases e) (by intro n l e;cases e) au))
 refine⟨ρ.set id aw,bI,cH,e9,fun fc v au=> ?_,by rw[apo,aoB rfl,aoB xa],bG⟩
 cases fc with
 |tup x=>
  obtain⟨a,aA,aG,bR⟩:=au;exact⟨a,aA,aG,fun j aK=>tj _ _ (bR j aK)⟩
 |_=>exact .ht (tj _ _ (Pu (by intro l e;cases e) au))
theorem R7 (h:ct N ρ I w){id:Nat}(aD:ρ[id]? =some n6){eH:List Loc}{ob:ag}{w':World}(ay:cn N ρ I w eH (I++[(false,ob)]) w')(cf:∀l,ob≠ .cells l){u:Value}
 (hu:bF (aL N eH (I++[(false,ob)])) w' eH (I++[(false,ob)]) (.vec I.length) u):
 ∃dN,ct N dN (I.set id (false,ob)) w'/\Fr ρ I w dN (I.set id (false,ob)) w'/\(∀j,j≠id->eR ρ I dN (I.set id (false,ob)) j)/\
  (∀fc v,bF (aL N ρ I) w ρ I fc v->bF (aL N dN (I.set id (false,ob))) w' dN (I.set id (false,ob)) fc v)/\
  bF (aL N dN (I.set id (false,ob))) w' dN (I.set id (false,ob)) (.vec id) u:=by
 obtain⟨aw,aA,aG,bR⟩:∃aw,eH[I.length]? =some aw/\u= .slice aw.a (ag.at (I++[(false,ob)]) I.length).len aw.cap/\(aw.a=none->aw.cap=0):=hu
 obtain⟨dN,a7,bl,bH,dJ,eZ,gE⟩:=Rx h aD ay cf aA;exact⟨dN,a7,bl,bH,dJ, .dc ⟨aw,eZ,by rw[aG,gM,aoB rfl,gN,aoB ⟨rfl,gE⟩],bR⟩⟩
theorem abp {t:TypeId}{i:b4}(hi:c4 P t i=true)(ah:i.ty.ja=true)(bm:Nat.blt 0 i.ty.size=true)(h:ct N ρ I w){id:Nat}(aD:ρ[id]? =some n6):
 ∃u w' dN,(Instr.alloc t true (.tuple #[])).run P w= .ok u w'/\ct N dN (I.set id (false,ag.av i.ty.size [bz b6.ga i.ty.cells])) w'/\Fr ρ I w dN (I.set id (false,ag.av i.ty.size [bz b6.ga i.ty.cells])) w'/\
  (∀j,j≠id->eR ρ I dN (I.set id (false,ag.av i.ty.size [bz b6.ga i.ty.cells])) j)/\(∀fc v,bF (aL N ρ I) w ρ I fc v->bF (aL N dN (I.set id (false,ag.av i.ty.size [bz b6.ga i.ty.cells]))) w' dN (I.set id (false,ag.av i.ty.size [bz b6.ga i.ty.cells])) fc v)/\
  bF (aL N dN (I.set id (false,ag.av i.ty.size [bz b6.ga i.ty.cells]))) w' dN (I.set id (false,ag.av i.ty.size [bz b6.ga i.ty.cells])) (.optr id 0 0) u:=by
 have he:uh i.ty I= .a6 [] (.optr I.length 0 0) (I++[(false,ag.av i.ty.size [bz b6.ga i.ty.cells])]):=by
  unfold uh;rw[ah,bm];simp only[fZ,cO]
 obtain⟨u,w',eH,aa,ad,ax⟩:=ME hi h he
 obtain⟨aw,b,aA,aG,bR,cY,hO,jK⟩:∃aw b,eH[I.length]? =some aw/\aw.a=some ⟨b,0,none⟩/\aw.bE=some b/\u= .pointer (some ⟨b,Int.toNat 0*(ag.at (I++[(false,ag.av i.ty.size [bz b6.ga i.ty.cells])]) I.length).cL+0,none⟩)/\(0:Int)<=0/\(0:Int)<((ag.at (I++[(false,ag.av i.ty.size [bz b6.ga i.ty.cells])]) I.length).len:Int):=ax
 obtain⟨dN,a7,bl,bH,dJ,eZ,gE⟩:=Rx h aD ad (fun l e=>by cases e) aA;exact⟨u,w',dN,aa,a7,bl,bH,dJ, .dc ⟨aw,b,eZ,aG,bR,by rw[cY,gM,aoB rfl,gN,aoB ⟨rfl,gE⟩],Int.le_refl 0,by rw[gN,aoB ⟨rfl,gE⟩];simp[ag.len]⟩⟩
theorem abq (h:ct N ρ I w):cn N ρ I w (ρ++[n6]) (I++[(false, .gone)]) w:=by
 have cH:Fr ρ I w (ρ++[n6]) (I++[(false, .gone)]) w:=by
  refine⟨rfl,rfl,rfl,aoH _,fun b ah _=>rfl,fun b ⟨i,aw,aa,ad,ax⟩=> ?_⟩;rw[ao7]at aa
  by_cases hi:i<ρ.length
  ·rw[aoB hi]at aa;rw[kH,aoA (by rw[<-h.len];omega)]at ax;exact .inl ⟨i,aw,aa,ad,ax⟩
  ·rw[aoA hi]at aa
   cases aY:i-ρ.length with
   |zero=>simp[aY]at aa;subst aa;cases ad
   |succ n=>simp[aY]at aa
 have e9:∀id,eR ρ I (ρ++[n6]) (I++[(false, .gone)]) id:=fun id=>GR h _ _ id
 refine{cH with rel:=h.tc cH (by simp[h.len]) (fun _ _ _ _ id _ _=>e9 id) (fun i aw az=> ?_),same:=e9};rw[ao7]at az
 by_cases hi:i<ρ.length
 ·rw[aoB hi]at az;exact .inl ⟨az,by rw[gM,aoA (by rw[<-h.len];omega)],fun ak=>by rwa [kH,aoA (by rw[<-h.len];omega)]at ak,fun b ah=>rfl⟩
 ·rw[aoA hi]at az
  cases aY:i-ρ.length with
  |succ n=>simp[aY]at az
  |zero=>
   simp[aY]at az;subst az;have eJ:i=I.length:=by rw[<-h.len];omega
   refine .inr ⟨fun b ah=>(by cases ah), ?_⟩;rw[eJ,gM,aoB rfl];trivial
theorem Oy:∀(n:Nat) (ρ:List Loc) (I:aF),ct N ρ I w->cn N ρ I w (ρ++List.replicate n n6) (I++List.replicate n (false, .gone)) w
 |0,ρ,I,h=>by simpa using cn.refl h
 |n+1,ρ,I,h=>by
  have aa:=abq h;have ad:=Oy n _ _ aa.rel;have:=aa.trans ad;simpa[List.replicate_succ]using this
end
end Go.aj
end
section
namespace Go.aj
structure eN (N:Nat->Prop)(ρ:List Loc)(tm:List R)(I:aF)(a:Act)(w:World):Prop where
 e5:ct N ρ I w
 eG:eg (aL N ρ I) w ρ I tm a.tmps
 ik:a.defers=[]
structure m1 (N:Nat->Prop)(ρ:List Loc)(I:aF)(a:Act)(w:World)(wr:Tmp->Bool)(K:List R->aF->Prop)(b5:Act)(w':World):Prop where
 ex:∃ev al ρ',K ev al/\eN N ρ' ev al b5 w'/\Fr ρ I w ρ' al w'
 same:∀t,wr t=false->b5.tmps.getD t undef=a.tmps.getD t undef
 an:b5.tmps.size=a.tmps.size
section
variable {P:Program} {N:Nat->Prop}
def rp (ops:Array Oper)(t:Tmp):Bool:=ops.toList.any fun o=>match o.dst with|some d=>Nat.beq d t|none=>false
theorem Na:∀(l:List Oper) (j:Nat),l_ l j=(l[j]?).bind (·.dst)
 |[],j=>by simp[l_]
 |o::r,0=>by simp[l_]
 |o::r,n+1=>by simp[l_,Na r n]
theorem abr (a:Act)(dst:Option Tmp)(v:Value)(t:Tmp)(h:dst≠some t):(a.put dst v).tmps.getD t undef=a.tmps.getD t undef:=by
 cases dst with
 |none=>rfl
 |some d=>
  simp only[Act.put];rw[wa,aoA];rintro⟨rfl,_⟩;exact h rfl
theorem Oz {ops:Array Oper}{i:Nat}{o:Oper}(aH:ops[i]? =some o){t:Tmp}(h:rp ops t=false):o.dst≠some t:=by
 intro aY
 have hm:o∈ops.toList:=by
  obtain⟨hi,rfl⟩:=aqS.1 aH;simp
 unfold rp at h;rw[List.any_eq_false]at h;have:=h o hm;rw[aY]at this;simp at this
theorem Da {N:Nat->Prop}{ρ:List Loc}{tm:List R}{I:aF}{a:Act}{w:World}(h:eN N ρ tm I a w)(g:Tmp){b:Bool}(ah:a.tmps.getD g undef= .bool b):
 eN N ρ (c0 tm g (if b then .bt else .bf)) I a w:=by
 refine⟨h.e5,⟨by rw[e2];simpa using h.eG.size,fun t=> ?_⟩,h.ik⟩;rw[e2,e1];split
 ·rename_i e;rw[<-e.1,ah];cases b<;>exact .dc rfl
 ·exact h.eG.at_ t
theorem ZW {o:Oper}{a:Act}{next next':Act->World->Prop}{Q jg:Exit->Act->World->Prop}(aB:∀a w,next a w->next' a w)(aZ:∀e a w,Q e a w->jg e a w){r:Result Next}
 (h:o.upon P a next Q r):o.upon P a next' jg r:=by
 unfold Oper.upon at h⊢;split at h
 ·exact aB _ _ h
 ·exact aB _ _ h
 ·exact aB _ _ h
 ·refine h.mono fun e w ao=> ?_
  cases e with
  |returned v=>exact aB _ _ ao
  |panicked c=>exact aZ _ _ _ ao
  |outgrown=>obtain⟨x,y,ca⟩:=ao;exact⟨x,y,aZ _ _ _ ca⟩
 ·exact h.mono fun v w ao=>aB _ _ ao
 ·exact aZ _ _ _ h
 ·exact h.elim
theorem t_ {ops:Array Oper}{Q jg:Exit->Act->World->Prop}(aZ:∀e a w,Q e a w->jg e a w):∀(l:List Nat) (a:Act) (w:World),wpOps P ops Q l a w->wpOps P ops jg l a w
 |[],a,w,h=>aZ _ _ _ h
 |i::bQ,a,w,h=>by
  simp only[wpOps]at h⊢;split
  ·rename_i aH;rw[aH]at h;exact t_ aZ bQ a w h
  ·rename_i o aH;rw[aH]at h;simp only at h;split
   ·rename_i hw;rw[aoB hw]at h;rcases h with h|⟨aa,x,y,ad⟩
    ·exact .inl (ZW (fun a w=>t_ aZ bQ a w) aZ h)
    ·exact .inr ⟨aa,x,y,aZ _ _ _ ad⟩
   ·rename_i hw;rw[aoA hw]at h;exact t_ aZ bQ _ w h
theorem Gy (tb:TypeId->b4)(aJ:List (Tmp×Nat))(o:Oper)(tm:List R)(I:aF):cN tb aJ o tm I=e4 tb o tm I\/
 (∃t d id,o.op= .alloc t/\o.dst=some d/\fz d aJ=some id/\(cN tb aJ o tm I= .bad\/((tb t).ty≠ .no/\cN tb aJ o tm I= .a6 [] (.ptr id 0) (c0 I id (false, .cells (tb t).ty.zero)))\/
   ((tb t).ty.ja=true/\Nat.blt 0 (tb t).ty.size=true/\cN tb aJ o tm I= .a6 [] (.optr id 0 0) (c0 I id (false, .av (tb t).ty.size [bz b6.ga (tb t).ty.cells])))))\/
 ∃t n bN d id,o.op= .buildSlice t n bN/\o.dst=some d/\fz d aJ=some id/\(cN tb aJ o tm I= .bad\/∃ob,sS (tb t) n (bz (fun p=>(p.1,a_ tm p.2)) bN.toList) I=some ob/\cN tb aJ o tm I= .a6 [] (.vec id) (c0 I id (false,ob))):=by
 unfold cN;split
 ·rename_i t d aH aY;split
  ·rename_i id dR;refine .inr (.inl ⟨t,d,id,aH,aY,dR, ?_⟩);split
   ·exact .inl rfl
   ·exact .inl rfl
   ·rename_i aB;exact .inr (.inl ⟨fun h=>aB h,rfl⟩)
   ·exact .inl rfl
   ·rename_i ah _;split
    ·rename_i bm;exact .inr (.inr ⟨ah,bm,rfl⟩)
    ·exact .inl rfl
  ·exact .inl rfl
 ·rename_i t n bN d aH aY;split
  ·rename_i id az dR;refine .inr (.inr ⟨t,n,bN,d,id,aH,aY,dR, ?_⟩);split
   ·rename_i ob cf _;exact .inr ⟨ob,cf,rfl⟩
   ·exact .inl rfl
  ·exact .inl rfl
 ·exact .inl rfl
theorem abt {ρ:List Loc}{I:aF}{w:World}{tb:TypeId->b4}{t:TypeId}(bs:c4 P t (tb t)=true)(h:ct N ρ I w){tm:List R}{a:Act}(au:eg (aL N ρ I) w ρ I tm a.tmps){id:Nat}(aD:ρ[id]? =some n6)
 (n:Nat) (bN:Array (Nat×Operand)) {ob:ag} (cf:sS (tb t) n (bz (fun p=>(p.1,a_ tm p.2)) bN.toList) I=some ob):
 ∃u w' dN,(Instr.buildSlice t n (bN.map fun(i,x)=>(i,a.eval x))).run P w= .ok u w'/\ct N dN (I.set id (false,ob)) w'/\Fr ρ I w dN (I.set id (false,ob)) w'/\(∀j,j≠id->eR ρ I dN (I.set id (false,ob)) j)/\
  (∀fc v,bF (aL N ρ I) w ρ I fc v->bF (aL N dN (I.set id (false,ob))) w' dN (I.set id (false,ob)) fc v)/\
  bF (aL N dN (I.set id (false,ob))) w' dN (I.set id (false,ob)) (.vec id) u:=by
 unfold sS at cf;split at cf
 ·rename_i k b_;split at cf
  ·rename_i l az aB;obtain rfl:=aoL cf;obtain⟨u,w',eH,aa,ad,ax⟩:=MJ (P:=P) bs h au bN n b_ az (ao9 aB);obtain⟨dN,a7⟩:=R7 h aD ad (fun l e=>by cases e) ax;exact⟨u,w',dN,aa,a7⟩
  ·cases cf
 ·rename_i an b_;split at cf
  ·rename_i l az aB;obtain rfl:=aoL cf;obtain⟨u,w',eH,aa,ad,ax⟩:=Gx (P:=P) bs h au bN n b_ az (ao9 aB);obtain⟨dN,a7⟩:=R7 h aD ad (fun l e=>by cases e) ax;exact⟨u,w',dN,aa,a7⟩
  ·cases cf
 ·cases cf
theorem Yx {t:b4}{x y:R}{I al:aF}{s:List Prop}{v:R}{id:Nat}(h:sk t x y I= .grow s v al id):x= .vec id:=by
 unfold sk at h;split at h
 ·split at h<;>cases h
 ·split at h
  ·split at h<;>cases h
  ·cases h
 ·split at h<;>cases h
 ·rename_i i a;split at h
  ·split at h
   ·split at h
    ·simp only[bT.grow.injEq]at h;rw[h.2.2.2]
    ·cases h
   ·split at h
    ·simp only[bT.grow.injEq]at h;rw[h.2.2.2]
    ·cases h
   ·cases h
  ·cases h
 ·cases h
theorem abu {tb:TypeId->b4}{o:Oper}{tm:List R}{I al:aF}{s:List Prop}{v:R}{id:Nat}(h:e4 tb o tm I= .grow s v al id):∃x:Operand,a_ tm x= .vec id:=by
 obtain⟨c,b,_,_,h⟩:=Ow h;generalize gl:bz (a_ tm) c.args.toList=args at h;unfold kB at h;split at h
 ·split at h
  ·cases h
  ·split at h<;>cases h
 ·obtain⟨p,q,_,aD,_⟩:=Ht gl;split at h
  ·split at h
   ·exact⟨p,by rw[aD];exact Yx h⟩
   ·cases h
  ·cases h
 ·split at h<;>cases h
 ·split at h<;>cases h
 ·split at h
  ·exact(BS h (fun h=>h)).elim
  ·cases h
 ·cases h
def zG (aJ:List (Tmp×Nat))(ops:Array Oper)(is:List Nat)(ρ:List Loc):Prop:=∀i∈is,∀o d id,ops[i]? =some o->o.dst=some d->fz d aJ=some id->ρ[id]? =some n6
def Hx (aJ:List (Tmp×Nat))(ops:Array Oper):Prop:=∀(i j:Nat) (o p:Oper) (d e:Tmp) (id:Nat),ops[i]? =some o->ops[j]? =some p->o.dst=some d->p.dst=some e->fz d aJ=some id->fz e aJ=some id->i=j
theorem By {Z:Nat->Prop}{w:World}{ρ:List Loc}{I:aF}{v:R}(ae:xk v=true):eE Z w ρ I v (w_ v):=by
 cases v with
 |d x=>
  cases x with
  |int k n=>exact bA.int k n
  |bool b=>exact bA.bool b
  |_=>cases ae
 |bt=>rfl
 |bf=>rfl
 |_=>cases ae
theorem Yy {Z:Nat->Prop}{w:World}{ρ:List Loc}{I:aF}{v:R}(ae:xw v=true):bF Z w ρ I v (uU v):=by
 cases v with
 |agg l=>
  have ae:ef xk l=true:=ae;rw[fH,aoU]at ae;refine .ht ⟨(bz w_ l).toArray,rfl,by rw[dP];simp,fun i hi=> ?_⟩;have:=By (Z:=Z) (w:=w) (ρ:=ρ) (I:=I) (ae (l.getD i .un) (by simp[aoC,hi]));simpa[dP,aoJ,aoC,hi]using this
 |d x=>exact .dc (By (v:= .d x) ae)
 |bt=>exact .dc (By (v:= .bt) rfl)
 |bf=>exact .dc (By (v:= .bf) rfl)
 |_=>cases ae
theorem ZX {tb:TypeId->b4}{o:Oper}{tm:List R}{ρ:List Loc}{I:aF}{a:Act}{w:World}{f:FuncId}{args:List R}{tys:List TypeId}(au:eg (aL N ρ I) w ρ I tm a.tmps)(h:e4 tb o tm I= .call f args tys):
 ∃cq:Array Value,args.length=cq.size/\(∀j,j<args.length->bF (aL N ρ I) w ρ I (args.getD j .un) (cq.getD j undef))/\(execOp a.eval o).run P w=(callFunc f cq).run P w:=by
 obtain⟨c,bK,h⟩:=ac6 h;obtain⟨hlen,gl⟩:=HS au c.args
 have rf:∀j,j<(bz (a_ tm) c.args.toList).length->bF (aL N ρ I) w ρ I ((bz (a_ tm) c.args.toList).getD j .un) ((c.args.map a.eval).getD j undef):=fun j aK=>by have:=gl j aK;simpa[aoJ,aoC]using this
 have az:(bz (a_ tm) c.args.toList).length=(c.args.map a.eval).size:=by simpa using hlen
 rcases h with⟨aC,rfl⟩|⟨t,aC,⟨aM,rfl⟩|⟨l,aM,rfl⟩⟩
 ·refine⟨c.args.map a.eval,az,rf, ?_⟩;unfold execOp;rw[bK];simp only[resolve,aC,Deferred.ofValue,Act.eval,pure_bind,invoke];simp
 ·have ak:=au.at_ t;rw[<-d_,aM]at ak;have ak:a.tmps.getD t undef= .func (.func f) #[] #[]:=ak;refine⟨c.args.map a.eval,az,rf, ?_⟩;unfold execOp;rw[bK];simp only[resolve,aC,Act.eval,ak,Deferred.ofValue,pure_bind,invoke];simp
 ·have ak:=au.at_ t;rw[<-d_,aM]at ak;obtain⟨ak,ae⟩:a.tmps.getD t undef= .func (.func f) (bz uU l).toArray #[]/\ef xw l=true:=ak;rw[fH,aoU]at ae;refine⟨(bz uU l).toArray++c.args.map a.eval,by rw[fZ,ao1,az,Array.size_append,dP];simp,fun j aK=> ?_, ?_⟩
  ·rw[fZ]at aK⊢;rw[aoC,aoJ,ao7,Array.getElem?_append];have ay:(bz uU l).toArray.size=l.length:=by rw[dP];simp
   rw[ay]
   by_cases bG:j<l.length
   ·rw[aoB bG,aoB bG];have:=Yy (Z:=aL N ρ I) (w:=w) (ρ:=ρ) (I:=I) (ae (l.getD j .un) (by simp[aoC,bG]));simpa[dP,aoC,bG]using this
   ·rw[aoA bG,aoA bG];have:=rf (j-l.length) (by rw[ao1]at aK;omega);simpa[aoJ,aoC]using this
  ·unfold execOp;rw[bK];simp only[resolve,aC,Act.eval,ak,Deferred.ofValue,pure_bind,invoke];simp
theorem G6 {tb:TypeId->b4}{bx:FuncId->gA}(bs:∀t,c4 P t (tb t)=true)(Fc:∀t,pV P tb t=true)(ew:∀f args I K,bx f args I K->yL P f (bx f))(aJ:List (Tmp×Nat))(ops:Array Oper)(zH:Hx aJ ops)(K:List R->aF->Prop):
 ∀(is:List Nat),(∀i∈is,i<ops.size)->is.Nodup->∀(tm:List R) (I:aF) (a:Act) (w:World) (ρ:List Loc),zG aJ ops is ρ->
  dF tb bx aJ ops.toList (is.map fun i=>ops.toList.getD i default) tm I K->eN N ρ tm I a w->
  wpOps P ops (fun e b5 w'=>e= .normal/\m1 N ρ I a w (rp ops) K b5 w') is a w:=by
 intro is
 induction is with
 |nil=>
  intro _ _ tm I a w ρ _ h ay;exact⟨rfl,⟨tm,I,ρ,h,ay,Fr.refl _ _ _⟩,fun _ _=>rfl,rfl⟩
 |cons i bQ bM=>
  intro bG vk tm I a w ρ Fe h ay;have hi:i<ops.size:=bG i (by simp);have aH:ops[i]? =some ops[i]:=by simp[hi]
  have m2:ops.toList.getD i default=ops[i]:=by simp[aoC,hi]
  simp only[ape,m2]at h;simp only[wpOps,aH];have aja:=bM (fun j aK=>bG j (by simp[aK])) (aqR.1 vk).2
  have next:∀(gY:List R) (c1:aF) (w1:World) (eH:List Loc) (u:Value),dF tb bx aJ ops.toList (bQ.map fun i=>ops.toList.getD i default) gY c1 K->
   eN N eH gY c1 (a.put ops[i].dst u) w1->Fr ρ I w eH c1 w1->zG aJ ops bQ eH->
   wpOps P ops (fun e b5 w'=>e= .normal/\m1 N ρ I a w (rp ops) K b5 w') bQ (a.put ops[i].dst u) w1:=by
   intro gY c1 w1 eH u ae e_ aT ajb;have:=aja gY c1 (a.put ops[i].dst u) w1 eH ajb ae e_;refine t_ ?_ _ _ _ this;rintro e b5 w' ⟨he,⟨ev,al,ρ',a7,bl,bH⟩,e9,cr⟩;refine⟨he,⟨ev,al,ρ',a7,bl,aT.trans bH⟩,fun t au=> ?_,cr.trans (by cases ops[i].dst<;>simp[Act.put])⟩;rw[e9 t au,abr _ _ _ _ (Oz aH au)]
  have qm:zG aJ ops bQ ρ:=fun j aK=>Fe j (by simp[aK])
  have j4:∀{eH c1},(∀id,eR ρ I eH c1 id)->zG aJ ops bQ eH:=fun kY j aK o d id aA bR cY=>(kY id _ (qm j aK o d id aA bR cY)).1
  have run:∀(dB:List R),eN N ρ dB I a w->
   (match cN tb aJ ops[i] dB I with
     | .bad=>False
     | .a6 ch v al=>gO ch (dF tb bx aJ ops.toList (bQ.map fun i=>ops.toList.getD i default) (put dB ops[i].dst v) al K)
     | .grow ch v al id=>gO ch (dF tb bx aJ ops.toList (bQ.map fun i=>ops.toList.getD i default) (put (bz (ep id) dB) ops[i].dst v) (gH id al) K)
     | .fJ p=>∀b:Bool,p b->dF tb bx aJ ops.toList (bQ.map fun i=>ops.toList.getD i default) (put dB ops[i].dst (.d (.bool b))) I K
     | .call f args _=>bx f args I fun v al=>dF tb bx aJ ops.toList (bQ.map fun i=>ops.toList.getD i default) (put dB ops[i].dst v) al K)->
   ops[i].wp P a w (wpOps P ops (fun e b5 w'=>e= .normal/\m1 N ρ I a w (rp ops) K b5 w') bQ) (fun e b5 w'=>e= .normal/\m1 N ρ I a w (rp ops) K b5 w'):=by
   intro dB eX ao;unfold Oper.wp;rcases Gy tb aJ ops[i] dB I with ak|⟨t,d,id,cM,cA,dY,ak⟩|⟨t,n,bN,d,id,cM,cA,dY,ak⟩;rotate_left
   ·rcases ak with ak|⟨aB,ak⟩|⟨ah,bm,ak⟩
    ·rw[ak]at ao;exact ao.elim
    rotate_left
    ·rw[ak]at ao;have ao:dF tb bx aJ ops.toList (bQ.map fun i=>ops.toList.getD i default) (put dB ops[i].dst (.optr id 0 0)) (c0 I id (false, .av (tb t).ty.size [bz b6.ga (tb t).ty.cells])) K:=ao;obtain⟨u,w',ρ',aa,ad,ax,aV,bp,b1⟩:=abp (P:=P) (bs t) ah bm eX.e5 (Fe i (by simp) _ d id aH cA dY)
     have hex:(execOp a.eval ops[i]).run P w= .ok (.value u) w':=by
      unfold execOp;rw[cM];simp only[Sem.run_bind,aa,Result.andThen_ok,Sem.run_pure]
     rw[hex];rw[e2]at ao
     have e_:eN N ρ' (put dB ops[i].dst (.optr id 0 0)) (I.set id (false, .av (tb t).ty.size [bz b6.ga (tb t).ty.cells])) (a.put ops[i].dst u) w':=
      ⟨ad,eg.put ⟨eX.eG.size,fun t=>bp _ _ (eX.eG.at_ t)⟩ _ b1,by cases ops[i].dst<;>exact eX.ik⟩
     refine next _ _ _ _ u ao e_ ax fun j aK o tM j5 aA bR cY=> ?_
     have cT:j5≠id:=fun e=>(aqR.1 vk).1 (zH j i o ops[i] tM d id aA aH bR cA (e▸cY) dY▸aK);exact(aV j5 cT _ (qm j aK o tM j5 aA bR cY)).1
    rw[ak]at ao;have ao:dF tb bx aJ ops.toList (bQ.map fun i=>ops.toList.getD i default) (put dB ops[i].dst (.ptr id 0)) (c0 I id (false, .cells (tb t).ty.zero)) K:=ao;obtain⟨u,w',ρ',aa,ad,ax,aV,bp,b1⟩:=abo (P:=P) (bs t) aB eX.e5 (Fe i (by simp) _ d id aH cA dY)
    have hex:(execOp a.eval ops[i]).run P w= .ok (.value u) w':=by
     unfold execOp;rw[cM];simp only[Sem.run_bind,aa,Result.andThen_ok,Sem.run_pure]
    rw[hex];rw[e2]at ao
    have e_:eN N ρ' (put dB ops[i].dst (.ptr id 0)) (I.set id (false, .cells (tb t).ty.zero)) (a.put ops[i].dst u) w':=
     ⟨ad,eg.put ⟨eX.eG.size,fun t=>bp _ _ (eX.eG.at_ t)⟩ _ b1,by cases ops[i].dst<;>exact eX.ik⟩
    refine next _ _ _ _ u ao e_ ax fun j aK o tM j5 aA bR cY=> ?_
    have cT:j5≠id:=fun e=>(aqR.1 vk).1 (zH j i o ops[i] tM d id aA aH bR cA (e▸cY) dY▸aK);exact(aV j5 cT _ (qm j aK o tM j5 aA bR cY)).1
   ·rcases ak with ak|⟨ob,cf,ak⟩
    ·rw[ak]at ao;exact ao.elim
    rw[ak]at ao;have ao:dF tb bx aJ ops.toList (bQ.map fun i=>ops.toList.getD i default) (put dB ops[i].dst (.vec id)) (c0 I id (false,ob)) K:=ao;obtain⟨u,w',ρ',aa,ad,ax,aV,bp,b1⟩:=abt (P:=P) (bs t) eX.e5 eX.eG (Fe i (by simp) _ d id aH cA dY) n bN cf
    have hex:(execOp a.eval ops[i]).run P w= .ok (.value u) w':=by
     unfold execOp;rw[cM];simp only[Sem.run_bind,aa,Result.andThen_ok,Sem.run_pure]
    rw[hex];rw[e2]at ao
    have e_:eN N ρ' (put dB ops[i].dst (.vec id)) (I.set id (false,ob)) (a.put ops[i].dst u) w':=
     ⟨ad,eg.put ⟨eX.eG.size,fun t=>bp _ _ (eX.eG.at_ t)⟩ _ b1,by cases ops[i].dst<;>exact eX.ik⟩
    refine next _ _ _ _ u ao e_ ax fun j aK o tM j5 aA bR cY=> ?_
    have cT:j5≠id:=fun e=>(aqR.1 vk).1 (zH j i o ops[i] tM d id aA aH bR cA (e▸cY) dY▸aK);exact(aV j5 cT _ (qm j aK o tM j5 aA bR cY)).1
   rw[ak]at ao;split at ao
   ·exact ao.elim
   ·rename_i ch v al he;rw[ho]at ao;obtain⟨rn,ao⟩:=ao;obtain⟨oF,w',ρ',u,aa,ad,ax,aV⟩:=ZS (P:=P) bs Fc eX.e5 eX.eG he rn;rw[aa]
    have e_:eN N ρ' (put dB ops[i].dst v) al (a.put ops[i].dst u) w':=
     ⟨ax.rel,eg.put (eX.eG.step ax) _ aV,by cases ops[i].dst<;>exact eX.ik⟩
    have aB:=next _ _ _ _ u ao e_ ax.toFr (j4 ax.same)
    rcases ad with rfl|⟨rfl,rfl⟩
    ·exact aB
    ·exact aB
   ·rename_i ch v al id he;rw[ho]at ao;obtain⟨rn,ao⟩:=ao;obtain⟨u,w',ρ',aa,ad,ax,aV,bp⟩:=Yv (P:=P) bs eX.e5 eX.eG he rn;rw[aa]
    have Ah:eg (aL N ρ' (gH id al)) w' ρ' (gH id al) (bz (ep id) dB) a.tmps:=by
     refine⟨by rw[dP];simpa using eX.eG.size,fun t=> ?_⟩;have:=(eX.eG.at_ t).kill id (fun _ _=>ax.reads) aV;rw[dP]
     by_cases bG:t<dB.length
     ·simpa[aoC,bG]using this
     ·have aA:(dB.map (ep id)).getD t .un= .un:=by rw[aoC,api (by simpa using bG)];rfl
      have aG:dB.getD t .un= .un:=by rw[aoC,api (by omega)];rfl
      rw[aG]at this;rw[aA];exact this
    have e_:eN N ρ' (put (bz (ep id) dB) ops[i].dst v) (gH id al) (a.put ops[i].dst u) w':=
     ⟨ad,eg.put Ah _ bp,by cases ops[i].dst<;>exact eX.ik⟩
    refine next _ _ _ _ u ao e_ ax fun j aK o d j5 aA bR cY=> ?_
    have cT:j5≠id:=fun e=>by
     obtain⟨x,ajc⟩:=abu he;have pc:=eA eX.eG x;rw[ajc]at pc;exact yq (Z:=aL N ρ I) (w:=w) (I:=I) (qm j aK o d j5 aA bR cY) (show eE _ _ _ _ (.vec id) _ from pc) e.symm
    exact(aV j5 cT _ (qm j aK o d j5 aA bR cY)).1
   ·rename_i p he;obtain⟨b,ah,aa⟩:=Yw (P:=P) (w:=w) bs eX.eG he;rw[aa]
    have e_:eN N ρ (put dB ops[i].dst (.d (.bool b))) I (a.put ops[i].dst (.bool b)) w:=
     ⟨eX.e5,eg.put eX.eG _ (jS b),by cases ops[i].dst<;>exact eX.ik⟩
    exact next _ _ _ _ _ (ao b ah) e_ (Fr.refl _ _ _) qm
   ·rename_i f args tys he;obtain⟨cq,hlen,rf,tl⟩:=ZX (P:=P) eX.eG he;rcases ew _ _ _ _ ao with⟨⟨fn,xG,rL,ajd⟩,uX⟩|uX
    ·have hex:(execOp a.eval ops[i]).run P w= .ok (.enter f cq) w:=by
      rw[tl];simp only[callFunc,Sem.run_bind,run_program,Result.andThen_ok,xG,rL,ajd];simp
     rw[hex];refine(uX N ρ I w _ _ _ ao eX.e5 hlen rf).mono ?_;rintro e w' ⟨r,al,ρ',v,rfl,aa,ad,ax⟩
     have e_:eN N ρ' (put dB ops[i].dst r) al (a.put ops[i].dst v) w':=
      ⟨ad.rel,eg.put (eX.eG.step ad) _ ax,by cases ops[i].dst<;>exact eX.ik⟩
     exact next _ _ _ _ v aa e_ ad.toFr (j4 ad.same)
    ·obtain⟨v,w',r,al,ρ',ft,aa,ad,ax⟩:=uX N ρ I w _ _ _ ao eX.e5 hlen rf;rw[tl,ft]
     have e_:eN N ρ' (put dB ops[i].dst r) al (a.put ops[i].dst v) w':=
      ⟨ad.rel,eg.put (eX.eG.step ad) _ ax,by cases ops[i].dst<;>exact eX.ik⟩
     exact next _ _ _ _ v aa e_ ad.toFr (j4 ad.same)
  have skip:∀(dB:List R),eN N ρ dB I a w->dF tb bx aJ ops.toList (bQ.map fun i=>ops.toList.getD i default) (put dB ops[i].dst .un) I K->
   wpOps P ops (fun e b5 w'=>e= .normal/\m1 N ρ I a w (rp ops) K b5 w') bQ (a.put ops[i].dst undef) w:=fun dB eX ao=>
   next _ _ _ _ undef ao ⟨eX.e5,eg.put eX.eG _ bF.un,by cases ops[i].dst<;>exact eX.ik⟩ (Fr.refl _ _ _) qm
  unfold dF at h
  cases bg:ops[i].guard with
  |none=>
   rw[bg]at h;simp only[Region.wanted,bg,apc];exact .inl (run tm ay h)
  |some amc=>
   obtain⟨j,want⟩:=amc;rw[bg]at h;simp only[Region.wanted,bg];have Ai:l_ ops.toList j=(ops[j]?).bind (·.dst):=by rw[Na];simp
   simp only at h
   cases bn:l_ ops.toList j with
   |none=>
    rw[bn]at h;have:yielded ops a.tmps j=none:=by unfold yielded;rw[<-Ai,bn];rfl
    rw[this];exact skip tm ay h
   |some g=>
    rw[bn]at h;simp only at h
    have Jv:∀b,a.tmps.getD g undef= .bool b->yielded ops a.tmps j=some b:=by
     intro b ah;unfold yielded;rw[<-Ai,bn];simp only[Option.bind_some]
     have:a.tmps[g]? =some (.bool b):=by
      rw[aoJ]at ah
      cases aZ:a.tmps[g]? with
      |none=>rw[aZ]at ah;cases ah
      |some q=>rw[aZ]at ah;simp at ah;rw[ah]
     rw[this]
    have cK:=ay.eG.at_ g;rw[<-d_]at cK;split at h
    ·rename_i he;rw[he]at cK;have ah:a.tmps.getD g undef= .bool true:=cK;rw[Jv true ah]
     cases want with
     |true=>simp only[beq_self_eq_true,apc];exact .inl (run tm ay h)
     |false=>simp only[show(some true==some false)=false from rfl];exact skip tm ay h
    ·rename_i he;rw[he]at cK;have ah:a.tmps.getD g undef= .bool false:=cK;rw[Jv false ah]
     cases want with
     |false=>simp only[beq_self_eq_true,apc];exact .inl (run tm ay h)
     |true=>simp only[show(some false==some true)=false from rfl];exact skip tm ay h
    ·rename_i he;rw[he]at cK;have ah:a.tmps.getD g undef=undef:=cK
     have:yielded ops a.tmps j=none:=by
      unfold yielded;rw[<-Ai,bn];simp only[Option.bind_some];rw[aoJ]at ah
      cases aZ:a.tmps[g]? with
      |none=>rfl
      |some q=>rw[aZ]at ah;simp at ah;rw[ah];rfl
     rw[this];exact skip tm ay h
    ·rename_i b he;rw[he]at cK;have ah:=mL cK;rw[Jv b ah];obtain⟨au,aT⟩:=h;have hI:=Da ay g ah
     cases b with
     |true=>
      have au:=au rfl
      cases want with
      |true=>simp only[beq_self_eq_true,apc];exact .inl (run _ hI au)
      |false=>simp only[show(some true==some false)=false from rfl];exact skip _ hI au
     |false=>
      have aT:=aT rfl
      cases want with
      |false=>simp only[beq_self_eq_true,apc];exact .inl (run _ hI aT)
      |true=>simp only[show(some false==some true)=false from rfl];exact skip _ hI aT
    ·exact h.elim
end
end Go.aj
end
section
namespace Go.aj
def hF (T:gA):Prop:=
 (∀args I (K K':R->aF->Prop),(∀r o,K r o->K' r o)->T args I K->T args I K')/\∀args I K,T args I K->∃r o,K r o
section
variable {tb:TypeId->b4} {bx:FuncId->gA}
def fU (bx:FuncId->gA)(I:aF)(k:R->aF->Prop):bT->Prop
 | .bad=>False
 | .a6 ch v al=>gO ch (k v al)
 | .grow _ _ _ _=>False
 | .fJ _=>False
 | .call f args _=>bx f args I k
theorem GI {t:Tmp}{l:List Operand}:q4 t l=true↔Operand.tmp t∈l:=by
 induction l with
 |nil=>simp[q4]
 |cons x r bM=>
  cases x with
  |tmp u=>
   simp only[q4]
   by_cases h:u=t
   ·subst h;simp
   ·have:Nat.beq u t=false:=by
     cases ah:Nat.beq u t with
     |false=>rfl
     |true=>exact absurd (aoE ah) h
    rw[this];simp[bM,apq h]
  |_=>simp[q4,bM]
theorem Ih {tm:List R}{dst:Option Tmp}{v:R}{x:Operand}(h:∀t,dst=some t->x≠ .tmp t):a_ (put tm dst v) x=a_ tm x:=by
 cases dst with
 |none=>rfl
 |some d=>
  cases x with
  |tmp t=>
   simp only[put,a_,e2,d_,e1];rw[aoA];rintro⟨rfl,_⟩;exact h d rfl rfl
  |_=>rfl
theorem yA {o:Oper}{tm:List R}{dst:Option Tmp}{v:R}(h:ma o dst=false){x:Operand}(ak:x∈o.op.operands.toList):a_ (put tm dst v) x=a_ tm x:=by
 refine Ih fun t au Aj=> ?_;subst au Aj;simp only[ma]at h;rw[GI.2 ak]at h;cases h
theorem qO {α β:Type}{f g:α->β}{l:List α}(h:∀x∈l,f x=g x):bz f l=bz g l:=by
 rw[dP,dP];exact aqO h
theorem GJ {o:Oper}{tm ev:List R}{I:aF}(h:∀x∈o.op.operands.toList,a_ ev x=a_ tm x):e4 tb o ev I=e4 tb o tm I:=by
 unfold e4
 cases bK:o.op with
 |move x=>simp only[bK]at h⊢;rw[h x (by simp[Op.operands])]
 |assign x=>simp only[bK]at h⊢;rw[h x (by simp[Op.operands])]
 |pick c x y=>simp only[bK]at h⊢;rw[h c (by simp[Op.operands]),h x (by simp[Op.operands]),h y (by simp[Op.operands])]
 |box t x=>simp only[bK]at h⊢;rw[h x (by simp[Op.operands])]
 |build t bN=>
  simp only[bK]at h⊢;have:bz (fun p=>(p.1,a_ ev p.2)) bN.toList=bz (fun p=>(p.1,a_ tm p.2)) bN.toList:=qO fun p aD=>by rw[h p.2 (by simp[Op.operands];exact⟨p.1,by simpa using aD⟩)]
  rw[this]
 |buildSlice t n bN=>
  simp only[bK]at h⊢;have:bz (fun p=>(p.1,a_ ev p.2)) bN.toList=bz (fun p=>(p.1,a_ tm p.2)) bN.toList:=qO fun p aD=>by rw[h p.2 (by simp[Op.operands];exact⟨p.1,by simpa using aD⟩)]
  rw[this]
 |load t x=>simp only[bK]at h⊢;rw[h x (by simp[Op.operands])]
 |store t x y=>simp only[bK]at h⊢;rw[h x (by simp[Op.operands]),h y (by simp[Op.operands])]
 |nilCheck x=>simp only[bK]at h⊢;rw[h x (by simp[Op.operands])]
 |binOp op t x y ty=>simp only[bK]at h⊢;rw[h x (by simp[Op.operands]),h y (by simp[Op.operands])]
 |unOp op t x=>simp only[bK]at h⊢;rw[h x (by simp[Op.operands])]
 |convert s d x=>simp only[bK]at h⊢;rw[h x (by simp[Op.operands])]
 |extract x i=>simp only[bK]at h⊢;rw[h x (by simp[Op.operands])]
 |fieldAddr s x f=>simp only[bK]at h⊢;rw[h x (by simp[Op.operands])]
 |field s x f=>simp only[bK]at h⊢;rw[h x (by simp[Op.operands])]
 |indexAddr t x i=>simp only[bK]at h⊢;rw[h x (by simp[Op.operands]),h i (by simp[Op.operands])]
 |index t x i=>simp only[bK]at h⊢;rw[h x (by simp[Op.operands]),h i (by simp[Op.operands])]
 |makeSlice t x y=>simp only[bK]at h⊢;rw[h x (by simp[Op.operands]),h y (by simp[Op.operands])]
 |slice t x lo hi dr=>
  simp only[bK]at h⊢
  have aH:∀q:Option Operand,(∀y,q=some y->a_ ev y=a_ tm y)->omap (a_ ev) q=omap (a_ tm) q:=by
   intro q aZ
   cases q with
   |none=>rfl
   |some y=>simp only[omap,aZ y rfl]
  rw[h x (by simp[Op.operands]),aH lo (fun y bn=>h y (by subst bn;simp[Op.operands])),aH hi (fun y bn=>h y (by subst bn;simp[Op.operands])),aH dr (fun y bn=>h y (by subst bn;simp[Op.operands]))]
 |call c=>
  simp only[bK]at h⊢;have:bz (a_ ev) c.args.toList=bz (a_ tm) c.args.toList:=qO fun x ak=>h x (by simp[Op.operands,Call.operands];exact .inr (by simpa using ak));rw[this]
  cases aC:c.callee with
  |value x=>
   cases x with
   |tmp t=>
    have e:b8 .un ev t=b8 .un tm t:=h (.tmp t) (by simp[Op.operands,Call.operands,aC]);simp only[e]
   |_=>rfl
  |_=>rfl
 |makeFunc fn first cap=>
  simp only[bK]at h⊢;have aa:bz (a_ ev) first.toList=bz (a_ tm) first.toList:=qO fun x ak=>h x (by simp[Op.operands];exact .inl (by simpa using ak))
  have ad:bz (a_ ev) cap.toList=bz (a_ tm) cap.toList:=qO fun x ak=>h x (by simp[Op.operands];exact .inr (by simpa using ak));rw[aa,ad]
 |makeMap t r=>cases r<;>rfl
 |lookup t m k c=>simp only[bK]at h⊢;rw[h m (by simp[Op.operands]),h k (by simp[Op.operands])]
 |mapUpdate t m k v=>simp only[bK]at h⊢;rw[h m (by simp[Op.operands]),h k (by simp[Op.operands]),h v (by simp[Op.operands])]
 |_=>rfl
theorem G7 (I al:aF)(s:b6){v:R}(h:R.hj v=true):R.hR I (s.norm I v)=R.hR al (s.norm al v):=by
 cases v<;>simp[R.hj]at h<;>cases s<;>rfl
theorem Ii (I al:aF){v:R}(h:R.hj v=true):R.hR I v=R.hR al v:=by
 cases v<;>simp[R.hj]at h<;>rfl
theorem CE (I al:aF):∀(cs:List b6) (aI:List R),ef R.hj aI=true->bz (R.hR I) (iF I cs aI)=bz (R.hR al) (iF al cs aI)
 |[],aI,h=>by
  rw[fH,aoU]at h;exact qO fun x ak=>Ii I al (h x ak)
 |s::cs,[],_=>rfl
 |s::cs,v::aI,h=>by
  have aa:R.hj v=true/\ef R.hj aI=true:=by
   rw[fH,aqd,aoM]at h;rw[fH];exact h
  show R.hR I (s.norm I v)::bz (R.hR I) (iF I cs aI)=R.hR al (s.norm al v)::bz (R.hR al) (iF al cs aI);rw[G7 I al s aa.1,CE I al cs aI aa.2]
theorem G8 (I al:aF)(cs:List b6){v:R}(h:ef R.hj v.cellsOf=true):mn I cs v=mn al cs v:=CE I al cs _ h
theorem ym (I al:aF)(an:Nat)(cs:List b6):∀(bN:List (Nat×R)) (i n:Nat),hP.go I an cs i n bN=hP.go al an cs i n bN
 |[],i,0=>rfl
 |[],i,n+1=>rfl
 |_::_,i,0=>rfl
 |(j,v)::r,i,n+1=>by
  by_cases aM:∃m x,v= .rw m x
  ·obtain⟨m,x,rfl⟩:=aM;simp only[hP.go];rw[ym I al an cs r]
  ·have gen:∀o:aF,hP.go o an cs i (n+1) ((j,v)::r)=(match Nat.beq i j,Nat.beq (bV v.cellsOf) an,ef R.hj v.cellsOf with
    |true,true,true=>(match hP.go o an cs (Nat.succ i) n r with|some l=>some (mn o cs v::l)|none=>none)
    |_,_,_=>none):=fun o=>by cases v<;>first|rfl|exact absurd ⟨_,_,rfl⟩ aM
   rw[gen,gen,ym I al an cs r];split
   ·rename_i aa ad ax;rw[G8 I al cs ax]
   ·rfl
theorem yr (I al:aF)(t:bb)(v:R):oS I t v=oS al t v:=by
 cases v<;>try rfl
 rename_i l;simp only[oS];split
 ·rename_i _ _ h;rw[G8 I al t.cells (v:= .agg l) h]
 ·rfl
theorem Nb (I al:aF)(t:bb)(v:R):n4 I t v=n4 al t v:=by
 have s7:∀l,(match Nat.beq (bV l) t.size,ef R.hj l with|true,true=>some (mn I t.cells (.agg l))|_,_=>none)=(match Nat.beq (bV l) t.size,ef R.hj l with|true,true=>some (mn al t.cells (.agg l))|_,_=>none):=fun l=>by
  split
  ·rename_i _ h;rw[G8 I al t.cells (v:= .agg l) h]
  ·rfl
 cases t with
 |aE s=>
  simp only[n4];split
  ·rename_i h;rw[G7 I al s h]
  ·rfl
 |_=>cases v<;>first|rfl|exact s7 _
theorem MQ (I al:aF)(cs:List b6)(bN:List (Nat×R)):∀(bW:List (Nat×Nat×bb)) (k:Nat),qY I cs bN k bW=qY al cs bN k bW
 |[],_=>rfl
 |f::r,k=>by
  unfold qY;rw[MQ I al cs bN r]
  cases fz k bN with
  |none=>rfl
  |some v=>simp only[Nb I al f.2.2 v]
theorem WD (t:bb)(bN:List (Nat×R))(I al:aF):(pP t bN I= .bad/\pP t bN al= .bad)\/∃s v,pP t bN I= .a6 s v I/\pP t bN al= .a6 s v al:=by
 unfold pP;split
 ·split
  ·rename_i bW cs _;rw[MQ I al cs bN bW 0];split<;>first|exact .inr ⟨_,_,rfl,rfl⟩|exact .inl ⟨rfl,rfl⟩
  ·split<;>first|exact .inr ⟨_,_,rfl,rfl⟩|exact .inl ⟨rfl,rfl⟩
  ·exact .inl ⟨rfl,rfl⟩
 ·split<;>first|exact .inr ⟨_,_,rfl,rfl⟩|exact .inl ⟨rfl,rfl⟩
theorem WE (t:bb)(f:Nat)(x:R)(I al:aF):(pQ t f x I= .bad/\pQ t f x al= .bad)\/∃s v,pQ t f x I= .a6 s v I/\pQ t f x al= .a6 s v al:=by
 unfold pQ
 (repeat' split)<;>first|exact .inr ⟨_,_,rfl,rfl⟩|exact .inl ⟨rfl,rfl⟩
theorem Yz (op:BinOp)(t:bb)(x y:R)(I al:aF):(p4 op t x y I= .bad/\p4 op t x y al= .bad)\/∃s v,p4 op t x y I= .a6 s v I/\p4 op t x y al= .a6 s v al:=by
 unfold p4;rw[yr I al t x,yr I al t y]
 (repeat' split)<;>first|exact .inr ⟨_,_,rfl,rfl⟩|exact .inl ⟨rfl,rfl⟩
theorem YA (tb:TypeId->b4)(t:b4)(m k:R)(c:Bool)(I:aF):oL tb t m k c I= .bad\/∃s v,oL tb t m k c I= .a6 s v I:=by
 unfold oL
 (repeat' split)<;>first|exact .inr ⟨_,_,rfl⟩|exact .inl rfl
theorem abv (k:IntKind)(dst:bb)(x:R):(∀I,n3 (.aE (.int k)) dst x I= .bad)\/∃s v,∀I,n3 (.aE (.int k)) dst x I= .a6 s v I:=by
 unfold n3
 cases dst with
 |aE s=>
  cases s with
  |int cz=>
   cases x with
   |d a=>cases a<;>first|exact .inr ⟨_,_,fun _=>rfl⟩|exact .inl fun _=>rfl
   |_=>exact .inl fun _=>rfl
  |str=>
   cases x with
   |d a=>
    cases a with
    |af cz l=>cases cz<;>exact .inl fun _=>rfl
    |_=>exact .inl fun _=>rfl
   |vec id=>
    refine .inl fun I=> ?_;simp only
    cases ag.at I id with
    |af cz l=>cases cz<;>rfl
    |_=>rfl
   |_=>exact .inl fun _=>rfl
  |_=>exact .inl fun _=>rfl
 |_=>exact .inl fun _=>rfl
theorem SE {o:Oper}(aC:fA tb o.op=0)(hm:oT o.op=false)(tm:List R)(I al:aF):
 (e4 tb o tm I= .bad/\e4 tb o tm al= .bad)\/∃s v,e4 tb o tm I= .a6 s v I/\e4 tb o tm al= .a6 s v al:=by
 have bad:∀{x y:bT},x= .bad->y= .bad->(x= .bad/\y= .bad)\/∃s v,x= .a6 s v I/\y= .a6 s v al:=fun aa ad=> .inl ⟨aa,ad⟩
 unfold e4;cases bK:o.op<;>simp only[bK,fA]at aC hm⊢<;>try (exact absurd aC (by decide))
 case move x=>exact .inr ⟨_,_,rfl,rfl⟩
 case buildSlice t n bN=>
  have az:(tb t).lit=true:=by
   cases ah:(tb t).lit with
   |true=>rfl
   |false=>rw[ah]at aC;cases aC
  rw[az];split
  ·split
   ·exact .inr ⟨_,_,rfl,rfl⟩
   ·exact .inl ⟨rfl,rfl⟩
  ·rw[show∀q,hP I q (tb t).f_ n (bz (fun p=>(p.1,a_ tm p.2)) bN.toList)=hP al q (tb t).f_ n (bz (fun p=>(p.1,a_ tm p.2)) bN.toList)from fun q=>ym I al q _ _ 0 n];split
   ·exact .inr ⟨_,_,rfl,rfl⟩
   ·exact .inl ⟨rfl,rfl⟩
  ·exact .inl ⟨rfl,rfl⟩
 case build t bN=>exact WD _ _ _ _
 case makeFunc fn first cap=>
  unfold y0;split
  ·split
   ·exact .inr ⟨_,_,rfl,rfl⟩
   ·split
    ·exact .inr ⟨_,_,rfl,rfl⟩
    ·exact .inl ⟨rfl,rfl⟩
  ·exact .inl ⟨rfl,rfl⟩
 case assign x=>exact .inr ⟨_,_,rfl,rfl⟩
 case pick c x y=>
  unfold wP;split
  ·exact .inr ⟨_,_,rfl,rfl⟩
  ·exact .inr ⟨_,_,rfl,rfl⟩
  ·split
   ·exact .inr ⟨_,_,rfl,rfl⟩
   ·exact .inr ⟨_,_,rfl,rfl⟩
   ·exact .inr ⟨_,_,rfl,rfl⟩
   ·exact .inr ⟨_,_,rfl,rfl⟩
   ·split
    ·exact .inr ⟨_,_,rfl,rfl⟩
    ·exact .inl ⟨rfl,rfl⟩
   ·exact .inl ⟨rfl,rfl⟩
  ·exact .inl ⟨rfl,rfl⟩
 case nilCheck x=>split<;>first|exact .inr ⟨_,_,rfl,rfl⟩|exact .inl ⟨rfl,rfl⟩
 case binOp op t x y ty=>
  have Jw:∀v,y= .const v->(∀a l c,v≠ .slice a l c):=by
   rintro v rfl a l c rfl;simp[oT,Bm]at hm
  have ah:∀(op:BinOp) (dC:Operand) (k:IntKind) (a b:Int),(n9 op dC k a b I= .bad/\n9 op dC k a b al= .bad)\/∃s v,n9 op dC k a b I= .a6 s v I/\n9 op dC k a b al= .a6 s v al:=by
   intro op dC k a b;cases op<;>first|exact .inr ⟨_,_,rfl,rfl⟩|exact .inl ⟨rfl,rfl⟩
  have aeQ:∀(op:BinOp) (t:bb) (a b:Bool),(jw op t a b I= .bad/\jw op t a b al= .bad)\/∃s v,jw op t a b I= .a6 s v I/\jw op t a b al= .a6 s v al:=by
   intro op t a b;unfold jw;split<;>first|exact .inr ⟨_,_,rfl,rfl⟩|exact .inl ⟨rfl,rfl⟩
  generalize hex:a_ tm x=amb;generalize rB:a_ tm y=amd
  have Ew:amd= .emp->Bm y=false->∀v,y≠ .const v:=by
   intro aa ad v aM;subst aM;rw[aa]at rB;have:=Rv rB;subst this;simp[Bm]at ad
  unfold zd;split
  ·exact Yz _ _ _ _ _ _
  unfold oR;split
  ·split
   ·exact .inr ⟨_,_,rfl,rfl⟩
   ·exact .inr ⟨_,_,rfl,rfl⟩
   ·split
    ·exact ah _ _ _ _ _
    ·exact .inl ⟨rfl,rfl⟩
  ·split<;>first|exact .inr ⟨_,_,rfl,rfl⟩|exact .inl ⟨rfl,rfl⟩
  ·split
   ·exact absurd rfl (Ew rfl hm _)
   ·exact absurd rfl (Ew rfl hm _)
   ·exact .inl ⟨rfl,rfl⟩
  ·split
   ·exact absurd rfl (Ew rfl hm _)
   ·exact absurd rfl (Ew rfl hm _)
   ·exact .inl ⟨rfl,rfl⟩
  all_goals first|exact aeQ _ _ _ _|exact .inl ⟨rfl,rfl⟩
 case unOp op t x=>unfold w9;split<;>first|exact .inr ⟨_,_,rfl,rfl⟩|exact .inl ⟨rfl,rfl⟩
 case convert s d x=>
  split at aC
  ·rename_i k ae;rw[ae];rcases abv k (tb d).ty (a_ tm x)with h|⟨s,v,h⟩
   ·exact .inl ⟨h I,h al⟩
   ·exact .inr ⟨s,v,h I,h al⟩
  ·cases aC
 case extract x i=>
  split
  ·split
   ·exact .inr ⟨_,_,rfl,rfl⟩
   ·exact .inl ⟨rfl,rfl⟩
  ·exact .inl ⟨rfl,rfl⟩
 case fieldAddr s x f=>
  split
  ·exact .inl ⟨rfl,rfl⟩
  ·split<;>first|exact .inr ⟨_,_,rfl,rfl⟩|exact .inl ⟨rfl,rfl⟩
 case field s x f=>exact WE _ _ _ _ _
 case index t x i=>
  unfold yJ;split
  ·split
   ·exact .inr ⟨_,_,rfl,rfl⟩
   ·split
    ·exact .inr ⟨_,_,rfl,rfl⟩
    ·exact .inl ⟨rfl,rfl⟩
   ·exact .inl ⟨rfl,rfl⟩
  ·exact .inl ⟨rfl,rfl⟩
 case call c=>
  exfalso;revert aC;split<;>simp
theorem agn {o:Oper}(aC:fA tb o.op<=1)(hm:oT o.op=false)(tm:List R)(I:aF):e4 tb o tm I= .bad\/∃s v,e4 tb o tm I= .a6 s v I:=by
 by_cases bc:fA tb o.op=0
 ·rcases SE (tb:=tb) bc hm tm I I with⟨h,_⟩|⟨s,v,h,_⟩
  ·exact .inl h
  ·exact .inr ⟨s,v,h⟩
 ·have aa:fA tb o.op=1:=by omega
  clear bc aC;unfold e4;cases bK:o.op<;>simp only[bK,fA]at aa⊢<;>try (exact absurd aa (by decide))
  case buildSlice t n bN=>exfalso;revert aa;cases (tb t).lit<;>simp
  case load t x=>exact M_ _ _ _
  case lookup t m k c=>exact YA _ _ _ _ _ _
  case convert s d x=>
   unfold n3;split<;>(try split)<;>first|exact .inr ⟨_,_,rfl⟩|exact .inl rfl
  case indexAddr t x i=>
   unfold qM;split
   ·split
    ·split<;>first|exact .inr ⟨_,_,rfl⟩|exact .inl rfl
    ·split<;>first|exact .inr ⟨_,_,rfl⟩|exact .inl rfl
    ·exact .inr ⟨_,_,rfl⟩
    ·exact ZU _ _ _ _
   ·exact .inl rfl
  case call c=>
   split
   ·rename_i b Jx;rw[Jx]at aa;unfold kB;split
    ·split
     ·exact .inl rfl
     ·split<;>first|exact .inr ⟨_,_,rfl⟩|exact .inl rfl
    ·exact absurd aa (by decide)
    ·split<;>first|exact .inr ⟨_,_,rfl⟩|exact .inl rfl
    ·split<;>first|exact .inr ⟨_,_,rfl⟩|exact .inl rfl
    ·exact absurd aa (by decide)
    ·exact .inl rfl
   ·rename_i f tl;rw[tl]at aa;simp at aa
   ·rename_i t tl;rw[tl]at aa;simp at aa
   ·exact .inl rfl
theorem ago {o:Oper}(aC:fA tb o.op=2)(tm:List R)(I:aF):e4 tb o tm I= .bad\/(∃s v al,e4 tb o tm I= .a6 s v al)\/∃f args tys,e4 tb o tm I= .call f args tys:=by
 unfold e4;cases bK:o.op<;>simp only[bK,fA]at aC⊢<;>try (exact absurd aC (by decide))
 case alloc t=>exact(B6 (Ma _ _)).imp id .inl
 case box t x=>exact(B6 (MP _ _ _)).imp id .inl
 case convert s d x=>exfalso;revert aC;split<;>simp
 case buildSlice t n bN=>
  have az:(tb t).lit=false:=by
   cases ah:(tb t).lit with
   |true=>rw[ah]at aC;cases aC
   |false=>rfl
  rw[az];split
  ·split<;>first|exact .inl rfl|exact .inr (.inl ⟨_,_,_,rfl⟩)
  ·split<;>first|exact .inl rfl|exact .inr (.inl ⟨_,_,_,rfl⟩)
  ·exact .inl rfl
 case store t x y=>
  rcases MO (tb t).ty (a_ tm x) (a_ tm y) I with e|e
  ·exact .inl e
  ·exact .inr (.inl e)
 case makeSlice t x y=>
  unfold wQ;split
  ·split<;>first|exact .inl rfl|exact .inr (.inl ⟨_,_,_,rfl⟩)
  ·exact .inl rfl
 case slice t x lo hi dr=>exact(B6 (Mn _ _ _ _ _ _)).imp id .inl
 case mapUpdate t m k v=>exact(B6 (LN _ _ _ _ _ _)).imp id .inl
 case call c=>
  split
  ·rename_i b Jx;rw[Jx]at aC;exfalso;revert aC;cases b<;>simp
  ·exact .inr (.inr ⟨_,_,_,rfl⟩)
  ·rename_i t tl;rw[tl]at aC;simp at aC
  ·exact .inl rfl
theorem put_comm {tm:List R}{d e:Option Tmp}{u v:R}(h:fY d e=false):put (put tm d u) e v=put (put tm e v) d u:=by
 cases d with
 |none=>cases e<;>rfl
 |some d=>
  cases e with
  |none=>rfl
  |some e=>
   have cT:d≠e:=by
    rintro rfl;simp[fY]at h
   simp only[put,e2];exact List.set_comm _ _ cT
theorem G9 {s t:List Prop}{q:Prop}(h:gO s (gO t q)):gO t (gO s q):=by
 rw[ho,ho]at h⊢;exact⟨h.2.1,h.1,h.2.2⟩
end
end Go.aj
end
section
namespace Go.aj
def iU (ps:List bb)(T:List R->(R->Prop)->Prop):gA:=fun args I K=>
 match Nat.beq (bV ps) (bV args),ef R.plain (bb.eV I ps args)with
 |true,true=>T (bb.eV I ps args) fun v=>K v (cD I args)
 |_,_=>False
def lO (T:List R->(R->Prop)->Prop):Prop:=
 (∀args (K K':R->Prop),(∀r,K r->K' r)->T args K->T args K')/\∀args K,T args K->∃r,K r
def ag.plain:ag->Bool
 | .cells l=>ef R.re l
 | .af ..=>true
 | .av ..=>true
 |_=>false
def ag.alike:ag->ag->Bool
 | .cells l, .cells cy=>Nat.beq (bV l) (bV cy)
 | .af k _, .af cz _=>jy k cz
 | .av s _, .av gT _=>Nat.beq s gT
 |_,_=>false
def Db:R->ag->Bool
 | .vec _, .af ..=>true
 | .vec _, .av ..=>true
 | .ptr .., .cells l=>ef R.re l
 |_,_=>false
def y3:R->ag->Prop->Prop
 | .vec _,ob,q=>0<ob.len/\q
 |_,_,q=>q
def Dc:R->Option Nat
 | .vec id=>some id
 | .ptr id _=>some id
 |_=>none
def mU:R->R
 | .vec _=> .vec 0
 | .ptr _ off=> .ptr 0 off
 |v=>v
def n7 (ps:List bb)(T:R->ag->List R->(ag->R->Prop)->Prop):gA:=fun args I K=>
 match args with
 |[]=>False
 |a0::bQ=>
  match Dc a0 with
  |none=>False
  |some id=>
   match cw (cD I bQ) id,Db a0 (ag.at I id),Nat.beq (bV ps) (bV bQ),ef R.plain (bb.eV I ps bQ)with
   |false,true,true,true=>y3 a0 (ag.at I id) (T (mU a0) (ag.at I id) (bb.eV I ps bQ) fun ob r=>
    (match ag.alike (ag.at I id) ob with|true=>K r (c0 (cD I bQ) id (false,ob))|false=>False))
   |_,_,_,_=>False
def zh (n:Nat)(args:List R):List R:=b8 .un args n::eS (kN args n) (kM args (Nat.succ n))
def oO (ps:List bb)(T:R->ag->List R->(ag->R->Prop)->Prop):gA:=fun args I K=>
 match args with
 |[]=>False
 |a0::bQ=>
  match Dc a0 with
  |none=>False
  |some id=>
   match cw (cD I bQ) id,Db a0 (ag.at I id),Nat.beq (bV ps) (bV bQ),ef R.plain (bb.eV I ps bQ)with
   |false,true,true,true=>T (mU a0) (ag.at I id) (bb.eV I ps bQ) fun ob r=>
    (match ag.alike (ag.at I id) ob with|true=>K r (c0 (cD I bQ) id (false,ob))|false=>False)
   |_,_,_,_=>False
def l9 (n:Nat)(ps:List bb)(T:R->ag->List R->(ag->R->Prop)->Prop):gA:=fun args I K=>
 match Nat.blt n (bV args)with
 |true=>oO ps T (zh n args) I K
 |false=>False
def kr (T:R->ag->List R->(ag->R->Prop)->Prop):Prop:=
 (∀a o args (K K':ag->R->Prop),(∀o r,K o r->K' o r)->T a o args K->T a o args K')/\∀a o args K,T a o args K->∃o r,K o r
theorem yn (a:R)(ob:ag)(q:Prop):y3 a ob q↔(∀id,a= .vec id->0<ob.len)/\q:=by
 cases a with
 |vec i=>simp[y3]
 |_=>simp[y3]
def pS (ps:List bb)(T:List R->(ag->Prop)->Prop):gA:=fun args I K=>
 match Nat.beq (bV ps) (bV args),ef R.plain (bb.eV I ps args)with
 |true,true=>T (bb.eV I ps args) fun ob=>K (.vec (bV (cD I args))) (eS (cD I args) [(false,ob)])
 |_,_=>False
def nE (T:List R->(ag->Prop)->Prop):Prop:=
 (∀args (K K':ag->Prop),(∀r,K r->K' r)->T args K->T args K')/\∀args K,T args K->∃r,K r
def nq (ps:List bb)(T:List R->(R->Prop)->Prop):gA:=fun args I K=>
 match Nat.beq (bV ps) (bV args),ef R.plain (bb.eV I ps args)with
 |true,true=>T (bb.eV I ps args) fun v=>K v I
 |_,_=>False
def IT (T:gA):Prop:=(∃ps hc,lO hc/\T=iU ps hc)\/(∃ps hc,kr hc/\T=n7 ps hc)\/∃ps hc,lO hc/\T=nq ps hc
def It (T:gA):Prop:=∃ps hc,nE hc/\T=pS ps hc
def rh (data:FuncId->Nat)(bx:FuncId->gA):Prop:=∀f,(data f=1->IT (bx f))/\(data f=2->It (bx f))
section
variable {tb:TypeId->b4} {bx:FuncId->gA} {aJ:List (Tmp×Nat)}
theorem iS {o:Oper}(h:pW tb o.op=false)(tm:List R)(I:aF):cN tb aJ o tm I=e4 tb o tm I:=by
 unfold cN;split
 ·rename_i t d aH _;rw[aH]at h;cases h
 ·rename_i t n bN d aH _;rw[aH]at h;have az:(tb t).lit=true:=by simpa[pW]using h
  rw[az]
 ·rfl
theorem Bn {o:Oper}{tm ev:List R}{I:aF}(h:∀x∈o.op.operands.toList,a_ ev x=a_ tm x):cN tb aJ o ev I=cN tb aJ o tm I:=by
 unfold cN;split
 ·split
  ·rfl
  ·exact GJ h
 ·rename_i t n bN d aH _;split
  ·have e:bz (fun p:Nat×Operand=>(p.1,a_ ev p.2)) bN.toList=bz (fun p:Nat×Operand=>(p.1,a_ tm p.2)) bN.toList:=by
    rw[dP,dP];refine aqO fun p aD=> ?_;rw[h p.2 (by rw[aH];simp[Op.operands];exact⟨p.1,by simpa using aD⟩)]
   rw[e]
  ·exact GJ h
 ·exact GJ h
theorem G_ {o:Oper}(aC:fA tb o.op<=1):pW tb o.op=false:=by
 cases bK:o.op<;>try rfl
 ·rw[bK]at aC;exact absurd (show(2:Nat)<=1 from aC) (by decide)
 ·rename_i t n bN;rw[bK]at aC;unfold pW;simp only[fA]at aC
  cases ah:(tb t).lit with
  |true=>simp[ah]
  |false=>rw[ah]at aC;exact absurd aC (by decide)
theorem uN {o:Oper}(aC:fA tb o.op=0)(hm:oT o.op=false)(tm:List R)(I al:aF):
 (cN tb aJ o tm I= .bad/\cN tb aJ o tm al= .bad)\/∃s v,cN tb aJ o tm I= .a6 s v I/\cN tb aJ o tm al= .a6 s v al:=by
 have aa:fA tb o.op<=1:=by omega
 rw[iS (G_ aa),iS (G_ aa)];exact SE aC hm tm I al
theorem xb {o:Oper}(aC:fA tb o.op<=1)(hm:oT o.op=false)(tm:List R)(I:aF):cN tb aJ o tm I= .bad\/∃s v,cN tb aJ o tm I= .a6 s v I:=by
 rw[iS (G_ aC)];exact agn aC hm tm I
theorem uO {o:Oper}(aC:fA tb o.op=2)(tm:List R)(I:aF):cN tb aJ o tm I= .bad\/(∃s v al,cN tb aJ o tm I= .a6 s v al)\/∃f args tys,cN tb aJ o tm I= .call f args tys:=by
 rcases Gy tb aJ o tm I with h|⟨t,d,id,_,_,_,h|⟨_,h⟩|⟨_,_,h⟩⟩|⟨t,n,bN,d,id,_,_,_,h|⟨ob,_,h⟩⟩
 ·rw[h];exact ago aC tm I
 ·exact .inl h
 ·exact .inr (.inl ⟨_,_,_,h⟩)
 ·exact .inr (.inl ⟨_,_,_,h⟩)
 ·exact .inl h
 ·exact .inr (.inl ⟨_,_,_,h⟩)
theorem ac7 {a i:Oper}(hi:pX tb a i=true)(ew:∀f args I K,bx f args I K->hF (bx f)){t:List R}{I:aF}{k:R->R->aF->Prop}
 (h:fU bx I (fun v al=>fU bx al (fun c7 gz=>k v c7 gz) (cN tb aJ i t al)) (cN tb aJ a t I)):
 fU bx I (fun c7 al=>fU bx al (fun v gz=>k v c7 gz) (cN tb aJ a t al)) (cN tb aJ i t I):=by
 simp only[pX,aoM,apE]at hi;obtain⟨⟨⟨⟨⟨aT,qn⟩,xH⟩,cR⟩,ie⟩,rK⟩:=hi
 have Dd:(fA tb a.op<=1/\fA tb i.op<=1)\/(fA tb a.op=0/\fA tb i.op=2)\/(fA tb a.op=2/\fA tb i.op=0):=by
  unfold p5 at aT;split at aT
  ·rename_i aa ad;exact .inl ⟨ao9 aa,ao9 ad⟩
  ·simp only[aoM]at aT;exact .inr (.inl ⟨aoE aT.1,aoE aT.2⟩)
  ·simp only[aoM]at aT;exact .inr (.inr ⟨aoE aT.1,aoE aT.2⟩)
  ·cases aT
 rcases Dd with⟨aa,ad⟩|⟨aa,ad⟩|⟨aa,ad⟩
 ·
  rcases xb (tb:=tb) (aJ:=aJ) aa qn t I with ah|⟨FN,FO,aY⟩
  ·rw[ah]at h;exact h.elim
  ·rw[aY]at h;simp only[fU]at h;rcases xb (tb:=tb) (aJ:=aJ) ad xH t I with ah|⟨j8,FP,hU⟩
   ·rw[ah]at h;exact((ho _ _).1 h).2.elim
   ·rw[hU]at h⊢;simp only[fU,aY]at h⊢;exact G9 h
 ·
  rcases uN (tb:=tb) (aJ:=aJ) aa qn t I I with⟨ah,_⟩|⟨FN,FO,aY,_⟩
  ·rw[ah]at h;exact h.elim
  ·rw[aY]at h;simp only[fU]at h
   have ic:∀cg,cN tb aJ a t cg= .a6 FN FO cg:=fun cg=>by
    rcases uN (tb:=tb) (aJ:=aJ) aa qn t I cg with⟨ah,_⟩|⟨s,v,a7,bl⟩
    ·rw[aY]at ah;cases ah
    ·rw[aY]at a7;cases a7;exact bl
   rcases uO (tb:=tb) (aJ:=aJ) ad t I with ah|⟨j8,FP,cg,hU⟩|⟨f,args,tys,hU⟩
   ·rw[ah]at h;exact((ho _ _).1 h).2.elim
   ·rw[hU]at h⊢;simp only[fU,ic]at h⊢;exact G9 h
   ·rw[hU]at h⊢;simp only[fU,ic]at h⊢;rw[ho]at h;obtain⟨rn,od⟩:=h;refine(ew _ _ _ _ od).1 _ _ _ _ (fun r o ao=> ?_) od;rw[ho];exact⟨rn,ao⟩
 ·
  rcases uN (tb:=tb) (aJ:=aJ) ad xH t I I with⟨ah,hJ⟩|⟨j8,FP,aY,_⟩
  ·
   exfalso
   have et:∀cg,cN tb aJ i t cg= .bad:=fun cg=>by
    rcases uN (tb:=tb) (aJ:=aJ) ad xH t I cg with⟨_,k⟩|⟨s,v,a7,_⟩
    ·exact k
    ·rw[ah]at a7;cases a7
   rcases uO (tb:=tb) (aJ:=aJ) aa t I with ah|⟨FN,FO,cg,hU⟩|⟨f,args,tys,hU⟩
   ·rw[ah]at h;exact h
   ·rw[hU]at h;simp only[fU,et]at h;exact((ho _ _).1 h).2
   ·rw[hU]at h;simp only[fU,et]at h;obtain⟨r,o,ao⟩:=(ew _ _ _ _ h).2 _ _ _ h;exact ao
  ·have ic:∀cg,cN tb aJ i t cg= .a6 j8 FP cg:=fun cg=>by
    rcases uN (tb:=tb) (aJ:=aJ) ad xH t I cg with⟨ah,_⟩|⟨s,v,a7,bl⟩
    ·rw[aY]at ah;cases ah
    ·rw[aY]at a7;cases a7;exact bl
   rw[aY];simp only[fU];rcases uO (tb:=tb) (aJ:=aJ) aa t I with ah|⟨FN,FO,cg,hU⟩|⟨f,args,tys,hU⟩
   ·rw[ah]at h;exact h.elim
   ·rw[hU]at h⊢;simp only[fU,ic]at h⊢;exact G9 h
   ·rw[hU]at h⊢;simp only[fU,ic]at h⊢;have fr:=ew _ _ _ _ h;rw[ho];refine⟨?_,fr.1 _ _ _ _ (fun r o ao=> ?_) h⟩
    ·obtain⟨r,o,ao⟩:=fr.2 _ _ _ h;exact((ho _ _).1 ao).1
    ·exact((ho _ _).1 ao).2
def res (all:List Oper)(o:Oper)(tm:List R):Option (Bool×List R):=
 match o.guard with
 |none=>some (true,tm)
 |some (j,want)=>
  match l_ all j with
  |none=>some (false,tm)
  |some g=>
   match b8 .un tm g with
   | .bt=>some (want,tm)
   | .bf=>some (!want,tm)
   | .un=>some (false,tm)
   | .d (.bool true)=>some (want,c0 tm g .bt)
   | .d (.bool false)=>some (!want,c0 tm g .bf)
   |_=>none
def sW (m:Bool)(bx:FuncId->gA)(I:aF)(k:R->aF->Prop)(r:bT):Prop:=
 match m with
 |true=>fU bx I k r
 |false=>k .un I
theorem ys {all bQ:List Oper}{o:Oper}{tm:List R}{I:aF}{K:List R->aF->Prop}
 (aa:∀tm I s v cg id,cN tb aJ o tm I≠ .grow s v cg id) (ad:∀tm I p,cN tb aJ o tm I≠ .fJ p):
 dF tb bx aJ all (o::bQ) tm I K↔match res all o tm with
  |none=>False
  |some (m,ev)=>sW m bx I (fun v al=>dF tb bx aJ all bQ (put ev o.dst v) al K) (cN tb aJ o ev I):=by
 have run:∀dB:List R,(match cN tb aJ o dB I with
  | .bad=>False
  | .a6 ch v al=>gO ch (dF tb bx aJ all bQ (put dB o.dst v) al K)
  | .grow ch v al id=>gO ch (dF tb bx aJ all bQ (put (bz (ep id) dB) o.dst v) (gH id al) K)
  | .fJ p=>∀b:Bool,p b->dF tb bx aJ all bQ (put dB o.dst (.d (.bool b))) I K
  | .call f args _=>bx f args I fun v al=>dF tb bx aJ all bQ (put dB o.dst v) al K)↔
  sW true bx I (fun v al=>dF tb bx aJ all bQ (put dB o.dst v) al K) (cN tb aJ o dB I):=by
  intro dB
  cases h:cN tb aJ o dB I with
  |grow s v cg id=>exact absurd h (aa dB I s v cg id)
  |fJ p=>exact absurd h (ad dB I p)
  |_=>rfl
 rw[dF];simp only;unfold res
 cases bg:o.guard with
 |none=>exact run tm
 |some p=>
  obtain⟨j,want⟩:=p;simp only
  cases bn:l_ all j with
  |none=>exact aps
  |some g=>
   simp only;generalize az:b8 R.un tm g=x
   cases x with
   |bt=>
    cases want
    ·exact aps
    ·exact run tm
   |bf=>
    cases want
    ·exact run tm
    ·exact aps
   |un=>exact aps
   |d a=>
    cases a with
    |bool b=>
     cases b
     ·simp only[apU,false_implies,true_and,true_implies];cases want
      ·exact run _
      ·exact aps
     ·simp only[Bool.true_eq_false,false_implies,and_true,true_implies];cases want
      ·exact aps
      ·exact run _
    |_=>exact aps
   |_=>exact aps
theorem MR {α:Type}{d:α}{l:List α}{g h:Nat}{x:α}(aB:g≠h):b8 d (c0 l g x) h=b8 d l h:=by
 rw[d_,d_,e2,aoC,aoC,List.getElem?_set_ne aB]
theorem Gs {α:Type}{d:α}{l:List α}{g:Nat}{x:α}(h:g<l.length):b8 d (c0 l g x) g=x:=by
 rw[d_,e2,aoC,List.getElem?_set_self h];rfl
theorem Pv {tm:List R}{g:Nat}(h:b8 .un tm g≠ .un):g<tm.length:=by
 refine Nat.lt_of_not_le fun ak=>h ?_;rw[d_,aoC,api ak];rfl
theorem Bz {a b:Option Tmp}:fY a b=true↔∃g,a=some g/\b=some g:=by
 cases a with
 |none=>simp[fY]
 |some x=>
  cases b with
  |none=>simp[fY]
  |some y=>
   simp only[fY];constructor
   ·intro h;obtain rfl:=aoE h;exact⟨x,rfl,rfl⟩
   ·rintro⟨g,aa,ad⟩;cases aa;cases ad;exact apB _
theorem Pw {all:List Oper}{o:Oper}{tm t:List R}{m:Bool}(h:res all o tm=some (m,t)):∃r x,t=put tm r x/\(r=none\/r=iR all o):=by
 unfold res at h;unfold iR
 cases bg:o.guard with
 |none=>rw[bg]at h;simp only[aoY,ao5]at h;exact⟨none, .un,h.2.symm, .inl rfl⟩
 |some p=>
  obtain⟨j,want⟩:=p;rw[bg]at h;simp only at h⊢
  cases bn:l_ all j with
  |none=>rw[bn]at h;simp only[aoY,ao5]at h;exact⟨none, .un,h.2.symm, .inl rfl⟩
  |some g=>
   rw[bn]at h;simp only at h;split at h
   ·simp only[aoY,ao5]at h;exact⟨none, .un,h.2.symm, .inl rfl⟩
   ·simp only[aoY,ao5]at h;exact⟨none, .un,h.2.symm, .inl rfl⟩
   ·simp only[aoY,ao5]at h;exact⟨none, .un,h.2.symm, .inl rfl⟩
   ·simp only[aoY,ao5]at h;exact⟨some g, .bt,h.2.symm, .inr rfl⟩
   ·simp only[aoY,ao5]at h;exact⟨some g, .bf,h.2.symm, .inr rfl⟩
   ·cases h
theorem CF {all:List Oper}{o:Oper}{tm:List R}{d:Option Tmp}{v:R}(aY:fY (iR all o) d=false):res all o (put tm d v)=(res all o tm).map fun p=>(p.1,put p.2 d v):=by
 cases d with
 |none=>
  have:∀t:List R,put t none v=t:=fun t=>rfl
  simp only[this];cases res all o tm<;>rfl
 |some d=>
  unfold iR at aY;unfold res
  cases bg:o.guard with
  |none=>rfl
  |some p=>
   obtain⟨j,want⟩:=p;rw[bg]at aY;simp only at aY⊢
   cases bn:l_ all j with
   |none=>rfl
   |some g=>
    rw[bn]at aY;simp only
    have cT:d≠g:=by
     rintro rfl;simp[fY]at aY
    have e:b8 R.un (put tm (some d) v) g=b8 R.un tm g:=MR cT
    have c:∀x,c0 (put tm (some d) v) g x=put (c0 tm g x) (some d) v:=fun x=>by
     simp only[put,e2];exact(List.set_comm _ _ (apq cT)).symm▸rfl
    rw[e];generalize b8 R.un tm g=x
    cases x with
    |d a=>
     cases a with
     |bool b=>cases b<;>simp[c]
     |_=>rfl
    |_=>rfl
theorem abw {all:List Oper}{a i:Oper}{g:Tmp}(aS:iR all a=some g)(hi:iR all i=some g){tm jN lP:List R}{qE vI:Bool}(aa:res all a tm=some (qE,jN))(ad:res all i jN=some (vI,lP)):
 lP=jN/\res all i tm=some (vI,jN)/\res all a jN=some (qE,jN):=by
 unfold iR at aS hi
 cases rM:a.guard with
 |none=>rw[rM]at aS;cases aS
 |some FQ=>
  cases rN:i.guard with
  |none=>rw[rN]at hi;cases hi
  |some pi=>
   obtain⟨aop,Ko⟩:=FQ;obtain⟨aoq,FR⟩:=pi;rw[rM]at aS;rw[rN]at hi;simp only at aS hi;unfold res at aa ad⊢;simp only[rM,rN,aS,hi]at aa ad⊢;generalize ak:b8 R.un tm g=x at aa⊢
   cases x with
   |bt=>simp only[aoY,ao5]at aa;obtain⟨rfl,rfl⟩:=aa;simp only[ak,aoY,ao5]at ad⊢;obtain⟨rfl,rfl⟩:=ad;simp
   |bf=>simp only[aoY,ao5]at aa;obtain⟨rfl,rfl⟩:=aa;simp only[ak,aoY,ao5]at ad⊢;obtain⟨rfl,rfl⟩:=ad;simp
   |un=>simp only[aoY,ao5]at aa;obtain⟨rfl,rfl⟩:=aa;simp only[ak,aoY,ao5]at ad⊢;obtain⟨rfl,rfl⟩:=ad;simp
   |d y=>
    have ao:g<tm.length:=Pv (by rw[ak];intro h;cases h)
    cases y with
    |bool b=>
     cases b
     ·simp only[aoY,ao5]at aa;obtain⟨rfl,rfl⟩:=aa;rw[Gs ao]at ad⊢;simp only[aoY,ao5]at ad⊢;obtain⟨rfl,rfl⟩:=ad;simp
     ·simp only[aoY,ao5]at aa;obtain⟨rfl,rfl⟩:=aa;rw[Gs ao]at ad⊢;simp only[aoY,ao5]at ad⊢;obtain⟨rfl,rfl⟩:=ad;simp
    |_=>cases aa
   |_=>cases aa
theorem OA {o:Oper}{tm:List R}{r:Option Tmp}{x:R}(h:∀g,r=some g->q4 g o.op.operands.toList=false)(I:aF):cN tb aJ o (put tm r x) I=cN tb aJ o tm I:=by
 cases r with
 |none=>rfl
 |some g=>exact Bn fun y bn=>yA (dst:=some g) (show ma o (some g)=false from h g rfl) bn
theorem abx {all:List Oper}{a i:Oper}(aa:mM all a i=true)(ad:mM all i a=true){tm jN lP:List R}{qE vI:Bool}(oH:res all a tm=some (qE,jN))(vJ:res all i jN=some (vI,lP)):
 ∃vK,res all i tm=some (vI,vK)/\res all a vK=some (qE,lP)/\(∀I,cN tb aJ a lP I=cN tb aJ a jN I)/\∀I,cN tb aJ i lP I=cN tb aJ i vK I:=by
 by_cases ay:fY (iR all a) (iR all i)=true
 ·obtain⟨g,FT,FU⟩:=Bz.1 ay;obtain⟨rfl,aA,aG⟩:=abw FT FU oH vJ;exact⟨lP,aA,aG,fun _=>rfl,fun _=>rfl⟩
 ·have e_:fY (iR all a) (iR all i)=false:=by simpa using ay
  have lN:fY (iR all i) (iR all a)=false:=by
   cases ak:fY (iR all i) (iR all a)with
   |false=>rfl
   |true=>
    obtain⟨g,aA,aG⟩:=Bz.1 ak;exact absurd (Bz.2 ⟨g,aG,aA⟩) ay
  obtain⟨r,x,rfl,ao⟩:=Pw oH
  have ie:fY (iR all i) r=false:=by
   rcases ao with rfl|rfl
   ·cases iR all i<;>rfl
   ·exact lN
  rw[CF ie]at vJ
  cases Jy:res all i tm with
  |none=>rw[Jy]at vJ;cases vJ
  |some p=>
   obtain⟨aor,vK⟩:=p;rw[Jy]at vJ;simp only[apI,aoY,ao5]at vJ;obtain⟨rfl,rfl⟩:=vJ;obtain⟨q,y,rfl,aZ⟩:=Pw Jy
   have Ak:fY (iR all a) q=false:=by
    rcases aZ with rfl|rfl
    ·cases iR all a<;>rfl
    ·exact e_
   have Jq:fY q r=false:=by
    rcases aZ with rfl|rfl
    ·rfl
    ·exact ie
   refine⟨_,rfl, ?_,fun I=> ?_,fun I=> ?_⟩
   ·rw[CF Ak,oH];simp only[apI];rw[put_comm Jq]
   ·rw[put_comm Jq];refine OA (fun g bg=> ?_) I;subst bg;rcases aZ with aZ|aZ
    ·cases aZ
    ·unfold mM at ad;rw[<-aZ]at ad;simp only[aoM,ap8,apE]at ad;rcases ad.2 with ax|ax
     ·exact ax
     ·rw[aZ,e_]at ax;cases ax
   ·refine OA (fun g bg=> ?_) I;subst bg;rcases ao with ao|ao
    ·cases ao
    ·unfold mM at aa;rw[<-ao]at aa;simp only[aoM,ap8,apE]at aa;rcases aa.2 with ax|ax
     ·exact ax
     ·rw[ao,lN]at ax;cases ax
theorem Mp {all:List Oper}{a i:Oper}(h:mM all a i=true):fY (iR all a) i.dst=false:=by
 unfold mM at h;split at h
 ·rename_i bg;rw[bg];rfl
 ·rename_i g bg;rw[bg];simp only[aoM,apE]at h;exact h.1
end
end Go.aj
end
section
namespace Go.aj
abbrev gone:Bool×ag:=(true, .gone)
def hr (r:List Nat)(I al:aF):Prop:=∀x∈r,b8 gone I x=b8 gone al x
theorem kI {I:aF}{x:Nat}(h:cw I x=false):x<I.length:=by
 refine Nat.lt_of_not_le fun ak=> ?_;unfold cw at h;rw[d_,aoC,api ak]at h;cases h
theorem hr.at_ {r:List Nat}{I al:aF}(h:hr r I al){x:Nat}(ak:x∈r):ag.at I x=ag.at al x/\cw I x=cw al x:=by
 have:=h x ak;unfold ag.at cw;exact⟨apg Prod.snd this,apg Prod.fst this⟩
theorem uj (I:aF)(id:Nat)(p:Bool×ag)(x:Nat):b8 gone (c0 I id p) x=if id=x/\id<I.length then p else b8 gone I x:=by
 rw[d_,e2,e1,d_]
theorem Hy (I:aF)(id:Nat)(p:Bool×ag):(c0 I id p).length=I.length:=by rw[e2];simp
def aeR (I:aF):bT->aF
 | .a6 _ _ o=>o
 | .call _ args _=>cD I args
 |_=>I
theorem MS (t:bb)(x:U)(i:Int)(j:Nat):(∀I,loadData t x i j I= .bad)\/∃s v,∀I,loadData t x i j I= .a6 s v I:=by
 unfold loadData;split
 ·split
  ·split
   ·exact .inr ⟨_,_,fun _=>rfl⟩
   ·exact .inl fun _=>rfl
  ·exact .inl fun _=>rfl
 ·split
  ·split
   ·exact .inr ⟨_,_,fun _=>rfl⟩
   ·split<;>exact .inr ⟨_,_,fun _=>rfl⟩
   ·exact .inr ⟨_,_,fun _=>rfl⟩
   ·exact .inl fun _=>rfl
  ·exact .inl fun _=>rfl
 ·exact .inl fun _=>rfl
theorem NK (t:bb)(x:U)(i:Int)(j:Nat):(∀I,loadAt t x i j I= .bad)\/∃s v,∀I,loadAt t x i j I= .a6 s v I:=by
 unfold loadAt;split
 ·exact .inr ⟨_,_,fun _=>rfl⟩
 ·exact .inl fun _=>rfl
def sX (I al:aF)(a b:bT):Prop:=(a= .bad/\b= .bad)\/∃s v,a= .a6 s v I/\b= .a6 s v al
theorem Xf (t:bb)(p:R){I al:aF}(h:hr p.aJ I al):sX I al (h7 t p I) (h7 t p al):=by
 cases p with
 |ptr id off=>
  have aa:=(h.at_ (x:=id) (by simp[R.aJ,R.jB])).1;unfold h7;simp only;rw[aa];split
  ·split
   ·exact .inr ⟨_,_,rfl,rfl⟩
   ·exact .inr ⟨_,_,rfl,rfl⟩
   ·exact .inr ⟨_,_,rfl,rfl⟩
   ·exact .inl ⟨rfl,rfl⟩
  ·exact .inl ⟨rfl,rfl⟩
 |optr id i j=>
  have aa:=(h.at_ (x:=id) (by simp[R.aJ,R.jB])).1;unfold h7;simp only;rw[aa];rcases MS t (ag.at al id).data i j with ad|⟨s,v,ad⟩
  ·exact .inl ⟨ad _,ad _⟩
  ·exact .inr ⟨s,v,ad _,ad _⟩
 |rptr x i j=>
  unfold h7;simp only;rcases MS t x i j with ad|⟨s,v,ad⟩
  ·exact .inl ⟨ad _,ad _⟩
  ·exact .inr ⟨s,v,ad _,ad _⟩
 |oat id i j=>
  have aa:=(h.at_ (x:=id) (by simp[R.aJ,R.jB])).1;unfold h7;simp only;rw[aa];rcases NK t (ag.at al id).data i j with ad|⟨s,v,ad⟩
  ·exact .inl ⟨ad _,ad _⟩
  ·exact .inr ⟨s,v,ad _,ad _⟩
 |rat x i j=>
  unfold h7;simp only;rcases NK t x i j with ad|⟨s,v,ad⟩
  ·exact .inl ⟨ad _,ad _⟩
  ·exact .inr ⟨s,v,ad _,ad _⟩
 |_=>exact .inl ⟨rfl,rfl⟩
theorem YB (t:bb)(x:R)(n:Int){I al:aF}(h:hr x.aJ I al):sX I al (oZ t x n I) (oZ t x n al):=by
 unfold oZ;split;rotate_left
 ·exact .inl ⟨rfl,rfl⟩
 cases x with
 |optr id a j=>
  have aa:=(h.at_ (x:=id) (by simp[R.aJ,R.jB])).1;simp only;rw[aa]
  (repeat' split)<;>first|exact .inr ⟨_,_,rfl,rfl⟩|exact .inl ⟨rfl,rfl⟩
 |rptr y a j=>
  cases y<;>simp only<;>(repeat' split)<;>first|exact .inr ⟨_,_,rfl,rfl⟩|exact .inl ⟨rfl,rfl⟩
 |_=>exact .inl ⟨rfl,rfl⟩
theorem Wm (t:bb)(x i:R){I al:aF}(h:hr x.aJ I al):sX I al (qM t x i I) (qM t x i al):=by
 unfold qM;split
 ·cases x with
  |vec id=>
   have aa:=(h.at_ (x:=id) (by simp[R.aJ,R.jB])).1;simp only;rw[aa];split
   ·exact .inr ⟨_,_,rfl,rfl⟩
   ·exact .inl ⟨rfl,rfl⟩
  |d a=>
   simp only;split
   ·exact .inr ⟨_,_,rfl,rfl⟩
   ·exact .inl ⟨rfl,rfl⟩
  |emp=>exact .inr ⟨_,_,rfl,rfl⟩
  |_=>exact YB t _ _ h
 ·exact .inl ⟨rfl,rfl⟩
theorem YC (t:bb)(x:R){I al:aF}(h:hr x.aJ I al):uI t x I=uI t x al:=by
 cases x with
 |vec id=>
  have aa:=(h.at_ (x:=id) (by simp[R.aJ,R.jB])).1;unfold uI;simp only;rw[aa]
 |d a=>cases a<;>rfl
 |_=>rfl
theorem ac8 (I al:aF)(t:bb)(v:R)(h:ef R.hj v.cellsOf=true):bz (R.hR I) (t.norm I v).cellsOf=bz (R.hR al) (t.norm al v).cellsOf:=by
 cases v with
 |agg l=>
  have h:ef R.hj l=true:=h
  cases t with
  |aE s=>have e:∀o:aF,bb.norm o (.aE s) (.agg l)= .agg l:=fun o=>by cases s<;>rfl
         rw[e,e]
         exact qO fun x ak=>by
          rw[fH,aoU]at h;exact Ii I al (h x ak)
  |struct bW cs=>exact CE I al cs l h
  |arr n e cs=>exact CE I al cs l h
  |no=>
   exact qO fun x ak=>by
    rw[fH,aoU]at h;exact Ii I al (h x ak)
 |d a=>cases t with
  |aE s=>cases s<;>rfl
  |_=>rfl
 |bt=>cases t with
  |aE s=>cases s<;>rfl
  |_=>rfl
 |bf=>cases t with
  |aE s=>cases s<;>rfl
  |_=>rfl
 |emp=>cases t with
  |aE s=>cases s<;>rfl
  |_=>rfl
 |_=>exact absurd h (by simp[R.cellsOf,fH,R.hj])
def o2 (w:List Nat)(I al:aF)(a b:bT):Prop:=(a= .bad/\b= .bad)\/∃s v id X,a= .a6 s v (c0 I id X)/\b= .a6 s v (c0 al id X)/\w=[id]/\id<I.length/\id<al.length
theorem WG (t:bb)(p:R)(r:List U){I al:aF}(h:hr p.aJ I al):o2 p.aJ I al (qX t p r I) (qX t p r al):=by
 have bad:o2 p.aJ I al .bad .bad:= .inl ⟨rfl,rfl⟩;unfold qX
 cases p with
 |optr id i j=>
  have hm:id∈R.aJ (.optr id i j):=by simp[R.aJ,R.jB]
  obtain⟨aa,ad⟩:=h.at_ hm
  cases t.ja with
  |false=>exact bad
  |true=>
  simp only;rw[aa,ad]
  cases bm:cw al id with
  |true=>exact bad
  |false=>
  have dG:=kI bm;have dD:=kI (ad.trans bm);split
  ·split
   ·exact .inr ⟨_,_,_,_,rfl,rfl,rfl,dD,dG⟩
   ·exact bad
  ·exact bad
 |_=>cases t.ja<;>exact bad
theorem Wn (t:bb)(id:Nat)(i:Int)(j:Nat)(v:R){I al:aF}(h:hr [id] I al):o2 [id] I al (qQ t id i j v I) (qQ t id i j v al):=by
 have bad:o2 [id] I al .bad .bad:= .inl ⟨rfl,rfl⟩;obtain⟨aa,ad⟩:=h.at_ (apr.2 rfl);unfold qQ
 cases t with
 |aE s=>
  simp only;rw[aa,ad]
  cases bm:cw al id with
  |true=>exact bad
  |false=>
  have dG:=kI bm;have dD:=kI (ad.trans bm);split
  ·rename_i aY;rw[G7 I al s aY];exact .inr ⟨_,_,_,_,rfl,rfl,rfl,dD,dG⟩
  ·exact bad
 |_=>exact bad
theorem WH (t:bb)(p v:R){I al:aF}(h:hr p.aJ I al):o2 p.aJ I al (pN t p v I) (pN t p v al):=by
 have bad:o2 p.aJ I al .bad .bad:= .inl ⟨rfl,rfl⟩;unfold pN;rw[yr I al t v];split
 ·exact WG t p _ h
 cases p with
 |oat id i j=>exact Wn t id i j v h
 |ptr id off=>
  have hm:id∈R.aJ (.ptr id off):=by simp[R.aJ,R.jB]
  obtain⟨aa,ad⟩:=h.at_ hm;unfold ug;simp only;rw[aa,ad]
  cases bm:cw al id with
  |true=>exact bad
  |false=>
  have dG:=kI bm;have dD:=kI (ad.trans bm);split
  ·split
   ·exact .inr ⟨_,_,_,_,rfl,rfl,rfl,dD,dG⟩
   ·exact bad
  ·exact bad
 |optr id i j=>
  have hm:id∈R.aJ (.optr id i j):=by simp[R.aJ,R.jB]
  obtain⟨aa,ad⟩:=h.at_ hm;unfold ug;simp only;rw[aa,ad]
  cases bm:cw al id with
  |true=>exact bad
  |false=>
  have dG:=kI bm;have dD:=kI (ad.trans bm);split
  ·split
   ·split
    ·exact .inr ⟨_,_,_,_,rfl,rfl,rfl,dD,dG⟩
    ·exact bad
   ·exact bad
  ·split
   ·rename_i aY;rw[ac8 I al t v aY];exact .inr ⟨_,_,_,_,rfl,rfl,rfl,dD,dG⟩
   ·exact bad
  ·exact bad
 |_=>exact bad
theorem NL (s:b6)(v:R){I al:aF}(h:hr v.jB I al):s.norm I v=s.norm al v:=by
 cases v with
 |vec id=>
  have aa:=(h.at_ (x:=id) (by simp[R.jB])).1;cases s<;>first|rfl|(show R.d _=R.d _;rw[aa])
 |_=>cases s<;>rfl
theorem hr.mono {r l0:List Nat}{I al:aF}(h:hr r I al)(ao:∀x∈l0,x∈r):hr l0 I al:=fun x ak=>h x (ao x ak)
theorem GW:∀(cs:List b6) (aI:List R) {I al:aF},hr (s5 aI) I al->iF I cs aI=iF al cs aI
 |[],aI,_,_,_=>by cases aI<;>rfl
 |s::cs,[],_,_,_=>rfl
 |s::cs,v::aI,I,al,h=>by
  have e:s5 (v::aI)=v.jB++s5 aI:=by show eS _ _=_;rw[fZ]
  rw[e]at h;show s.norm I v::iF I cs aI=s.norm al v::iF al cs aI;rw[NL s v (h.mono fun x ak=>by simp[ak]),GW cs aI (h.mono fun x ak=>by simp[ak])]
theorem ZY (t:bb)(v:R){I al:aF}(h:hr v.aJ I al):t.norm I v=t.norm al v:=by
 cases t with
 |aE s=>
  cases v with
  |agg l=>cases s<;>rfl
  |_=>exact NL s _ h
 |struct bW cs=>
  cases v with
  |agg l=>exact apg R.agg (GW cs l h)
  |_=>rfl
 |arr n e cs=>
  cases v with
  |agg l=>exact apg R.agg (GW cs l h)
  |_=>rfl
 |no=>cases v<;>rfl
theorem ud (v:R)(aI:List R):gP (v::aI)=v.aJ++gP aI:=by show eS _ _=_;rw[fZ]
theorem yt:∀(ts:List bb) (aI:List R) {I al:aF},hr (gP aI) I al->bb.eV I ts aI=bb.eV al ts aI
 |[],aI,_,_,_=>by cases aI<;>rfl
 |t::ts,[],_,_,_=>rfl
 |t::ts,v::aI,I,al,h=>by
  rw[ud]at h;show t.norm I v::bb.eV I ts aI=t.norm al v::bb.eV al ts aI;rw[ZY t v (h.mono fun x ak=>by simp[ak]),yt ts aI (h.mono fun x ak=>by simp[ak])]
theorem wS {I:aF}{x:Nat}(h:ag.at I x≠ .gone):x<I.length:=by
 refine Nat.lt_of_not_le fun ak=>h ?_;unfold ag.at;rw[d_,aoC,api ak];rfl
def oa (w:List Nat)(f:aF->aF):Prop:=(∀I,(f I).length=I.length)/\(∀I x,x∉w->b8 gone (f I) x=b8 gone I x)/\
 ∀I al x,b8 gone I x=b8 gone al x->b8 gone (f I) x=b8 gone (f al) x
theorem oa.comp {w w':List Nat}{f g:aF->aF}(aT:oa w f)(bg:oa w' g):oa (w++w') (fun I=>g (f I)):=by
 refine⟨fun I=>by rw[bg.1,aT.1],fun I x ak=> ?_,fun I al x ak=>bg.2.2 _ _ _ (aT.2.2 _ _ _ ak)⟩;rw[apM,not_or]at ak;rw[bg.2.1 _ _ ak.2,aT.2.1 _ _ ak.1]
theorem Gz (I:aF)(id x:Nat):b8 gone (e7 I id) x=if id=x then(true,ag.at I id)else b8 gone I x:=by
 unfold e7;rw[uj]
 by_cases e:id=x
 ·subst e
  by_cases az:id<I.length
  ·rw[aoB ⟨rfl,az⟩,aoB rfl]
  ·rw[aoA (fun h=>az h.2),aoB rfl];have:b8 gone I id=gone:=by rw[d_,aoC,api (by omega)];rfl
   unfold ag.at;rw[show b8 (true,ag.gone) I id=gone from this]
 ·rw[aoA (fun h=>e h.1),aoA e]
theorem Mb (id:Nat):oa [id] (fun I=>e7 I id):=by
 refine⟨fun I=>Hy _ _ _,fun I x ak=> ?_,fun I al x ak=> ?_⟩
 ·rw[Gz,aoA];rintro rfl;simp at ak
 ·rw[Gz,Gz];split
  ·rename_i e;rw[e];unfold ag.at;rw[show b8 (true,ag.gone) I x=b8 (true,ag.gone) al x from ak]
  ·exact ak
theorem Px:oa [] (fun I=>I):=⟨fun _=>rfl,fun _ _ _=>rfl,fun _ _ _ h=>h⟩
theorem WI (v:R):oa v.jB (fun I=>lr I v):=by
 have Jz:∀w,oa w (fun I=>I):=fun w=>⟨fun _=>rfl,fun _ _ _=>rfl,fun _ _ _ h=>h⟩
 cases v with
 |vec id=>exact Mb id
 |_=>exact Jz _
theorem Mq:∀l:List R,oa (s5 l) (fun I=>ur I l)
 |[]=>Px
 |v::aI=>by
  have e:s5 (v::aI)=v.jB++s5 aI:=by show eS _ _=_;rw[fZ]
  rw[e];exact(WI v).comp (Mq aI)
theorem Xg (v:R):oa v.aJ (fun I=>freeze I v):=by
 have Jz:∀w,oa w (fun I=>I):=fun w=>⟨fun _=>rfl,fun _ _ _=>rfl,fun _ _ _ h=>h⟩
 cases v with
 |vec id=>exact Mb id
 |agg l=>exact Mq l
 |_=>exact Jz _
theorem Bk:∀l:List R,oa (gP l) (fun I=>cD I l)
 |[]=>Px
 |v::aI=>by
  rw[ud];exact(Xg v).comp (Bk aI)
section
variable {tb:TypeId->b4} {bx:FuncId->gA} {data:FuncId->Nat} {aJ:List (Tmp×Nat)} {n:Nat}
theorem ZZ (ew:∀f args I K,bx f args I K->hF (bx f)){I:aF}{k cz:R->aF->Prop}(ae:∀v o,k v o->cz v o){r:bT}(h:fU bx I k r):fU bx I cz r:=by
 cases r with
 |a6 s v o=>exact wu (ae v o) h
 |call f args tys=>exact(ew _ _ _ _ h).1 _ _ _ _ ae h
 |_=>exact h
structure aef (bx:FuncId->gA)(n:Nat)(f:gW)(bC:aF->bT)(B:aF->(R->ag->Prop)->Prop)(E:ag->aF->aF):Prop where
 none:∀I s v o id,bC I≠ .grow s v o id
 TC:∀I p,bC I≠ .fJ p
 pull:∀I k,fU bx I k (bC I)↔B I fun v x=>k v (E x I)
 mono:∀I k cz,(∀v x,k v x->cz v x)->B I k->B I cz
 some:∀I k,B I k->∃v x,k v x
 same:∀I al,hr f.r I al->(f.ext=true->I.length=n/\al.length=n)->∀k,B I k↔B al k
 len:∀x I,(E x I).length=I.length+f.ext.toNat
 out:∀x I y,(f.ext=true->I.length=n)->y∉f.w->b8 gone (E x I) y=b8 gone I y
 TD:∀I al,hr f.r I al->(f.ext=true->I.length=n/\al.length=n)->(∃k,B I k)->(∃k,B al k)->∀x,∀y∈f.w,b8 gone (E x I) y=b8 gone (E x al) y
 calls:f.ext=true->f.call=true
 a6:f.call=false->∀I,∃(S:Prop) (v:R) (x:ag),∀k,B I k↔S/\k v x
def oV (bx:FuncId->gA)(n:Nat)(f:gW)(bC:aF->bT):Prop:=∃B E,aef bx n f bC B E
theorem ue {f:gW}{bC:aF->bT}(hw:f.w=[])(ak:f.ext=false)(h:∀I al,hr f.r I al->sX I al (bC I) (bC al)):oV bx n f bC:=by
 have aa:∀I,bC I= .bad\/∃s v,bC I= .a6 s v I:=fun I=>by
  rcases h I I (fun _ _=>rfl)with⟨h,_⟩|⟨s,v,h,_⟩
  ·exact .inl h
  ·exact .inr ⟨s,v,h⟩
 refine⟨fun I k=>fU bx I (fun v _=>k v .gone) (bC I),fun _ I=>I, ?_⟩;refine⟨fun I s v o id=> ?_,fun I p=> ?_,fun I k=> ?_,fun I k cz ae ah=> ?_,fun I k ah=> ?_,fun I al ay _ k=> ?_,fun _ I=>by rw[ak];rfl,fun _ I y _ _=>rfl,fun I al _ _ _ _ x y bn=>absurd (hw▸bn) apV,fun he=>absurd (ak.symm.trans he) apD,fun _ I=> ?_⟩
 ·rcases aa I with h|⟨s,v,h⟩<;>rw[h]<;>simp
 ·rcases aa I with h|⟨s,v,h⟩<;>rw[h]<;>simp
 ·rcases aa I with h|⟨s,v,h⟩<;>rw[h]<;>exact aps
 ·rcases aa I with h|⟨s,v,h⟩<;>rw[h]at ah⊢
  ·exact ah
  ·exact wu (ae _ _) ah
 ·rcases aa I with h|⟨s,v,h⟩<;>rw[h]at ah
  ·exact ah.elim
  ·exact⟨_,_,((ho _ _).1 ah).2⟩
 ·rcases h I al ay with⟨aa,ad⟩|⟨s,v,aa,ad⟩<;>simp only[aa,ad]<;>exact aps
 ·rcases aa I with h|⟨s,v,h⟩<;>simp only[h]
  ·exact⟨False, .un, .gone,fun k=>by simp[fU]⟩
  ·exact⟨∀p∈s,p,v, .gone,fun k=>ho _ _⟩
theorem ss {f:gW}{bC:aF->bT}(ak:f.ext=false)(h:∀I al,hr f.r I al->o2 f.w I al (bC I) (bC al)):oV bx n f bC:=by
 have aa:∀I,bC I= .bad\/∃s v id X,bC I= .a6 s v (c0 I id X)/\f.w=[id]/\id<I.length:=fun I=>by
  rcases h I I (fun _ _=>rfl)with⟨h,_⟩|⟨s,v,id,X,h,_,hm,az,_⟩
  ·exact .inl h
  ·exact .inr ⟨s,v,id,X,h,hm,az⟩
 refine⟨fun I k=>fU bx I (fun v _=>k v .gone) (bC I),fun _ I=>aeR I (bC I), ?_⟩;refine⟨fun I s v o id=> ?_,fun I p=> ?_,fun I k=> ?_,fun I k cz ae ah=> ?_,fun I k ah=> ?_,fun I al ay _ k=> ?_,fun _ I=> ?_,fun _ I x _ ak=> ?_,fun I al ay _ rO _ _ x ak=> ?_,fun he=>absurd (ak.symm.trans he) apD,fun _ I=> ?_⟩
 ·rcases aa I with h|⟨s,v,id,X,h,_⟩<;>rw[h]<;>simp
 ·rcases aa I with h|⟨s,v,id,X,h,_⟩<;>rw[h]<;>simp
 ·rcases aa I with h|⟨s,v,id,X,h,_⟩<;>rw[h]<;>exact aps
 ·rcases aa I with h|⟨s,v,id,X,h,_⟩<;>rw[h]at ah⊢
  ·exact ah
  ·exact wu (ae _ _) ah
 ·rcases aa I with h|⟨s,v,id,X,h,_⟩<;>rw[h]at ah
  ·exact ah.elim
  ·exact⟨_,_,((ho _ _).1 ah).2⟩
 ·rcases h I al ay with⟨aa,ad⟩|⟨s,v,id,X,aa,ad,_⟩<;>simp only[aa,ad]<;>exact aps
 ·rw[ak];rcases aa I with h|⟨s,v,id,X,h,_⟩<;>rw[h]
  ·rfl
  ·exact Hy _ _ _
 ·rcases aa I with h|⟨s,v,id,X,h,hm,_⟩<;>rw[h]
  ·rfl
  ·show b8 gone (c0 I id X) x=_;rw[uj,aoA];rintro⟨rfl,_⟩;exact ak (by rw[hm];simp)
 ·rcases h I al ay with⟨ad,ax⟩|⟨s,v,id,X,ad,ax,hm,dj,df⟩
  ·obtain⟨k,ah⟩:=rO;rw[ad]at ah;exact ah.elim
  ·rw[ad,ax];show b8 gone (c0 I id X) x=b8 gone (c0 al id X) x;rw[hm]at ak;have ak:x=id:=by simpa using ak
   subst ak;rw[uj,uj,aoB ⟨rfl,dj⟩,aoB ⟨rfl,df⟩]
 ·rcases aa I with h|⟨s,v,id,X,h,_⟩<;>simp only[h]
  ·exact⟨False, .un, .gone,fun k=>by simp[fU]⟩
  ·exact⟨∀p∈s,p,v, .gone,fun k=>ho _ _⟩
theorem Z0 {ps:List bb}{hc:List R->(R->Prop)->Prop}(bs:lO hc){f:gW}{bC:aF->bT}{args:List R}(ao:f.r=gP args)(hw:f.w=gP args)(aC:f.call=true)(ak:f.ext=false)
 (aa:∀I s v o id,bC I≠ .grow s v o id) (ad:∀I p,bC I≠ .fJ p) (st:∀I k,fU bx I k (bC I)=iU ps hc args I k):oV bx n f bC:=by
 have dQ:=Bk args
 refine⟨fun I k=>iU ps hc args I fun v _=>k v .gone,fun _ I=>cD I args,aa,ad,fun I k=> ?_,fun I k cz ae ah=> ?_,fun I k ah=> ?_,fun I al ay _ k=> ?_,fun _ I=>by rw[ak];exact dQ.1 I,
  fun _ I x _ bn=>dQ.2.1 _ _ (hw▸bn),fun I al ay _ _ _ _ x bn=>dQ.2.2 _ _ _ (ay x (by rw[ao,<-hw];exact bn)),fun _=>aC,fun h=>absurd (h.symm.trans aC) apD⟩
 ·rw[st];exact aps
 ·unfold iU at ah⊢;split
  ·rename_i aA aG;rw[aA,aG]at ah;exact bs.1 _ _ _ (fun r=>ae r _) ah
  ·rename_i ak;split at ah
   ·rename_i aA aG;exact(ak aA aG).elim
   ·exact ah
 ·unfold iU at ah;split at ah
  ·obtain⟨r,ao⟩:=bs.2 _ _ ah;exact⟨r,_,ao⟩
  ·exact ah.elim
 ·unfold iU;rw[yt ps args (ao▸ay)]
theorem Z1 {ps:List bb}{hc:List R->(R->Prop)->Prop}(bs:lO hc){f:gW}{bC:aF->bT}{args:List R}(ao:f.r=gP args)(hw:f.w=gP args)(aC:f.call=true)(ak:f.ext=false)
 (aa:∀I s v o id,bC I≠ .grow s v o id) (ad:∀I p,bC I≠ .fJ p) (st:∀I k,fU bx I k (bC I)=nq ps hc args I k):oV bx n f bC:=by
 refine⟨fun I k=>nq ps hc args I fun v _=>k v .gone,fun _ I=>I,aa,ad,fun I k=> ?_,fun I k cz ae ah=> ?_,fun I k ah=> ?_,fun I al ay _ k=> ?_,fun _ I=>by rw[ak];rfl,
  fun _ I x _ _=>rfl,fun I al ay _ _ _ _ x bn=>ay x (by rw[ao,<-hw];exact bn),fun _=>aC,fun h=>absurd (h.symm.trans aC) apD⟩
 ·rw[st];exact aps
 ·unfold nq at ah⊢;split
  ·rename_i aA aG;rw[aA,aG]at ah;exact bs.1 _ _ _ (fun r=>ae r _) ah
  ·rename_i ak;split at ah
   ·rename_i aA aG;exact(ak aA aG).elim
   ·exact ah
 ·unfold nq at ah;split at ah
  ·obtain⟨r,ao⟩:=bs.2 _ _ ah;exact⟨r,_,ao⟩
  ·exact ah.elim
 ·unfold nq;rw[yt ps args (ao▸ay)]
theorem Z2 {ps:List bb}{hc:R->ag->List R->(ag->R->Prop)->Prop}(bs:kr hc){f:gW}{bC:aF->bT}{args:List R}(ao:f.r=gP args)(hw:f.w=gP args)(aC:f.call=true)(ak:f.ext=false)
 (aa:∀I s v o id,bC I≠ .grow s v o id) (ad:∀I p,bC I≠ .fJ p) (st:∀I k,fU bx I k (bC I)=n7 ps hc args I k):oV bx n f bC:=by
 match args with
 |[]=>
  refine⟨fun _ _=>False,fun _ I=>I,aa,ad,fun I k=>by rw[st];exact aps,fun _ _ _ _ h=>h,fun _ _ h=>h.elim,fun _ _ _ _ _=>aps,fun _ _=>by rw[ak];rfl,fun _ _ _ _ _=>rfl,fun _ _ _ _ ⟨_,h⟩=>h.elim,fun _=>aC,fun h=>absurd (h.symm.trans aC) apD⟩
 |a0::bQ=>
  have dQ:=Bk bQ
  cases dR:Dc a0 with
  |none=>
   refine⟨fun _ _=>False,fun _ I=>I,aa,ad,fun I k=>by rw[st];unfold n7;simp only[dR],fun _ _ _ _ h=>h,fun _ _ h=>h.elim,fun _ _ _ _ _=>aps,fun _ _=>by rw[ak];rfl,fun _ _ _ _ _=>rfl,fun _ _ _ _ ⟨_,h⟩=>h.elim,fun _=>aC,fun h=>absurd (h.symm.trans aC) apD⟩
  |some id=>
   have hH:id∈gP (a0::bQ):=by
    rw[ud];cases a0<;>simp[Dc]at dR<;>subst dR<;>simp[R.aJ,R.jB]
   have zI:∀x∈gP bQ,x∈gP (a0::bQ):=fun x ak=>by rw[ud];simp[ak]
   let B:aF->(R->ag->Prop)->Prop:=fun I k=>
    match cw (cD I bQ) id,Db a0 (ag.at I id),Nat.beq (bV ps) (bV bQ),ef R.plain (bb.eV I ps bQ)with
    |false,true,true,true=>y3 a0 (ag.at I id) (hc (mU a0) (ag.at I id) (bb.eV I ps bQ) fun ob r=>(match ag.alike (ag.at I id) ob with|true=>k r ob|false=>False))
    |_,_,_,_=>False
   refine⟨B,fun x I=>c0 (cD I bQ) id (false,x),aa,ad,fun I k=> ?_,fun I k cz ae ah=> ?_,fun I k ah=> ?_,fun I al ay _ k=> ?_,fun x I=>by rw[Hy,dQ.1,ak];rfl,fun x I y _ bn=> ?_,fun I al ay _ ⟨k,ae⟩ ⟨cz,td⟩ x y bn=> ?_,fun _=>aC,fun h=>absurd (h.symm.trans aC) apD⟩
   ·rw[st];unfold n7;simp only[dR];exact aps
   ·show B I cz;have ah:B I k:=ah;simp only[B]at ah⊢;split at ah
    ·rw[yn]at ah⊢;refine⟨ah.1,bs.1 _ _ _ _ _ (fun o r aH=> ?_) ah.2⟩;split
     ·rename_i aS;rw[aS]at aH;exact ae _ _ aH
     ·rename_i aS;rw[aS]at aH;exact aH
    ·exact ah.elim
   ·have ah:B I k:=ah;simp only[B]at ah;split at ah
    ·rw[yn]at ah;obtain⟨o,r,aH⟩:=bs.2 _ _ _ _ ah.2;split at aH
     ·exact⟨r,o,aH⟩
     ·exact aH.elim
    ·exact ah.elim
   ·rw[ao]at ay;have aA:=(ay.at_ hH).1;have aG:cw (cD I bQ) id=cw (cD al bQ) id:=apg Prod.fst (dQ.2.2 I al id (ay id hH));have bR:=yt ps bQ (ay.mono zI);show B I k↔B al k;simp only[B];rw[aA,aG,bR]
   ·rw[hw]at bn;rw[uj,aoA]
    ·exact dQ.2.1 _ _ fun h=>bn (zI _ h)
    ·rintro⟨rfl,_⟩;exact bn hH
   ·rw[ao]at ay;rw[hw]at bn
    have Ad:∀(I:aF) (k:R->ag->Prop),B I k->id<(cD I bQ).length:=fun I k ah=>by
     simp only[B]at ah;split at ah
     ·rename_i bm _ _ _;exact kI bm
     ·exact ah.elim
    rw[uj,uj]
    by_cases e:id=y
    ·rw[aoB ⟨e,Ad _ _ ae⟩,aoB ⟨e,Ad _ _ td⟩]
    ·rw[aoA (fun h=>e h.1),aoA (fun h=>e h.1)];exact dQ.2.2 _ _ _ (ay y bn)
theorem YD {ps:List bb}{hc:List R->(ag->Prop)->Prop}(bs:nE hc){f:gW}{bC:aF->bT}{args:List R}(ao:f.r=gP args)(hw:f.w=n::gP args)(aC:f.call=true)(ak:f.ext=true)
 (aa:∀I s v o id,bC I≠ .grow s v o id) (ad:∀I p,bC I≠ .fJ p) (st:∀I k,fU bx I k (bC I)=pS ps hc args I k):oV bx n f bC:=by
 have dQ:=Bk args
 let B:aF->(R->ag->Prop)->Prop:=fun I k=>
  match Nat.beq (bV ps) (bV args),ef R.plain (bb.eV I ps args)with
  |true,true=>hc (bb.eV I ps args) fun ob=>k (.vec (bV (cD I args))) ob
  |_,_=>False
 refine⟨B,fun ob I=>eS (cD I args) [(false,ob)],aa,ad,fun I k=> ?_,fun I k cz ae ah=> ?_,fun I k ah=> ?_,fun I al ay az k=> ?_,fun x I=> ?_,fun x I y az bn=> ?_,fun I al ay az _ _ x y bn=> ?_,
  fun _=>aC,fun h=>absurd (h.symm.trans aC) apD⟩
 ·rw[st];unfold pS;exact aps
 ·show B I cz;have ah:B I k:=ah;simp only[B]at ah⊢;split at ah
  ·exact bs.1 _ _ _ (fun r=>ae _ r) ah
  ·exact ah.elim
 ·have ah:B I k:=ah;simp only[B]at ah;split at ah
  ·obtain⟨r,ao⟩:=bs.2 _ _ ah;exact⟨_,r,ao⟩
  ·exact ah.elim
 ·show B I k↔B al k;simp only[B];have e:bV (cD I args)=bV (cD al args):=by rw[cO,cO,show(cD I args).length=I.length from dQ.1 I,show(cD al args).length=al.length from dQ.1 al,(az ak).1,(az ak).2]
  rw[yt ps args (ao▸ay),e]
 ·rw[fZ,ao1,dQ.1,ak];rfl
 ·rw[hw,aoW,not_or]at bn;have e:(cD I args).length=I.length:=dQ.1 I;have az:=az ak;rw[fZ,d_,aoC,ao7];split
  ·rw[<-aoC,<-d_];exact dQ.2.1 _ _ bn.2
  ·rename_i aB;rw[d_,aoC,api (l:=I) (by omega),api (by simp;omega)]
 ·obtain⟨dj,df⟩:=az ak;have e:(cD I args).length=I.length:=dQ.1 I;have cb:(cD al args).length=al.length:=dQ.1 al;show b8 gone (eS (cD I args) [(false,x)]) y=b8 gone (eS (cD al args) [(false,x)]) y;rw[fZ,fZ,d_,d_,aoC,aoC,ao7,ao7,e,cb,dj,df];split
  ·rename_i bG;rw[hw]at bn;have bn:y∈gP args:=(aoW.1 bn).resolve_left (by omega);rw[<-aoC,<-aoC,<-d_,<-d_];exact dQ.2.2 _ _ _ (ay y (by rw[ao];exact bn))
  ·rfl
theorem Z3 (t:bb)(id:Nat)(lo hi dr:Option R){I al:aF}(h:hr [id] I al):o2 [id] I al (kD t (.vec id) lo hi dr I) (kD t (.vec id) lo hi dr al):=by
 have aa:=(h.at_ (x:=id) (by simp)).1;have bm:e7 I id=c0 I id (true,ag.at al id):=by unfold e7;rw[aa]
 unfold kD
 cases dr with
 |none=>
  simp only;split
  ·rw[aa,bm];split
   ·rename_i aH;split
    ·exact .inr ⟨_,_,_,_,rfl,rfl,rfl,wS (by rw[aa,aH];simp),wS (by rw[aH];simp)⟩
    ·exact .inl ⟨rfl,rfl⟩
   ·rename_i aH;split
    ·exact .inr ⟨_,_,_,_,rfl,rfl,rfl,wS (by rw[aa,aH];simp),wS (by rw[aH];simp)⟩
    ·exact .inl ⟨rfl,rfl⟩
   ·exact .inl ⟨rfl,rfl⟩
  ·exact .inl ⟨rfl,rfl⟩
 |some m=>
  have key:∀o:aF,kD t (.vec id) lo hi (some m) o= .bad:=fun o=>by
   unfold kD;generalize mf lo=a;generalize mf hi=b;split
   ·rename_i h;cases h
   ·rcases a with _|_|(_|_)|_<;>rcases b with _|_|(_|_)|_<;>rfl
   ·rfl
  unfold kD at key;exact .inl ⟨key I,key al⟩
theorem YE (t:bb)(x:R)(lo hi dr:Option R)(ak:∀id,x≠ .vec id)(I al:aF):sX I al (kD t x lo hi dr I) (kD t x lo hi dr al):=by
 unfold kD
 cases dr with
 |none=>
  simp only;split
  ·cases x with
   |vec id=>exact absurd rfl (ak id)
   |d a=>
    cases a<;>simp only<;>first|exact .inl ⟨rfl,rfl⟩|(split<;>first|exact .inr ⟨_,_,rfl,rfl⟩|exact .inl ⟨rfl,rfl⟩)
   |emp=>simp only;split<;>first|exact .inr ⟨_,_,rfl,rfl⟩|exact .inl ⟨rfl,rfl⟩
   |_=>exact .inl ⟨rfl,rfl⟩
  ·exact .inl ⟨rfl,rfl⟩
 |some m=>
  split
  ·rename_i h;cases h
  ·split
   ·split<;>first|exact .inr ⟨_,_,rfl,rfl⟩|exact .inl ⟨rfl,rfl⟩
   ·split<;>first|exact .inr ⟨_,_,rfl,rfl⟩|exact .inl ⟨rfl,rfl⟩
   ·exact .inl ⟨rfl,rfl⟩
  ·exact .inl ⟨rfl,rfl⟩
theorem WJ (t:bb)(id:Nat)(i:Int)(j:Nat)(lo hi dr:Option R){I al:aF}(h:hr [id] I al):o2 [id] I al (pO t (.optr id i j) lo hi dr I) (pO t (.optr id i j) lo hi dr al):=by
 have aa:=(h.at_ (x:=id) (by simp)).1;have bm:e7 I id=c0 I id (true,ag.at al id):=by unfold e7;rw[aa]
 unfold pO;split
 ·rename_i he;injection he with aA aG bR;subst aA aG bR;rw[aa,bm];split
  ·rename_i aH _ _;split
   ·exact .inr ⟨_,_,_,_,rfl,rfl,rfl,wS (by rw[aa,aH];simp),wS (by rw[aH];simp)⟩
   ·exact .inl ⟨rfl,rfl⟩
  ·exact .inl ⟨rfl,rfl⟩
 ·exact .inl ⟨rfl,rfl⟩
theorem MT (t:bb)(x:R)(lo hi dr:Option R)(ak:∀id i j,x≠ .optr id i j)(I:aF):pO t x lo hi dr I= .bad:=by
 unfold pO;split
 ·exact absurd rfl (ak _ _ _)
 ·rfl
theorem XP (tb:TypeId->b4)(t:b4)(m k:R)(c:Bool){I al:aF}(h:hr m.aJ I al):sX I al (oL tb t m k c I) (oL tb t m k c al):=by
 unfold oL;split
 ·rename_i n hN e id _;have aa:=(h.at_ (x:=id) (by simp[R.aJ,R.jB])).1;rw[aa,yr I al _ k]
  (repeat' split)<;>first|exact .inr ⟨_,_,rfl,rfl⟩|exact .inl ⟨rfl,rfl⟩
 ·exact .inl ⟨rfl,rfl⟩
theorem Wo (tb:TypeId->b4)(t:b4)(m k v:R){I al:aF}(h:hr m.aJ I al):o2 m.aJ I al (sf tb t m k v I) (sf tb t m k v al):=by
 have bad:o2 m.aJ I al .bad .bad:= .inl ⟨rfl,rfl⟩;unfold sf;split
 ·rename_i n hN e id _;obtain⟨aa,ad⟩:=h.at_ (x:=id) (by simp[R.aJ,R.jB]);rw[aa,ad,yr I al _ k,Nb I al _ v]
  cases bm:cw al id with
  |true=>exact bad
  |false=>
   have dG:=kI bm;have dD:=kI (ad.trans bm)
   (repeat' split)<;>first|exact .inr ⟨_,_,_,_,rfl,rfl,rfl,dD,dG⟩|exact bad
 ·exact bad
theorem Z4 (s d:bb)(x:R){I al:aF}(h:hr x.aJ I al):sX I al (n3 s d x I) (n3 s d x al):=by
 unfold n3;split
 ·split<;>first|exact .inr ⟨_,_,rfl,rfl⟩|exact .inl ⟨rfl,rfl⟩
 ·split<;>first|exact .inr ⟨_,_,rfl,rfl⟩|exact .inl ⟨rfl,rfl⟩
 ·split<;>first|exact .inr ⟨_,_,rfl,rfl⟩|exact .inl ⟨rfl,rfl⟩
 ·rename_i id;have aa:=(h.at_ (x:=id) (by simp[R.aJ,R.jB])).1;rw[aa];split<;>first|exact .inr ⟨_,_,rfl,rfl⟩|exact .inl ⟨rfl,rfl⟩
 ·split<;>first|exact .inr ⟨_,_,rfl,rfl⟩|exact .inl ⟨rfl,rfl⟩
 ·exact .inl ⟨rfl,rfl⟩
theorem aby (tys:List TypeId)(args:List R){I al:aF}(ay:hr (gP args) I al):sX I al (kB tb .len tys args I) (kB tb .len tys args al):=by
 match args with
 |[]=>exact .inl ⟨rfl,rfl⟩
 |[x]=>
  have ak:hr x.aJ I al:=ay.mono fun y bn=>by rw[ud];simp[bn]
  cases tys with
  |nil=>exact .inl ⟨rfl,rfl⟩
  |cons t r=>
   have e:∀o,kB tb .len (t::r) [x] o=(match uI (tb t).ty x o with|some n=> .a6 [] (.d (.int .i64 n)) o|none=> .bad):=fun o=>rfl
   rw[e,e,YC (tb t).ty x ak];split
   ·exact .inr ⟨_,_,rfl,rfl⟩
   ·exact .inl ⟨rfl,rfl⟩
 |x::y::r=>
  have e:∀o,kB tb .len tys (x::y::r) o= .bad:=fun o=>by
   unfold kB;split
   ·rename_i h;cases h
   ·rename_i h _;exact absurd h (by decide)
   ·rename_i h _;exact absurd h (by decide)
   ·rename_i h _;exact absurd h (by decide)
   ·rename_i h _;exact absurd h (by decide)
   ·rfl
  rw[e,e];exact .inl ⟨rfl,rfl⟩
theorem uz (hQ:rh data bx)(o:Oper)(t:List R)(fr:(cB tb data aJ n o t).ok=true):oV bx n (cB tb data aJ n o t) (cN tb aJ o t):=by
 have R8:pW tb o.op=false->fA tb o.op=0->oT o.op=false->∀f:gW,f.w=[]->f.ext=false->oV bx n f (cN tb aJ o t):=fun _ aa ad f hw ak=>ue hw ak fun I al _=>by
  rcases uN (tb:=tb) (aJ:=aJ) aa ad t I al with h|⟨s,v,h,k5⟩
  ·exact .inl h
  ·exact .inr ⟨s,v,h,k5⟩
 have agp:cB tb data aJ n o t=⟨Nat.beq (fA tb o.op) 0&& !oT o.op,false,[],[],false,kG tb o.op t,false⟩->pW tb o.op=false->oV bx n (cB tb data aJ n o t) (cN tb aJ o t):=fun e aS=>by
  rw[e]at fr⊢;simp only[aoM,apE]at fr;exact R8 aS (aoE fr.1) fr.2 _ rfl rfl
 cases bK:o.op with
 |load ty p=>
  have e:cB tb data aJ n o t=⟨true,false,(a_ t p).aJ,[],false,kG tb o.op t,false⟩:=by unfold cB;rw[bK]
  rw[e];refine ue rfl rfl fun I al ay=> ?_;rw[iS (by rw[bK];rfl),iS (by rw[bK];rfl)];unfold e4;rw[bK];exact Xf _ _ ay
 |store ty p v=>
  have e:cB tb data aJ n o t=⟨true,false,(a_ t p).aJ,(a_ t p).aJ,false,false,false⟩:=by unfold cB;rw[bK]
  rw[e];refine ss rfl fun I al ay=> ?_;rw[iS (by rw[bK];rfl),iS (by rw[bK];rfl)];unfold e4;rw[bK];exact WH _ _ _ ay
 |indexAddr ty x i=>
  have e:cB tb data aJ n o t=⟨true,false,(a_ t x).aJ,[],false,false,false⟩:=by unfold cB;rw[bK]
  rw[e];refine ue rfl rfl fun I al ay=> ?_;rw[iS (by rw[bK];rfl),iS (by rw[bK];rfl)];unfold e4;rw[bK];exact Wm _ _ _ ay
 |lookup ty m k c=>
  have e:cB tb data aJ n o t=⟨true,false,(a_ t m).aJ,[],false,false,false⟩:=by unfold cB;rw[bK]
  rw[e];refine ue rfl rfl fun I al ay=> ?_;rw[iS (by rw[bK];rfl),iS (by rw[bK];rfl)];unfold e4;rw[bK];exact XP _ _ _ _ _ ay
 |mapUpdate ty m k v=>
  have e:cB tb data aJ n o t=⟨true,false,(a_ t m).aJ,(a_ t m).aJ,false,false,false⟩:=by unfold cB;rw[bK]
  rw[e];refine ss rfl fun I al ay=> ?_;rw[iS (by rw[bK];rfl),iS (by rw[bK];rfl)];unfold e4;rw[bK];exact Wo _ _ _ _ _ ay
 |slice ty x lo hi dr=>
  have e:cB tb data aJ n o t=(match(tb ty).cut with|true=>mS|false=>⟨true,false,(a_ t x).aJ,(a_ t x).aJ,false,false,false⟩):=by unfold cB;rw[bK];rfl
  rw[e]at fr⊢
  cases xl:(tb ty).cut with
  |true=>rw[xl]at fr;cases fr
  |false=>
  simp only
  have Kp:∀I,cN tb aJ o t I=sn (tb ty).ty (a_ t x) (omap (a_ t) lo) (omap (a_ t) hi) (omap (a_ t) dr) I:=fun I=>by
   rw[iS (by rw[bK];rfl)];unfold e4;rw[bK];show uu (tb ty) _ _ _ _ I=_;unfold uu;rw[xl]
  generalize a_ t x=v at Kp
  cases SF:(tb ty).ty.HO with
  |true=>
   have j9:∀I,cN tb aJ o t I=pO (tb ty).ty v (omap (a_ t) lo) (omap (a_ t) hi) (omap (a_ t) dr) I:=fun I=>by rw[Kp];unfold sn;rw[SF]
   by_cases aM:∃id i j,v= .optr id i j
   ·obtain⟨id,i,j,rfl⟩:=aM;refine ss rfl fun I al ay=> ?_;rw[j9,j9];exact WJ _ _ _ _ _ _ _ ay
   ·refine ss rfl fun I al _=> ?_;rw[j9,j9,MT _ _ _ _ _ fun id i j e=>aM ⟨id,i,j,e⟩,MT _ _ _ _ _ fun id i j e=>aM ⟨id,i,j,e⟩];exact .inl ⟨rfl,rfl⟩
  |false=>
  have j9:∀I,cN tb aJ o t I=kD (tb ty).ty v (omap (a_ t) lo) (omap (a_ t) hi) (omap (a_ t) dr) I:=fun I=>by rw[Kp];unfold sn;rw[SF]
  by_cases aM:∃id,v= .vec id
  ·obtain⟨id,rfl⟩:=aM;refine ss rfl fun I al ay=> ?_;rw[j9,j9];exact Z3 _ _ _ _ _ ay
  ·have aM:∀id,v≠ .vec id:=fun id e=>aM ⟨id,e⟩
   by_cases hw:v.aJ=[]
   ·rw[hw];refine ue rfl rfl fun I al _=> ?_;rw[j9,j9];exact YE _ _ _ _ _ aM _ _
   ·have ah:∀I,kD (tb ty).ty v (omap (a_ t) lo) (omap (a_ t) hi) (omap (a_ t) dr) I= .bad:=fun I=>by
     have:∀a,v≠ .d a:=fun a e=>hw (by rw[e];rfl)
     have ad:v≠ .emp:=fun e=>hw (by rw[e];rfl);unfold kD;split
     ·split
      ·cases v<;>first|rfl|exact absurd rfl (aM _)|exact absurd rfl (this _)|exact absurd rfl ad
      ·rfl
     ·split<;>first|rfl|exact absurd rfl (this _)
     ·rfl
    refine ss rfl fun I al _=> ?_;rw[j9,j9,ah,ah];exact .inl ⟨rfl,rfl⟩
 |convert ame FV x=>
  have e:cB tb data aJ n o t=⟨true,false,(a_ t x).aJ,[],false,false,false⟩:=by unfold cB;rw[bK]
  rw[e];refine ue rfl rfl fun I al ay=> ?_;rw[iS (by rw[bK];rfl),iS (by rw[bK];rfl)];unfold e4;rw[bK];exact Z4 _ _ _ ay
 |alloc ty=>
  have e:cB tb data aJ n o t=(match o.dst with|some d=>(match fz d aJ with|some id=>⟨true,false,[id],[id],false,false,false⟩|none=>mS)|none=>mS):=by unfold cB;rw[bK];rfl
  cases aY:o.dst with
  |none=>rw[e,aY]at fr;cases fr
  |some d=>
   cases az:fz d aJ with
   |none=>rw[e,aY]at fr;simp only[az]at fr;cases fr
   |some id=>
    rw[e,aY];simp only[az];refine ss rfl fun I al ay=> ?_
    have aG:∀I,cN tb aJ o t I=(match(tb ty).ty.ja,(tb ty).ty,cw I id with|false, .no,_=> .bad|false,_,true=> .bad|false,ty,false=> .a6 [] (.ptr id 0) (c0 I id (false, .cells ty.zero))|true,_,true=> .bad|true,ty,false=>(match Nat.blt 0 ty.size with|true=> .a6 [] (.optr id 0 0) (c0 I id (false, .av ty.size [bz b6.ga ty.cells]))|false=> .bad)):=fun I=>by
     unfold cN;rw[bK,aY];simp only[az]
     rfl
    have bm:=(ay.at_ (x:=id) (by simp)).2;rw[aG,aG,bm]
    cases (tb ty).ty.ja with
    |true=>
     cases dn:cw al id with
     |true=>exact .inl ⟨rfl,rfl⟩
     |false=>
      dsimp only
      cases Nat.blt 0 (tb ty).ty.size with
      |false=>exact .inl ⟨rfl,rfl⟩
      |true=>exact .inr ⟨_,_,_,_,rfl,rfl,rfl,kI (bm.trans dn),kI dn⟩
    |false=>
    cases dn:cw al id with
    |true=>cases (tb ty).ty<;>exact .inl ⟨rfl,rfl⟩
    |false=>
     have dG:=kI dn;have dD:=kI (bm.trans dn)
     cases (tb ty).ty with
     |no=>exact .inl ⟨rfl,rfl⟩
     |_=>exact .inr ⟨_,_,_,_,rfl,rfl,rfl,dD,dG⟩
 |buildSlice ty q bN=>
  have e:cB tb data aJ n o t=(match(tb ty).lit with|true=>⟨true,false,[],[],false,kG tb o.op t,false⟩|false=>(match o.dst with|some d=>(match fz d aJ with|some id=>⟨true,false,[id],[id],false,false,false⟩|none=>mS)|none=>mS)):=by unfold cB;rw[bK];rfl
  cases kR:(tb ty).lit with
  |true=>
   rw[e,kR];exact R8 (by rw[bK];simp[pW,kR]) (by rw[bK];simp[fA,kR]) (by rw[bK];rfl) _ rfl rfl
  |false=>
   cases aY:o.dst with
   |none=>rw[e,kR,aY]at fr;cases fr
   |some d=>
    cases az:fz d aJ with
    |none=>rw[e,kR,aY]at fr;simp only[az]at fr;cases fr
    |some id=>
     rw[e,kR,aY];simp only[az];refine ss rfl fun I al ay=> ?_
     have aG:∀I,cN tb aJ o t I=(match sS (tb ty) q (bz (fun p=>(p.1,a_ t p.2)) bN.toList) I,cw I id with|some ob,false=> .a6 [] (.vec id) (c0 I id (false,ob))|_,_=> .bad):=fun I=>by
      unfold cN;rw[bK,aY];simp only[az,kR]
      rfl
     have bR:sS (tb ty) q (bz (fun p=>(p.1,a_ t p.2)) bN.toList) I=sS (tb ty) q (bz (fun p=>(p.1,a_ t p.2)) bN.toList) al:=by
      have aZ:∀z,hP I z (tb ty).f_ q (bz (fun p=>(p.1,a_ t p.2)) bN.toList)=hP al z (tb ty).f_ q (bz (fun p=>(p.1,a_ t p.2)) bN.toList):=fun z=>ym I al z _ _ 0 q
      unfold sS;simp only[aZ]
     have bm:=(ay.at_ (x:=id) (by simp)).2;rw[aG,aG,bR,bm];split
     ·rename_i dn;exact .inr ⟨_,_,_,_,rfl,rfl,rfl,kI (bm.trans dn),kI dn⟩
     ·exact .inl ⟨rfl,rfl⟩
 |call c=>
  have e:cB tb data aJ n o t=(match c.callee with
   | .builtin .len=>⟨true,false,gP (bz (a_ t) c.args.toList),[],false,false,false⟩
   | .builtin .append=>⟨false,false,[],[],false,false,kF (bz (a_ t) c.args.toList)⟩
   | .value (.func f)=>(match data f with|1=>⟨true,true,gP (bz (a_ t) c.args.toList),gP (bz (a_ t) c.args.toList),false,false,false⟩|2=>⟨true,true,gP (bz (a_ t) c.args.toList),n::gP (bz (a_ t) c.args.toList),true,false,false⟩|_=>mS)
   |_=>mS):=by unfold cB;rw[bK];rfl
  have j9:∀I,cN tb aJ o t I=(match c.callee with
   | .builtin b=>kB tb b c.argTypes.toList (bz (a_ t) c.args.toList) I
   | .value (.func f)=> .call f (bz (a_ t) c.args.toList) c.argTypes.toList
   | .value (.tmp u)=>sA (b8 .un t u) (bz (a_ t) c.args.toList) c.argTypes.toList
   |_=> .bad):=fun I=>by
   rw[iS (by rw[bK];rfl)];unfold e4;rw[bK]
   rfl
  cases aC:c.callee with
  |builtin b=>
   cases b with
   |len=>
    rw[e,aC];refine ue rfl rfl fun I al ay=> ?_;rw[j9,j9,aC];simp only at ay⊢;exact aby _ _ ay
   |_=>rw[e,aC]at fr;cases fr
  |value x=>
   cases x with
   |func f=>
    have vL:∀I,cN tb aJ o t I= .call f (bz (a_ t) c.args.toList) c.argTypes.toList:=fun I=>by rw[j9,aC]
    have aa:∀I s v cg id,cN tb aJ o t I≠ .grow s v cg id:=fun I s v cg id=>by rw[vL];simp
    have ad:∀I p,cN tb aJ o t I≠ .fJ p:=fun I p=>by rw[vL];simp
    generalize bz (a_ t) c.args.toList=args at vL e;rw[aC]at e
    match xI:data f with
    |1=>
     simp only[xI]at e;rw[e];rcases(hQ f).1 xI with⟨ps,hc,vl,il⟩|⟨ps,hc,vl,il⟩|⟨ps,hc,vl,il⟩
     ·exact Z0 vl (args:=args) rfl rfl rfl rfl aa ad fun I k=>by rw[vL];show bx f args I k=_;rw[il]
     ·exact Z2 vl (args:=args) rfl rfl rfl rfl aa ad fun I k=>by rw[vL];show bx f args I k=_;rw[il]
     ·exact Z1 vl (args:=args) rfl rfl rfl rfl aa ad fun I k=>by rw[vL];show bx f args I k=_;rw[il]
    |2=>
     simp only[xI]at e;rw[e];obtain⟨ps,hc,vl,il⟩:=(hQ f).2 xI;exact YD vl (args:=args) rfl rfl rfl rfl aa ad fun I k=>by rw[vL];show bx f args I k=_;rw[il]
    |0=>simp only[xI]at e;rw[e]at fr;cases fr
    |n+3=>simp only[xI]at e;rw[e]at fr;cases fr
   |_=>rw[e,aC]at fr;cases fr
  |_=>rw[e,aC]at fr;cases fr
 |_=>
  refine agp ?_ (by rw[bK];rfl);unfold cB;rw[bK]
theorem wF {x:Nat}:∀{l:List Nat},p9 x l=true↔x∈l
 |[]=>by simp[p9]
 |y::r=>by
  unfold p9
  by_cases h:x=y
  ·subst h;simp
  ·have:Nat.beq x y=false:=by
    cases ah:Nat.beq x y with
    |false=>rfl
    |true=>exact absurd (aoE ah) h
   rw[this];simp[h,wF (l:=r)]
theorem yM {m:List Nat}:∀{l:List Nat},uV l m=true↔∀x∈l,x∉m
 |[]=>by simp[uV]
 |y::r=>by
  unfold uV
  cases h:p9 y m with
  |true=>simp[wF.1 h]
  |false=>
   have:y∉m:=fun hm=>by rw[wF.2 hm]at h;cases h
   simp[this,yM (l:=r)]
theorem abz (_:∀f args I K,bx f args I K->hF (bx f)){gf ha:gW}{Kq Kr:aF->bT}(aS:oV bx n gf Kq)(hi:oV bx n ha Kr)(aC:(gf.call&&ha.call)=false)
 (d1:∀x∈gf.w,x∉ha.w) (d2:∀x∈gf.w,x∉ha.r) (d3:∀x∈ha.w,x∉gf.r) {I:aF} (aB:I.length=n) {k:R->R->aF->Prop}
 (h:fU bx I (fun v al=>fU bx al (fun c7 gz=>k v c7 gz) (Kr al)) (Kq I)):
 fU bx I (fun c7 al=>fU bx al (fun v gz=>k v c7 gz) (Kq al)) (Kr I):=by
 obtain⟨AW,nM,aS⟩:=aS;obtain⟨FW,nN,hi⟩:=hi
 have nO:ha.ext=true->∀x,(nM x I).length=n:=fun he x=>by
  have aa:=hi.calls he
  have ad:gf.ext=false:=by
   cases ak:gf.ext with
   |false=>rfl
   |true=>have:=aS.calls ak;rw[aa,this]at aC;cases aC
  rw[aS.len,ad];exact aB
 have li:gf.ext=true->∀x,(nN x I).length=n:=fun he x=>by
  have aa:=aS.calls he
  have ad:ha.ext=false:=by
   cases ak:ha.ext with
   |false=>rfl
   |true=>have:=hi.calls ak;rw[aa,this]at aC;cases aC
  rw[hi.len,ad];exact aB
 have JA:∀x,hr ha.r (nM x I) I:=fun x y bn=>aS.out _ _ _ (fun _=>aB) fun hw=>d2 y hw bn
 have JB:∀x,hr gf.r I (nN x I):=fun x y bn=>(hi.out _ _ _ (fun _=>aB) fun hw=>d3 y hw bn).symm
 have k5:AW I fun v x=>FW I fun c7 ih=>k v c7 (nN ih (nM x I)):=by
  refine aS.mono _ _ _ (fun v x aM=> ?_) ((aS.pull _ _).1 h);exact(hi.same _ _ (JA x) (fun he=>⟨nO he x,aB⟩) _).1 ((hi.pull _ _).1 aM)
 have FX:∃k,AW I k:=⟨_,k5⟩
 have UK:∃k,FW I k:=by
  obtain⟨v,x,aM⟩:=aS.some _ _ k5;exact⟨_,aM⟩
 have aje:∀x,∃k,AW (nN x I) k:=fun x=>⟨_,(aS.same _ _ (JB x) (fun he=>⟨aB,li he x⟩) _).1 k5⟩
 have ajf:∀x,∃k,FW (nM x I) k:=fun x=>by
  obtain⟨k,ae⟩:=UK;exact⟨k,(hi.same _ _ (JA x) (fun he=>⟨nO he x,aB⟩) _).2 ae⟩
 have heq:∀x ih,nN ih (nM x I)=nM x (nN ih I):=fun x ih=>by
  have az:(nN ih (nM x I)).length=(nM x (nN ih I)).length:=by rw[hi.len,aS.len,aS.len,hi.len];omega
  have ak:∀y,b8 gone (nN ih (nM x I)) y=b8 gone (nM x (nN ih I)) y:=fun y=>by
   by_cases aa:y∈gf.w
   ·rw[hi.out _ _ _ (fun he=>nO he x) (d1 y aa)];exact aS.TD _ _ (JB ih) (fun he=>⟨aB,li he ih⟩) FX (aje ih) x y aa
   ·rw[aS.out _ _ _ (fun he=>li he ih) aa]
    by_cases ad:y∈ha.w
    ·exact(hi.TD _ _ (fun z bm=>(JA x z bm).symm) (fun he=>⟨aB,nO he x⟩) UK (ajf x) ih y ad).symm
    ·rw[hi.out _ _ _ (fun he=>nO he x) ad,aS.out _ _ _ (fun _=>aB) aa,hi.out _ _ _ (fun _=>aB) ad]
  apply List.ext_getElem?;intro y;have:=ak y;rw[d_,d_,aoC,aoC]at this
  by_cases bG:y<(nN ih (nM x I)).length
  ·rw[aoQ bG,aoQ (by rw[<-az];exact bG)]at this⊢;simpa using this
  ·rw[api (by omega),api (by omega)]
 have goal:FW I fun c7 ih=>AW I fun v x=>k v c7 (nN ih (nM x I)):=by
  cases qo:gf.call with
  |false=>
   obtain⟨S,v,x,gh⟩:=aS.a6 qo I;have ad:=(gh _).1 k5;exact hi.mono _ _ _ (fun c7 ih aM=>(gh _).2 ⟨ad.1,aM⟩) ad.2
  |true=>
   have rP:ha.call=false:=by rw[qo]at aC;simpa using aC
   obtain⟨S,c7,ih,gh⟩:=hi.a6 rP I;refine(gh _).2 ?_;have ad:AW I fun v x=>S/\k v c7 (nN ih (nM x I)):=aS.mono _ _ _ (fun v x aM=>(gh _).1 aM) k5;obtain⟨v,x,aM⟩:=aS.some _ _ ad;exact⟨aM.1,aS.mono _ _ _ (fun v x aM=>aM.2) ad⟩
 refine(hi.pull _ _).2 (hi.mono _ _ _ (fun c7 ih aM=> ?_) goal);refine(aS.pull _ _).2 ((aS.same _ _ (JB ih) (fun he=>⟨aB,li he ih⟩) _).1 (aS.mono _ _ _ (fun v x aM=> ?_) aM));rw[<-heq];exact aM
end
end Go.aj
end
section
namespace Go.aj
section
variable {tb:TypeId->b4} {bx:FuncId->gA} {data:FuncId->Nat} {aJ:List (Tmp×Nat)} {n:Nat}
def oh (c7 v:R):Prop:=c7=v\/((c7= .bt\/c7= .bf)/\∃b,v= .d (.bool b))
theorem oh.aeg {c7 v:R}(h:oh c7 v):c7.aJ=v.aJ:=by
 rcases h with rfl|⟨rfl|rfl,b,rfl⟩<;>rfl
theorem oh.ptr {c7 v:R}(h:oh c7 v):ra c7=ra v:=by
 rcases h with rfl|⟨rfl|rfl,b,rfl⟩<;>rfl
theorem oh.int {c7 v:R}(h:oh c7 v):rb c7=rb v:=by
 rcases h with rfl|⟨rfl|rfl,b,rfl⟩<;>rfl
theorem Z5 {f g:Operand->R}:∀l:List Operand,(∀x∈l,oh (f x) (g x))->kF (bz f l)=kF (bz g l)
 |[],_=>rfl
 |[x],_=>by
  show kF [f x]=kF [g x]
  have:∀v:R,kF [v]=false:=fun v=>by cases v<;>rfl
  rw[this,this]
 |[x,y],h=>by
  show kF [f x,f y]=kF [g x,g y]
  have no:∀v b,kF [v, .d (.bool b)]=false:=fun v b=>by cases v<;>rfl
  have eY:∀v,kF [v, .bt]=false:=fun v=>by cases v<;>rfl
  have hy:∀v,kF [v, .bf]=false:=fun v=>by cases v<;>rfl
  rcases h y (by simp)with e|⟨e,b,cb⟩
  ·rw[e];rcases h x (by simp)with e|⟨e|e,b,cb⟩
   ·rw[e]
   ·rw[e,cb];rfl
   ·rw[e,cb];rfl
  ·rw[cb,no];rcases e with e|e<;>rw[e]
   ·exact eY _
   ·exact hy _
 |x::y::z::r,_=>by
  show kF (f x::f y::f z::bz f r)=kF (g x::g y::g z::bz g r)
  have:∀(a b c:R) (l:List R),kF (a::b::c::l)=false:=fun a b c l=>by unfold kF;split<;>first|rfl|(rename_i h;simp at h)
  rw[this,this]
theorem YF {o:Op}{t t':List R}(h:∀x∈o.operands.toList,oh (a_ t' x) (a_ t x)):kG tb o t'=kG tb o t:=by
 cases o with
 |load ty p=>exact(h p (by simp[Op.operands])).ptr
 |fieldAddr ty x f=>exact(h x (by simp[Op.operands])).ptr
 |buildSlice ty q bN=>
  unfold kG;simp only
  have key:∀l:List (Nat×Operand),(∀p∈l,rb (a_ t' p.2)=rb (a_ t p.2))->ef (fun p:Nat×Operand=>rb (a_ t' p.2)) l=ef (fun p:Nat×Operand=>rb (a_ t p.2)) l:=by
   intro l
   induction l with
   |nil=>exact fun _=>rfl
   |cons x r bM=>
    intro ak;rw[fH,fH,aqd,aqd,<-fH,<-fH,ak x (by simp),bM fun y bn=>ak y (by simp[bn])]
  have this:=key bN.toList fun p aD=>(h p.2 (by simp[Op.operands];exact⟨p.1,by simpa using aD⟩)).int;rw[this]
 |_=>rfl
theorem NM {o:Oper}{t t':List R}(ae:∀x∈o.op.operands.toList,oh (a_ t' x) (a_ t x)):cB tb data aJ n o t'=cB tb data aJ n o t:=by
 have h:=fun x ak=>(ae x ak).aeg;have ay:=YF (tb:=tb) ae
 have az:∀l:List Operand,(∀x∈l,(a_ t' x).aJ=(a_ t x).aJ)->gP (bz (a_ t') l)=gP (bz (a_ t) l):=by
  intro l
  induction l with
  |nil=>exact fun _=>rfl
  |cons x r bM=>
   intro ak;show gP (a_ t' x::bz (a_ t') r)=gP (a_ t x::bz (a_ t) r);rw[ud,ud,ak x (by simp),bM fun y bn=>ak y (by simp[bn])]
 unfold cB
 cases bK:o.op with
 |load ty p=>simp only[bK]at h ay⊢;rw[h p (by simp[Op.operands]),ay]
 |store ty p v=>simp only[bK]at h⊢;rw[h p (by simp[Op.operands])]
 |indexAddr ty x i=>simp only[bK]at h⊢;rw[h x (by simp[Op.operands])]
 |slice ty x lo hi dr=>simp only[bK]at h⊢;rw[h x (by simp[Op.operands])]
 |convert ame FV x=>simp only[bK]at h⊢;rw[h x (by simp[Op.operands])]
 |lookup ty m k c=>simp only[bK]at h⊢;rw[h m (by simp[Op.operands])]
 |mapUpdate ty m k v=>simp only[bK]at h⊢;rw[h m (by simp[Op.operands])]
 |call c=>
  simp only[bK]at h ae⊢
  have hm:∀x∈c.args.toList,x∈(Op.call c).operands.toList:=fun x ak=>by simp[Op.operands,Call.operands];exact .inr (by simpa using ak)
  rw[az c.args.toList fun x ak=>h x (hm x ak),Z5 c.args.toList fun x ak=>ae x (hm x ak)]
 |alloc ty=>rfl
 |_=>simp only[bK]at ay⊢;rw[ay]
theorem uk {o:Oper}{t:List R}(h:(cB tb data aJ n o t).ok=true){n':Nat}(t':List R):(cB tb data aJ n' o t').ok=true:=by
 have key:(cB tb data aJ n' o t').ok=(cB tb data aJ n o t).ok:=by
  unfold cB
  cases o.op with
  |call c=>
   simp only;split<;>first|rfl|(split<;>rfl)
  |buildSlice ty q bN=>
   simp only;cases (tb ty).lit<;>rfl
  |slice ty x lo hi dr=>
   simp only;cases (tb ty).cut<;>rfl
  |_=>rfl
 rw[key];exact h
theorem QC {tm:List R}{g:Nat}{b:Bool}(bg:b8 .un tm g= .d (.bool b)){y:R}(bn:y= .bt\/y= .bf)(x:Operand):oh (a_ (c0 tm g y) x) (a_ tm x):=by
 cases x with
 |tmp t=>
  show oh (b8 .un (c0 tm g y) t) (b8 .un tm t)
  by_cases e:g=t
  ·subst e;rw[Gs (Pv (by rw[bg];intro h;cases h)),bg];exact .inr ⟨bn,b,rfl⟩
  ·rw[MR e];exact .inl rfl
 |_=>exact .inl rfl
theorem ac9 {all:List Oper}{o:Oper}{tm t:List R}{m:Bool}(h:res all o tm=some (m,t))(x:Operand):oh (a_ t x) (a_ tm x):=by
 unfold res at h
 cases bg:o.guard with
 |none=>rw[bg]at h;simp only[aoY,ao5]at h;rw[h.2];exact .inl rfl
 |some p=>
  obtain⟨j,want⟩:=p;rw[bg]at h;simp only at h
  cases bn:l_ all j with
  |none=>rw[bn]at h;simp only[aoY,ao5]at h;rw[h.2];exact .inl rfl
  |some g=>
   rw[bn]at h;simp only at h;split at h
   ·simp only[aoY,ao5]at h;rw[h.2];exact .inl rfl
   ·simp only[aoY,ao5]at h;rw[h.2];exact .inl rfl
   ·simp only[aoY,ao5]at h;rw[h.2];exact .inl rfl
   ·rename_i az;simp only[aoY,ao5]at h;rw[<-h.2];exact QC az (.inl rfl) x
   ·rename_i az;simp only[aoY,ao5]at h;rw[<-h.2];exact QC az (.inr rfl) x
   ·cases h
theorem B7 {all:List Oper}{o:Oper}{tm t:List R}{m:Bool}(h:res all o tm=some (m,t))(q:Oper):cB tb data aJ n q t=cB tb data aJ n q tm:=NM fun x _=>ac9 h x
theorem Hz {o:Oper}{tm:List R}{d:Option Tmp}{v:R}(h:ma o d=false):cB tb data aJ n o (put tm d v)=cB tb data aJ n o tm:=NM fun _ ak=> .inl (yA h ak)
theorem R9 {all:List Oper}{a i:Oper}(rM:mM all a i=true)(rN:mM all i a=true)(cR:fY a.dst i.dst=false)(ie:ma i a.dst=false)(rK:ma a i.dst=false)
 (ew:∀f args I K,bx f args I K->hF (bx f))
 (nO:(∀tm I s v cg id,cN tb aJ a tm I≠ .grow s v cg id)/\∀tm I p,cN tb aJ a tm I≠ .fJ p)
 (li:(∀tm I s v cg id,cN tb aJ i tm I≠ .grow s v cg id)/\∀tm I p,cN tb aJ i tm I≠ .fJ p)
 {tm:List R} {I:aF} {K:List R->aF->Prop}
 (core:∀t,(∀q,cB tb data aJ n q t=cB tb data aJ n q tm)->∀(k:R->R->aF->Prop),fU bx I (fun v al=>fU bx al (fun c7 gz=>k v c7 gz) (cN tb aJ i t al)) (cN tb aJ a t I)->
   fU bx I (fun c7 al=>fU bx al (fun v gz=>k v c7 gz) (cN tb aJ a t al)) (cN tb aJ i t I))
 (h:dF tb bx aJ all [a,i] tm I K):dF tb bx aJ all [i,a] tm I K:=by
 have ci:∀(t:List R) (v:R) (o:aF),cN tb aJ i (put t a.dst v) o=cN tb aJ i t o:=fun t v o=>Bn fun x ak=>yA ie ak
 have x4:∀(t:List R) (v:R) (o:aF),cN tb aJ a (put t i.dst v) o=cN tb aJ a t o:=fun t v o=>Bn fun x ak=>yA rK ak
 rw[ys nO.1 nO.2]at h
 cases xC:res all a tm with
 |none=>rw[xC]at h;exact h.elim
 |some p=>
  obtain⟨qE,jN⟩:=p;rw[xC]at h;simp only at h
  have aA:∀v al,dF tb bx aJ all [i] (put jN a.dst v) al K↔_:=fun v al=>ys (tm:=put jN a.dst v) (I:=al) (bQ:=[]) (all:=all) (K:=K) li.1 li.2
  have aG:∀v,res all i (put jN a.dst v)=(res all i jN).map fun p=>(p.1,put p.2 a.dst v):=fun v=>CF (Mp rN)
  have h:sW qE bx I (fun v al=>match(res all i jN).map fun p=>(p.1,put p.2 a.dst v)with
   |none=>False
   |some (m,ev)=>sW m bx al (fun v al=>dF tb bx aJ all [] (put ev i.dst v) al K) (cN tb aJ i ev al)) (cN tb aJ a jN I):=by
   have:(fun v al=>dF tb bx aJ all [i] (put jN a.dst v) al K)=(fun v al=>match(res all i jN).map fun p=>(p.1,put p.2 a.dst v)with
    |none=>False
    |some (m,ev)=>sW m bx al (fun v al=>dF tb bx aJ all [] (put ev i.dst v) al K) (cN tb aJ i ev al)):=by
    funext v al
    rw[<-aG v];exact propext (aA v al)
   rw[<-this];exact h
  have ajg:∀(m:Bool) (r:bT),¬sW m bx I (fun _ _=>False) r:=by
   intro m r ak
   cases m with
   |false=>exact ak
   |true=>
    cases r with
    |a6 s v o=>exact((ho _ _).1 ak).2
    |call f args tys=>
     obtain⟨_,_,ao⟩:=(ew _ _ _ _ ak).2 _ _ _ ak;exact ao
    |_=>exact ak
  cases vd:res all i jN with
  |none=>
   rw[vd]at h;exact(ajg _ _ h).elim
  |some q=>
   obtain⟨vI,lP⟩:=q;rw[vd]at h;simp only[apI]at h;obtain⟨vK,a7,bl,bH,dJ⟩:=abx (tb:=tb) rM rN xC vd;rw[ys li.1 li.2,a7];simp only
   have bR:∀v al,dF tb bx aJ all [a] (put vK i.dst v) al K↔sW qE bx al (fun c7 al=>dF tb bx aJ all [] (put (put lP i.dst v) a.dst c7) al K) (cN tb aJ a (put lP i.dst v) al):=fun v al=>by
    rw[ys nO.1 nO.2,CF (Mp rM),bl]
    rfl
   have cY:(fun v al=>dF tb bx aJ all [a] (put vK i.dst v) al K)=fun v al=>sW qE bx al (fun c7 al=>dF tb bx aJ all [] (put (put lP a.dst c7) i.dst v) al K) (cN tb aJ a lP al):=by
    funext v al
    refine(propext (bR v al)).trans ?_;rw[x4]
    congr 1
    funext c7 gz
    rw[put_comm cR]
   rw[cY,<-dJ];rw[<-bH]at h;simp only[ci]at h
   cases qE with
   |false=>exact h
   |true=>
    cases vI with
    |false=>exact h
    |true=>
     have aT:∀q,cB tb data aJ n q lP=cB tb data aJ n q tm:=fun q=>(B7 vd q).trans (B7 xC q)
     exact core lP aT (fun v c7 gz=>dF tb bx aJ all [] (put (put lP a.dst v) i.dst c7) gz K) h
theorem yN {all:List Oper}{a i:Oper}{gf ha:gW}(h:nv tb all a gf i ha=true):mM all a i=true/\mM all i a=true/\fY a.dst i.dst=false/\ma i a.dst=false/\ma a i.dst=false/\(pX tb a i=true\/s6 gf ha=true):=by
 simp only[nv,uv,aoM,ap8,apE]at h;obtain⟨⟨⟨aa,ad⟩,⟨ax,aV⟩,bp⟩,b1⟩:=h;exact⟨aa,ad,ax,aV,bp,b1⟩
theorem aeS {all:List Oper}{a i:Oper}(hQ:rh data bx)(ew:∀f args I K,bx f args I K->hF (bx f)){tm:List R}{I:aF}(aB:I.length=n){K:List R->aF->Prop}
 (hi:nv tb all a (cB tb data aJ n a tm) i (cB tb data aJ n i tm)=true)
 (h:dF tb bx aJ all [a,i] tm I K):dF tb bx aJ all [i,a] tm I K:=by
 obtain⟨rM,rN,cR,ie,rK,aC⟩:=yN hi;rcases aC with bc|bc
 ·have Al:=bc;simp only[pX,aoM,apE]at Al;obtain⟨⟨⟨⟨⟨aT,qn⟩,xH⟩,_⟩,_⟩,_⟩:=Al
  have Dd:(fA tb a.op<=1\/fA tb a.op=2)/\(fA tb i.op<=1\/fA tb i.op=2):=by
   unfold p5 at aT;split at aT
   ·rename_i aa ad;exact⟨.inl (ao9 aa), .inl (ao9 ad)⟩
   ·simp only[aoM]at aT;exact⟨.inl (by rw[aoE aT.1];decide), .inr (aoE aT.2)⟩
   ·simp only[aoM]at aT;exact⟨.inr (aoE aT.1), .inl (by rw[aoE aT.2];decide)⟩
   ·cases aT
  have low:∀{o:Oper},(fA tb o.op<=1\/fA tb o.op=2)->oT o.op=false->(∀tm I s v cg id,cN tb aJ o tm I≠ .grow s v cg id)/\∀tm I p,cN tb aJ o tm I≠ .fJ p:=by
   intro o aa ad;refine⟨fun tm I s v cg id=> ?_,fun tm I p=> ?_⟩
   ·rcases aa with aa|aa
    ·rcases xb (tb:=tb) (aJ:=aJ) aa ad tm I with h|⟨s,v,h⟩<;>rw[h]<;>simp
    ·rcases uO (tb:=tb) (aJ:=aJ) aa tm I with h|⟨s,v,cg,h⟩|⟨f,args,tys,h⟩<;>rw[h]<;>simp
   ·rcases aa with aa|aa
    ·rcases xb (tb:=tb) (aJ:=aJ) aa ad tm I with h|⟨s,v,h⟩<;>rw[h]<;>simp
    ·rcases uO (tb:=tb) (aJ:=aJ) aa tm I with h|⟨s,v,cg,h⟩|⟨f,args,tys,h⟩<;>rw[h]<;>simp
  exact R9 (data:=data) (n:=n) rM rN cR ie rK ew (low Dd.1 qn) (low Dd.2 xH) (fun t _ k ae=>ac7 bc ew ae) h
 ·have Al:=bc;simp only[s6,aoM,apE]at Al;obtain⟨⟨⟨⟨⟨vM,vD⟩,lQ⟩,d1⟩,d2⟩,d3⟩:=Al
  have low:∀{o:Oper},(cB tb data aJ n o tm).ok=true->(∀tm I s v cg id,cN tb aJ o tm I≠ .grow s v cg id)/\∀tm I p,cN tb aJ o tm I≠ .fJ p:=fun aH=>
   ⟨fun t I s v cg id=>(uz (n:=n) hQ _ t (uk aH t)).elim fun _ ⟨_,h⟩=>h.none I s v cg id,fun t I p=>(uz (n:=n) hQ _ t (uk aH t)).elim fun _ ⟨_,h⟩=>h.TC I p⟩
  refine R9 (data:=data) (n:=n) rM rN cR ie rK ew (low vM) (low vD) (fun t au k ae=> ?_) h;have gf:=uz (tb:=tb) (aJ:=aJ) (n:=n) hQ a t (uk vM t);have ha:=uz (tb:=tb) (aJ:=aJ) (n:=n) hQ i t (uk vD t);rw[au]at gf ha;exact abz ew gf ha lQ (yM.1 d1) (yM.1 d2) (yM.1 d3) aB ae
end
end Go.aj
end
section
namespace Go.aj
theorem Ha {f:R->R}(aT:f .un= .un)(l:List R)(n:Nat):b8 .un (bz f l) n=f (b8 .un l n):=by
 rw[dP,d_,d_,aoC,aoC,apv]
 cases l[n]? with
 |none=>exact aT.symm
 |some x=>rfl
theorem Z6 {id:Nat}{x:R}{j off:Nat}(h:ep id x= .ptr j off):x= .ptr j off/\j≠id:=by
 cases x with
 |ptr i o=>
  simp only[ep,fI]at h;split at h
  ·cases h
  ·rename_i ah;injection h with aa ad;subst aa ad;refine⟨rfl,fun e=> ?_⟩;subst e;simp at ah
 |vec i=>simp only[ep,fI]at h;split at h<;>cases h
 |optr i a b=>simp only[ep,fI]at h;split at h<;>cases h
 |oat i a b=>simp only[ep,fI]at h;split at h<;>cases h
 |mp i=>simp only[ep,fI]at h;split at h<;>cases h
 |tail i x=>simp only[ep,fI]at h;split at h<;>cases h
 |_=>simp[ep,fI]at h
theorem Xh {id j off:Nat}(h:j≠id):ep id (.ptr j off)= .ptr j off:=by
 simp only[ep,fI];split
 ·rename_i ah;exact absurd (aoE ah) h
 ·rfl
theorem Z7 (id:Nat)(v:R):oY (fI id v)=ep id (oY v):=by
 cases v with
 |ptr i o=>simp only[oY,ep,fI];cases Nat.beq i id<;>rfl
 |vec i=>simp only[oY,ep,fI];cases Nat.beq i id<;>rfl
 |optr i a b=>simp only[oY,ep,fI];cases Nat.beq i id<;>rfl
 |oat i a b=>simp only[oY,ep,fI];cases Nat.beq i id<;>rfl
 |mp i=>simp only[oY,ep,fI];cases Nat.beq i id<;>rfl
 |tail i x=>simp only[oY,ep,fI];cases Nat.beq i id<;>rfl
 |_=>rfl
theorem Z8 (c:Value)(j off:Nat):tI c≠ .ptr j off:=by
 intro h;unfold tI at h;split at h
 ·cases h
 ·unfold o9 at h;split at h<;>cases h
section
variable {tb:TypeId->b4} {bx:FuncId->gA} {data:FuncId->Nat} {aJ:List (Tmp×Nat)} {n:Nat}
theorem GK {tm:List R}{iz:Option Tmp}{v:R}{id:Nat}{x:Operand}(ak:∀t,iz=some t->x≠ .tmp t){j off:Nat}(h:a_ (put (bz (ep id) tm) iz v) x= .ptr j off):a_ tm x= .ptr j off/\j≠id:=by
 rw[Ih ak]at h
 cases x with
 |tmp t=>
  have h:b8 .un (bz (ep id) tm) t= .ptr j off:=h;rw[Ha rfl]at h;exact Z6 h
 |const c=>exact absurd h (Z8 c j off)
 |global g=>cases h
 |func f=>cases h
theorem XQ {id:Nat}{x:R}(h:rb (ep id x)=true):ep id x=x:=by
 cases x with
 |ptr i o=>simp only[ep,fI]at h⊢;cases ah:Nat.beq i id<;>rw[ah]at h<;>first|rfl|cases h
 |vec i=>simp only[ep,fI]at h⊢;cases ah:Nat.beq i id<;>rw[ah]at h<;>first|rfl|cases h
 |optr i a b=>simp only[ep,fI]at h⊢;cases ah:Nat.beq i id<;>rw[ah]at h<;>first|rfl|cases h
 |oat i a b=>simp only[ep,fI]at h⊢;cases ah:Nat.beq i id<;>rw[ah]at h<;>first|rfl|cases h
 |mp i=>simp only[ep,fI]at h⊢;cases ah:Nat.beq i id<;>rw[ah]at h<;>first|rfl|cases h
 |tail i x=>simp only[ep,fI]at h⊢;cases ah:Nat.beq i id<;>rw[ah]at h<;>first|rfl|cases h
 |d a=>rfl
 |_=>cases h
theorem XR {tm:List R}{iz:Option Tmp}{v:R}{id:Nat}{x:Operand}(ak:∀t,iz=some t->x≠ .tmp t)(h:rb (a_ (put (bz (ep id) tm) iz v) x)=true):a_ (put (bz (ep id) tm) iz v) x=a_ tm x:=by
 rw[Ih ak]at h⊢
 cases x with
 |tmp t=>
  have e:a_ (bz (ep id) tm) (.tmp t)=ep id (a_ tm (.tmp t)):=Ha rfl _ _;rw[e]at h⊢;exact XQ h
 |_=>rfl
theorem Z9 {i:Oper}{tm:List R}{I:aF}{iz:Option Tmp}{v:R}{id:Nat}{ob:ag}(ao:ma i iz=false)(_:∀l,ag.at I id≠ .cells l)
 (ay:kG tb i.op (put (bz (ep id) tm) iz v)=true):
 kG tb i.op tm=true/\(cN tb aJ i (put (bz (ep id) tm) iz v) (gH id (c0 I id (false,ob)))= .bad\/
  ∃s w,cN tb aJ i (put (bz (ep id) tm) iz v) (gH id (c0 I id (false,ob)))= .a6 s (ep id w) (gH id (c0 I id (false,ob)))/\cN tb aJ i tm I= .a6 s w I):=by
 have ak:∀x∈i.op.operands.toList,∀t,iz=some t->x≠ .tmp t:=fun x ak t au Aj=>by
  subst au Aj;simp only[ma]at ao;rw[GI.2 ak]at ao;cases ao
 cases bK:i.op with
 |load ty p=>
  rw[bK]at ay ak;have aD:=ak p (by simp[Op.operands])
  have aA:∀(t:List R) (o:aF),cN tb aJ i t o=h7 (tb ty).ty (a_ t p) o:=fun t o=>by
   rw[iS (by rw[bK];rfl)];unfold e4;rw[bK]
  have ay:ra (a_ (put (bz (ep id) tm) iz v) p)=true:=ay;rw[aA,aA]
  cases aM:a_ (put (bz (ep id) tm) iz v) p with
  |ptr j off=>
   obtain⟨aa,ad⟩:=GK aD aM;refine⟨by show ra (a_ tm p)=true;rw[aa];rfl, ?_⟩;rw[aa];have cK:ag.at (gH id (c0 I id (false,ob))) j=(ag.at I j).kill id:=by rw[HQ,e2,gN,aoA (by rintro⟨h,_⟩;exact ad h.symm)]
   unfold h7;simp only;rw[cK]
   cases aK:ag.at I j with
   |cells l=>
    simp only[ag.kill];have az:bV (bz (fI id) l)=bV l:=by rw[cO,cO,dP,aoK]
    rw[az]
    cases b_:(tb ty).ty with
    |aE q=>
     cases Nat.ble (off.add (bb.size (.aE q))) (bV l)with
     |false=>exact .inl rfl
     |true=>
      refine .inr ⟨_,oY (b8 .un l off), ?_,rfl⟩;simp only;rw[<-Z7,Ha rfl]
    |struct bW cs=>
     cases Nat.ble (off.add (bb.size (.struct bW cs))) (bV l)with
     |false=>exact .inl rfl
     |true=>
      refine .inr ⟨_, .agg (kN (kM l off) (bV cs)), ?_,rfl⟩;simp only[ep,dP,lq,lp,aqA,List.map_drop]
    |arr m e cs=>
     cases Nat.ble (off.add (bb.size (.arr m e cs))) (bV l)with
     |false=>exact .inl rfl
     |true=>
      refine .inr ⟨_, .agg (kN (kM l off) (bV cs)), ?_,rfl⟩;simp only[ep,dP,lq,lp,aqA,List.map_drop]
    |no=>exact .inl rfl
   |_=>exact .inl rfl
  |_=>rw[aM]at ay;cases ay
 |fieldAddr ty x f=>
  rw[bK]at ay ak;have aD:=ak x (by simp[Op.operands])
  have aA:∀(t:List R) (o:aF),cN tb aJ i t o=(match sz (tb ty).ty f with
   |false=> .bad
   |true=>match a_ t x with
    | .ptr id off=> .a6 [] (.ptr id (Nat.add off (fG (tb ty).ty f))) o
    | .optr id i j=> .a6 [] (.optr id i (Nat.add j (fG (tb ty).ty f))) o
    | .rptr a i j=> .a6 [] (.rptr a i (Nat.add j (fG (tb ty).ty f))) o
    |_=> .bad):=fun t o=>by
   rw[iS (by rw[bK];rfl)];unfold e4;rw[bK];rfl
  have ay:ra (a_ (put (bz (ep id) tm) iz v) x)=true:=ay;rw[aA,aA]
  cases aM:a_ (put (bz (ep id) tm) iz v) x with
  |ptr j off=>
   obtain⟨aa,ad⟩:=GK aD aM;refine⟨by show ra (a_ tm x)=true;rw[aa];rfl, ?_⟩;rw[aa]
   cases sz (tb ty).ty f with
   |false=>exact .inl rfl
   |true=>exact .inr ⟨_, .ptr j (off.add (fG (tb ty).ty f)),by rw[Xh ad],rfl⟩
  |_=>rw[aM]at ay;cases ay
 |buildSlice ty q bN=>
  rw[bK]at ay ak;unfold kG at ay;simp only at ay
  cases kR:(tb ty).lit with
  |false=>rw[kR]at ay;cases ay
  |true=>
   rw[kR]at ay;simp only at ay;rw[fH,aoU]at ay
   have hz:∀p∈bN.toList,a_ (put (bz (ep id) tm) iz v) p.2=a_ tm p.2:=fun p aD=>XR (ak p.2 (by simp[Op.operands];exact⟨p.1,by simpa using aD⟩)) (ay p aD)
   have aG:bz (fun p:Nat×Operand=>(p.1,a_ (put (bz (ep id) tm) iz v) p.2)) bN.toList=bz (fun p:Nat×Operand=>(p.1,a_ tm p.2)) bN.toList:=qO fun p aD=>by rw[hz p aD]
   refine⟨?_, ?_⟩
   ·unfold kG;simp only[kR];rw[fH,aoU];exact fun p aD=>by rw[<-hz p aD];exact ay p aD
   ·rw[iS (by rw[bK];simp[pW,kR]),iS (by rw[bK];simp[pW,kR])];unfold e4;rw[bK];simp only;rw[aG]
    cases (tb ty).ty with
    |aE s=>
     cases s with
     |cv k=>
      simp only[kR,sG];split
      ·exact .inr ⟨_,_,rfl,rfl⟩
      ·exact .inl rfl
     |ee z=>
      simp only[kR,sG];have aZ:hP (gH id (c0 I id (false,ob))) z (tb ty).f_ q (bz (fun p=>(p.1,a_ tm p.2)) bN.toList)=hP I z (tb ty).f_ q (bz (fun p=>(p.1,a_ tm p.2)) bN.toList):=ym _ _ z _ _ 0 q;rw[aZ];split
      ·exact .inr ⟨_,_,rfl,rfl⟩
      ·exact .inl rfl
     |_=>exact .inl rfl
    |_=>exact .inl rfl
 |_=>rw[bK]at ay;cases ay
theorem ac_ {a:Oper}{tm:List R}(bg:(cB tb data aJ n a tm).DR=true):(cB tb data aJ n a tm).ok=false/\fA tb a.op=3/\
 ∃id,∀I,cN tb aJ a tm I= .bad\/∃s ob,cN tb aJ a tm I= .grow s (.vec id) (c0 I id (false,ob)) id/\∀l,ag.at I id≠ .cells l:=by
 unfold cB at bg⊢
 cases bK:a.op with
 |call c=>
  rw[bK]at bg;simp only at bg⊢
  have j9:∀I,cN tb aJ a tm I=(match c.callee with
   | .builtin b=>kB tb b c.argTypes.toList (bz (a_ tm) c.args.toList) I
   | .value (.func f)=> .call f (bz (a_ tm) c.args.toList) c.argTypes.toList
   | .value (.tmp u)=>sA (b8 .un tm u) (bz (a_ tm) c.args.toList) c.argTypes.toList
   |_=> .bad):=fun I=>by
   rw[iS (by rw[bK];rfl)];unfold e4;rw[bK]
   rfl
  cases aC:c.callee with
  |builtin b=>
   rw[aC]at bg j9
   cases b with
   |append=>
    simp only at bg⊢;refine⟨trivial,by simp only[fA,aC], ?_⟩;generalize bz (a_ tm) c.args.toList=args at bg j9
    have key:∃id x,args=[.vec id, .d x]:=by
     unfold kF at bg;split at bg
     ·exact⟨_,_,rfl⟩
     ·exact⟨_,_,rfl⟩
     ·cases bg
    obtain⟨id,x,rfl⟩:=key;refine⟨id,fun I=> ?_⟩;rw[j9];unfold kB;simp only;split
    ·split
     ·unfold sk;simp only[sR,lr];split
      ·split
       ·have aH:∀l,ag.at I id≠ .cells l:=fun l e=>by simp_all
        split
        ·exact .inr ⟨_,_,rfl,aH⟩
        ·exact .inl rfl
       ·have aH:∀l,ag.at I id≠ .cells l:=fun l e=>by simp_all
        split
        ·exact .inr ⟨_,_,rfl,aH⟩
        ·exact .inl rfl
       ·exact .inl rfl
      ·exact .inl rfl
     ·exact .inl rfl
    ·exact .inl rfl
   |_=>cases bg
  |value x=>
   rw[aC]at bg
   cases x with
   |func f=>
    simp only at bg;split at bg<;>cases bg
   |_=>cases bg
  |_=>rw[aC]at bg;cases bg
 |alloc ty=>
  rw[bK]at bg;simp only at bg;split at bg
  ·split at bg<;>cases bg
  ·cases bg
 |slice ty x lo hi dr=>
  rw[bK]at bg;simp only at bg;split at bg<;>cases bg
 |buildSlice ty q bN=>
  rw[bK]at bg;simp only at bg;split at bg
  ·cases bg
  ·split at bg
   ·split at bg<;>cases bg
   ·cases bg
 |_=>rw[bK]at bg;cases bg
end
end Go.aj
end
section
namespace Go.aj
section
variable {tb:TypeId->b4} {bx:FuncId->gA} {data:FuncId->Nat} {aJ:List (Tmp×Nat)} {tab:List Nat}
theorem yo (ew:∀f args I K,bx f args I K->hF (bx f)){all:List Oper}{K K':List R->aF->Prop}(ae:∀tm I,K tm I->K' tm I):
 ∀(l:List Oper) (tm:List R) (I:aF),dF tb bx aJ all l tm I K->dF tb bx aJ all l tm I K'
 |[],tm,I,h=>ae _ _ h
 |o::bQ,tm,I,h=>by
  have bM:=fun tm I=>yo ew ae bQ tm I (all:=all)
  have run:∀dB:List R,
   (match cN tb aJ o dB I with
     | .bad=>False
     | .a6 ch v al=>gO ch (dF tb bx aJ all bQ (put dB o.dst v) al K)
     | .grow ch v al id=>gO ch (dF tb bx aJ all bQ (put (bz (ep id) dB) o.dst v) (gH id al) K)
     | .fJ p=>∀b:Bool,p b->dF tb bx aJ all bQ (put dB o.dst (.d (.bool b))) I K
     | .call f args _=>bx f args I fun v al=>dF tb bx aJ all bQ (put dB o.dst v) al K)->
   (match cN tb aJ o dB I with
     | .bad=>False
     | .a6 ch v al=>gO ch (dF tb bx aJ all bQ (put dB o.dst v) al K')
     | .grow ch v al id=>gO ch (dF tb bx aJ all bQ (put (bz (ep id) dB) o.dst v) (gH id al) K')
     | .fJ p=>∀b:Bool,p b->dF tb bx aJ all bQ (put dB o.dst (.d (.bool b))) I K'
     | .call f args _=>bx f args I fun v al=>dF tb bx aJ all bQ (put dB o.dst v) al K'):=by
   intro dB ao
   cases he:cN tb aJ o dB I with
   |bad=>rw[he]at ao;exact ao
   |a6 s v cg=>rw[he]at ao;exact wu (bM _ _) ao
   |grow s v cg id=>rw[he]at ao;exact wu (bM _ _) ao
   |fJ p=>rw[he]at ao;exact fun b ah=>bM _ _ (ao b ah)
   |call f args tys=>rw[he]at ao;exact(ew _ _ _ _ ao).1 _ _ _ _ (fun r cg=>bM _ _) ao
  unfold dF at h⊢;simp only at h⊢;split
  ·rename_i bg;rw[bg]at h;exact run tm h
  ·rename_i j want bg;rw[bg]at h;simp only at h;split
   ·rename_i bn;rw[bn]at h;exact bM _ _ h
   ·rename_i g bn;rw[bn]at h;simp only at h;split
    ·rename_i az;rw[az]at h;cases want
     ·exact bM _ _ h
     ·exact run _ h
    ·rename_i az;rw[az]at h;cases want
     ·exact run _ h
     ·exact bM _ _ h
    ·rename_i az;rw[az]at h;exact bM _ _ h
    ·rename_i b az;rw[az]at h;refine⟨fun ah=> ?_,fun ah=> ?_⟩
     ·have:=h.1 ah;cases want
      ·exact bM _ _ this
      ·exact run _ this
     ·have:=h.2 ah;cases want
      ·exact run _ this
      ·exact bM _ _ this
    ·rename_i aa ad ax aV;split at h
     ·rename_i az;exact absurd az aa
     ·rename_i az;exact absurd az ad
     ·rename_i az;exact absurd az ax
     ·rename_i b az;exact absurd az (aV b)
     ·exact h
theorem Z_ {o:Oper}{tm:List R}{I:aF}{p:Bool->Prop}(h:cN tb aJ o tm I= .fJ p):∃b,p b:=by
 have h:e4 tb o tm I= .fJ p:=by
  rcases Gy tb aJ o tm I with e|⟨t,d,id,_,_,_,e|⟨_,e⟩|⟨_,_,e⟩⟩|⟨t,n,bN,d,id,_,_,_,e|⟨ob,_,e⟩⟩
  ·rw[<-e];exact h
  ·rw[e]at h;cases h
  ·rw[e]at h;cases h
  ·rw[e]at h;cases h
  ·rw[e]at h;cases h
  ·rw[e]at h;cases h
 obtain⟨op,t,x,y,ty,_,h⟩:=QB h;unfold oR at h;split at h
 ·split at h
  ·cases h
  ·cases h
  ·split at h
   ·cases op<;>simp[n9]at h
   ·cases h
 ·split at h<;>cases h
 ·split at h
  ·simp only[bT.fJ.injEq]at h;subst h;exact⟨false,fun h=>by cases h⟩
  ·simp only[bT.fJ.injEq]at h;subst h;exact⟨true,fun h=>by cases h⟩
  ·cases h
 ·split at h
  ·simp only[bT.fJ.injEq]at h;subst h;exact⟨false,fun h=>by cases h⟩
  ·simp only[bT.fJ.injEq]at h;subst h;exact⟨true,fun h=>by cases h⟩
  ·cases h
 all_goals first|cases h|(unfold jw at h;split at h<;>cases h)
theorem BA (ew:∀f args I K,bx f args I K->hF (bx f)){all:List Oper}{K:List R->aF->Prop}:∀(l:List Oper) (tm:List R) (I:aF),dF tb bx aJ all l tm I K->∃ev al,K ev al
 |[],tm,I,h=>⟨_,_,h⟩
 |o::bQ,tm,I,h=>by
  have bM:=fun tm I=>BA ew bQ tm I (all:=all) (K:=K)
  have run:∀dB:List R,
   (match cN tb aJ o dB I with
     | .bad=>False
     | .a6 ch v al=>gO ch (dF tb bx aJ all bQ (put dB o.dst v) al K)
     | .grow ch v al id=>gO ch (dF tb bx aJ all bQ (put (bz (ep id) dB) o.dst v) (gH id al) K)
     | .fJ p=>∀b:Bool,p b->dF tb bx aJ all bQ (put dB o.dst (.d (.bool b))) I K
     | .call f args _=>bx f args I fun v al=>dF tb bx aJ all bQ (put dB o.dst v) al K)->∃ev al,K ev al:=by
   intro dB ao
   cases he:cN tb aJ o dB I with
   |bad=>rw[he]at ao;exact ao.elim
   |a6 s v cg=>rw[he]at ao;exact bM _ _ ((ho _ _).1 ao).2
   |grow s v cg id=>rw[he]at ao;exact bM _ _ ((ho _ _).1 ao).2
   |fJ p=>
    rw[he]at ao;obtain⟨b,ah⟩:=Z_ he;exact bM _ _ (ao b ah)
   |call f args tys=>
    rw[he]at ao;obtain⟨r,cg,k5⟩:=(ew _ _ _ _ ao).2 _ _ _ ao;exact bM _ _ k5
  unfold dF at h;simp only at h;split at h
  ·exact run tm h
  ·rename_i j want bg;split at h
   ·exact bM _ _ h
   ·rename_i g bn;split at h
    ·cases want
     ·exact bM _ _ h
     ·exact run _ h
    ·cases want
     ·exact run _ h
     ·exact bM _ _ h
    ·exact bM _ _ h
    ·rename_i b az;cases b
     ·have:=h.2 rfl;cases want
      ·exact run _ this
      ·exact bM _ _ this
     ·have:=h.1 rfl;cases want
      ·exact bM _ _ this
      ·exact run _ this
    ·exact h.elim
theorem Nc {all:List Oper}{o:Oper}{r:List Oper}{tm:List R}{I:aF}{K:List R->aF->Prop}:dF tb bx aJ all (o::r) tm I K=dF tb bx aJ all [o] tm I (fun tm I=>dF tb bx aJ all r tm I K):=rfl
theorem GX {all:List Oper}{o:Oper}(az:(∀tm I s v cg id,cN tb aJ o tm I≠ .grow s v cg id)/\∀tm I p,cN tb aJ o tm I≠ .fJ p)(ew:∀f args I K,bx f args I K->hF (bx f))
 {tm:List R} {I:aF} {K K':List R->aF->Prop} {Q:aF->Prop} (vm:Q I) (aZ:∀t k,fU bx I k (cN tb aJ o t I)->fU bx I (fun v cg=>Q cg/\k v cg) (cN tb aJ o t I))
 (ae:∀m t v I,res all o tm=some (m,t)->Q I->K (put t o.dst v) I->K' (put t o.dst v) I) (h:dF tb bx aJ all [o] tm I K):dF tb bx aJ all [o] tm I K':=by
 rw[ys az.1 az.2]at h⊢
 cases ao:res all o tm with
 |none=>rw[ao]at h;exact h
 |some p=>
  obtain⟨m,t⟩:=p;rw[ao]at h;simp only at h⊢
  cases m with
  |true=>exact ZZ ew (fun v cg aM=>ae _ _ v cg ao aM.1 aM.2) (aZ _ _ h)
  |false=>exact ae _ _ .un _ ao vm h
theorem HU {o:Oper}{n n':Nat}{t t':List R}:(cB tb data aJ n o t).ext=(cB tb data aJ n' o t').ext:=by
 unfold cB
 cases o.op with
 |call c=>
  simp only;split<;>first|rfl|(split<;>rfl)
 |buildSlice ty q bN=>
  simp only;cases (tb ty).lit<;>rfl
 |alloc ty=>rfl
 |slice ty x lo hi dr=>
  simp only;cases (tb ty).cut<;>rfl
 |_=>rfl
theorem Ry {o:Oper}{n n':Nat}{t:List R}(h:(cB tb data aJ n o t).ext=true->n'=n):cB tb data aJ n' o t=cB tb data aJ n o t:=by
 by_cases e:n'=n
 ·rw[e]
 ·have he:(cB tb data aJ n o t).ext=false:=by
   cases ak:(cB tb data aJ n o t).ext with
   |false=>rfl
   |true=>exact absurd (h ak) e
  unfold cB at he⊢
  cases bK:o.op with
  |call c=>
   simp only[bK]at he⊢
   cases aC:c.callee with
   |value x=>
    cases x with
    |func f=>
     simp only[aC]at he⊢;split at he
     ·rename_i aY;simp
     ·cases he
     ·rfl
    |_=>rfl
   |builtin b=>cases b<;>rfl
   |_=>rfl
  |_=>rfl
theorem Py {o:Oper}{n:Nat}{t:List R}(h:(cB tb data aJ n o t).ext=true):fA tb o.op=2/\(cB tb data aJ n o t).call=true:=by
 unfold cB at h⊢
 cases bK:o.op with
 |call c=>
  simp only[bK]at h⊢
  cases aC:c.callee with
  |value x=>
   cases x with
   |func f=>
    simp only[aC]at h⊢;split at h
    ·cases h
    ·rename_i aY;simp[fA,aC]
    ·cases h
   |_=>rw[aC]at h;cases h
  |builtin b=>rw[aC]at h;cases b<;>cases h
  |_=>rw[aC]at h;cases h
 |alloc ty=>
  rw[bK]at h;simp only at h;split at h
  ·split at h<;>cases h
  ·cases h
 |slice ty x lo hi dr=>
  rw[bK]at h;simp only at h;split at h<;>cases h
 |buildSlice ty q bN=>
  rw[bK]at h;simp only at h;split at h
  ·cases h
  ·split at h
   ·split at h<;>cases h
   ·cases h
 |_=>rw[bK]at h;cases h
theorem HA {all:List Oper}{a i:Oper}{tm gY:List R}{I:aF}{n eY:Nat}(hQ:rh data bx)(hi:nv tb all a (cB tb data aJ n a tm) i (cB tb data aJ eY i gY)=true)
 (t:List R) (k:R->aF->Prop) (h:fU bx I k (cN tb aJ a t I)):fU bx I (fun v cg=>((cB tb data aJ eY i gY).ext=true->cg.length=I.length)/\k v cg) (cN tb aJ a t I):=by
 obtain⟨_,_,_,_,_,aC⟩:=yN hi
 cases ak:(cB tb data aJ eY i gY).ext with
 |false=>
  have e:(fun v cg=>((false=true)->(cg:aF).length=I.length)/\k v cg)=k:=by funext v cg;simp
  rw[e];exact h
 |true=>
  obtain⟨fi,fb⟩:=Py ak;rcases aC with bc|bc
  ·simp only[pX,aoM,apE]at bc;obtain⟨⟨⟨⟨⟨aT,qn⟩,_⟩,_⟩,_⟩,_⟩:=bc
   have x4:fA tb a.op=0:=by
    unfold p5 at aT;rw[fi]at aT;split at aT
    ·rename_i _ ad;exact absurd ad (by decide)
    ·simp only[aoM]at aT;exact aoE aT.1
    ·rename_i _ ad;exact absurd ad (by decide)
    ·cases aT
   rcases uN (tb:=tb) (aJ:=aJ) x4 qn t I I with⟨ah,_⟩|⟨s,v,aY,_⟩
   ·rw[ah]at h;exact h.elim
   ·rw[aY]at h⊢;exact wu (fun ae=>⟨fun _=>rfl,ae⟩) h
  ·simp only[s6,aoM,apE]at bc;obtain⟨⟨⟨⟨⟨vM,_⟩,lQ⟩,_⟩,_⟩,_⟩:=bc;obtain⟨B,E,dM⟩:=uz (tb:=tb) (aJ:=aJ) (n:=n) hQ a t (uk vM t)
   have JC:(cB tb data aJ n a t).ext=false:=by
    cases bn:(cB tb data aJ n a t).ext with
    |false=>rfl
    |true=>
     rw[HU (n':=n) (t':=tm)]at bn;have:=(Py bn).2;rw[this,fb]at lQ;cases lQ
   refine(dM.pull _ _).2 (dM.mono _ _ _ (fun v x aM=>⟨fun _=> ?_,aM⟩) ((dM.pull _ _).1 h));rw[dM.len,JC];rfl
theorem GL {all:List Oper}{K:List R->aF->Prop}(ew:∀f args I K,bx f args I K->hF (bx f)):∀(l:List (Nat×Oper)) (e3 zt:List (Nat×Oper×gW)) (tm:List R) (I:aF),(∀x∈zt,x∈e3)->
 gk tb bx data aJ all tab e3 l tm I K->gk tb bx data aJ all tab zt l tm I K
 |[],e3,zt,tm,I,_,h=>h
 |x::bQ,e3,zt,tm,I,ay,h=>by
  unfold gk at h⊢;split at h
  ·exact h.elim
  ·rename_i aC
   have vn:kV tb all tab x.1 x.2 (cB tb data aJ (bV I) x.2 tm) zt=true:=by
    unfold kV at aC⊢;rw[fH,aoU]at aC⊢;exact fun y bn=>aC y (ay y bn)
   rw[vn];refine yo ew (fun tm I ca=> ?_) _ _ _ h
   exact GL ew bQ _ _ tm I (fun y bn=>by
    rcases aoW.1 bn with rfl|bn
    ·simp
    ·simp[ay y bn]) ca
theorem MU (a b:Option Tmp):fY a b=fY b a:=by
 cases a<;>cases b<;>try rfl
 rename_i x y;show Nat.beq x y=Nat.beq y x
 cases h:Nat.beq x y with
 |true=>obtain rfl:=aoE h;exact h.symm
 |false=>
  cases k5:Nat.beq y x with
  |false=>rfl
  |true=>obtain rfl:=aoE k5;rw[h]at k5;cases k5
theorem YG (a b:Nat):p5 a b=p5 b a:=by
 unfold p5;cases Nat.ble a 1<;>cases Nat.ble b 1<;>simp[Bool.and_comm]
theorem Hb {all:List Oper}{a i:Oper}{gf ha:gW}(h:nv tb all a gf i ha=true):nv tb all i ha a gf=true:=by
 simp only[nv,uv,aoM,ap8,apE]at h⊢;obtain⟨⟨⟨aa,ad⟩,⟨ax,aV⟩,bp⟩,b1⟩:=h;refine⟨⟨⟨ad,aa⟩,⟨by rw[MU];exact ax,bp⟩,aV⟩, ?_⟩;rcases b1 with b1|b1
 ·left;simp only[pX,aoM,apE]at b1⊢;obtain⟨⟨⟨⟨⟨a7,bl⟩,bH⟩,dJ⟩,eZ⟩,gE⟩:=b1;exact⟨⟨⟨⟨⟨by rw[YG];exact a7,bH⟩,bl⟩,by rw[MU];exact dJ⟩,gE⟩,eZ⟩
 ·right;simp only[s6,aoM,apE]at b1⊢;obtain⟨⟨⟨⟨⟨a7,bl⟩,bH⟩,dJ⟩,eZ⟩,gE⟩:=b1;refine⟨⟨⟨⟨⟨bl,a7⟩,by rw[Bool.and_comm];exact bH⟩, ?_⟩,gE⟩,eZ⟩;rw[yM]at dJ⊢;exact fun x ak hv=>dJ x hv ak
theorem Pz {all:List Oper}{a i:Oper}{tm gY:List R}{n eY:Nat}(hQ:rh data bx)(hi:nv tb all a (cB tb data aJ n a tm) i (cB tb data aJ eY i gY)=true):
 (∀tm I s v cg id,cN tb aJ a tm I≠ .grow s v cg id)/\∀tm I p,cN tb aJ a tm I≠ .fJ p:=by
 obtain⟨_,_,_,_,_,aC⟩:=yN hi;rcases aC with bc|bc
 ·simp only[pX,aoM,apE]at bc;obtain⟨⟨⟨⟨⟨aT,qn⟩,_⟩,_⟩,_⟩,_⟩:=bc
  have aa:fA tb a.op<=1\/fA tb a.op=2:=by
   unfold p5 at aT;split at aT
   ·rename_i aa ad;exact .inl (ao9 aa)
   ·simp only[aoM]at aT;exact .inl (by rw[aoE aT.1];decide)
   ·simp only[aoM]at aT;exact .inr (aoE aT.1)
   ·cases aT
  refine⟨fun tm I s v cg id=> ?_,fun tm I p=> ?_⟩
  ·rcases aa with aa|aa
   ·rcases xb (tb:=tb) (aJ:=aJ) aa qn tm I with h|⟨s,v,h⟩<;>rw[h]<;>simp
   ·rcases uO (tb:=tb) (aJ:=aJ) aa tm I with h|⟨s,v,cg,h⟩|⟨f,args,tys,h⟩<;>rw[h]<;>simp
  ·rcases aa with aa|aa
   ·rcases xb (tb:=tb) (aJ:=aJ) aa qn tm I with h|⟨s,v,h⟩<;>rw[h]<;>simp
   ·rcases uO (tb:=tb) (aJ:=aJ) aa tm I with h|⟨s,v,cg,h⟩|⟨f,args,tys,h⟩<;>rw[h]<;>simp
 ·simp only[s6,aoM,apE]at bc;obtain⟨⟨⟨⟨⟨vM,_⟩,_⟩,_⟩,_⟩,_⟩:=bc;exact⟨fun t I s v cg id=>(uz (n:=n) hQ _ t (uk vM t)).elim fun _ ⟨_,h⟩=>h.none I s v cg id,fun t I p=>(uz (n:=n) hQ _ t (uk vM t)).elim fun _ ⟨_,h⟩=>h.TC I p⟩
theorem PA {o:Oper}(h:bare o=true):o.guard=none:=by
 unfold bare at h;split at h
 ·assumption
 ·cases h
theorem ada {o:Oper}{t:List R}{n:Nat}(h:(cB tb data aJ n o t).soft=true):kG tb o.op t=true:=by
 unfold cB at h
 cases bK:o.op with
 |call c=>
  rw[bK]at h;simp only at h;split at h
  ·cases h
  ·cases h
  ·split at h<;>cases h
  ·cases h
 |alloc ty=>
  rw[bK]at h;simp only at h;split at h
  ·split at h<;>cases h
  ·cases h
 |slice ty x lo hi dr=>
  rw[bK]at h;simp only at h;split at h<;>cases h
 |buildSlice ty q bN=>
  rw[bK]at h;simp only at h;split at h
  ·exact h
  ·split at h
   ·split at h<;>cases h
   ·cases h
 |_=>first|(rw[bK]at h;exact h)|(rw[bK]at h;cases h)
theorem aaa {o:Oper}{t t':List R}{n n':Nat}(ay:kG tb o.op t=true)(gB:kG tb o.op t'=true)(he:∀x∈o.op.operands.toList,(∃i j,a_ t' x= .ptr i j)->a_ t' x=a_ t x):cB tb data aJ n o t=cB tb data aJ n' o t':=by
 unfold cB
 cases bK:o.op with
 |load ty p=>
  rw[bK]at ay gB he
  have aa:a_ t' p=a_ t p:=he p (by simp[Op.operands]) (by
   have:ra (a_ t' p)=true:=gB
   cases aM:a_ t' p with
   |ptr i j=>exact⟨i,j,rfl⟩
   |_=>rw[aM]at this;cases this)
  simp only[ay,gB,aa]
 |fieldAddr ty x f=>rw[bK]at ay gB;simp only[ay,gB]
 |buildSlice ty q bN=>
  rw[bK]at ay gB;simp only[ay,gB]
 |_=>simp[bK,kG]at ay
theorem BB {all:List Oper}{o:Oper}(h:o.guard=none){tm:List R}{I:aF}{K:List R->aF->Prop}:dF tb bx aJ all [o] tm I K↔
 (match cN tb aJ o tm I with
   | .bad=>False
   | .a6 ch v al=>gO ch (K (put tm o.dst v) al)
   | .grow ch v al id=>gO ch (K (put (bz (ep id) tm) o.dst v) (gH id al))
   | .fJ p=>∀b:Bool,p b->K (put tm o.dst (.d (.bool b))) I
   | .call f args _=>bx f args I fun v al=>K (put tm o.dst v) al):=by
 unfold dF;simp only[h];exact aps
theorem abA {id:Nat}{tm:List R}{d:Option Tmp}{v:R}:bz (ep id) (put tm d v)=put (bz (ep id) tm) d (ep id v):=by
 cases d with
 |none=>rfl
 |some x=>simp only[put,dP,e2,aqs]
theorem aeT (ew:∀f args I K,bx f args I K->hF (bx f)){all:List Oper}{a i:Nat×Oper}(bG:Nat.blt a.1 i.1=true)(DT:Nat.blt i.1 a.1=false)
 {C:List (Nat×Oper)} {e3:List (Nat×Oper×gW)} {tm:List R} {I:aF} {K:List R->aF->Prop} (bg:(cB tb data aJ (bV I) a.2 tm).DR=true) (vp:bit tab i.1 a.1=false)
 (h:gk tb bx data aJ all tab e3 (a::i::C) tm I K):gk tb bx data aJ all tab e3 (i::a::C) tm I K:=by
 obtain⟨g1,g2,id,g3⟩:=ac_ bg;unfold gk at h;split at h
 ·exact h.elim
 rename_i qo
 have R_:so a.2 (cB tb data aJ (bV I) a.2 tm) i.2 {cB tb data aJ (bV I) i.2 tm with soft:=true}=true:=by
  obtain⟨gY,c1,aa⟩:=BA ew _ _ _ h;unfold gk at aa;split at aa
  ·exact aa.elim
  ·rename_i aC;unfold kV at aC;rw[fH,aoU]at aC;have aD:=aC _ (aqz ..);unfold sJ at aD;simp only[bG,vp,Bool.false_or,ap8]at aD;rcases aD with aD|aD
   ·obtain⟨_,_,_,_,_,ak⟩:=yN aD;rcases ak with ak|ak
    ·simp only[pX,aoM]at ak;have:=ak.1.1.1.1.1;rw[g2]at this;unfold p5 at this;revert this;cases Nat.ble (fA tb i.2.op) 1<;>simp<;>decide
    ·simp only[s6,aoM]at ak;rw[g1]at ak;exact absurd ak.1.1.1.1.1 apD
   ·simp only[so,aoM]at aD⊢;exact⟨⟨⟨⟨bg,trivial⟩,aD.1.1.2⟩,aD.1.2⟩,aD.2⟩
 simp only[so,aoM]at R_;obtain⟨⟨⟨_,cR⟩,TE⟩,m8⟩:=R_;have SG:=cR;simp only[uv,aoM,apE]at SG;obtain⟨⟨TF,vq⟩,Ff⟩:=SG;have FT:=PA TE;have FU:=PA m8;rw[BB FT]at h;rcases g3 I with ah|⟨s,ob,Am,Jw⟩
 ·rw[ah]at h;exact h.elim
 rw[Am]at h;simp only at h;rw[ho]at h;obtain⟨ay,h⟩:=h;unfold gk at h;split at h
 ·exact h.elim
 rename_i rP;have IU:=rP;unfold kV at IU;rw[fH,aqd,aoM]at IU;obtain⟨aD,zs⟩:=IU
 have Sa:(cB tb data aJ (bV (gH id (c0 I id (false,ob)))) i.2 (put (bz (ep id) tm) a.2.dst (.vec id))).soft=true:=by
  unfold sJ at aD;simp only[bG,vp,Bool.false_or,ap8]at aD;rcases aD with aD|aD
  ·obtain⟨_,_,_,_,_,ak⟩:=yN aD;rcases ak with ak|ak
   ·simp only[pX,aoM]at ak;have:=ak.1.1.1.1.1;rw[g2]at this;unfold p5 at this;revert this;cases Nat.ble (fA tb i.2.op) 1<;>simp<;>decide
   ·simp only[s6,aoM]at ak;rw[g1]at ak;exact absurd ak.1.1.1.1.1 apD
  ·simp only[so,aoM]at aD;exact aD.1.1.1.2
 have TG:=ada Sa;obtain⟨ajh,zq⟩:=Z9 (aJ:=aJ) (I:=I) (ob:=ob) vq Jw TG
 have JD:cB tb data aJ (bV I) i.2 tm=cB tb data aJ (bV (gH id (c0 I id (false,ob)))) i.2 (put (bz (ep id) tm) a.2.dst (.vec id)):=aaa ajh TG fun x ak ⟨j,off,e⟩=>by
  have hv:∀t,a.2.dst=some t->x≠ .tmp t:=fun t au Aj=>by
   rw[au]at vq;subst Aj;simp only[ma]at vq;rw[GI.2 ak]at vq;cases vq
  rw[e,(GK hv e).1]
 rw[BB FU]at h;rcases zq with ah|⟨gT,w,j1,qp⟩
 ·rw[ah]at h;exact h.elim
 rw[j1]at h;simp only at h;rw[ho]at h;obtain⟨gB,h⟩:=h;unfold gk
 have j2:kV tb all tab i.1 i.2 (cB tb data aJ (bV I) i.2 tm) e3=true:=by
  rw[JD];unfold kV;rw[fH];exact zs
 simp only[j2];rw[BB FU,qp];simp only;rw[ho];refine⟨gB, ?_⟩;unfold gk;have pd:cB tb data aJ (bV I) a.2 (put tm i.2.dst w)=cB tb data aJ (bV I) a.2 tm:=Hz Ff
 have rF:kV tb all tab a.1 a.2 (cB tb data aJ (bV I) a.2 (put tm i.2.dst w)) ((i.1,i.2,cB tb data aJ (bV I) i.2 tm)::e3)=true:=by
  rw[pd];unfold kV at qo⊢;rw[fH]at qo⊢;rw[aqd,aoM];refine⟨?_,qo⟩;unfold sJ;simp only[DT,vp,Bool.false_or];rw[ap8];right;simp only[so,aoM];exact⟨⟨⟨⟨bg,by rw[JD];exact Sa⟩,cR⟩,TE⟩,m8⟩
 simp only[rF];rw[BB FT]
 have e:cN tb aJ a.2 (put tm i.2.dst w) I= .grow s (.vec id) (c0 I id (false,ob)) id:=by
  rw[<-Am];exact Bn fun x ak=>yA Ff ak
 rw[e];simp only;rw[ho];refine⟨ay, ?_⟩;rw[abA,<-put_comm TF,pd,JD];refine GL ew _ _ _ _ _ (fun x ak=> ?_) h;simp only[aoW]at ak⊢;rcases ak with h|h|h
 ·exact .inr (.inl h)
 ·exact .inl h
 ·exact .inr (.inr h)
theorem aeU (hQ:rh data bx)(ew:∀f args I K,bx f args I K->hF (bx f)){all:List Oper}{a i:Nat×Oper}(bG:a.1<i.1)(vp:bit tab i.1 a.1=false)
 {C:List (Nat×Oper)} {e3:List (Nat×Oper×gW)} {tm:List R} {I:aF} {K:List R->aF->Prop} (h:gk tb bx data aJ all tab e3 (a::i::C) tm I K):
 gk tb bx data aJ all tab e3 (i::a::C) tm I K:=by
 have xp:Nat.blt a.1 i.1=true:=Nat.ble_eq_true_of_le bG
 have DT:Nat.blt i.1 a.1=false:=by
  cases ah:Nat.blt i.1 a.1 with
  |false=>rfl
  |true=>
   have:i.1+1<=a.1:=ao9 ah;omega
 cases Am:(cB tb data aJ (bV I) a.2 tm).DR with
 |true=>exact aeT ew xp DT Am vp h
 |false=>
 have FQ:∀ha,sJ tb all tab i.1 i.2 ha (a.1,a.2,cB tb data aJ (bV I) a.2 tm)=nv tb all a.2 (cB tb data aJ (bV I) a.2 tm) i.2 ha:=fun ha=>by
  unfold sJ so;simp only[xp,vp,Am,Bool.false_or,Bool.false_and,Bool.or_false]
 unfold gk at h;split at h
 ·exact h.elim
 rename_i qo
 have stat:mM all a.2 i.2=true/\mM all i.2 a.2=true/\uv a.2 i.2=true/\∃(gY:List R) (eY:Nat),nv tb all a.2 (cB tb data aJ (bV I) a.2 tm) i.2 (cB tb data aJ eY i.2 gY)=true:=by
  obtain⟨gY,c1,aa⟩:=BA ew _ _ _ h;unfold gk at aa;split at aa
  ·exact aa.elim
  ·rename_i aC
   have aD:sJ tb all tab i.1 i.2 (cB tb data aJ (bV c1) i.2 gY) (a.1,a.2,cB tb data aJ (bV I) a.2 tm)=true:=by
    unfold kV at aC;rw[fH,aoU]at aC;exact aC _ (by simp)
   rw[FQ]at aD;have Fg:=aD;simp only[nv,aoM]at Fg;exact⟨Fg.1.1.1,Fg.1.1.2,Fg.1.2,gY,_,aD⟩
 obtain⟨g1,g2,g3,gY,eY,nF⟩:=stat;have TH:=g3;simp only[uv,aoM,apE]at TH;obtain⟨⟨TF,vq⟩,Ff⟩:=TH;have nO:=Pz (data:=data) hQ nF
 have ha:∀(m:Bool) (t:List R) (v:R) (cg:aF),res all a.2 tm=some (m,t)->((cB tb data aJ eY i.2 gY).ext=true->cg.length=I.length)->cB tb data aJ (bV cg) i.2 (put t a.2.dst v)=cB tb data aJ (bV I) i.2 tm:=fun m t v cg ao aZ=>by
  rw[<-B7 (n:=bV I) ao,<-Hz (n:=bV I) (v:=v) vq];refine Ry fun he=> ?_;rw[cO,cO];exact aZ (by rw[HU (n':=bV I) (t':=put t a.2.dst v)];exact he)
 have rP:kV tb all tab i.1 i.2 (cB tb data aJ (bV I) i.2 tm) ((a.1,a.2,cB tb data aJ (bV I) a.2 tm)::e3)=true:=by
  cases aC:kV tb all tab i.1 i.2 (cB tb data aJ (bV I) i.2 tm) ((a.1,a.2,cB tb data aJ (bV I) a.2 tm)::e3)with
  |true=>rfl
  |false=>
   exfalso
   have:=GX nO ew (K':=fun _ _=>False) (fun _=>rfl) (fun t k ae=>HA hQ nF t k ae) (fun m t v al ao aZ ae=>by
    unfold gk at ae;rw[ha m t v al ao aZ,aC]at ae
    exact ae) h
   obtain⟨_,_,aT⟩:=BA ew _ _ _ this;exact aT
 have Ex:=rP;unfold kV at Ex;rw[fH,aqd,aoM]at Ex;have Ey:nv tb all a.2 (cB tb data aJ (bV I) a.2 tm) i.2 (cB tb data aJ (bV I) i.2 tm)=true:=by rw[<-FQ];exact Ex.1
 have li:=Pz (data:=data) hQ (Hb Ey)
 have ad:dF tb bx aJ all [a.2] tm I (fun t1 bu=>dF tb bx aJ all [i.2] t1 bu fun t2 br=>gk tb bx data aJ all tab ((i.1,i.2,cB tb data aJ (bV I) i.2 tm)::(a.1,a.2,cB tb data aJ (bV I) a.2 tm)::e3) C t2 br K):=by
  refine GX nO ew (fun _=>rfl) (fun t k ae=>HA hQ nF t k ae) (fun m t v al ao aZ ae=> ?_) h;unfold gk at ae;rw[ha m t v al ao aZ]at ae;simp only[rP]at ae;exact ae
 have ax:=aeS (K:=fun t2 br=>gk tb bx data aJ all tab ((i.1,i.2,cB tb data aJ (bV I) i.2 tm)::(a.1,a.2,cB tb data aJ (bV I) a.2 tm)::e3) C t2 br K) hQ ew (cO I).symm Ey ad;rw[Nc]at ax;unfold gk
 have j2:kV tb all tab i.1 i.2 (cB tb data aJ (bV I) i.2 tm) e3=true:=by
  unfold kV;rw[fH];exact Ex.2
 simp only[j2]
 have rF:kV tb all tab a.1 a.2 (cB tb data aJ (bV I) a.2 tm) ((i.1,i.2,cB tb data aJ (bV I) i.2 tm)::e3)=true:=by
  unfold kV at qo⊢;rw[fH]at qo⊢;rw[aqd,aoM];refine⟨?_,qo⟩;unfold sJ;simp only[DT,vp,Bool.false_or];rw[ap8];exact .inl (Hb Ey)
 refine GX li ew (fun _=>rfl) (fun t k ae=>HA hQ (Hb Ey) t k ae) (fun m t v al ao aZ ae=> ?_) ax;unfold gk
 have gf:cB tb data aJ (bV al) a.2 (put t i.2.dst v)=cB tb data aJ (bV I) a.2 tm:=by
  rw[<-B7 (n:=bV I) ao,<-Hz (n:=bV I) (v:=v) Ff];refine Ry fun he=> ?_;rw[cO,cO];exact aZ (by rw[HU (n':=bV I) (t':=put t i.2.dst v)];exact he)
 rw[gf];simp only[rF];refine yo ew (fun tm I ca=> ?_) _ _ _ ae;refine GL ew _ _ _ _ _ (fun x ak=> ?_) ca;simp only[aoW]at ak⊢;rcases ak with h|h|h
 ·exact .inr (.inl h)
 ·exact .inl h
 ·exact .inr (.inr h)
theorem MV (ew:∀f args I K,bx f args I K->hF (bx f)){all:List Oper}{x:Nat×Oper}{r l0:List (Nat×Oper)}{K K':List R->aF->Prop}
 (ao:∀e3 tm I,gk tb bx data aJ all tab e3 r tm I K->gk tb bx data aJ all tab e3 l0 tm I K') {e3:List (Nat×Oper×gW)} {tm:List R} {I:aF} (h:gk tb bx data aJ all tab e3 (x::r) tm I K):
 gk tb bx data aJ all tab e3 (x::l0) tm I K':=by
 unfold gk at h⊢;split at h
 ·exact h.elim
 ·exact yo ew (fun tm I ca=>ao _ _ _ ca) _ _ _ h
theorem Sb (hQ:rh data bx)(ew:∀f args I K,bx f args I K->hF (bx f)){all:List Oper}{i:Nat×Oper}{B:List (Nat×Oper)}:∀(A:List (Nat×Oper)),(∀a∈A,a.1<i.1/\bit tab i.1 a.1=false)->
 ∀(e3:List (Nat×Oper×gW)) (tm:List R) (I:aF) (K:List R->aF->Prop),gk tb bx data aJ all tab e3 (A++i::B) tm I K->gk tb bx data aJ all tab e3 (i::(A++B)) tm I K
 |[],_,_,_,_,_,h=>h
 |a::A,dM,e3,tm,I,K,h=>by
  have aa:gk tb bx data aJ all tab e3 (a::i::(A++B)) tm I K:=MV ew (fun e3 tm I h=>Sb hQ ew A (fun x ak=>dM x (by simp[ak])) e3 tm I K h) h;exact aeU hQ ew (dM a (by simp)).1 (dM a (by simp)).2 aa
theorem MW (ew:∀f args I K,bx f args I K->hF (bx f)){all:List Oper}{K:List R->aF->Prop}:∀(l:List (Nat×Oper)) (e3:List (Nat×Oper×gW)) (tm:List R) (I:aF),
 gk tb bx data aJ all tab e3 l tm I K->dF tb bx aJ all (l.map (·.2)) tm I K
 |[],_,_,_,h=>h
 |x::r,e3,tm,I,h=>by
  unfold gk at h;split at h
  ·exact h.elim
  ·rw[ape,Nc];exact yo ew (fun tm I ca=>MW ew r _ tm I ca) _ _ _ h
def Sc (ops:Array Oper):Prop:=∀i,(h:i<ops.size)->∀e∈(ops[i]).after.toList,Region.binds .any e=true->e.on<i
def left (n:Nat)(listed:Array Bool):List Nat:=(List.range n).filter fun i=> !listed.getD i true
theorem HB {n:Nat}{listed:Array Bool}{i:Nat}(hi:i<n)(ay:listed.size=n)(aB:listed.getD i true=false):
 ∃A B,left n listed=A++i::B/\left n (listed.setIfInBounds i true)=A++B/\∀a∈A,a<i/\listed.getD a true=false:=by
 have Rz:List.range n=List.range i++i::((List.range (n-i-1)).map (i+1+·)):=by
  rw[show n=i+(1+(n-i-1)) by omega,List.range_add,List.range_add];simp[apA]
 have m2:∀j,j≠i->(listed.setIfInBounds i true).getD j true=listed.getD j true:=fun j aK=>by
  simp only[aoJ,aqy];rw[aoA (apq aK)]
 have aeV:(listed.setIfInBounds i true).getD i true=true:=by
  simp only[aoJ,aqy,apc];split<;>rfl
 refine⟨(List.range i).filter fun j=> !listed.getD j true,((List.range (n-i-1)).map (i+1+·)).filter fun j=> !listed.getD j true, ?_, ?_,fun a aS=> ?_⟩
 ·unfold left;rw[Rz,aqT,List.filter_cons];rw[aoB (by rw[aB];rfl)]
 ·unfold left;rw[Rz,aqT,List.filter_cons,aoA (by rw[aeV];simp)]
  congr 1
  ·apply List.filter_congr;intro x ak;have:x<i:=by simpa using ak
   rw[m2 x (by omega)]
  ·apply List.filter_congr;intro x ak;obtain⟨y,_,rfl⟩:=aoO.1 ak;rw[m2 _ (by omega)]
 ·rw[apW]at aS;exact⟨by simpa using aS.1,by simpa using aS.2⟩
theorem aab {listed:Array Bool}{a:Nat}(aa:listed.getD a false=true)(ad:listed.getD a true=false):False:=by
 rw[aoJ]at aa ad
 by_cases h:a<listed.size
 ·rw[aqo h]at aa ad;simp at aa ad;rw[aa]at ad;cases ad
 ·rw[Array.getElem?_eq_none (by omega)]at aa;cases aa
inductive Reach (ops:Array Oper):Nat->Nat->Prop
 |one {i:Nat} {e:Edge} (h:i<ops.size) (he:e∈(ops[i]).after.toList) (ah:Region.binds .any e=true):Reach ops i e.on
 |more {i k:Nat} {e:Edge} (h:i<ops.size) (he:e∈(ops[i]).after.toList) (ah:Region.binds .any e=true) (ao:Reach ops e.on k):Reach ops i k
theorem XS {ops:Array Oper}{listed:Array Bool}(ks:∀j,(aK:j<ops.size)->listed.getD j false=true->∀e∈(ops[j]).after.toList,Region.binds .any e=true->listed.getD e.on false=true)
 {i k:Nat} (ao:Reach ops i k):(∀h:i<ops.size,∀e∈(ops[i]).after.toList,Region.binds .any e=true->listed.getD e.on false=true)->listed.getD k false=true:=by
 induction ao with
 |one h he ah=>exact fun ao=>ao h _ he ah
 |more h he ah _ bM=>exact fun ao=>bM fun k5 cb JE hJ=>ks _ k5 (ao h _ he ah) cb JE hJ
theorem adb (tab:List Nat)(n m:Nat):bit tab n m=(b8 0 tab n).testBit m:=by
 unfold bit;rw[Nat.testBit_eq_decide_div_mod_eq];show Nat.beq ((b8 0 tab n>>>m)&&&1) 1=_;rw[Nat.and_one_is_mod,Nat.shiftRight_eq_div_pow]
 cases h:decide (b8 0 tab n/2^m%2=1)with
 |true=>rw[aoN h];rfl
 |false=>
  have h:=aoP h
  cases ah:Nat.beq (b8 0 tab n/2^m%2) 1 with
  |false=>rfl
  |true=>exact absurd (aoE ah) h
theorem GY (tab:List Nat)(m:Nat):∀l:List Edge,(sI tab l).testBit m=true->∃e∈l,Region.binds .any e=true/\(m=e.on\/(b8 0 tab e.on).testBit m=true)
 |[],h=>by simp[sI]at h
 |e::r,h=>by
  unfold sI at h;split at h
  ·rename_i ah;have h:((2^e.on|||b8 0 tab e.on)|||sI tab r).testBit m=true:=h;rw[Nat.testBit_or,Nat.testBit_or,ap8,ap8]at h;rcases h with(h|h)|h
   ·rw[Nat.testBit_two_pow]at h;exact⟨e,by simp,ah, .inl (by simpa[eq_comm]using h)⟩
   ·exact⟨e,by simp,ah, .inr h⟩
   ·obtain⟨cb,aa,ad⟩:=GY tab m r h;exact⟨cb,by simp[aa],ad⟩
  ·obtain⟨cb,aa,ad⟩:=GY tab m r h;exact⟨cb,by simp[aa],ad⟩
theorem NN (ops:Array Oper):∀(r:List Oper) (acc:List Nat) (pre:List Oper),ops.toList=pre++r->pre.length=acc.length->(∀n m,(b8 0 acc n).testBit m=true->Reach ops n m)->
 ∀n m,(b8 0 (uw r acc) n).testBit m=true->Reach ops n m
 |[],acc,pre,_,_,h=>h
 |o::r,acc,pre,aa,ad,h=>by
  unfold uw;rw[fZ];refine NN ops r _ (pre++[o]) (by rw[aa];simp) (by simp[ad]) fun n m ah=> ?_;rw[d_,aoC,ao7]at ah;split at ah
  ·exact h n m (by rw[d_,aoC];exact ah)
  ·rename_i aB
   cases aY:n-acc.length with
   |succ k=>rw[aY]at ah;simp at ah
   |zero=>
    rw[aY]at ah;have ah:(sI acc o.after.toList).testBit m=true:=by simpa using ah
    have cT:n=pre.length:=by omega
    have bG:n<ops.size:=by
     rw[<-apH,aa];simp;omega
    have aji:ops[n]=o:=by
     have:ops.toList[n]? =some o:=by rw[aa,cT];simp
     simpa[bG]using this
    obtain⟨e,he,qk,hm⟩:=GY acc m _ ah;rw[<-aji]at he;rcases hm with rfl|hm
    ·exact .one bG he qk
    ·exact .more bG he qk (h _ _ hm)
theorem QD (hQ:rh data bx)(ew:∀f args I K,bx f args I K->hF (bx f)){ops:Array Oper}(aC:Sc ops)(SH:∀n m,bit tab n m=true->Reach ops n m):∀(fuel t:Nat) (listed:Array Bool) (acc:List Nat),listed.size=ops.size->(left ops.size listed).length<=fuel->
 (∀j,(aK:j<ops.size)->listed.getD j false=true->∀e∈(ops[j]).after.toList,Region.binds .any e=true->listed.getD e.on false=true)->
 ∃cy,Region.linearise.go .any ops fuel t listed acc=acc.reverse++cy/\(∀i∈cy,i<ops.size)/\cy.Perm (left ops.size listed)/\
  ∀(e3:List (Nat×Oper×gW)) (tm:List R) (I:aF) (K:List R->aF->Prop),gk tb bx data aJ ops.toList tab e3 ((left ops.size listed).map fun i=>(i,ops.toList.getD i default)) tm I K->
   gk tb bx data aJ ops.toList tab e3 (cy.map fun i=>(i,ops.toList.getD i default)) tm I K
 |0,t,listed,acc,ay,aT,ks=>by
  have he:left ops.size listed=[]:=apl.1 (by omega);refine⟨[],by simp[Region.linearise.go],(fun i h=>by cases h),by rw[he],fun e3 tm I K h=> ?_⟩;rw[he]at h;exact h
 |fuel+1,t,listed,acc,ay,aT,ks=>by
  unfold Region.linearise.go;simp only;generalize xJ:((List.range ops.size).filter fun i=> !listed.getD i true&&((ops[i]?).map (·.after.all fun e=> !Region.binds .any e||listed.getD e.on false)).getD false)=rs;split
  ·rename_i i hi
   have hH:i∈rs:=by
    obtain⟨aa,ad⟩:=apt.1 hi;exact ad▸apJ aa
   rw[<-xJ,apW,aoM]at hH;obtain⟨bG,jG,uF⟩:=hH;have bG:i<ops.size:=by simpa using bG
   have jG:listed.getD i true=false:=by simpa using jG
   have uF:∀e∈(ops[i]).after.toList,Region.binds .any e=true->listed.getD e.on false=true:=by
    have aa:ops[i]? =some ops[i]:=by simp[bG]
    rw[aa]at uF;simp only[apI,apC]at uF;rw[<-Array.all_toList,aoU]at uF;intro e he ah;have:=uF e he;rw[ah]at this;simpa using this
   obtain⟨A,B,aA,aG,dM⟩:=HB bG ay jG
   obtain⟨ajj,a7,bl,UL,bH⟩:=QD hQ ew aC SH fuel (t/rs.length) (listed.setIfInBounds i true) (i::acc) (by simpa using ay) (by
    rw[aG];rw[aA]at aT;simp at aT⊢;omega) (by
    have aeW:∀x,listed.getD x false=true->(listed.setIfInBounds i true).getD x false=true:=fun x ak=>by
     simp only[aoJ,aqy]at ak⊢;split
     ·rename_i e;subst e;rw[aoB (by omega)];rfl
     ·exact ak
    intro j aK kp e he ah;refine aeW _ ?_
    by_cases tN:j=i
    ·subst tN;exact uF e he ah
    ·refine ks j aK ?_ e he ah;simp only[aoJ,aqy]at kp⊢;rw[aoA (apq tN)]at kp
     exact kp)
   refine⟨i::ajj,by rw[a7];simp,fun j aK=> ?_,by rw[aA];exact(List.Perm.cons i (by rw[aG]at UL;exact UL)).trans List.perm_middle.symm,fun e3 tm I K h=> ?_⟩
   ·rcases aoW.1 aK with rfl|aK
    ·exact bG
    ·exact bl j aK
   ·rw[aA,apn,ape]at h
    have m2:∀j,(aK:j<ops.size)->ops.toList.getD j default=ops[j]:=fun j aK=>by simp[aoC,aK]
    have aD:=Sb (tb:=tb) (aJ:=aJ) hQ ew (all:=ops.toList) (i:=(i,ops.toList.getD i default)) (B:=B.map fun i=>(i,ops.toList.getD i default))
     (A.map fun i=>(i,ops.toList.getD i default)) (fun x ak=>by
       obtain⟨a,aS,rfl⟩:=aoO.1 ak;obtain⟨E6,lL⟩:=dM a aS;refine⟨E6, ?_⟩;simp only
       cases aY:bit tab i a with
       |false=>rfl
       |true=>exact(aab (XS ks (SH _ _ aY) fun _=>uF) lL).elim) e3 tm I K h
    rw[ape];refine MV ew (fun e3 tm I h=>bH e3 tm I K ?_) aD;rw[aG,apn];exact h
  ·rename_i uM
   have aeh:rs=[]:=by
    cases ao:rs with
    |nil=>rfl
    |cons x y=>
     exfalso;have:t%rs.length<rs.length:=apm _ (by rw[ao];simp);rw[aoQ this]at uM;cases uM
   have Sd:left ops.size listed=[]:=by
    cases az:left ops.size listed with
    |nil=>rfl
    |cons m r=>
     exfalso;have hm:m∈left ops.size listed:=by rw[az];simp
     have rQ:=hm;unfold left at rQ;rw[apW]at rQ;have bG:m<ops.size:=by simpa using rQ.1
     have jG:listed.getD m true=false:=by simpa using rQ.2
     obtain⟨A,B,aA,_,dM⟩:=HB bG ay jG
     have pe:A=[]:=by
      cases A with
      |nil=>rfl
      |cons a aos=>
       exfalso;rw[az]at aA;simp only[ap0,aqn]at aA;have:=(dM a (by simp)).1;omega
     have ade:∀a,a<m->listed.getD a false=true:=by
      intro a aS;have cr:a<listed.size:=by omega
      cases Fh:listed.getD a true with
      |true=>
       rw[aoJ,aqo cr]at Fh⊢;simpa using Fh
      |false=>
       exfalso
       have hH:a∈left ops.size listed:=by
        unfold left;rw[apW];exact⟨by simp;omega,by rw[Fh];rfl⟩
       obtain⟨x5,ni,f1,_,JF⟩:=HB (n:=ops.size) (listed:=listed) (i:=a) (by omega) ay Fh;rw[az]at f1
       cases x5 with
       |nil=>simp only[List.nil_append,aqn]at f1;omega
       |cons q AX=>
        simp only[ap0,aqn]at f1;have:=(JF q (by simp)).1;omega
     have fh:m∈rs:=by
      rw[<-xJ,apW,aoM];refine⟨by simpa using bG,by rw[jG];rfl, ?_⟩;have aa:ops[m]? =some ops[m]:=by simp[bG]
      rw[aa];simp only[apI,apC];rw[<-Array.all_toList,aoU];intro e he
      cases ah:Region.binds .any e with
      |false=>simp
      |true=>rw[ade e.on (aC m bG e he ah)];simp
     rw[aeh]at fh;cases fh
   refine⟨[],by simp,(fun i h=>by cases h),by rw[Sd],fun e3 tm I K h=> ?_⟩;rw[Sd]at h;exact h
theorem QE (ops:Array Oper):(List.range ops.size).map (fun i=>ops.toList.getD i default)=ops.toList:=by
 apply List.ext_getElem?;intro i
 by_cases h:i<ops.size
 ·simp[h,aoC]
 ·simp[h]
theorem PB (n:Nat):left n (Array.replicate n false)=List.range n:=by
 unfold left;rw[List.filter_eq_self];intro i hi;have:i<n:=by simpa using hi
 simp[aoJ,this]
theorem GZ:∀(l:List Oper) (n:Nat),indexed l n=(List.range l.length).map fun i=>(n+i,l.getD i default)
 |[],n=>rfl
 |o::r,n=>by
  show(n,o)::indexed r (Nat.succ n)=_;rw[GZ r,apj,List.range_succ_eq_map,ape,ap5]
  congr 1
  apply aqO;intro i _;simp only[Function.comp,List.getD_cons_succ,ao5,and_true];omega
theorem Mr (d:Tmp)(o:Oper)(r:List Oper):nZ d r<=nZ d (o::r)/\(o.dst=some d->nZ d (o::r)=nZ d r+1):=by
 have e:nZ d (o::r)=match fY (some d) o.dst with|true=>Nat.succ (nZ d r)|false=>nZ d r:=rfl
 refine⟨?_,fun h=> ?_⟩
 ·rw[e];split
  ·exact Nat.le_succ _
  ·exact aoH _
 ·rw[e,Bz.2 ⟨d,rfl,h⟩]
theorem Xi {d:Tmp}{l:List Oper}{j:Nat}{p:Oper}(h:l[j]? =some p)(aD:p.dst=some d):1<=nZ d l:=by
 induction l generalizing j with
 |nil=>simp at h
 |cons x l bM=>
  obtain⟨fi,fb⟩:=Mr d x l
  cases j with
  |zero=>
   simp only[List.getElem?_cons_zero,aoY]at h;subst h;rw[fb aD];omega
  |succ j=>
   have:=bM (j:=j) (by simpa using h);omega
theorem Nd {d:Tmp}(l:List Oper)(i j:Nat)(o p:Oper)(aa:l[i]? =some o)(ad:l[j]? =some p)(ax:o.dst=some d)(aV:p.dst=some d)(bp:i<j):2<=nZ d l:=by
 induction l generalizing i j with
 |nil=>simp at aa
 |cons x l bM=>
  obtain⟨fi,fb⟩:=Mr d x l
  cases j with
  |zero=>omega
  |succ j=>
   simp only[List.getElem?_cons_succ]at ad
   cases i with
   |zero=>
    simp only[List.getElem?_cons_zero,aoY]at aa;subst aa;have:=Xi ad aV;rw[fb ax];omega
   |succ i=>
    have:=bM i j (by simpa using aa) ad (by omega);omega
theorem Bo:∀(l:List Tmp) (n:Nat) (d:Tmp) (id:Nat),fz d (ui l n)=some id->d∈l/\n<=id/\id<n+l.length/\l[id-n]? =some d
 |[],n,d,id,h=>by cases h
 |x::r,n,d,id,h=>by
  unfold ui at h;unfold fz at h;split at h
  ·rename_i ah;obtain rfl:=aoE ah;obtain rfl:=aoL h;simp
  ·obtain⟨aa,ad,ax,aV⟩:=Bo r (n+1) d id h;refine⟨by simp[aa],by omega,by simp;omega, ?_⟩;rw[show id-n=(id-(n+1))+1 by omega];simpa using aV
theorem drawn {ops:Array Oper}(hQ:rh data bx)(ew:∀f args I K,bx f args I K->hF (bx f))(aH:y1 tb ops.toList=true)(n:Nat)(dR:aJ=ui (oN tb ops.toList) n)(mixed:Bool)(hm:mixed=true)(t:Nat):
 Hx aJ ops/\(∀i∈Region.schedule mixed ops t,i<ops.size)/\(Region.schedule mixed ops t).Nodup/\∀(tm:List R) (I:aF) (K:List R->aF->Prop),gk tb bx data aJ ops.toList (uw ops.toList []) [] (indexed ops.toList 0) tm I K->
  dF tb bx aJ ops.toList ((Region.schedule mixed ops t).map fun i=>ops.toList.getD i default) tm I K:=by
 have ay:Region.schedule mixed ops t=Region.linearise .any ops t:=by
  unfold Region.schedule;rw[aoB (by rw[hm];simp)]
 rw[ay];unfold y1 at aH;rw[aoM,fH,fH,aoU,aoU]at aH;obtain⟨Jo,Ac⟩:=aH
 have hw:Sc ops:=fun i hi e he ah=>by
  have:=Jo (i,ops[i]) (by
   rw[GZ];refine aoO.2 ⟨i,by simpa using hi, ?_⟩
   simp[aoC,hi])
  rw[aoU]at this;have:=this e he;have hJ:Region.binds .any e=true:=ah;rw[hJ]at this;have:e.on+1<=i:=by simpa[Nat.blt]using this
  omega
 have aK:Hx aJ ops:=by
  intro i j o p d e id aa ad bp b1 fM c6;rw[dR]at fM c6;obtain⟨fS,_,_,g1⟩:=Bo _ _ _ _ fM;obtain⟨_,_,_,g2⟩:=Bo _ _ _ _ c6;rw[g1]at g2;obtain rfl:=aoL g2;have aC:=aoE (Ac d fS);rcases Nat.lt_trichotomy i j with bG|rfl|bG
  ·have:=Nd ops.toList i j o p (by simpa using aa) (by simpa using ad) bp b1 bG;omega
  ·rfl
  ·have:=Nd ops.toList j i p o (by simpa using ad) (by simpa using aa) b1 bp bG;omega
 obtain⟨cy,aa,ad,aD,ax⟩:=QD (tb:=tb) (aJ:=aJ) (tab:=uw ops.toList []) hQ ew hw (fun n m ah=>by
  rw[adb]at ah
  exact NN ops ops.toList [] [] rfl rfl (fun n m h=>by simp[b8]at h) n m ah) ops.size t (Array.replicate ops.size false) [] (by simp) (by rw[PB];simp) (fun j aK kp=>by simp[aoJ,aK]at kp)
 have:Region.linearise .any ops t=cy:=by unfold Region.linearise;rw[aa];rfl
 rw[this];rw[PB]at aD ax;refine⟨aK,ad,aD.nodup_iff.2 List.nodup_range,fun tm I K h=> ?_⟩
 have aV:=MW ew _ _ _ _ (ax [] tm I K (by
  rw[GZ]at h
  simpa using h))
 rw[ap5]at aV;exact aV
end
end Go.aj
end
section
namespace Go.aj
theorem dv.BC:∀(a b:List b6) (x:dv a) (y:dv b),dv.left a b (dv.append a b x y)=x
 |[],_,_,_=>rfl
 |_::dL,b,(x,r),y=>by simp only[dv.append,dv.left];rw[dv.BC dL b r y]
theorem dv.Bp:∀(a b:List b6) (x:dv a) (y:dv b),dv.right a b (dv.append a b x y)=y
 |[],_,_,_=>rfl
 |_::dL,b,(x,r),y=>by simp only[dv.append,dv.right];rw[dv.Bp dL b r y]
section
variable {N:Nat->Prop} {ρ:List Loc} {I:aF} {w:World}
theorem Nf (h:ct N ρ I w)(s:b6){t:R}(aC:∀p∈(s.rl I t).1,p):
 ∃x:U,s.mk (s.rl I t).2= .d x/\∀u,bF (aL N ρ I) w ρ I t u->bA (aL N ρ I) w x u:=by
 have no:∀{q:Prop},(∀p∈[False],p)->q:=fun h=>(h False (by simp)).elim
 unfold b6.rl at aC⊢;split at aC
 ·rename_i k cz n;split at aC
  ·rename_i ae;obtain rfl:=jt.1 ae;exact⟨_,rfl,fun u au=>au⟩
  ·exact no aC
 ·exact no aC
 ·exact⟨_,rfl,fun u au=>au⟩
 ·refine⟨_,rfl,fun u au=> ?_⟩;have au:u= .bool true:=au;subst au;exact .bool true
 ·refine⟨_,rfl,fun u au=> ?_⟩;have au:u= .bool false:=au;subst au;exact .bool false
 ·exact no aC
 ·exact⟨_,rfl,fun u au=>au⟩
 ·exact no aC
 ·rename_i k cz l;split at aC
  ·rename_i ae;obtain rfl:=jt.1 ae;exact⟨_,rfl,fun u au=>au⟩
  ·exact no aC
 ·refine⟨_,rfl,fun u au=> ?_⟩;obtain⟨a,rfl⟩:=au;exact .jj _ _ _
 ·rename_i k id;split at aC
  ·rename_i cz l aH;simp only at aC;split at aC
   ·rename_i ae aT;obtain rfl:=jt.1 ae;refine⟨_,rfl,fun u au=> ?_⟩;obtain⟨aw,az,hu,_⟩:=au;have:=qN h az aT (t:= .aE (.cv k)) (by rw[aH];exact jt.2 rfl);rw[aH]at this hu;rw[hu];exact this
   ·exact no aC
  ·exact no aC
 ·exact no aC
 ·rename_i k cz l;split at aC
  ·rename_i ae;obtain rfl:=aoE ae;exact⟨_,rfl,fun u au=>au⟩
  ·exact no aC
 ·refine⟨_,rfl,fun u au=> ?_⟩;obtain⟨a,rfl⟩:=au;exact .kO _ _ _
 ·rename_i an id;split at aC
  ·rename_i ib l aH;simp only at aC;split at aC
   ·rename_i ae aT;obtain rfl:=aoE ae;refine⟨_,rfl,fun u au=> ?_⟩;obtain⟨aw,az,hu,_⟩:=au;have:=qN h az aT (t:= .aE (.ee an)) (by rw[aH];exact apB an);rw[aH]at this hu;rw[hu];exact this
   ·exact no aC
  ·exact no aC
 ·exact no aC
 ·exact⟨_,rfl,fun u au=>au⟩
 ·exact no aC
theorem Gq (h:ct N ρ I w):∀(cs:List b6) (aI:List R) (k:dv cs->Prop),yw I cs aI k->
 ∃x,k x/\(sB cs x).length=aI.length/\∀(us:Nat->Value),(∀i,i<aI.length->eE (aL N ρ I) w ρ I (aI.getD i .un) (us i))->
  ∀i,i<aI.length->∃y:U,(sB cs x).getD i .un= .d y/\bA (aL N ρ I) w y (us i)
 |[],[],k,ae=>⟨(),ae,rfl,fun us _ i hi=>by simp at hi⟩
 |[],_::_,_,ae=>ae.elim
 |_::_,[],_,ae=>ae.elim
 |s::dL,v::aI,k,ae=>by
  simp only[yw]at ae;rw[ho]at ae;obtain⟨aC,ae⟩:=ae;obtain⟨y,aa,ad⟩:=Nf h s aC;obtain⟨x,a7,bl,bH⟩:=Gq h dL aI _ ae;refine⟨((s.rl I v).2,x),a7,by simp[sB,bl],fun us ao i hi=> ?_⟩
  cases i with
  |zero=>exact⟨y,by simpa[sB]using aa,ad _ (.dc (ao 0 (by simp)))⟩
  |succ i=>
   obtain⟨amf,ax,aV⟩:=bH (fun i=>us (i+1)) (fun i hi=>by have:=ao (i+1) (by simpa using hi);simpa using this) i (by simpa using hi);exact⟨amf,by simpa[sB]using ax,aV⟩
theorem GA {n:Nat}{t:R}(h:t.n_ n=true){id:Nat}(aB:t.ly id):id<n:=by
 cases t with
 |vec j=>obtain rfl:j=id:=aB;have:j+1<=n:=by simpa[R.n_,Nat.blt]using h
         omega
 |ptr j x=>obtain rfl:j=id:=aB;have:j+1<=n:=by simpa[R.n_,Nat.blt]using h
           omega
 |optr j x y=>obtain rfl:j=id:=aB;have:j+1<=n:=by simpa[R.n_,Nat.blt]using h
              omega
 |oat j x y=>obtain rfl:j=id:=aB;have:j+1<=n:=by simpa[R.n_,Nat.blt]using h
             omega
 |mp j=>obtain rfl:j=id:=aB;have:j+1<=n:=by simpa[R.n_,Nat.blt]using h
        omega
 |tail j x=>obtain rfl:j=id:=aB;have:j+1<=n:=by simpa[R.n_,Nat.blt]using h
            omega
 |_=>exact aB.elim
theorem OB {t:R}{id:Nat}(aa:∀l,t≠ .agg l)(ad:∀l,t≠ .tup l)(aB:t.names id):t.ly id:=by
 cases t with
 |agg l=>exact absurd rfl (aa l)
 |tup l=>exact absurd rfl (ad l)
 |_=>exact aB
theorem aac {n:Nat}{t:R}(aa:∀l,t≠ .agg l):t.under n=t.n_ n:=by
 cases t with
 |agg l=>exact absurd rfl (aa l)
 |_=>rfl
theorem aad {t:R}(aa:∀l,t≠ .agg l)(ad:∀n r,t≠ .rw n r):t.plain=t.re:=by
 cases t with
 |agg l=>exact absurd rfl (aa l)
 |rw n r=>exact absurd rfl (ad n r)
 |_=>rfl
theorem XT {n:Nat}{t:R}(h:t.under n=true){id:Nat}(aB:t.names id):id<n:=by
 cases t with
 |agg l=>
  obtain⟨i,hi,aB⟩:=aB;simp only[R.under]at h;rw[fH,aoU]at h;have e:l.getD i .un=l[i]:=by simp[aoC,hi]
  rw[e]at aB;exact GA (h _ (apJ hi)) aB
 |tup l=>simp[R.under,R.n_]at h
 |_=>rw[aac (by simp)]at h;exact GA h (OB (by simp) (by simp) aB)
theorem Bq {t:R}(h:t.re=true){id:Nat}(aB:t.ly id):False:=by
 cases t<;>simp only[R.ly]at aB<;>simp[R.re]at h
theorem Ng {t:R}(h:t.plain=true){id:Nat}(aB:t.names id):False:=by
 cases t with
 |agg l=>
  obtain⟨i,hi,aB⟩:=aB;simp only[R.plain]at h;rw[fH,aoU]at h;have e:l.getD i .un=l[i]:=by simp[aoC,hi]
  rw[e]at aB;exact Bq (h _ (apJ hi)) aB
 |tup l=>simp[R.plain,R.re]at h
 |rw n r=>exact aB
 |_=>rw[aad (by simp) (by simp)]at h;exact Bq h (OB (by simp) (by simp) aB)
theorem Hc {v v0:R}(h:v.uD v0=true):v=v0:=by
 unfold R.uD at h;split at h<;>try rfl
 ·rw[aoE h]
 ·rw[aoM]at h;rw[aoE h.1,aoE h.2]
 ·rw[aoM]at h;rw[aoE h.1,aoE h.2]
 ·rw[aoE h]
 ·rw[aoE h]
 ·cases h
theorem XU {vN:Nat->Prop}{eH:List Loc}{c1:aF}{w1:World}{gY:List R}{a1 a:Act}{tm:List R}(n:Nat)(wr:Tmp->Bool)(h:ct N ρ I w)(au:eg (aL N ρ I) w ρ I tm a.tmps)
 (Fi:eg vN w1 eH c1 gY a1.tmps) (e9:∀t,wr t=false->a.tmps.getD t undef=a1.tmps.getD t undef):
 ∀(dL:List (Tmp×vB)) (k:dv (lx dL)->Prop),sl n wr I gY dL tm k->
  ∃x,k x/\∀(Z':Nat->Prop) (ρ':List Loc) (al:aF),(∀y u,bA (aL N ρ I) w y u->bA Z' w y u)->(∀y u,bA vN w1 y u->bA Z' w y u)->
   (∀id,id<n->eR ρ I ρ' al id)->∀base,eg Z' w ρ' al base a.tmps->eg Z' w ρ' al (ux gY dL x base) a.tmps:=by
 intro dL
 induction dL with
 |nil=>intro k ae;exact⟨(),ae,fun Z' ρ' al _ _ _ base ah=>ah⟩
 |cons p r bM=>
  intro k ae;obtain⟨t,amg⟩:=p
  have IV:∀{Z':Nat->Prop} {ρ':List Loc} {al:aF} {base:List R} {v:R},eg Z' w ρ' al base a.tmps->bF Z' w ρ' al v (a.tmps.getD t undef)->eg Z' w ρ' al (c0 base t v) a.tmps:=by
   intro Z' ρ' al base v ah aM;refine⟨by rw[e2];simpa using ah.size,fun i=> ?_⟩;rw[e2,e1];split
   ·rename_i e;rw[<-e.1];exact aM
   ·exact ah.at_ i
  have cK:bF (aL N ρ I) w ρ I (b8 .un tm t) (a.tmps.getD t undef):=by rw[d_];exact au.at_ t
  cases amg with
  |aE s=>
   simp only[sl]at ae;rw[ho]at ae;obtain⟨aC,ae⟩:=ae;obtain⟨y,aa,ad⟩:=Nf h s aC;have ad:=ad _ cK;obtain⟨x,a7,bl⟩:=bM _ ae;refine⟨((s.rl I (b8 .un tm t)).2,x),a7,fun Z' ρ' al ao ie ay base ah=> ?_⟩;exact IV (bl Z' ρ' al ao ie ay base ah) (by rw[aa];exact .dc (ao _ _ ad))
  |agg cs=>
   simp only[sl]at ae;split at ae
   ·rename_i aI kt;rw[kt]at cK;obtain⟨arr,aa,ad,ax⟩:=cK;obtain⟨xs,q1,cI,cV⟩:=Gq h cs aI _ ae;have cV:=cV (fun i=>arr.getD i undef) ax;obtain⟨x,a7,bl⟩:=bM _ q1;refine⟨dv.append cs (lx r) xs x,a7,fun Z' ρ' al ao ie ay base ah=> ?_⟩;simp only[ux,dv.BC,dv.Bp];refine IV (bl Z' ρ' al ao ie ay base ah) (.ht ⟨arr,aa,by rw[ad,cI],fun i hi=> ?_⟩);rw[cI]at hi;obtain⟨y,aV,bp⟩:=cV i hi;rw[aV];exact ao _ _ bp
   ·exact ae.elim
  |ar=>
   simp only[sl]at ae;split at ae
   ·rename_i An;obtain⟨x,a7,bl⟩:=bM _ ae;refine⟨x,a7,fun Z' ρ' al ao ie ay base ah=> ?_⟩;simp only[ux];refine IV (bl Z' ρ' al ao ie ay base ah) ?_;unfold Rs at An;split at An
    ·cases An
    ·rename_i hu;split at An
     ·rename_i hw aD;rw[e9 t hw];have zJ:bF vN w1 eH c1 (b8 .un gY t) (a1.tmps.getD t undef):=by rw[d_];exact Fi.at_ t
      exact zJ.mono ie fun id aB=>(Ng aD aB).elim
     ·have:=Hc An;rw[<-this]at hu⊢;exact cK.mono ao fun id aB=>ay id (XT hu aB)
   ·exact ae.elim
theorem wx (ea:aF):∀(os:List ta) (i:Nat) (x:dv (ke os)),(mq ea os i x).length=os.length
 |[],_,_=>rfl
 | .ar::r,i,x=>apg (·+1) (wx ea r (Nat.succ i) x)
 | .af _::r,i,(_,x)=>apg (·+1) (wx ea r (Nat.succ i) x)
 | .av _::r,i,(_,x)=>apg (·+1) (wx ea r (Nat.succ i) x)
 | .map _ _::r,i,(_,x)=>apg (·+1) (wx ea r (Nat.succ i) x)
 | .cells cs::r,i,x=>apg (·+1) (wx ea r (Nat.succ i) (dv.right cs (ke r) x))
structure rq (n:Nat)(N:Nat->Prop)(ρ:List Loc)(I:aF)(w:World)(i:Nat)(l:aF):Prop where
 FY:∀m,m<l.length->cw l m=cw I (i+m)
 an:∀m,m<l.length->(ag.at l m).len=(ag.at I (i+m)).len/\(ag.at l m).cL=(ag.at I (i+m)).cL
 Ks:∀m,m<l.length->cw l m=true->ag.at l m=ag.at I (i+m)
 rd:∀m,m<l.length->∀(Z':Nat->Prop) (ρ':List Loc) (al:aF) (aw:Loc),(∀y u,bA (aL N ρ I) w y u->bA Z' w y u)->(∀id,id<n->eR ρ I ρ' al id)->
  h9 (aL N ρ I) w ρ I aw (ag.at I (i+m))->h9 Z' w ρ' al aw (ag.at l m)
theorem rq.cons {n:Nat}{i:Nat}{p:Bool×ag}{l:aF}(aa:p.1=cw I i)(aV:p.1=true->p.2=ag.at I i)(ad:p.2.len=(ag.at I i).len/\p.2.cL=(ag.at I i).cL)
 (ax:∀(Z':Nat->Prop) (ρ':List Loc) (al:aF) (aw:Loc),(∀y u,bA (aL N ρ I) w y u->bA Z' w y u)->(∀id,id<n->eR ρ I ρ' al id)->
   h9 (aL N ρ I) w ρ I aw (ag.at I i)->h9 Z' w ρ' al aw p.2) (h:rq n N ρ I w (i+1) l):rq n N ρ I w i (p::l)where
 FY:=fun m hm=>by
  cases m with
  |zero=>exact aa
  |succ m=>rw[show i+(m+1)=i+1+m by omega];exact h.FY m (by simpa using hm)
 an:=fun m hm=>by
  cases m with
  |zero=>exact ad
  |succ m=>rw[show i+(m+1)=i+1+m by omega];exact h.an m (by simpa using hm)
 Ks:=fun m hm=>by
  cases m with
  |zero=>exact aV
  |succ m=>rw[show i+(m+1)=i+1+m by omega];exact h.Ks m (by simpa using hm)
 rd:=fun m hm=>by
  cases m with
  |zero=>exact ax
  |succ m=>rw[show i+(m+1)=i+1+m by omega];exact h.rd m (by simpa using hm)
theorem aae {c1:aF}(n:Nat)(h:ct N ρ I w):∀(os:List ta) (i:Nat) (k:dv (ke os)->Prop),n5 n c1 os i I k->
 ∃x,k x/\rq n N ρ I w i (mq c1 os i x):=by
 intro os
 induction os with
 |nil=>intro i k ae;exact⟨(),ae,⟨fun m hm=>by simp[mq]at hm,fun m hm=>by simp[mq]at hm,fun m hm=>by simp[mq]at hm,fun m hm=>by simp[mq]at hm⟩⟩
 |cons o r bM=>
  intro i k ae
  have cf:∀{f:Bool} {ob:ag},b8 (true, .gone) I i=(f,ob)->ag.at I i=ob/\cw I i=f:=fun h=>by simp[ag.at,cw,h]
  cases o with
  |ar=>
   simp only[n5]at ae;split at ae
   ·rename_i hu;obtain⟨he,ae⟩:=ae;obtain⟨x,a7,bl⟩:=bM (i+1) _ ae;refine⟨x,a7,rq.cons (by rw[<-he];rfl) (fun _=>by rw[<-he];rfl) (by rw[<-he];exact⟨rfl,rfl⟩) (fun Z' ρ' al aw ao ay aH=> ?_) bl⟩;rw[<-he]at hu⊢;refine aH.mono (fun _ _=>rfl) ao (fun l az AR id ou aB=>ay id ?_);have iJ:(b8 (true,ag.gone) I i).2= .cells l:=az;rw[iJ]at hu;simp only[ag.under]at hu;rw[fH,aoU]at hu;have e:l.getD AR .un=l[AR]:=by simp[aoC,ou]
    rw[e]at aB;exact GA (hu _ (apJ ou)) aB
   ·exact ae.elim
  |af k4=>
   simp only[n5]at ae;split at ae
   ·rename_i a7 l az;split at ae
    ·rename_i ou;obtain rfl:=jt.1 ou;obtain⟨x,q1,cI⟩:=bM (i+1) _ ae;obtain⟨aA,aG⟩:=cf az;refine⟨(l,x),q1,rq.cons aG.symm (fun h=>by cases h) (by rw[aA];exact⟨rfl,rfl⟩) (fun Z' ρ' al aw ao ay aH=> ?_) cI⟩;rw[aA]at aH;exact aH.mono (fun _ _=>rfl) ao (fun l az=>by cases az)
    ·exact ae.elim
   ·exact ae.elim
  |av vC=>
   simp only[n5]at ae;split at ae
   ·rename_i s1 l az;split at ae
    ·rename_i ou;obtain rfl:=aoE ou;obtain⟨x,q1,cI⟩:=bM (i+1) _ ae;obtain⟨aA,aG⟩:=cf az;refine⟨(l,x),q1,rq.cons aG.symm (fun h=>by cases h) (by rw[aA];exact⟨rfl,rfl⟩) (fun Z' ρ' al aw ao ay aH=> ?_) cI⟩;rw[aA]at aH;exact aH.mono (fun _ _=>rfl) ao (fun l az=>by cases az)
    ·exact ae.elim
   ·exact ae.elim
  |map xY vC=>
   simp only[n5]at ae;split at ae
   ·rename_i eY s1 l az;split at ae
    ·rename_i ajk ou;obtain rfl:=aoE ajk;obtain rfl:=aoE ou;obtain⟨x,q1,cI⟩:=bM (i+1) _ ae;obtain⟨aA,aG⟩:=cf az;refine⟨(l,x),q1,rq.cons aG.symm (fun h=>by cases h) (by rw[aA];exact⟨rfl,rfl⟩) (fun Z' ρ' al aw ao ay aH=> ?_) cI⟩;rw[aA]at aH;exact aH.mono (fun _ _=>rfl) ao (fun l az=>by cases az)
    ·exact ae.elim
   ·exact ae.elim
  |cells cs=>
   simp only[n5]at ae;split at ae
   ·rename_i aI az;obtain⟨aA,aG⟩:=cf az;obtain⟨xs,q1,cI,cV⟩:=Gq h cs aI _ ae;obtain⟨x,a7,bl⟩:=bM (i+1) _ q1;refine⟨dv.append cs (ke r) xs x,a7, ?_⟩;simp only[mq,dv.BC,dv.Bp];refine rq.cons aG.symm (fun h=>by cases h) (by rw[aA];exact⟨cI,rfl⟩) (fun Z' ρ' al aw ao ay aH=> ?_) bl;rw[aA]at aH;obtain⟨ey,agq,ajl,fi,fb,k7,r4,r5⟩:=aH;refine⟨ey,agq,ajl,fi,fb,k7,by rw[cI];exact r4,fun m hm=> ?_⟩;rw[cI]at hm;obtain⟨y,d1,d2⟩:=cV _ r5 m hm;rw[d1];exact ao _ _ d2
   ·exact ae.elim
end
end Go.aj
end
section
namespace Go.aj
theorem wT {α:Type}(ρ:List α)(n:Nat)(d:α)(i:Nat)(l:α)(h:((ρ.take n)++List.replicate (n-ρ.length) d)[i]? =some l):
 i<n/\(ρ[i]? =some l\/(ρ.length<=i/\l=d)):=by
 rw[ao7]at h;split at h
 ·rename_i hi;simp only[apf]at hi;rw[apu]at h;split at h
  ·rename_i aB;exact⟨aB, .inl h⟩
  ·cases h
 ·rename_i hi;simp only[apf]at hi h;rw[ap6]at h;split at h
  ·rename_i aB;refine⟨by omega, .inr ⟨by omega,(aoL h).symm⟩⟩
  ·cases h
theorem adf {α:Type}(ρ:List α)(n:Nat)(d:α)(i:Nat)(l:α)(hi:i<n)(h:ρ[i]? =some l):((ρ.take n)++List.replicate (n-ρ.length) d)[i]? =some l:=by
 obtain⟨aa,ad⟩:=apt.1 h;rw[apy (by simp;omega),apu,aoB hi,h]
theorem abB (Z:Nat->Prop)(w:World)(ρ:List Loc)(I:aF)(n:Nat)(tmps:Array Value)(h:tmps.size=n):eg Z w ρ I (uT .any n) tmps:=by
 refine⟨by rw[HP];simpa using h,fun t=> ?_⟩;rw[HP]
 by_cases au:t<n
 ·have:(List.replicate n R.any).getD t .un= .any:=by simp[aoC,au]
  rw[this];trivial
 ·have:(List.replicate n R.any).getD t .un= .un:=by simp[aoC,au]
  rw[this,aoJ,Array.getElem?_eq_none (by omega)]
  rfl
theorem Nh {N vN:Nat->Prop}{eH ρ:List Loc}{fE S:fQ}{a1 a:Act}{w1 w:World}(wr:Tmp->Bool)(h:Head)(k:dv h.ps->Prop)
 (Fi:eg vN w1 eH fE.I fE.tm a1.tmps) (ay:eN N ρ S.tm S.I a w) (aT:∀y u,bA vN w1 y u->bA (aL N ρ S.I) w y u) (e9:∀t,wr t=false->a.tmps.getD t undef=a1.tmps.getD t undef)
 (cr:a.tmps.size=a1.tmps.size) (ae:sq wr h fE S k):
 ∃x,k x/\∃ρ',eN N ρ' (mh h fE x).tm (mh h fE x).I a w/\Fr ρ S.I w ρ' (mh h fE x).I w:=by
 unfold sq at ae;obtain⟨xs,ae,RA⟩:=XU (a1:=a1) (a:=a) (bV h.I) wr ay.e5 ay.eG Fi e9 h.bO _ ae;obtain⟨AY,ae,fk⟩:=aae (bV h.I) ay.e5 h.I 0 _ ae;have az:(dv.left (lx h.bO) (ke h.I) (dv.append (lx h.bO) (ke h.I) xs AY))=xs:=dv.BC _ _ _ _;have ao:(dv.right (lx h.bO) (ke h.I) (dv.append (lx h.bO) (ke h.I) xs AY))=AY:=dv.Bp _ _ _ _;refine⟨_,ae,ρ.take h.I.length++List.replicate (h.I.length-ρ.length) ⟨none,0,none⟩, ?_⟩;have hlen:(mq fE.I h.I 0 AY).length=h.I.length:=wx _ _ _ _;unfold mh;simp only[az,ao];generalize mq fE.I h.I 0 AY=al at fk hlen⊢;rw[cO]at RA fk
 have kY:∀id,id<h.I.length->eR ρ S.I (ρ.take h.I.length++List.replicate (h.I.length-ρ.length) ⟨none,0,none⟩) al id:=fun id dR aw dQ=>by
  refine⟨adf _ _ _ _ _ dR dQ, ?_⟩;have:=fk.an id (by omega);simpa using this
 have iV:∀b,gJ (ρ.take h.I.length++List.replicate (h.I.length-ρ.length) ⟨none,0,none⟩) al b->gJ ρ S.I b:=fun b ⟨i,aw,aA,aG,bR⟩=>by
  obtain⟨hi,e|⟨_,e⟩⟩:=wT _ _ _ _ _ aA
  ·have:=fk.FY i (by omega);rw[ao8]at this;exact⟨i,aw,e,aG,by rw[<-this];exact bR⟩
  ·rw[e]at aG;cases aG
 have cH:Fr ρ S.I w (ρ.take h.I.length++List.replicate (h.I.length-ρ.length) ⟨none,0,none⟩) al w:=
  ⟨rfl,rfl,rfl,aoH _,fun _ _ _=>rfl,fun b ah=> .inl (iV b ah)⟩
 have sY:∀y u,bA (aL N ρ S.I) w y u->bA (aL N (ρ.take h.I.length++List.replicate (h.I.length-ρ.length) ⟨none,0,none⟩) al) w y u:=fun _ _=>cH.reads
 have aei:∀y u,bA vN w1 y u->bA (aL N (ρ.take h.I.length++List.replicate (h.I.length-ρ.length) ⟨none,0,none⟩) al) w y u:=fun y u ao=>cH.reads (aT y u ao)
 refine⟨⟨?_, ?_,ay.ik⟩,cH⟩
 ·refine{len:=by simp[hlen];omega,fC:=ay.e5.fC,lt:=fun i aw b aA aG=> ?_,inj:=fun i j li cF b aA aG bR cY s1 s2=> ?_,fR:=fun i aw b aA aG=> ?_,ob:=fun i aw aA=> ?_}
  ·obtain⟨_,e|⟨_,e⟩⟩:=wT _ _ _ _ _ aA
   ·exact ay.e5.lt i aw b e aG
   ·rw[e]at aG;cases aG
  ·obtain⟨_,e|⟨_,e⟩⟩:=wT _ _ _ _ _ aA
   ·obtain⟨_,cb|⟨_,cb⟩⟩:=wT _ _ _ _ _ aG
    ·have back:∀i,i<al.length->¬hq al i->¬hq S.I i:=fun i hi aB ⟨f,n,an,q⟩=>by
      have UM:cw al i=true:=by have:=fk.FY i hi;rw[ao8]at this;rw[this];exact f
      have:=fk.Ks i hi UM;rw[ao8]at this;exact aB ⟨UM,n,an,by rw[this];exact q⟩
     exact ay.e5.inj i j li cF b e cb bR cY (back i (by omega) s1) (back j (by omega) s2)
    ·rw[cb]at cY;cases cY
   ·rw[e]at bR;cases bR
  ·obtain⟨_,e|⟨_,e⟩⟩:=wT _ _ _ _ _ aA
   ·exact ay.e5.fR i aw b e aG
   ·rw[e]at aG;cases aG
  ·obtain⟨hi,e⟩:=wT _ _ _ _ _ aA;refine fk.rd i (by omega) _ _ al aw sY kY ?_;rw[ao8];rcases e with e|⟨e,_⟩
   ·exact ay.e5.ob i aw e
   ·have:ag.at S.I i= .gone:=by
     have az:=ay.e5.len;simp only[ag.at,d_,aoC];rw[api (by omega)]
     rfl
    rw[this];trivial
 ·refine RA _ _ al sY aei kY _ ?_;rw[cO];exact abB _ _ _ _ _ _ (by rw[cr];exact Fi.size)
theorem BJ {N:Nat->Prop}{eH ρ:List Loc}{fE S:fQ}{a1 a:Act}{w1 w:World}(wr:Tmp->Bool)(h:Head)(k:dv h.ps->Prop)
 (e_:eN N eH fE.tm fE.I a1 w1) (ay:eN N ρ S.tm S.I a w) (aT:Fr eH fE.I w1 ρ S.I w) (e9:∀t,wr t=false->a.tmps.getD t undef=a1.tmps.getD t undef)
 (cr:a.tmps.size=a1.tmps.size) (ae:sq wr h fE S k):
 ∃x,k x/\∃ρ',eN N ρ' (mh h fE x).tm (mh h fE x).I a w/\Fr ρ S.I w ρ' (mh h fE x).I w:=Nh wr h k e_.eG ay (fun _ _=>aT.reads) e9 cr ae
theorem NO {N:Nat->Prop}{a:Act}{w:World}{ρ:List Loc}{S:fQ}(id:Nat)(h:eN N ρ S.tm S.I a w):eN N ρ S.tm (e7 S.I id) a w/\Fr ρ S.I w ρ (e7 S.I id) w:=by
 have cR:cn N ρ S.I w ρ (e7 S.I id) w:=by unfold e7;rw[e2];exact cn.shut h.e5 id
 exact⟨⟨cR.rel,h.eG.step cR,h.ik⟩,cR.toFr⟩
theorem yB {N:Nat->Prop}{a:Act}{w:World}:∀(c:List (Tmp×b6)) (S:fQ) (ρ:List Loc),eN N ρ S.tm S.I a w->
 eN N ρ (np c S).tm (np c S).I a w/\Fr ρ S.I w ρ (np c S).I w
 |[],S,ρ,h=>⟨h,Fr.refl _ _ _⟩
 |(t,s)::r,S,ρ,h=>by
  unfold np;split
  ·rename_i id he;obtain⟨aa,ad⟩:=NO id h;obtain⟨a7,bl⟩:=yB r ⟨S.tm,e7 S.I id⟩ ρ aa;exact⟨a7,ad.trans bl⟩
  ·exact yB r S ρ h
theorem ua {N:Nat->Prop}{a:Act}{w:World}:∀(c:List (Tmp×b6)) (S:fQ) (ρ:List Loc),eN N ρ S.tm S.I a w->
 ∃ρ',eN N ρ' (iT c S).tm (iT c S).I a w/\Fr ρ S.I w ρ' (iT c S).I w
 |[],S,ρ,h=>⟨ρ,h,Fr.refl _ _ _⟩
 |(t,s)::r,S,ρ,h=>by
  unfold iT;split
  ·rename_i id he;obtain⟨aa,ad⟩:=NO id h;obtain⟨ρ',a7,bl⟩:=ua r ⟨S.tm,e7 S.I id⟩ ρ aa;exact⟨ρ',a7,ad.trans bl⟩
  ·exact ua r S ρ h
  ·rename_i s _ _ he _;have cK:=h.eG.at_ t;rw[<-d_,he]at cK;obtain⟨x,ak⟩:=cK
   have key:∀(ob:ag),(ob= .gone\/(∃k,ob= .af k [])\/∃an,ob= .av an [])->cn N ρ S.I w (ρ++[⟨x,0,none⟩]) (S.I++[(false,ob)]) w:=by
    intro ob aH;exact cn.nil h.e5 false _ x aH
   have cf:uy s= .gone\/(∃k,uy s= .af k [])\/∃an,uy s= .av an []:=by
    cases s with
    |cv k=>exact .inr (.inl ⟨k,rfl⟩)
    |ee an=>exact .inr (.inr ⟨an,rfl⟩)
    |_=>exact .inl rfl
   have cR:=key _ cf;have aeX:(uy s).len=0:=by cases s<;>rfl
   have gB:eN N (ρ++[⟨x,0,none⟩]) (c0 S.tm t (.vec (bV S.I))) (eS S.I [(false,uy s)]) a w:=by
    rw[fZ];refine⟨cR.rel,⟨by rw[e2];simpa using h.eG.size,fun i=> ?_⟩,h.ik⟩;rw[e2,e1];split
    ·rename_i e;rw[<-e.1,ak];refine .dc ⟨⟨x,0,none⟩,by rw[cO,<-h.e5.len];simp, ?_⟩;rw[gM,cO,aoB rfl,aeX];exact⟨rfl,fun _=>rfl⟩
    ·exact(h.eG.step cR).at_ i
   obtain⟨ρ',a7,bl⟩:=ua r ⟨c0 S.tm t (.vec (bV S.I)),eS S.I [(false,uy s)]⟩ _ gB;refine⟨ρ',a7,Fr.trans ?_ bl⟩;rw[fZ];exact cR.toFr
  ·exact ua r S ρ h
end Go.aj
end
section
namespace Go.aj
theorem least (p:Nat->Prop):∀n,p n->∃n,p n/\∀k,p k->n<=k:=by
 intro n
 induction n using Nat.strongRecOn with
 |_ n bM=>
  intro aB;rcases Classical.em (∃k,k<n/\p k)with⟨k,ae,aD⟩|h
  ·exact bM k ae aD
  ·exact⟨n,aB,fun k ae=>Nat.le_of_not_lt fun bG=>h ⟨k,bG,ae⟩⟩
open Classical in
theorem Gw {P:Program}{Q:Exit->Act->World->Prop}{a:Act}{w:World}{c:Code}{α:Type}(aQ:α->Act->World->Prop)(m:α->Nat)(cl:α)(bc:aQ cl a w)
 (round:∀x a w,aQ x a w->c.wp P (Exit.then (fun b5 w'=>∃y,aQ y b5 w'/\m y<m x) Q) a w):(Code.loop c).wp P Q a w:=by
 have hex:∀a w,(∃x,aQ x a w)->∃n,(∃x,aQ x a w/\m x=n)/\∀k,(∃x,aQ x a w/\m x=k)->n<=k:=fun a w ⟨x,ak⟩=>least _ _ ⟨x,ak,rfl⟩
 let AZ:Act->World->Nat:=fun a w=>if h:∃x,aQ x a w then Classical.choose (hex a w h)else 0
 have hle:∀y a w,aQ y a w->AZ a w<=m y:=fun y a w bn=>by
  have h:∃x,aQ x a w:=⟨y,bn⟩
  simp only[AZ,dif_pos h];exact(aq3 (hex a w h)).2 _ ⟨y,bn,rfl⟩
 have cK:∀a w,(∃x,aQ x a w)->∃x,aQ x a w/\m x=AZ a w:=fun a w h=>by
  simp only[AZ,dif_pos h];exact(aq3 (hex a w h)).1
 refine wp_loop (fun a w=>∃x,aQ x a w) AZ ⟨cl,bc⟩ fun a w fO=> ?_;obtain⟨x,ak,hm⟩:=cK a w fO;refine wp_mono (round x a w ak) fun e b5 w' h=> ?_
 cases e with
 |normal=>
  obtain⟨y,bn,bG⟩:=h;exact⟨⟨y,bn⟩,hm▸apN (hle y b5 w' bn) bG⟩
 |_=>exact h
def h_.to:h_->Exit
 | .normal=> .normal
 | .exit i=> .exit i
 | .goto l=> .goto l
 | .ret=> .ret
theorem Hd:∀(dL:List b6) (f:dv dL->Prop),DS dL f->∀x,f x
 |[],_,h,()=>h
 |_::dL,f,h,(x,r)=>Hd dL (fun r=>f (x,r)) (h x) r
section
variable {P:Program} {N:Nat->Prop}
theorem m1.weaken {ρ eH:List Loc}{I c1:aF}{a a1 b5:Act}{w w1 w':World}{wr TI:Tmp->Bool}{K K':List R->aF->Prop}(h:m1 N eH c1 a1 w1 TI K b5 w')
 (aT:Fr ρ I w eH c1 w1) (ay:∀t,wr t=false->TI t=false/\a1.tmps.getD t undef=a.tmps.getD t undef) (cr:a1.tmps.size=a.tmps.size)
 (ae:∀tm I,K tm I->K' tm I):m1 N ρ I a w wr K' b5 w':=by
 obtain⟨ev,al,ρ',a7,bl,bH⟩:=h.ex;exact⟨⟨ev,al,ρ',ae _ _ a7,bl,aT.trans bH⟩,fun t au=>(h.same t (ay t au).1).trans (ay t au).2,h.an.trans cr⟩
theorem OC {ρ:List Loc}{S:fQ}{a:Act}{w:World}(ay:eN N ρ S.tm S.I a w)(c:Operand):bF (aL N ρ S.I) w ρ S.I (a_ S.tm c) (a.eval c):=eA ay.eG c
structure hG (P:Program)(E:bD):Prop where
 ty:∀t,c4 P t (E.tb t)=true
 more:∀t,pV P E.tb t=true
 pf:∀f args I K,E.bx f args I K->yL P f (E.bx f)
 ok:∀f args I K,E.bx f args I K->hF (E.bx f)
 mixed:P.follows .mixedOrders=true
 data:rh E.kind E.bx
theorem He (E:bD)(dO:hG P E)(c:Code):
 ∀(bE:Nat) (S:fQ) (K:h_->fQ->Prop) (a:Act) (w:World) (ρ:List Loc),hT E c bE S K->eN N ρ S.tm S.I a w->
  c.wp P (fun e b5 w'=>∃cb:h_,e=cb.to/\m1 N ρ S.I a w (Code.e8 c) (fun tm I=>K cb ⟨tm,I⟩) b5 w') a w:=by
 obtain⟨bs,Fc,ew,amh,iN,j_⟩:=dO
 have self:∀{ρ:List Loc} {S:fQ} {a:Act} {w:World} {wr:Tmp->Bool} {K:fQ->Prop},eN N ρ S.tm S.I a w->K S->m1 N ρ S.I a w wr (fun tm I=>K ⟨tm,I⟩) a w:=
  fun{ρ S a w wr K} ay ae=>⟨⟨S.tm,S.I,ρ,ae,ay,Fr.refl _ _ _⟩,fun _ _=>rfl,rfl⟩
 induction c with
 |skip=>intro bE S K a w ρ h ay;exact wp_skip ⟨.normal,rfl,self ay h⟩
 |label l=>intro bE S K a w ρ h ay;exact wp_label ⟨.normal,rfl,self ay h⟩
 |exit id=>intro bE S K a w ρ h ay;exact wp_exit ⟨.exit id,rfl,self ay h⟩
 |goto l=>intro bE S K a w ρ h ay;exact wp_goto ⟨.goto l,rfl,self ay h⟩
 |ret=>intro bE S K a w ρ h ay;exact wp_ret ⟨.ret,rfl,self ay h⟩
 |region id ops draw=>
  intro bE S K a w ρ h ay
  cases draw with
  |false=>
   have h:dF E.tb E.bx [] ops.toList ops.toList S.tm S.I (fun tm I=>K .normal ⟨tm,I⟩):=h;refine wp_region (t_ (fun e b5 w' ca=> ?_) _ _ _ (G6 bs Fc ew [] ops (fun i j o p d e id _ _ _ _ h=>by cases h) _ (List.range ops.size) (fun i hi=>by simpa using hi) List.nodup_range S.tm S.I a w ρ (fun i _ o d id _ _ h=>by cases h) (by rw[QE];exact h) ay));obtain⟨rfl,aD⟩:=ca;exact⟨.normal,rfl,aD⟩
  |true=>
   have aC:y1 E.tb ops.toList=true:=by
    cases ak:y1 E.tb ops.toList with
    |true=>rfl
    |false=>simp only[hT,ak]at h
   have h:gk E.tb E.bx E.kind (ui (oN E.tb ops.toList) (bV S.I)) ops.toList (uw ops.toList []) [] (indexed ops.toList 0) S.tm (eS S.I (uT (false, .gone) (bV (oN E.tb ops.toList)))) fun tm I=>K .normal ⟨tm,I⟩:=by
    simp only[hT,aC]at h;exact h
   refine wp_region_draw fun t=> ?_;obtain⟨zH,hi,vk,ae⟩:=drawn (tb:=E.tb) j_ amh aC _ rfl (P.follows .mixedOrders) iN t;have cR:cn N ρ S.I w ρ S.I {w with drawn:=w.drawn+1}:=cn.drew ay.e5 rfl rfl rfl rfl;have ajm:=Oy (bV (oN E.tb ops.toList)) _ _ cR.rel;have zK:=cR.trans ajm;rw[fZ,HP]at h
   have aeY:zG (ui (oN E.tb ops.toList) (bV S.I)) ops (Region.schedule (P.follows .mixedOrders) ops t) (ρ++List.replicate (bV (oN E.tb ops.toList)) n6):=by
    intro i _ o d id _ _ aV;obtain⟨_,g1,g2,_⟩:=Bo _ _ _ _ aV;rw[cO]at g1 g2;have az:=ay.e5.len;rw[apQ (by omega),ap6,aoB (by rw[cO];omega)]
   refine t_ (fun e b5 w' ca=> ?_) _ _ _ (G6 bs Fc ew _ ops zH _ _ hi vk S.tm _ a {w with drawn:=w.drawn+1} _ aeY (ae _ _ _ h) ⟨zK.rel,ay.eG.step zK,ay.ik⟩);obtain⟨rfl,aD⟩:=ca;exact⟨.normal,rfl,aD.weaken zK.toFr (fun _ au=>⟨au,rfl⟩) rfl fun _ _ h=>h⟩
 |seq x y rR rS=>
  intro bE S K a w ρ h ay
  have hW:∀t,Code.e8 (.seq x y) t=false->Code.e8 x t=false/\Code.e8 y t=false:=fun t au=>by
   simpa[Code.e8,Bool.or_eq_false_iff]using au
  unfold hT at h;split at h
  ·refine wp_seq (wp_mono (rR bE S _ a w ρ h ay) fun e a1 w1 ca=> ?_);obtain⟨cb,rfl,aD⟩:=ca
   cases cb with
   |normal=>
    obtain⟨gY,c1,eH,a7,bl,bH⟩:=aD.ex;refine wp_mono (rS bE ⟨gY,c1⟩ K a1 w1 eH a7 bl) fun e a2 dq ca=> ?_;obtain⟨cb,rfl,Ao⟩:=ca;exact⟨cb,rfl,Ao.weaken bH (fun t au=>⟨(hW t au).2,aD.same t (hW t au).1⟩) aD.an fun _ _ h=>h⟩
   |exit i=>exact⟨.exit i,rfl,aD.weaken (Fr.refl _ _ _) (fun t au=>⟨(hW t au).1,rfl⟩) rfl fun _ _ h=>h⟩
   |goto l=>exact⟨.goto l,rfl,aD.weaken (Fr.refl _ _ _) (fun t au=>⟨(hW t au).1,rfl⟩) rfl fun _ _ h=>h⟩
   |ret=>exact⟨.ret,rfl,aD.weaken (Fr.refl _ _ _) (fun t au=>⟨(hW t au).1,rfl⟩) rfl fun _ _ h=>h⟩
  ·rename_i aY aK;obtain⟨J,aa,ad⟩:=h;obtain⟨ix,eX,tn⟩:=ua aY.conv S ρ ay
   refine wp_seq (wp_mono (rR bE _ _ a w ix aa eX) fun e a1 w1 ca=> ?_);obtain⟨cb,rfl,aD⟩:=ca
   cases cb with
   |normal=>
    obtain⟨gY,c1,eH,a7,bl,bH⟩:=aD.ex;obtain⟨g1,g2⟩:=yB aY.conv ⟨gY,c1⟩ eH bl
    obtain⟨z,bm,dN,lN,rL⟩:=BJ (S:=np aY.conv ⟨gY,c1⟩) _ aY _ eX g1 (bH.trans g2) aD.same aD.an a7;refine wp_mono (rS bE _ K a1 w1 dN (Hd _ _ ad z bm) lN) fun e a2 dq ca=> ?_;obtain⟨cb,rfl,Ao⟩:=ca;exact⟨cb,rfl,Ao.weaken (tn.trans ((bH.trans g2).trans rL)) (fun t au=>⟨(hW t au).2,aD.same t (hW t au).1⟩) aD.an fun _ _ h=>h⟩
   |exit i=>exact⟨.exit i,rfl,aD.weaken tn (fun t au=>⟨(hW t au).1,rfl⟩) rfl fun _ _ h=>h⟩
   |goto l=>exact⟨.goto l,rfl,aD.weaken tn (fun t au=>⟨(hW t au).1,rfl⟩) rfl fun _ _ h=>h⟩
   |ret=>exact⟨.ret,rfl,aD.weaken tn (fun t au=>⟨(hW t au).1,rfl⟩) rfl fun _ _ h=>h⟩
 |cond c x y rR rS=>
  intro bE S K a w ρ h ay
  have hW:∀t,Code.e8 (.cond c x y) t=false->Code.e8 x t=false/\Code.e8 y t=false:=fun t au=>by
   simpa[Code.e8,Bool.or_eq_false_iff]using au
  have cK:=OC ay c;unfold hT at h
  have tJ:∀fE,fE.I=S.I->hT E x bE fE K->eN N ρ fE.tm fE.I a w->x.wp P (fun e b5 w'=>∃cb:h_,e=cb.to/\m1 N ρ S.I a w (Code.e8 (.cond c x y)) (fun tm I=>K cb ⟨tm,I⟩) b5 w') a w:=fun fE aH h ay=>by
   refine wp_mono (rR bE fE K a w ρ h ay) fun e b5 w' ca=> ?_;obtain⟨cb,rfl,aD⟩:=ca;exact⟨cb,rfl,aD.weaken (by rw[aH];exact Fr.refl _ _ _) (fun t au=>⟨(hW t au).1,rfl⟩) rfl fun _ _ h=>h⟩
  have UN:∀fE,fE.I=S.I->hT E y bE fE K->eN N ρ fE.tm fE.I a w->y.wp P (fun e b5 w'=>∃cb:h_,e=cb.to/\m1 N ρ S.I a w (Code.e8 (.cond c x y)) (fun tm I=>K cb ⟨tm,I⟩) b5 w') a w:=fun fE aH h ay=>by
   refine wp_mono (rS bE fE K a w ρ h ay) fun e b5 w' ca=> ?_;obtain⟨cb,rfl,aD⟩:=ca;exact⟨cb,rfl,aD.weaken (by rw[aH];exact Fr.refl _ _ _) (fun t au=>⟨(hW t au).2,rfl⟩) rfl fun _ _ h=>h⟩
  split at h
  ·rename_i he;rw[he]at cK;exact wp_cond_true cK (tJ S rfl h ay)
  ·rename_i he;rw[he]at cK;exact wp_cond_false cK (UN S rfl h ay)
  ·rename_i b he;rw[he]at cK;have ah:=mL cK;split at h
   ·rename_i t;have hI:=Da ay t ah
    cases b with
    |true=>exact wp_cond_true ah (tJ ⟨c0 S.tm t .bt,S.I⟩ rfl (h.1 rfl) hI)
    |false=>exact wp_cond_false ah (UN ⟨c0 S.tm t .bf,S.I⟩ rfl (h.2 rfl) hI)
   ·exact h.elim
  ·exact h.elim
 |block id c bM=>
  intro bE S K a w ρ h ay;unfold hT at h;refine wp_block (wp_mono (bM id S _ a w ρ h ay) fun e b5 w' ca=> ?_);obtain⟨cb,rfl,aD⟩:=ca
  cases cb with
  |normal=>exact⟨.normal,rfl,aD⟩
  |goto l=>exact⟨.goto l,rfl,aD⟩
  |ret=>exact⟨.ret,rfl,aD⟩
  |exit i=>
   simp only at aD;show(if i=id then _ else _);split
   ·rename_i hi;subst hi;simp only[apB]at aD;exact⟨.normal,rfl,aD⟩
   ·rename_i hi
    have:Nat.beq i id=false:=by
     cases ah:Nat.beq i id with
     |false=>rfl
     |true=>exact absurd (aoE ah) hi
    simp only[this]at aD;exact⟨.exit i,rfl,aD⟩
 |loop c bM=>
  intro bE S K a w ρ h ay;unfold hT at h;simp only at h;obtain⟨aQ,m,bc,aa⟩:=h;obtain⟨ix,eX,tn⟩:=ua (E.loops bE).conv S ρ ay
  obtain⟨cl,kX,eH,e_,xG⟩:=BJ (fun _=>false) _ _ eX eX (Fr.refl _ _ _) (fun _ _=>rfl) rfl bc
  refine Gw (fun x b5 w'=>lJ.app _ aQ x/\∃ρ',eN N ρ' (mh (E.loops bE) (iT (E.loops bE).conv S) x).tm (mh (E.loops bE) (iT (E.loops bE).conv S) x).I b5 w'/\
   Fr ix (iT (E.loops bE).conv S).I w ρ' (mh (E.loops bE) (iT (E.loops bE).conv S) x).I w'/\(∀t,Code.e8 c t=false->b5.tmps.getD t undef=a.tmps.getD t undef)/\b5.tmps.size=a.tmps.size)
   (lJ.app _ m) cl ⟨kX,eH,e_,xG,fun _ _=>rfl,rfl⟩ ?_
  rintro x a1 w1 ⟨fO,dN,lN,rL,kY,cr⟩;refine wp_mono (bM bE _ _ a1 w1 dN (Hd _ _ aa x fO) lN) fun e a2 dq ca=> ?_;obtain⟨cb,rfl,aD⟩:=ca
  have hw:∀t,Code.e8 (.loop c) t=false->Code.e8 c t=false/\a1.tmps.getD t undef=a.tmps.getD t undef:=fun t au=>⟨au,kY t au⟩
  cases cb with
  |normal=>
   obtain⟨TJ,SI,ajn,a7,bl,bH⟩:=aD.ex;obtain⟨g1,g2⟩:=yB (E.loops bE).conv ⟨TJ,SI⟩ ajn bl
   obtain⟨y,bn,JG,JH,Fj⟩:=BJ (S:=np (E.loops bE).conv ⟨TJ,SI⟩) (Code.e8 c) _ _ eX g1 ((rL.trans bH).trans g2) (fun t au=>(aD.same t au).trans (kY t au)) (aD.an.trans cr) a7;exact⟨y,⟨bn.1,JG,JH,((rL.trans bH).trans g2).trans Fj,fun t au=>(aD.same t au).trans (kY t au),aD.an.trans cr⟩,bn.2⟩
  |exit i=>exact⟨.exit i,rfl,aD.weaken (tn.trans rL) hw cr fun _ _ h=>h⟩
  |goto l=>exact⟨.goto l,rfl,aD.weaken (tn.trans rL) hw cr fun _ _ h=>h⟩
  |ret=>exact⟨.ret,rfl,aD.weaken (tn.trans rL) hw cr fun _ _ h=>h⟩
 |scope c bM=>
  intro bE S K a w ρ h ay;unfold hT at h;refine wp_scope_straight (wp_mono (bM bE S _ a w ρ h ay) fun e b5 w' ca=> ?_);obtain⟨cb,rfl,aD⟩:=ca
  cases cb with
  |normal=>exact⟨.normal,rfl,aD⟩
  |exit i=>exact⟨.exit i,rfl,aD⟩
  |ret=>exact⟨.ret,rfl,aD⟩
  |goto l=>
   obtain⟨_,_,_,k,_⟩:=aD.ex;exact k.elim
 |_=>intro bE S K a w ρ h ay;exact h.elim
end
end Go.aj
end
section
namespace Go.aj
def su:List bb->R->Bool
 |[_],v=>v.plain
 |_, .tup l=>ef R.plain l
 |_,_=>false
def ns (ts:List bb)(K:R->Prop):R->aF->Prop:=fun r I=>match su ts (mi I ts r)with|true=>K (mi I ts r)|false=>False
theorem NP {ps:List bb}{T:List R->(R->Prop)->Prop}(h:lO T):hF (iU ps T):=by
 refine⟨fun args I K K' ae bs=> ?_,fun args I K bs=> ?_⟩
 ·unfold iU at bs⊢;split
  ·rename_i aa ad;rw[aa,ad]at bs;exact h.1 _ _ _ (fun r=>ae r _) bs
  ·rename_i ak;split at bs
   ·rename_i aa ad;exact(ak aa ad).elim
   ·exact bs
 ·unfold iU at bs;split at bs
  ·obtain⟨r,ao⟩:=h.2 _ _ bs;exact⟨r,_,ao⟩
  ·exact bs.elim
section
variable {N:Nat->Prop} {ρ:List Loc} {I:aF} {w:World}
def xc (id:Nat):R->Prop
 | .vec i=>i=id
 | .agg l=>∃i,i<l.length/\l.getD i .un= .vec id
 |_=>False
theorem Ni (I:aF)(id i:Nat):ag.at (e7 I id) i=ag.at I i:=by
 unfold e7;rw[e2,gN];split
 ·rename_i e;rw[e.1]
 ·rfl
theorem BD (I:aF)(id i:Nat)(h:i=id\/cw I i=true):cw (e7 I id) i=true:=by
 unfold e7;rw[e2,ir];split
 ·rfl
 ·rename_i e;rcases h with rfl|h
  ·simp only[true_and,Nat.not_lt]at e;simp only[cw,d_,aoC];rw[api e];rfl
  ·exact h
theorem Ms (h:ct N ρ I w)(id:Nat):cn N ρ I w ρ (e7 I id) w:=by
 unfold e7;rw[e2];exact cn.shut h id
theorem MX:∀(l:List R) (I:aF),ct N ρ I w->cn N ρ I w ρ (ur I l) w/\(∀i,ag.at (ur I l) i=ag.at I i)/\(∀i,cw I i=true->cw (ur I l) i=true)/\
 ∀j id,j<l.length->l.getD j .un= .vec id->cw (ur I l) id=true
 |[],I,h=>⟨cn.refl h,fun _=>rfl,fun _ h=>h,fun j id aK=>by simp at aK⟩
 |v::aI,I,h=>by
  have aM:cn N ρ I w ρ (lr I v) w/\(∀i,ag.at (lr I v) i=ag.at I i)/\(∀i,cw I i=true->cw (lr I v) i=true)/\∀id,v= .vec id->cw (lr I v) id=true:=by
   cases v with
   |vec id=>exact⟨Ms h id,Ni I id,fun i hi=>BD I id i (.inr hi),fun j5 e=>by cases e;exact BD I id id (.inl rfl)⟩
   |_=>exact⟨cn.refl h,fun _=>rfl,fun _ h=>h,fun id e=>by cases e⟩
  obtain⟨aa,ad,ax,aV⟩:=aM;obtain⟨a7,bl,bH,dJ⟩:=MX aI (lr I v) aa.rel;refine⟨aa.trans a7,fun i=>(bl i).trans (ad i),fun i hi=>bH i (ax i hi),fun j id aK aM=> ?_⟩
  cases j with
  |zero=>exact bH id (aV id (by simpa using aM))
  |succ j=>exact dJ j id (by simpa using aK) (by simpa using aM)
theorem XV (h:ct N ρ I w)(v:R):cn N ρ I w ρ (freeze I v) w/\(∀i,ag.at (freeze I v) i=ag.at I i)/\(∀i,cw I i=true->cw (freeze I v) i=true)/\
 ∀id,xc id v->cw (freeze I v) id=true:=by
 cases v with
 |vec id=>exact⟨Ms h id,Ni I id,fun i hi=>BD I id i (.inr hi),fun j5 e=>by cases e;exact BD I id id (.inl rfl)⟩
 |agg l=>
  obtain⟨aa,ad,ax,aV⟩:=MX l I h;exact⟨aa,ad,ax,fun id ⟨i,hi,e⟩=>aV i id hi e⟩
 |_=>exact⟨cn.refl h,fun _=>rfl,fun _ h=>h,fun id e=>e.elim⟩
theorem pG:∀(l:List R) (I:aF),ct N ρ I w->cn N ρ I w ρ (cD I l) w/\(∀i,ag.at (cD I l) i=ag.at I i)/\(∀i,cw I i=true->cw (cD I l) i=true)/\
 ∀j id,j<l.length->xc id (l.getD j .un)->cw (cD I l) id=true
 |[],I,h=>⟨cn.refl h,fun _=>rfl,fun _ h=>h,fun j id aK=>by simp at aK⟩
 |v::aI,I,h=>by
  obtain⟨aa,ad,ax,aV⟩:=XV h v;obtain⟨a7,bl,bH,dJ⟩:=pG aI (freeze I v) aa.rel;refine⟨aa.trans a7,fun i=>(bl i).trans (ad i),fun i hi=>bH i (ax i hi),fun j id aK aM=> ?_⟩
  cases j with
  |zero=>exact bH id (aV id (by simpa using aM))
  |succ j=>exact dJ j id (by simpa using aK) (by simpa using aM)
theorem abC (h:ct N ρ I w){id:Nat}{aw:Loc}(az:ρ[id]? =some aw)(aT:cw I id=true):
 bA (aL N ρ I) w (ag.at I id).data (.slice aw.a (ag.at I id).len aw.cap):=by
 cases aH:ag.at I id with
 |af k l=>have:=qN h az aT (t:= .aE (.cv k)) (by rw[aH];exact jt.2 rfl);rw[aH]at this;exact this
 |av an l=>have:=qN h az aT (t:= .aE (.ee an)) (by rw[aH];exact apB an);rw[aH]at this;exact this
 |_=>exact .undef _ rfl
theorem Nj (h:ct N ρ I w){ea:aF}(cK:∀i,ag.at I i=ag.at ea i)(s:b6){t:R}{u:Value}(au:eE (aL N ρ I) w ρ I t u)(aT:∀id,t= .vec id->cw I id=true):
 eE (aL N ρ I) w ρ I (s.norm ea t) u:=by
 have vec:∀id,t= .vec id->eE (aL N ρ I) w ρ I (.d (ag.at ea id).data) u:=fun id e=>by
  subst e;obtain⟨aw,az,hu,_⟩:=au;rw[hu,<-cK];exact abC h az (aT id rfl)
 unfold b6.norm;split
 ·obtain⟨a,rfl⟩:=au;exact .jj _ _ _
 ·exact vec _ rfl
 ·obtain⟨a,rfl⟩:=au;exact .kO _ _ _
 ·exact vec _ rfl
 ·have au:u= .bool true:=au;subst au;exact .bool true
 ·have au:u= .bool false:=au;subst au;exact .bool false
 ·exact au
theorem OD (ea:aF):∀(cs:List b6) (aI:List R) (i:Nat),i<aI.length->(iF ea cs aI).getD i .un=aI.getD i .un\/∃s:b6,(iF ea cs aI).getD i .un=s.norm ea (aI.getD i .un)
 |[],aI,i,h=>by cases aI<;>exact .inl rfl
 |s::dL,[],i,h=>by simp at h
 |s::dL,v::aI,0,h=> .inr ⟨s,rfl⟩
 |s::dL,v::aI,i+1,h=>by
  have:=OD ea dL aI i (by simpa using h);simpa[iF]using this
theorem Mt (h:ct N ρ I w){ea:aF}(cK:∀i,ag.at I i=ag.at ea i)(cs:List b6){l:List R}{u:Value}(au:iq (aL N ρ I) w ρ I (.agg l) u)(aT:∀id,xc id (.agg l)->cw I id=true):
 iq (aL N ρ I) w ρ I (.agg (iF ea cs l)) u:=by
 obtain⟨a,aa,ad,ax⟩:=au;refine⟨a,aa,by rw[yz];exact ad,fun i hi=> ?_⟩;rw[yz]at hi;rcases OD ea cs l i hi with e|⟨s,e⟩
 ·rw[e];exact ax i hi
 ·rw[e];exact Nj h cK s (ax i hi) fun id dR=>aT id ⟨i,hi,dR⟩
theorem YH (h:ct N ρ I w){ea:aF}(cK:∀i,ag.at I i=ag.at ea i)(t:bb){v:R}{u:Value}(au:iq (aL N ρ I) w ρ I v u)(aT:∀id,xc id v->cw I id=true):
 iq (aL N ρ I) w ρ I (t.norm ea v) u:=by
 cases t with
 |aE s=>
  cases v with
  |agg l=>cases s<;>exact au
  |rw r=>cases s<;>exact au
  |tup l=>exact au.elim
  |_=>exact .dc (Nj h cK s au fun id e=>aT id (by rw[e];rfl))
 |struct bW cs=>
  cases v with
  |agg l=>exact Mt h cK cs au aT
  |_=>exact au
 |arr n e cs=>
  cases v with
  |agg l=>exact Mt h cK cs au aT
  |_=>exact au
 |no=>cases v<;>exact au
theorem pH {Z Z':Nat->Prop}{w w':World}{ρ ρ':List Loc}{I al:aF}{v:R}{u:Value}(aD:v.plain=true)(h:iq Z w ρ I v u)(ao:∀x u,bA Z w x u->bA Z' w' x u):
 iq Z' w' ρ' al v u:=h.mono ao fun id aB=>(Ng (id:=id) aD (by
  cases v with
  |tup l=>exact h.elim
  |_=>exact aB)).elim
theorem cn.more {w':World}(h:ct N ρ I w)(aa:w'.os=w.os)(ad:w'.tape=w.tape)(ax:w'.output=w.output)(ay:w.heap.size<=w'.heap.size)
 (ae:∀b,b<w.heap.size->w'.heap[b]? =w.heap[b]?):cn N ρ I w ρ I w':=by
 have cH:Fr ρ I w ρ I w':=⟨aa,ad,ax,ay,fun b ah _=>ae b ah,fun b ah=> .inl ah⟩;exact{cH with rel:=h.tc cH h.len (fun _ _ _ _ i _ _=>eR.refl ρ I i) (fun i l az=> .inl ⟨az,rfl,id,fun b ah=>ae b (h.lt i l b az ah)⟩),same:=eR.refl ρ I}
end
theorem wo {tb:TypeId->b4}{tm:List R}{I:aF}:∀{rvs:List ResultVar},q5 tb tm I rvs=true->ln tb tm I rvs=true/\jV tb tm I rvs=[]
 |[],_=>⟨rfl,rfl⟩
 | .tmp t::r,h=>wo (rvs:=r) h
 | .cell a t::r,h=>by
  unfold q5 at h;split at h
  ·rename_i id off v al aa ad;obtain⟨a7,bl⟩:=wo (rvs:=r) h;refine⟨by unfold ln;rw[ad,aa];exact a7, ?_⟩;show(match h7 (tb t).ty (b8 .un tm a) I with| .a6 s _ _=>eS s (jV tb tm I r)|_=>jV tb tm I r)=[];rw[ad];exact bl
  ·cases h
theorem BE {P:Program}(E:bD)(dO:hG P E){fn:Func}{rvs:List ResultVar}(h:fn.results=rvs.toArray){N:Nat->Prop}{ρ:List Loc}{tm:List R}{I:aF}{a:Act}{w:World}
 (ay:eN N ρ tm I a w) (bg:ln E.tb tm I rvs=true) (qq:∀p∈jV E.tb tm I rvs,p):
 ∃aI:List Value,(results fn a.tmps).run P w= .ok (if rvs.length=1 then aI.getD 0 undef else .tuple aI.toArray) w/\aI.length=rvs.length/\(gU E.tb tm I rvs).length=rvs.length/\
  ∀i,bF (aL N ρ I) w ρ I ((gU E.tb tm I rvs).getD i .un) (aI.getD i undef):=by
 have key:∀g:ResultVar->Sem Value,(∀t,g (.tmp t)=pure (a.tmps.getD t undef))->(∀x t,g (.cell x t)=do loadVar t (<-asAddr (a.tmps.getD x undef)))->
  ∀rvs:List ResultVar,ln E.tb tm I rvs=true->(∀p∈jV E.tb tm I rvs,p)->∃aI:List Value,(rvs.mapM g).run P w= .ok aI w/\aI.length=rvs.length/\(gU E.tb tm I rvs).length=rvs.length/\
   ∀i,bF (aL N ρ I) w ρ I ((gU E.tb tm I rvs).getD i .un) (aI.getD i undef):=by
  intro g g1 g2 rvs
  induction rvs with
  |nil=>exact fun _ _=>⟨[],by simp,rfl,rfl,fun i=>by show bF _ _ _ _ (([]:List R).getD i .un) _;simpa using bF.un⟩
  |cons r rs bM=>
   intro bg qq
   have aY:∃u,(g r).run P w= .ok u w/\∃x,gU E.tb tm I (r::rs)=x::gU E.tb tm I rs/\bF (aL N ρ I) w ρ I x u/\ln E.tb tm I rs=true/\∀p∈jV E.tb tm I rs,p:=by
    cases r with
    |tmp t=>exact⟨_,by rw[g1];rfl,_,rfl,by rw[d_];exact ay.eG.at_ t,bg,qq⟩
    |cell x t=>
     have run:∀s v al,h7 (E.tb t).ty (b8 .un tm x) I= .a6 s v al->(∃b off,a.tmps.getD x undef= .pointer (some ⟨b,off,none⟩))->ln E.tb tm I rs=true->
      ∃u,(g (.cell x t)).run P w= .ok u w/\∃y,gU E.tb tm I (.cell x t::rs)=y::gU E.tb tm I rs/\bF (aL N ρ I) w ρ I y u/\ln E.tb tm I rs=true/\∀p∈jV E.tb tm I rs,p:=fun s v al az ⟨b,off,hu⟩ bg=>by
      have ajo:jV E.tb tm I (.cell x t::rs)=s++jV E.tb tm I rs:=by
       show(match h7 (E.tb t).ty (b8 .un tm x) I with| .a6 s _ _=>eS s (jV E.tb tm I rs)|_=>jV E.tb tm I rs)=_;rw[az,<-fZ]
      rw[ajo]at qq;obtain⟨u,_,bl,bH⟩:=GC (dO.ty t) ay.e5 (op:= .tmp x) ay.eG (by rw[show a_ tm (.tmp x)=b8 .un tm x from rfl];exact az) (fun p aD=>qq p (List.mem_append_left _ aD));refine⟨u, ?_,v, ?_,bH,bg,fun p aD=>qq p (List.mem_append_right _ aD)⟩
      ·rw[g2,hu];rw[show a.eval (.tmp x)=a.tmps.getD x undef from rfl,hu]at bl;simpa[Instr.loadAt,Instr.sureAddr,asAddr]using bl
      ·show(match h7 (E.tb t).ty (b8 .un tm x) I with| .a6 _ v _=>v|_=> .any)::_=_;rw[az]
     have pc:=ay.eG.at_ x;rw[<-d_]at pc;unfold ln at bg;split at bg
     ·rename_i id off s v al ak az;rw[ak]at pc;obtain⟨aw,b,_,_,_,hu⟩:=pc;exact run _ _ _ az ⟨_,_,hu⟩ bg
     ·rename_i id q off s v al ak az;rw[ak]at pc;obtain⟨aw,b,_,_,_,hu,_⟩:=pc;exact run _ _ _ az ⟨_,_,hu⟩ bg
     ·cases bg
   obtain⟨u,aa,x,ad,ax,aV,bp⟩:=aY;obtain⟨aI,i1,i2,i3,i4⟩:=bM aV bp;refine⟨u::aI, ?_,by simp[i2],by rw[ad];simp[i3],fun i=> ?_⟩
   ·simp[List.mapM_cons,aa,i1]
   ·rw[ad]
    cases i with
    |zero=>exact ax
    |succ i=>simpa using i4 i
 let g:ResultVar->Sem Value:=fun r=>match r with| .tmp t=>pure (a.tmps.getD t undef)| .cell x t=>do loadVar t (<-asAddr (a.tmps.getD x undef))
 have e:results fn a.tmps=(do let aI<-fn.results.mapM g;pure (if h:aI.size=1 then aI[0]else .tuple aI)):=by
  unfold results
  rfl
 obtain⟨aI,aa,ad,ax,aV⟩:=key g (fun _=>rfl) (fun _ _=>rfl) rvs bg qq;refine⟨aI, ?_,ad,ax,aV⟩;rw[e,h,List.mapM_toArray];simp only[Sem.run_bind,Sem.run_map,aa,Result.andThen_ok]
 match aI,rvs,ad with
 |[],[],_=>rfl
 |[u],[_],_=>rfl
 |_::_::_,_::_::_,_=>
  rw[dif_neg (by simp),aoA (by simp)];rfl
theorem n0 {α:Type}{f:α->Bool}{l:List α}(h:ef f l=true)(d:α)(i:Nat)(hi:i<l.length):f (l.getD i d)=true:=by
 rw[fH,aoU]at h;have:l.getD i d=l[i]:=by simp[aoC,hi]
 rw[this];exact h _ (apJ hi)
theorem qS (I:aF):∀(ts:List bb) (aI:List R),ts.length=aI.length->(bb.eV I ts aI).length=aI.length
 |[],[],_=>rfl
 |[],_::_,h=>by simp at h
 |_::_,[],h=>by simp at h
 |t::ts,v::aI,h=>apg (·+1) (qS I ts aI (by simpa using h))
theorem qT (I:aF):∀(ts:List bb) (aI:List R),ts.length=aI.length->∀i,i<aI.length->∃t:bb,(bb.eV I ts aI).getD i .un=t.norm I (aI.getD i .un)
 |[],[],_,i,hi=>by simp at hi
 |[],_::_,h,_,_=>by simp at h
 |_::_,[],h,_,_=>by simp at h
 |t::ts,v::aI,h,0,_=>⟨t,rfl⟩
 |t::ts,v::aI,h,i+1,hi=>by
  obtain⟨t',e⟩:=qT I ts aI (by simpa using h) i (by simpa using hi);exact⟨t',by simpa[bb.eV]using e⟩
theorem abD (I:aF)(t:bb)(l:List R):(t.norm I (.tup l))= .tup l:=by
 cases t with
 |aE s=>cases s<;>rfl
 |_=>rfl
theorem pI {N:Nat->Prop}{ρ:List Loc}{I:aF}{w:World}(h:ct N ρ I w){ea:aF}(cK:∀i,ag.at I i=ag.at ea i)(t:bb){v:R}{u:Value}(aD:(t.norm ea v).plain=true)
 (au:bF (aL N ρ I) w ρ I v u) (aT:∀id,xc id v->cw I id=true):iq (aL N ρ I) w ρ I (t.norm ea v) u:=by
 refine YH h cK t ?_ aT
 cases v with
 |tup l=>rw[abD]at aD;cases aD
 |_=>exact au
section
variable {P:Program}
def pg (P:Program)(c:Code)(S:fQ)(K:h_->fQ->Prop):Prop:=
 ∀(N:Nat->Prop) (a:Act) (w:World) (ρ:List Loc),eN N ρ S.tm S.I a w->c.wp P (fun e b5 w'=>∃cb:h_,e=cb.to/\m1 N ρ S.I a w (Code.e8 c) (fun tm I=>K cb ⟨tm,I⟩) b5 w') a w
def agr (E:bD)(rvs:List ResultVar)(K:R->aF->Prop):h_->fQ->Prop:=fun e S=>
 match e with
 | .normal| .ret=>(match ln E.tb S.tm S.I rvs with|true=>gO (jV E.tb S.tm S.I rvs) (K (one (gU E.tb S.tm S.I rvs)) S.I)|false=>False)
 |_=>False
theorem pg.of (E:bD)(dO:hG P E){c:Code}{bE:Nat}{S:fQ}{K:h_->fQ->Prop}(h:hT E c bE S K):pg P c S K:=fun _ a w ρ ay=>He E dO c bE S K a w ρ h ay
theorem XW (E:bD)(dO:hG P E)
 {f:FuncId} {fn:Func} {c:Code} (aT:P.funcs[f]? =some fn) (ah:fn.body=some c) {rvs:List ResultVar} (ao:fn.results=rvs.toArray)
 {N:Nat->Prop} {ρ:List Loc} {I:aF} {w:World} {args:List R} {cq:Array Value} {K:R->aF->Prop} (h:pg P c ⟨pad fn.ntmps args,I⟩ (agr E rvs K)) (aH:ct N ρ I w)
 (az:args.length=cq.size) (aS:∀i,i<args.length->bF (aL N ρ I) w ρ I (args.getD i .un) (cq.getD i undef)):
 Calls P f cq w fun e w'=>∃(rs:List R) (al:aF) (ρ':List Loc) (aI:List Value),e= .returned (if rvs.length=1 then aI.getD 0 undef else .tuple aI.toArray)/\rs.length=rvs.length/\aI.length=rvs.length/\
  K (one rs) al/\ct N ρ' al w'/\Fr ρ I w ρ' al w'/\∀i,bF (aL N ρ' al) w' ρ' al (rs.getD i .un) (aI.getD i undef):=by
 refine calls_of_wp aT ah ?_
 have ay:eN N ρ (pad fn.ntmps args) I {tmps:=cq++Array.replicate (fn.ntmps-cq.size) undef,defers:=[]} w:=by
  refine⟨aH,⟨by rw[sL];simp[az],fun t=> ?_⟩,rfl⟩;rw[sL]
  by_cases au:t<args.length
  ·have aA:(args++List.replicate (fn.ntmps-args.length) R.un).getD t .un=args.getD t .un:=by simp[aoC,apy au]
   have aG:(cq++Array.replicate (fn.ntmps-cq.size) undef).getD t undef=cq.getD t undef:=by simp[aoJ,aq2 (show t<cq.size by omega)]
   rw[aA,aG];exact aS t au
  ·have aA:(args++List.replicate (fn.ntmps-args.length) R.un).getD t .un= .un:=by
    rw[aoC,apQ (by omega),ap6];split<;>rfl
   have aG:(cq++Array.replicate (fn.ntmps-cq.size) undef).getD t undef=undef:=by
    rw[aoJ,Array.getElem?_append_right (by omega),Array.getElem?_replicate];split<;>rfl
   rw[aA,aG];exact bF.un
 refine wp_mono (h N _ w ρ ay) fun e b5 w' ca=> ?_;obtain⟨cb,rfl,aD⟩:=ca;obtain⟨ev,al,ρ',a7,bl,bH⟩:=aD.ex
 have fin:(match ln E.tb ev al rvs with|true=>gO (jV E.tb ev al rvs) (K (one (gU E.tb ev al rvs)) al)|false=>False)->b5.defers=[]/\∃v,(results fn b5.tmps).run P w'= .ok v w'/\
  ∃(rs:List R) (al:aF) (ρ':List Loc) (aI:List Value),Ending.returned v= .returned (if rvs.length=1 then aI.getD 0 undef else .tuple aI.toArray)/\rs.length=rvs.length/\aI.length=rvs.length/\
  K (one rs) al/\ct N ρ' al w'/\Fr ρ I w ρ' al w'/\∀i,bF (aL N ρ' al) w' ρ' al (rs.getD i .un) (aI.getD i undef):=fun ae=>by
  split at ae;rotate_left
  ·exact ae.elim
  rename_i bg;rw[ho]at ae;obtain⟨qq,ae⟩:=ae;obtain⟨aI,dG,dD,ei,lf⟩:=BE E dO ao bl bg qq;exact⟨bl.ik,_,dG,_,al,ρ',aI,rfl,ei,dD,ae,bl.e5,bH,lf⟩
 cases cb with
 |normal=>exact fin a7
 |ret=>exact fin a7
 |_=>exact a7.elim
theorem yu (E:bD)(dO:hG P E)
 {f:FuncId} {fn:Func} {c:Code} (aT:P.funcs[f]? =some fn) (ah:fn.body=some c) {rvs:List ResultVar} (ao:fn.results=rvs.toArray)
 {N:Nat->Prop} {ρ:List Loc} {I:aF} {w:World} {args:List R} {cq:Array Value} {K:R->aF->Prop} (h:mP E fn.ntmps rvs c args I K) (aH:ct N ρ I w)
 (az:args.length=cq.size) (aS:∀i,i<args.length->bF (aL N ρ I) w ρ I (args.getD i .un) (cq.getD i undef)):
 Calls P f cq w fun e w'=>∃(rs:List R) (al:aF) (ρ':List Loc) (aI:List Value),e= .returned (if rvs.length=1 then aI.getD 0 undef else .tuple aI.toArray)/\rs.length=rvs.length/\aI.length=rvs.length/\
  K (one rs) al/\ct N ρ' al w'/\Fr ρ I w ρ' al w'/\∀i,bF (aL N ρ' al) w' ρ' al (rs.getD i .un) (aI.getD i undef):=by
 refine XW E dO aT ah ao (.of E dO (bE:=1000000) ?_) aH az aS;unfold mP at h;exact h
end
end Go.aj
end
section
namespace Go.aj
section
variable {P:Program}
theorem OE {f:FuncId}{fn:Func}{c:Code}(aT:P.funcs[f]? =some fn)(ah:fn.body=some c)(aB:(fn.name== "runtime.NumGoroutine")=false){rvs:List ResultVar}
 {ps ts:List bb} (hL:ts.length=rvs.length) {T:List R->(R->Prop)->Prop}
 (gV:∀args K,T args K->∀(N:Nat->Prop) (w:World) (cq:Array Value),ct N [] [] w->args.length=cq.size->(∀i,i<args.length->bF (aL N [] []) w [] [] (args.getD i .un) (cq.getD i undef))->
   Calls P f cq w fun e w'=>∃(nj:Nat->Prop) (rs:List R) (al:aF) (ρ':List Loc) (aI:List Value),e= .returned (if rvs.length=1 then aI.getD 0 undef else .tuple aI.toArray)/\rs.length=rvs.length/\aI.length=rvs.length/\
    ns ts K (one rs) al/\(∀b,N b->nj b)/\ct nj ρ' al w'/\Fr [] [] w ρ' al w'/\∀i,bF (aL nj ρ' al) w' ρ' al (rs.getD i .un) (aI.getD i undef)):iC P f (iU ps T):=by
 refine⟨⟨fn,aT,by rw[ah];rfl,aB⟩, ?_⟩;intro N ρ I w args cq K h aH az aS;unfold iU at h;split at h;rotate_left
 ·exact h.elim
 rename_i aa ad;have hlen:ps.length=args.length:=by have:=aoE aa;rwa [cO,cO]at this
 obtain⟨s1,s2,k9,mE⟩:=pG args I aH;have zu:=qS I ps args hlen
 have h0:ct (aL N ρ (cD I args)) [] [] w:=
  {len:=rfl
   fC:=fun b ah=>by
    rcases ah with ah|⟨i,aw,aA,aG,_⟩
    ·exact aH.fC b ah
    ·exact aH.lt i aw b aA aG
   lt:=fun i aw b e=>by simp at e
   inj:=fun i j li cF b e=>by simp at e
   fR:=fun i aw b e=>by simp at e
   ob:=fun i aw e=>by simp at e}
 have gl:∀i,i<(bb.eV I ps args).length->bF (aL (aL N ρ (cD I args)) [] []) w [] [] ((bb.eV I ps args).getD i .un) (cq.getD i undef):=fun i hi=>by
  obtain⟨t,e⟩:=qT I ps args hlen i (by omega);have aD:=n0 ad .un i hi;rw[e]at aD⊢;have bp:=pI s1.rel s2 t aD (s1.lz (aS i (by omega))) fun id aM=>mE i id (by omega) aM;refine .ht (pH aD bp fun x u ak=>ak.mono fun b _ bm=>⟨rfl,fun dn=> ?_⟩);rcases dn with dn|⟨j,aw,aA,_⟩
  ·exact bm dn
  ·simp at aA
 refine(gV _ _ h _ w cq h0 (by omega) gl).mono ?_;rintro e w' ⟨nj,rs,al,ρ',aI,rfl,dj,df,ae,hn,bI,cH,gv⟩;obtain⟨q1,cI,cV,gF⟩:=pG rs al bI;have hold:cn N ρ (cD I args) w ρ (cD I args) w':=cn.more s1.rel cH.os cH.tape cH.output cH.size fun b ah=>cH.ar b ah fun⟨i,aw,aA,_⟩=>by simp at aA
 have sY:∀x u,bA (aL nj ρ' (cD al rs)) w' x u->bA (aL N ρ (cD I args)) w' x u:=fun x u ak=>
  ak.mono fun b _ bm=>⟨rfl,fun dn=>bm (.inl (hn b dn))⟩
 unfold ns at ae;split at ae;rotate_left
 ·exact ae.elim
 rename_i jb;refine⟨_,_,ρ,_,rfl,ae,s1.trans hold, ?_⟩
 have SJ:∀j id,j<rs.length->xc id (rs.getD j .un)->cw (cD al rs) id=true:=gF
 by_cases aa:rvs.length=1
 ·rw[aoB aa]
  match rs,aI,ts,(by omega:rs.length=1),(by omega:aI.length=1),(by omega:ts.length=1)with
  |[x],[u],[t],_,_,_=>
   have e:mi al [t] (one [x])=t.norm al x:=rfl;rw[e]at jb⊢;have aD:(t.norm al x).plain=true:=jb;exact .ht (pH aD (pI q1.rel cI t aD (q1.lz (gv 0)) fun id aM=>SJ 0 id (by simp) aM) sY)
 ·rw[aoA aa]
  have aA:one rs= .tup rs:=by
   match rs,dj with
   |[],_=>rfl
   |[x],dj=>exact absurd dj.symm aa
   |_::_::_,_=>rfl
  have aG:∀l,mi al ts (.tup l)= .tup (bb.eV al ts l):=fun l=>by
   match ts,hL with
   |[],_=>rfl
   |[x],hL=>exact absurd hL.symm aa
   |_::_::_,_=>rfl
  have bR:∀l,su ts (.tup l)=ef R.plain l:=fun l=>by
   match ts,hL with
   |[],_=>rfl
   |[x],hL=>exact absurd hL.symm aa
   |_::_::_,_=>rfl
  rw[aA,aG]at jb⊢;rw[bR]at jb;have jm:=qS al ts rs (by omega);refine⟨aI.toArray,rfl,by rw[jm];simp;omega,fun i hi=> ?_⟩;obtain⟨t,e⟩:=qT al ts rs (by omega) i (by omega);have aD:=n0 jb .un i hi;rw[e]at aD⊢;have:=pH (ρ':=ρ) (al:=cD I args) aD (pI q1.rel cI t aD (q1.lz (gv i)) fun id aM=>SJ i id (by omega) aM) sY;have cY:aI.toArray.getD i undef=aI.getD i undef:=by simp[aoJ,aoC]
  rw[cY];exact this
theorem YI (E:bD)(dO:hG P E)
 {f:FuncId} {fn:Func} {c:Code} (aT:P.funcs[f]? =some fn) (ah:fn.body=some c) (aB:(fn.name== "runtime.NumGoroutine")=false) {rvs:List ResultVar} (ao:fn.results=rvs.toArray)
 {ps ts:List bb} (hL:ts.length=rvs.length) {T:List R->(R->Prop)->Prop} (gV:∀args K,T args K->mP E fn.ntmps rvs c args [] (ns ts K)):iC P f (iU ps T):=
 OE aT ah aB hL fun args K h N w cq aH az aS=>(yu E dO aT ah ao (gV args K h) aH az aS).mono (by
  rintro e w' ⟨rs,al,ρ',aI,aa,dj,df,ae,bI,cH,gv⟩
  exact⟨N,rs,al,ρ',aI,aa,dj,df,ae,fun _ h=>h,bI,cH,gv⟩)
end
end Go.aj
end
