/- Helpers for the statements: conditions under which code does what is wanted, and proofs that they suffice. Condition: none. -/
import Derived.Test.YtmeonjefiioegaaGreatDoorA0
import Derived.WideKeyArr
section
namespace Go.bG
section
variable {P:Program} {N:Nat->Prop} {ρ:List Loc} {own:aB} {w:World}
theorem OO {t:aO}{aj:Nat}{l:List (List R)}(h:iV t (.rows aj l)=true):t= .bS (.srows aj):=by
 cases t with
 |bS s=>cases s<;>simp[iV]at h;rw[h]
 |_=>simp[iV]at h
theorem XO (h:b4 N ρ own w){id:Nat}{loc:Loc}(aq:ρ[id]? =some loc)(aQ:frozenAt own id=false){aj:Nat}{l:List (List R)}(aH:ad.at own id= .rows aj l)(n:Nat)(ar:n<=l.length):
 Step N ρ own w (ρ++[loc]) (own.set id (true, .dead l.length aj)++[(false, .rows aj (l.take n))]) w:=by
 have de:=h.jz aq
 have hlen:=h.len
 have cg:∀i,ad.at (own.set id (true, .dead l.length aj)++[(false, .rows aj (l.take n))]) i=if i=own.length then .rows aj (l.take n)else if i=id then .dead l.length aj else ad.at own i:=fun i=>by
  rw[gw,asJ]
  split
  ·rfl
  ·rw[gx]
   by_cases e:i=id
   ·subst e;rw[asq ⟨rfl,de⟩,asq rfl]
   ·rw[asp (fun x=>e x.1.symm),asp e]
 have dy:∀i,frozenAt (own.set id (true, .dead l.length aj)++[(false, .rows aj (l.take n))]) i=if i=own.length then false else if i=id then true else frozenAt own i:=fun i=>by
  rw[kn,asJ]
  split
  ·rfl
  ·rw[hS]
   by_cases e:i=id
   ·subst e;rw[asq ⟨rfl,de⟩,asq rfl]
   ·rw[asp (fun x=>e x.1.symm),asp e]
 have get:∀i li,(ρ++[loc])[i]? =some li->(i=own.length/\li=loc)\/(i<own.length/\ρ[i]? =some li):=fun i li hi=>by
  rw[asS]at hi
  split at hi
  ·exact .inr ⟨by omega,hi⟩
  ·cases aP:i-ρ.length with
   |zero=>simp[aP]at hi;exact .inl ⟨by omega,hi.symm⟩
   |succ m=>simp[aP]at hi
 have iu:∀b,fU (ρ++[loc]) (own.set id (true, .dead l.length aj)++[(false, .rows aj (l.take n))]) b->fU ρ own b:=fun b ⟨i,li,aU,a_,bF⟩=>by
  rcases get i li aU with⟨rfl,rfl⟩|⟨hi,aU⟩
  ·exact⟨id,li,aq,a_,aQ⟩
  ·rw[dy,asp (by omega)]at bF
   split at bF
   ·cases bF
   ·exact⟨i,li,aU,a_,bF⟩
 have cr:Fr ρ own w (ρ++[loc]) (own.set id (true, .dead l.length aj)++[(false, .rows aj (l.take n))]) w:=⟨rfl,rfl,rfl,asz _,fun _ _ _=>rfl,fun b ae=> .inl (iu b ae)⟩
 have ey:∀i,eg ρ own (ρ++[loc]) (own.set id (true, .dead l.length aj)++[(false, .rows aj (l.take n))]) i:=fun i li hi=>by
  have dH:=h.jz hi
  refine⟨by rw[atp (by omega)];exact hi, ?_⟩
  rw[cg,asp (by omega)]
  by_cases e:i=id
  ·subst e;rw[asq rfl,aH];exact⟨rfl,rfl⟩
  ·rw[asp e];exact⟨rfl,rfl⟩
 have rN:∀i,i<own.length->¬gE (own.set id (true, .dead l.length aj)++[(false, .rows aj (l.take n))]) i->i≠id/\¬gE own i:=fun i hi ao=>by
  have cV:i≠id:=fun e=>ao ⟨by rw[dy,asp (by omega),asq e],l.length,aj,by rw[cg,asp (by omega),asq e]⟩
  exact⟨cV,fun⟨f,m,s,e⟩=>ao ⟨by rw[dy,asp (by omega),asp cV];exact f,m,s,by rw[cg,asp (by omega),asp cV];exact e⟩⟩
 refine{cr with rel:={len:=by simp[hlen],fE:=h.fE,lt:= ?_,inj:= ?_,fr:= ?_,ob:= ?_},same:=ey}
 ·intro i li b hi ae
  rcases get i li hi with⟨_,rfl⟩|⟨_,hi⟩
  ·exact h.lt id li b aq ae
  ·exact h.lt i li b hi ae
 ·intro i j li b9 b hi aK mo mq jF k8
  rcases get i li hi with⟨an,It⟩|⟨mf,vX⟩<;>rcases get j b9 aK with⟨az,Iu⟩|⟨jT,mV⟩
  ·omega
  ·obtain⟨ec,gC⟩:=rN j jT k8
   exact absurd (h.inj j id b9 loc b mV aq mq (It▸mo) gC (np aQ)) ec
  ·obtain⟨ec,gC⟩:=rN i mf jF
   exact absurd (h.inj i id li loc b vX aq mo (Iu▸mq) gC (np aQ)) ec
  ·exact h.inj i j li b9 b vX mV mo mq (rN i mf jF).2 (rN j jT k8).2
 ·intro i li b hi ae
  rcases get i li hi with⟨_,rfl⟩|⟨_,hi⟩
  ·exact h.fr id li b aq ae
  ·exact h.fr i li b hi ae
 ·intro i li hi
  rw[cg]
  rcases get i li hi with⟨rfl,rfl⟩|⟨mf,hi⟩
  ·rw[asq rfl]
   have b1:=h.ob id li aq
   rw[aH]at b1
   rcases b1 with⟨rfl,ay⟩|⟨b,aG,e,aU,a_,bF,di,eB,oL,hb⟩
   ·exact .inl ⟨by simp,ay⟩
   ·refine .inr ⟨b,aG,e,aU,a_,bF,by simp;omega,eB,oL,fun q r aN ak=> ?_⟩
    have vM:q<n:=by simp at aN;omega
    obtain⟨v,aM,pv⟩:=hb q r (by omega) ak
    refine⟨v,aM, ?_⟩
    have an:(l.take n).getD q []=l.getD q []:=by
     simp only[ass]
     rw[ath,asq vM]
    rw[an];exact cr.reads pv
  ·rw[asp (by omega)]
   split
   ·trivial
   ·exact(h.ob i li hi).mono (fun _ _=>rfl) (fun _ _=>cr.reads) fun _ _ _ idx _ _=>ey idx
theorem TE {t:TypeId}{i:bQ}(hi:cE P t i=true)(bx:b4 N ρ own w){cw:Operand}{lo dH cX:Option Operand}{tm:List J}{a:Act}(aA:dC (aI N ρ own) w ρ own tm a.tmps)
 {safe:List Prop} {v:J} {own':aB} (h:Bg i (aS tm cw) (omap (aS tm) lo) (omap (aS tm) dH) (omap (aS tm) cX) own= .aR safe v own') (ao:∀p∈safe,p):
 ∃u ρ',(Instr.sliceAt t (a.eval cw) (lo.map a.eval) (dH.map a.eval) (cX.map a.eval)).run P w= .ok u w/\Step N ρ own w ρ' own' w/\bz (aI N ρ' own') w ρ' own' v u:=by
 have af:=dK aA cw
 generalize aS tm cw=x at*
 unfold Bg at h
 split at h
 rotate_left
 ·cases h
 rename_i id qQ
 have yu:cX=none:=by cases cX<;>first|rfl|cases qQ
 subst yu
 split at h
 ·rename_i aj l b dy aH eo h8 lO
  simp only[bH.aR.injEq]at h
  obtain⟨rfl,rfl,rfl⟩:=h
  have aE:0<=b:=ao _ (by simp)
  have U:b<=(l.length:Int):=ao _ (by simp)
  obtain⟨cj,db⟩:=ni aA lo h8
  obtain⟨c3,cP⟩:=ni aA dH lO
  rw[aH]at eo
  have bV:=OO eo
  obtain⟨e,g,z,q1,cb,cu,fM,dm,hO,gm,nb⟩:=uB hi bV
  obtain⟨loc,aq,hu,Rj⟩:=af
  rw[aH]at hu
  simp only[ad.len]at hu
  have b1:=bx.ob id loc aq
  rw[aH]at b1
  have rU:l.length<=loc.cap/\(loc.cap=0\/∃b,loc.a=some ⟨b,0,none⟩):=by
   rcases b1 with⟨rfl,e⟩|⟨b,_,_,aU,_,_,di,_⟩
   ·exact⟨by simp, .inl e⟩
   ·exact⟨di, .inr ⟨b,aU⟩⟩
  have ct:=XO bx aq dy aH b.toNat (by omega)
  have ae:=zK (P:=P) (w:=w) true l.length l.length loc.cap rU.1 (lo.map a.eval) (dH.map a.eval) none (some b) cj db c3 cP (by
   intro p aw
   simp only[lA,asP,atW,or_false]at aw
   rcases aw with rfl|rfl
   ·exact aE
   ·exact U) rfl
  refine⟨.slice loc.a b.toNat loc.cap,_, ?_,by rw[ep,fu];exact ct, ?_⟩
  ·rw[hu]
   have:=wF q1 cb loc.a l.length loc.cap _ _ none ae
   rw[show((none:Option Operand).map a.eval)=none from rfl,this]
   have an:(if loc.cap=((none:Option Int).getD 0).toNat then loc.a else loc.a.map (·.add (((none:Option Int).getD 0).toNat*g.size)))=loc.a:=by
    rcases rU.2 with ay|⟨ee,ay⟩
    ·rw[asq (by rw[ay];rfl)]
    ·rw[ay];simp[mD]
   rw[an]
   simp
  ·rw[ep,fu,cf]
   refine .cM ⟨loc,by rw[<-bx.len];simp, ?_,Rj⟩
   rw[gw,asJ,asq rfl]
   simp only[ad.len,asW]
   congr 1;omega
 ·rename_i aj l c dy aH eo h8 lO
  simp only[bH.aR.injEq]at h
  obtain⟨rfl,rfl,rfl⟩:=h
  have aE:0<=c:=ao _ (by simp)
  have U:c<(l.length:Int):=ao _ (by simp)
  obtain⟨cj,db⟩:=ni aA lo h8
  obtain⟨c3,cP⟩:=ni aA dH lO
  rw[aH]at eo
  have bV:=OO eo
  obtain⟨e,g,z,q1,cb,cu,fM,dm,hO,gm,nb⟩:=uB hi bV
  obtain⟨loc,aq,hu,Rj⟩:=af
  rw[aH]at hu
  simp only[ad.len]at hu
  have b1:=bx.ob id loc aq
  rw[aH]at b1
  rcases b1 with⟨rfl,_⟩|⟨b,aG,az,aU,a_,bF,di,eB,oL,hb⟩
  ·simp at U;omega
  have ae:=zK (P:=P) (w:=w) true l.length l.length loc.cap di (lo.map a.eval) (dH.map a.eval) (some c) none cj db c3 cP (by
   intro p aw
   simp only[lA,asP,atW,or_false]at aw
   rcases aw with rfl|rfl
   ·exact aE
   ·omega) rfl
  refine⟨.slice (some ⟨b,c.toNat*aj,none⟩) (l.length-c.toNat) (loc.cap-c.toNat),ρ, ?_,Step.refl bx, .cM ⟨loc,b,aq,aU,a_,by rw[aH];rfl,aE,by rw[aH];exact U⟩⟩
  rw[hu]
  have:=wF q1 cb loc.a l.length loc.cap _ _ none ae
  rw[show((none:Option Operand).map a.eval)=none from rfl,this,aU,cu]
  have an:((some c).getD 0).toNat=c.toNat:=rfl
  rw[an,asp (by omega)]
  simp[mD]
 ·cases h
theorem T7 {t:TypeId}{i:bQ}(hi:cE P t i=true)(bx:b4 N ρ own w){cw:Operand}{lo dH cX:Option Operand}{tm:List J}{a:Act}(aA:dC (aI N ρ own) w ρ own tm a.tmps)
 {safe:List Prop} {v:J} {own':aB} (h:sV i (aS tm cw) (omap (aS tm) lo) (omap (aS tm) dH) (omap (aS tm) cX) own= .aR safe v own') (ao:∀p∈safe,p):
 ∃u ρ',(Instr.sliceAt t (a.eval cw) (lo.map a.eval) (dH.map a.eval) (cX.map a.eval)).run P w= .ok u w/\Step N ρ own w ρ' own' w/\bz (aI N ρ' own') w ρ' own' v u:=by
 unfold sV at h
 split at h
 ·exact TE hi bx aA h ao
 ·obtain⟨u,U,aa,al⟩:=Tx hi bx aA h ao
  exact⟨u,ρ,U,aa,al⟩
theorem VE {x:R}{k:IntKind}(h:x.isInt k):x= .int k x.toInt:=by
 cases x<;>simp[R.isInt]at h
 rw[h];rfl
theorem FN {Z:Nat->Prop}{r:List R}{u:Value}{k:IntKind}(h:nn Z w r u)(ab:∀x∈r,x.isInt k):u= .agg ((r.map fun x=>Value.int k x.toInt).toArray):=by
 obtain⟨a,rfl,U,aa⟩:=h
 congr 1
 apply Array.ext
 ·simp[U]
 ·intro i hi vX
  have nI:i<r.length:=by omega
  have:=aa i nI
  have an:r.getD i .undef=r[i]:=by simp[ass,nI]
  rw[an,VE (ab _ (atw nI))]at this
  have az:a.getD i undef=a[i]:=by simp[asA,hi]
  rw[az]at this
  have:=iE (ρ:=[]) (own:=[]) (show bz Z w [] [] (.d (.int k r[i].toInt)) a[i]from this)
  simpa using this
theorem OP {e:TypeId}{k:IntKind}(he:P.underlying e=some (.int k))(xs:List Int)(i:Nat)(hi:i<xs.length):
 (part e ((xs.map (Value.int k)).toArray) (i*1)).run P w= .ok (.int k (xs.getD i 0)) w:=by
 simp[part,pY he,n8,hi,ass]
theorem Lj {e:TypeId}{k:IntKind}(he:P.underlying e=some (.int k))(d:Nat)(xs kG:List Int):∀is:List Nat,(∀i∈is,i<xs.length/\i<kG.length)->
 (Op.eqItems (d+1) e 1 ((xs.map (Value.int k)).toArray) ((kG.map (Value.int k)).toArray) is).run P w= .ok (is.all fun i=>decide (xs.getD i 0=kG.getD i 0)) w
 |[],_=>rfl
 |i::is,h=>by
  obtain⟨U,aa⟩:=h i (by simp)
  have bA:=Lj he d xs kG is fun j aK=>h j (by simp[aK])
  simp only[Op.eqItems,Sem.run_bind,OP he xs i U,OP he kG i aa,Result.andThen_ok]
  have an:(Op.equalIn (d+1) e (.int k (xs.getD i 0)) (.int k (kG.getD i 0))).run P w= .ok (decide (xs.getD i 0=kG.getD i 0)) w:=by
   simp[Op.equalIn,run_underlying he]
   rfl
  rw[an]
  simp only[Result.andThen_ok,at2]
  cases decide (xs.getD i 0=kG.getD i 0)<;>simp[bA]
theorem UM (xs kG:List Int)(h:xs.length=kG.length):((List.range xs.length).all fun i=>decide (xs.getD i 0=kG.getD i 0))=decide (xs=kG):=by
 rw[Bool.eq_iff_iff,asH,as8]
 constructor
 ·intro b2
  apply auF h
  intro i U aa
  have:=b2 i (by simpa using U)
  simpa[ass,U,aa]using this
 ·rintro rfl i _;simp
theorem VF {t e:TypeId}{n:Nat}{k:IntKind}(hu:P.underlying t=some (.array n e))(he:P.underlying e=some (.int k))(op:BinOp)(x y:Operand)(a b:Array Value):
 (eqGuard op t x y (.agg a) (.agg b)).run P w= .ok () w:=by
 have aT:P.eqGuardType P.depth t=false:=by
  have:P.depth=2*(P.types.size+Made.depth)+1+1:=rfl
  rw[this]
  unfold Program.eqGuardType
  rw[hu]
  simp only
  unfold Program.eqGuardType
  rw[he]
 cases op<;>simp[eqGuard,aT]
theorem VG {t:TypeId}{i:bQ}(hi:cE P t i=true)(ay:xz P i t=true){op:BinOp}{cw cY:Operand}{tm:List J}{a:Act}(aA:dC (aI N ρ own) w ρ own tm a.tmps)
 {safe:List Prop} {v:J} {own':aB} (h:pb op i.ty (aS tm cw) (aS tm cY) own= .aR safe v own') (ao:∀p∈safe,p):
 ∃u,own'=own/\(do eqGuard op t cw cY (a.eval cw) (a.eval cY);binOp op t (a.eval cw) (a.eval cY):Sem Value).run P w= .ok u w/\bz (aI N ρ own) w ρ own v u:=by
 have af:=dK aA cw
 have a6:=dK aA cY
 generalize aS tm cw=x at*
 generalize aS tm cY=y at*
 unfold pb at h
 split at h
 rotate_left
 ·cases h
 rename_i n k cs bV
 split at h
 rotate_left
 ·cases h
 rename_i nW uk vY aav
 have gS:(∀x∈nW,x.isInt k)/\(∀x∈uk,x.isInt k)/\(op= .eql\/op= .neq):=by
  split at h
  ·simp only[bH.aR.injEq]at h;obtain⟨rfl,_⟩:=h;exact⟨ao _ (by simp),ao _ (by simp), .inl rfl⟩
  ·simp only[bH.aR.injEq]at h;obtain⟨rfl,_⟩:=h;exact⟨ao _ (by simp),ao _ (by simp), .inr rfl⟩
  ·cases h
 obtain⟨so,D9,bD⟩:=gS
 obtain⟨e4,a1,a2,a3,a4⟩:=ux vY af
 obtain⟨abx,cn,cF,hN,q3⟩:=ux aav a6
 have q2:=FN (Z:=aI N ρ own) (w:=w) ⟨e4,a1,by omega,fun j aK=>a4 j (by omega)⟩ so
 have zw:=FN (Z:=aI N ρ own) (w:=w) ⟨abx,cn,by omega,fun j aK=>q3 j (by omega)⟩ D9
 obtain⟨el,g,q1,cb,cu⟩:=w1 hi bV
 have cu:g.size=1:=cu
 have vU:P.underlying el=some (.int k)/\cs.length=n:=by
  unfold xz at ay
  rw[bV]at ay
  simp only[q1]at ay
  split at ay
  ·rename_i he ar
   injection he with he;injection he with _ he
   subst he
   split at ay
   ·rename_i b3 ab;exact⟨by rw[ab,iS.1 ay],by rw[<-cf];exact ast ar⟩
   ·cases ay
  ·cases ay
 obtain⟨vU,pB⟩:=vU
 have ca:i.ty.size=n:=by rw[bV];simp[aO.size,cf,pB]
 have vZ:a.eval cw= .agg (((nW.map R.toInt).map (Value.int k)).toArray):=by rw[q2,atM];rfl
 have v7:a.eval cY= .agg (((uk.map R.toInt).map (Value.int k)).toArray):=by rw[zw,atM];rfl
 have heq:(Op.equal t (a.eval cw) (a.eval cY)).run P w= .ok (decide (nW.map R.toInt=uk.map R.toInt)) w:=by
  rw[vZ,v7]
  have:=run_equalIn_array (P:=P) w 9999 ((((nW.map R.toInt).map (Value.int k)).toArray)) ((((uk.map R.toInt).map (Value.int k)).toArray)) q1 cb
  have U:P.cellsOf el=1:=by simp[Program.cellsOf,cb,cu]
  rw[U,Lj vU 9998 _ _ _ (fun j aK=>by
   have:j<n:=by simpa using aK
   simp only[asy];omega)]at this
  show(Op.equalIn 10000 t _ _).run P w=_
  rw[this]
  congr 1
  have az:n=(nW.map R.toInt).length:=by simp;omega
  rw[az]
  exact UM _ _ (by simp;omega)
 have ow:=VF (P:=P) (w:=w) q1 vU op cw cY (((nW.map R.toInt).map (Value.int k)).toArray) (((uk.map R.toInt).map (Value.int k)).toArray)
 rw[<-vZ,<-v7]at ow
 rcases bD with rfl|rfl
 ·simp only[bH.aR.injEq]at h
  obtain⟨_,rfl,rfl⟩:=h
  refine⟨_,rfl, ?_,jq _⟩
  rw[Sem.run_bind,ow,Result.andThen_ok,vZ,v7]
  rw[vZ,v7]at heq
  generalize ((nW.map R.toInt).map (Value.int k)).toArray=A at heq⊢
  generalize ((uk.map R.toInt).map (Value.int k)).toArray=B at heq⊢
  simp[binOp,heq]
 ·simp only[bH.aR.injEq]at h
  obtain⟨_,rfl,rfl⟩:=h
  refine⟨_,rfl, ?_,jq _⟩
  rw[Sem.run_bind,ow,Result.andThen_ok,vZ,v7]
  rw[vZ,v7]at heq
  generalize ((nW.map R.toInt).map (Value.int k)).toArray=A at heq⊢
  generalize ((uk.map R.toInt).map (Value.int k)).toArray=B at heq⊢
  simp[binOp,heq]
end
end Go.bG
end
section
namespace Go.bG
open Go.WideMaps
section
variable {P:Program} {N:Nat->Prop} {ρ:List Loc} {own:aB} {w:World}
def qx (l:List Int):Value:= .agg ((l.map (Value.int .i64)).toArray)
theorem WZ {a b:List Int}(h:qx a=qx b):a=b:=by
 unfold qx at h
 injection h with h
 have h:a.map (Value.int .i64)=b.map (Value.int .i64):=by simpa using h
 exact(List.map_inj_right (fun x y e=>by injection e)).1 h
theorem PK {Z:Nat->Prop}{r:List R}{u:Value}(h:nn Z w r u)(ab:jI r):u=qx (r.map R.toInt):=by
 rw[FN h fun x af=>(ab x af).1,qx,atM];rfl
theorem mapM_some {α β:Type}{f:α->Option β}:∀{l:List α},(∀i∈l,∃y,f i=some y)->∃kG,l.mapM f=some kG
 |[],_=>⟨[],rfl⟩
 |x::r,h=>by
  obtain⟨y,a6⟩:=h x (by simp)
  obtain⟨kG,Iv⟩:=mapM_some (f:=f) (l:=r) fun i hi=>h i (by simp[hi])
  exact⟨y::kG,by rw[List.mapM_cons,a6,Iv];rfl⟩
theorem OQ {fb q:TypeId}{n:Nat}(A:ArrKey P fb q n)(aN:P.underlying q=some (.int .i64))(ca:∃m,P.types.size=m+1){l:List Int}(aq:l.length=n)(ab:∀x∈l,-9223372036854775808<=x/\x<=9223372036854775807):
 ∃wu,keyOf P fb (qx l)=some wu:=by
 have aaw:=A.keyType ca
 obtain⟨m,hm⟩:=ca
 unfold keyOf
 simp only[A.hu]
 rw[asq (by simp[aaw,qx,Value.formed,A.hu,A.size,aq]),hm]
 unfold Program.keyLits
 simp only[A.hu,qx,Value.cells]
 rw[asq (by simp[A.size,aq])]
 obtain⟨kG,Iv⟩:=mapM_some (f:=fun i=>P.keyLits (m+1) q (((l.map (Value.int .i64)).toArray.toList.drop (i*P.cellsOf q)).take (P.cellsOf q))) (l:=List.range n) (fun i hi=>by
  have hi:i<l.length:=by rw[aq];simpa using hi
  have af:=ab l[i] (atw hi)
  have an:(((l.map (Value.int .i64)).toArray.toList.drop (i*P.cellsOf q)).take (P.cellsOf q))=[Value.int .i64 l[i]]:=by
   rw[A.one,asY]
   have aP:(l.map (Value.int .i64)).drop i=Value.int .i64 l[i]::(l.map (Value.int .i64)).drop (i+1):=by
    rw[atX (by simpa using hi)];simp
   simp only[aP,List.take_succ_cons,List.take_zero]
  rw[an]
  unfold Program.keyLits
  rw[aN]
  have hw:(Lit.int .i64 l[i]).wf=true:=by
   simp only[Lit.wf,asD,asw]
   exact⟨af.1,af.2⟩
  exact⟨[.int .i64 l[i]],by simp[hw]⟩)
 rw[Iv]
 exact⟨_,rfl⟩
theorem wJ {n:Nat}{z:List R}{k:List Int}:∀{l:List (List R)},(∀r∈l,iF n r≠k)->cZ n z l k=z/\l1 n l k=false/\∀key v,key.map R.toInt=k->lj n key v l=l++[key++v]
 |[],_=>⟨rfl,rfl,fun _ _ _=>rfl⟩
 |r::l,h=>by
  obtain⟨U,aa,al⟩:=wJ (n:=n) (z:=z) (k:=k) (l:=l) fun r ak=>h r (by simp[ak])
  have aE:=h r (by simp)
  refine⟨by rw[cZ,asp aE,U],by rw[l1,asp aE,aa],fun key v ab=> ?_⟩
  rw[lj,asp (by rw[ab];exact aE),al key v ab];rfl
theorem uG {n:Nat}{z:List R}{k:List Int}:∀{l:List (List R)} {j:Nat} {r:List R},(l.map (iF n)).Nodup->l[j]? =some r->iF n r=k->
 cZ n z l k=r.drop n/\l1 n l k=true/\∀key v,key.map R.toInt=k->lj n key v l=l.set j (key++v)
 |[],j,r,_,h,_=>by simp at h
 |x::l,0,r,_,h,ab=>by
  obtain rfl:x=r:=by simpa using h
  exact⟨by rw[cZ,asq ab],by rw[l1,asq ab],fun key v e=>by rw[lj,asq (by rw[e];exact ab)];rfl⟩
 |x::l,j+1,r,aP,h,ab=>by
  have h:l[j]? =some r:=by simpa using h
  simp only[asX,List.nodup_cons]at aP
  have af:iF n x≠k:=fun e=>aP.1 (asL.2 ⟨r,atG h,by rw[ab,e]⟩)
  obtain⟨U,aa,al⟩:=uG (z:=z) aP.2 h ab
  refine⟨by rw[cZ,asp af,U],by rw[l1,asp af,aa],fun key v e=> ?_⟩
  rw[lj,asp (by rw[e];exact af),al key v e];rfl
theorem Fc {tb:TypeId->bQ}{t:TypeId}(h:rF P tb t=true){n:Nat}{fb e:TypeId}(hm:(tb t).mp=some (n,fb,e)):
 ∃q,P.underlying t=some (.map fb e)/\ArrKey P fb q n/\P.underlying q=some (.int .i64)/\(∃m,P.types.size=m+1)/\tg (tb e).ty=true/\0<(tb e).ty.size/\∃g,P.info? e=some g/\HC (tb e).ty g.zero=true:=by
 unfold rF at h
 rw[hm]at h
 simp only at h
 split at h
 ·rename_i k v m q hu ab
  simp only[asD]at h
  obtain⟨⟨⟨⟨⟨⟨⟨⟨⟨U,aa⟩,al⟩,aL⟩,bo⟩,bX⟩,fi⟩,dI⟩,lS⟩,r7⟩:=h
  obtain rfl:=ast U
  obtain rfl:=ast aa
  obtain rfl:=ast al
  have aN:P.underlying q=some (.int .i64):=by
   split at bX
   ·rename_i aN;exact aN
   ·cases bX
  refine⟨q,hu,⟨ab,by unfold Program.plainKey;rw[aN],ast aL,ast bo⟩,aN, ?_,lS, ?_, ?_⟩
  ·have:0+1<=P.types.size:=asV fi
   exact⟨P.types.size-1,by omega⟩
  ·have:0+1<=(tb v).ty.size:=asV dI
   omega
  ·split at r7
   ·rename_i g aT;exact⟨g,aT,r7⟩
   ·cases r7
 ·cases h
theorem EO {t:aO}(h:tg t=true):(∃s,t= .bS s)\/∃bM cs,t= .struct bM cs/\cs.length<=8/\cs.length≠1:=by
 cases t with
 |bS s=>exact .inl ⟨s,rfl⟩
 |struct bM cs=>
  refine .inr ⟨bM,cs,rfl, ?_⟩
  unfold tg at h
  simp only at h
  split at h
  ·rename_i U aa
   rw[cf]at U aa
   constructor
   ·exact Nat.le_of_not_lt fun bB=>by
     have:Nat.blt 8 cs.length=true:=Nat.ble_eq_true_of_le bB
     rw[this]at U;cases U
   ·intro e;rw[e]at aa;cases aa
  ·cases h
 |_=>cases h
theorem TF {t:aO}(aA:tg t=true){r:List R}{u:Value}(ak:p9 (aI N ρ own) w r u)(aq:r.length=t.size){s:List Prop}{v:J}(h:Cv t r=some (s,v))(ao:∀p∈s,p):
 hg (aI N ρ own) w ρ own v u:=by
 rcases EO aA with⟨st,rfl⟩|⟨bM,cs,rfl,dI,U⟩
 ·simp only[Cv,asM,asO]at h
  obtain⟨rfl,rfl⟩:=h
  rcases ak with⟨x,rfl,af⟩|⟨cV,_⟩
  ·exact .cM (sE af (ao _ (by simp)))
  ·exact absurd aq cV
 ·have aq:r.length=cs.length:=by rw[aq];simp[aO.size,cf]
  have mP:(aO.struct bM cs).jj=false:=by
   cases ae:(aO.struct bM cs).jj with
   |false=>rfl
   |true=>
    have:8+1<=bN cs:=asV ae
    rw[cf]at this;omega
  simp only[Cv,mP,asM,asO]at h
  obtain⟨rfl,rfl⟩:=h
  rcases ak with⟨x,rfl,af⟩|⟨_,a,rfl,a1,a2⟩
  ·simp at aq;omega
  ·obtain⟨dt,dD⟩:=EL (Z:=aI N ρ own) (w:=w) (ρ:=ρ) (own:=own) cs r 0 (fun m=>a.getD m undef) (fun m hm=>by rw[as0];exact a2 m (by omega)) ao
   exact⟨a,rfl,by omega,fun i hi=>dD i (by omega)⟩
theorem W0 {t:aO}(aA:tg t=true){v:J}{u:Value}{r:List R}(h:nu own t v=some r)(aM:bz (aI N ρ own) w ρ own v u):r.length=t.size/\p9 (aI N ρ own) w r u:=by
 have iM:t≠ .no:=fun e=>by rw[e]at aA;cases aA
 obtain⟨U,aa,al⟩:=Er (Z:=aI N ρ own) h iM aM
 refine⟨U, ?_⟩
 rcases EO aA with⟨st,rfl⟩|⟨bM,cs,rfl,dI,cV⟩
 ·have aq:r.length=1:=U
  obtain⟨x,rfl⟩:=List.length_eq_one_iff.1 aq
  have aP:v.gy=true:=by
   simp only[nu]at h
   split at h
   ·rename_i aP;exact aP
   ·cases h
  have aH:=(uu (Eo aP) aM).2
  have:=al 0 (by simp[aO.size])
  rw[w2 aH]at this
  exact .inl ⟨x,rfl,by simpa using this⟩
 ·have aq:r.length=cs.length:=by rw[U];simp[aO.size,cf]
  have rX:∃a,u= .agg a:=by
   simp only[nu]at h
   split at h
   ·obtain⟨a,rfl,_⟩:=aM;exact⟨a,rfl⟩
   ·obtain⟨a,rfl,_⟩:=aM;exact⟨a,rfl⟩
   ·cases h
  obtain⟨a,rfl⟩:=rX
  refine .inr ⟨by omega,a,rfl, ?_,fun j aK=>al j (by omega)⟩
  have:a.size=(aO.struct bM cs).size:=aa
  omega
theorem W1 {t:aO}{e:TypeId}(aM:tg t=true){g:TypeInfo}(aT:P.info? e=some g)(bc:HC t g.zero=true)(Z:Nat->Prop):
 ∃z,(zeroValue e).run P w= .ok z w/\p9 Z w (o0 t) z/\(o0 t).length=t.size:=by
 cases jU:g.zero with
 |none=>rw[jU]at bc;cases t<;>cases bc
 |some z=>
  rw[jU]at bc
  refine⟨z,by simp[zeroValue,typeInfo,aT,jU], ?_⟩
  rcases EO aM with⟨st,rfl⟩|⟨bM,cs,rfl,dI,cV⟩
  ·exact⟨.inl ⟨_,rfl,Lc bc⟩,rfl⟩
  ·have hlen:(o0 (.struct bM cs)).length=cs.length:=by simp[o0,aO.cells,c5]
   cases z with
   |agg aG=>
    obtain⟨U,aa⟩:=q6 (Z:=Z) (w:=w) (show lZ cs aG.toList=true from bc)
    refine⟨.inr ⟨by omega,aG,rfl,by rw[hlen,<-U];simp,fun j aK=> ?_⟩,by rw[hlen];simp[aO.size,cf]⟩
    have:=aa j (by omega)
    simpa[o0,aO.cells,asA,ass]using this
   |_=>cases bc
theorem T8 {tb:TypeId->bQ}{t:TypeId}(ic:rF P tb t=true)(bx:b4 N ρ own w){safe:List Prop}{v:J}{own':aB}(h:wO tb (tb t) own= .aR safe v own'):
 ∃u w' ρ',(Instr.makeMap t none).run P w= .ok u w'/\Step N ρ own w ρ' own' w'/\bz (aI N ρ' own') w' ρ' own' v u:=by
 unfold wO at h
 split at h
 rotate_left
 ·cases h
 rename_i n fb e hm
 simp only[bH.aR.injEq]at h
 obtain⟨rfl,rfl,rfl⟩:=h
 obtain⟨q,_,_,_,_,_,nA,_⟩:=Fc ic hm
 rw[fu,cf]
 refine⟨_,_,_,by simp[Instr.makeMap],Step.alloc bx false (.map n (n+(tb e).ty.size) []) (.map #[] 0) 0 ⟨w.heap.size,#[],0,rfl,nh w _,rfl,by omega,by simp,fun i hi=>by simp at hi⟩, .cM ⟨_,w.heap.size,p3 bx _,rfl,rfl⟩⟩
theorem OR {fb q:TypeId}{n:Nat}(A:ArrKey P fb q n)(aN:P.underlying q=some (.int .i64))(ca:∃m,P.types.size=m+1){Z:Nat->Prop}{es:Array MapEntry}{l:List (List R)}(hlen:es.size=l.length)
 (aax:∀i,i<l.length->∃e,es[i]? =some e/\n<=(l.getD i []).length/\jI ((l.getD i []).take n)/\nn Z w ((l.getD i []).take n) e.key) {key:List R} {u:Value} (ab:jI key) (aq:key.length=n) (hu:nn Z w key u):
 (∀em,(Instr.checkKey em 10000 fb u).run P w= .ok () w)/\(Instr.keyThatStays u u).run P w= .ok u w/\
 (((Instr.findKey fb u es.toList).run P w= .ok none w/\∀r∈l,iF n r≠key.map R.toInt)\/
   ∃j e r,(Instr.findKey fb u es.toList).run P w= .ok (some (j,e.val)) w/\es[j]? =some e/\e.key=u/\l[j]? =some r/\iF n r=key.map R.toInt):=by
 have K:=A.law
 have y_:∀{r:List R},jI r->∀x∈r.map R.toInt,-9223372036854775808<=x/\x<=9223372036854775807:=fun h x af=>by
  obtain⟨y,a6,rfl⟩:=asL.1 af
  exact(h y a6).2
 have iI:=PK hu ab
 obtain⟨wu,r9⟩:=OQ A aN ca (l:=key.map R.toInt) (by simp[aq]) (y_ ab)
 rw[<-iI]at r9
 have each:∀i (hi:i<l.length),∃e,es[i]? =some e/\e.key=qx (iF n l[i])/\∃wu,keyOf P fb e.key=some wu:=fun i hi=>by
  obtain⟨e,an,az,bK,cm⟩:=aax i hi
  have aT:l.getD i []=l[i]:=by simp[ass,hi]
  rw[aT]at az bK cm
  have:=PK cm bK
  refine⟨e,an,this, ?_⟩
  rw[this]
  exact OQ A aN ca (by simp;omega) (y_ bK)
 have keys:∀e∈es.toList,∃wu,keyOf P fb e.key=some wu:=fun e he=>by
  obtain⟨i,hi⟩:=List.mem_iff_getElem?.1 he
  have nI:i<l.length:=by have:=(atg.1 hi).1;simp at this;omega
  obtain⟨cd,an,_,bK⟩:=each i nI
  rw[auD,an]at hi
  obtain rfl:=asB hi
  exact bK
 refine⟨fun em=>K.check w em r9,K.stays w r9, ?_⟩
 rcases K.find w r9 es.toList keys with⟨U,aa⟩|⟨j,e,U,aa,al⟩
 ·refine .inl ⟨U,fun r ak py=> ?_⟩
  obtain⟨i,hi,rfl⟩:=List.mem_iff_getElem.1 ak
  obtain⟨e,an,az,_⟩:=each i hi
  exact aa e (atG (by rw[auD];exact an)) (by rw[az,py,iI])
 ·rw[auD]at aa
  have hZ:j<l.length:=by have:=(auG.1 aa).1;omega
  obtain⟨cd,an,az,_⟩:=each j hZ
  rw[aa]at an
  obtain rfl:=asB an
  refine .inr ⟨j,e,l[j],U,aa,al,asI hZ, ?_⟩
  rw[az,iI]at al
  exact WZ al
theorem UN {tb:TypeId->bQ}{t:TypeId}(ic:rF P tb t=true)(bx:b4 N ρ own w){m k:J}{zy mz:Value}(hm:bz (aI N ρ own) w ρ own m zy)(ab:bz (aI N ρ own) w ρ own k mz)
 {c:Bool} {safe:List Prop} {v:J} {own':aB} (h:nZ tb (tb t) m k c own= .aR safe v own') (ao:∀p∈safe,p):
 ∃u,own'=own/\(Instr.lookup t zy mz c).run P w= .ok u w/\bz (aI N ρ own) w ρ own v u:=by
 unfold nZ at h
 split at h
 rotate_left
 ·cases h
 rename_i n fb e id Iw
 split at h
 rotate_left
 ·cases h
 rename_i n' aj l key aH HK
 split at h
 rotate_left
 ·cases h
 rename_i ag ar ca vF ky
 simp only[bH.aR.injEq]at h
 obtain⟨rfl,rfl,rfl⟩:=h
 obtain rfl:=ast ar
 have ca:=ast ca
 have vF:=ast vF
 obtain⟨q,hu,A,aN,je,ku,nA,g,aT,bc⟩:=Fc ic Iw
 have hA:jI key:=ao _ (auk ..)
 obtain⟨so,aU,a_,bF,di⟩:=ux HK ab
 have za:nn (aI N ρ own) w key mz:=⟨so,aU,by omega,fun j aK=>di j (by omega)⟩
 obtain⟨loc,b,aq,ae,rfl⟩:=hm
 have b1:=bx.ob id loc aq
 rw[aH]at b1
 obtain⟨ee,es,zz,bn,ba,cp,fs,fq,wv⟩:=b1
 rw[ae]at bn
 obtain rfl:=asB bn
 obtain⟨z,oI,z2,z3⟩:=W1 (w:=w) ku aT bc (aI N ρ own)
 obtain⟨f1,f2,f3⟩:=OR A aN je cp (Z:=aI N ρ own) (w:=w) (fun i hi=>by
  obtain⟨cd,an,az,bK,cm,_⟩:=wv i hi
  exact⟨cd,an,by omega,bK,cm⟩) hA (by omega) za
 have iX:∃zA ok,(Instr.lookup t (.map (some b)) mz c).run P w= .ok (if c then .tuple #[zA, .bool ok]else zA) w/\ok=l1 n' l (key.map R.toInt)/\
  p9 (aI N ρ own) w (cZ n' (o0 (tb e).ty) l (key.map R.toInt)) zA/\(cZ n' (o0 (tb e).ty) l (key.map R.toInt)).length=(tb e).ty.size:=by
  rcases f3 with⟨g1,g2⟩|⟨j,cd,r,g1,g2,g3,g4,g5⟩
  ·obtain⟨c3,cP,_⟩:=wJ (z:=o0 (tb e).ty) g2
   refine⟨z,false, ?_,cP.symm,by rw[c3];exact z2,by rw[c3];exact z3⟩
   simp[Instr.lookup,run_underlying hu,MapKept.run_getObj_map ba,f1,g1,oI,Result.andThen]
  ·obtain⟨c3,cP,_⟩:=uG (z:=o0 (tb e).ty) fq g4 g5
   have hZ:=(atg.1 g4).1
   obtain⟨az,q1,cb,cu,fM,dm⟩:=wv j hZ
   rw[g2]at q1
   obtain rfl:=asB q1
   have ow:l.getD j []=r:=by rw[ass,g4];rfl
   rw[ow]at cb dm
   refine⟨cd.val,true, ?_,cP.symm,by rw[c3];exact dm,by rw[c3,atA];simp only[Nat.add_eq]at ca;omega⟩
   simp[Instr.lookup,run_underlying hu,MapKept.run_getObj_map ba,f1,g1,Result.andThen]
 obtain⟨zA,ok,v1,v2,v3,v4⟩:=iX
 have hY:=TF (ρ:=ρ) (own:=own) ku v3 v4 (s:=ag.1) (v:=ag.2) ky (fun p aw=>ao p (at3 _ aw))
 refine⟨_,rfl,v1, ?_⟩
 cases c with
 |false=>exact .gB hY
 |true=>
  refine⟨#[zA, .bool ok],rfl,rfl,fun i hi=> ?_⟩
  match i,hi with
  |0,_=>exact hY
  |1,_=>exact .cM (by rw[v2];exact Reads.bool _)
theorem Tc {tb:TypeId->bQ}{t:TypeId}(ic:rF P tb t=true)(bx:b4 N ρ own w){m k x:J}{zy mz sA:Value}(hm:bz (aI N ρ own) w ρ own m zy)(ab:bz (aI N ρ own) w ρ own k mz)(af:bz (aI N ρ own) w ρ own x sA)
 {safe:List Prop} {v:J} {own':aB} (h:q7 tb (tb t) m k x own= .aR safe v own') (ao:∀p∈safe,p):
 ∃w',v= .un/\(Instr.mapUpdate t zy mz sA).run P w= .ok () w'/\Step N ρ own w ρ own' w':=by
 unfold q7 at h
 split at h
 rotate_left
 ·cases h
 rename_i n fb e id Iw
 split at h
 rotate_left
 ·cases h
 rename_i n' aj l key r dy aH HK qS
 split at h
 rotate_left
 ·cases h
 rename_i ar ca vF
 simp only[bH.aR.injEq]at h
 obtain⟨rfl,rfl,rfl⟩:=h
 obtain rfl:=ast ar
 have ca:=ast ca
 simp only[Nat.add_eq]at ca
 have vF:=ast vF
 obtain⟨q,hu,A,aN,je,ku,nA,g,aT,bc⟩:=Fc ic Iw
 have hA:jI key:=ao _ (auk ..)
 obtain⟨so,aU,a_,bF,di⟩:=ux HK ab
 have za:nn (aI N ρ own) w key mz:=⟨so,aU,by omega,fun j aK=>di j (by omega)⟩
 obtain⟨g_,j3⟩:=W0 (w:=w) ku qS af
 obtain⟨loc,b,aq,ae,rfl⟩:=hm
 have b1:=bx.ob id loc aq
 rw[aH]at b1
 obtain⟨ee,es,zz,bn,ba,cp,fs,fq,wv⟩:=b1
 rw[ae]at bn
 obtain rfl:=asB bn
 obtain⟨f1,f2,f3⟩:=OR A aN je cp (Z:=aI N ρ own) (w:=w) (fun i hi=>by
  obtain⟨cd,an,az,bK,cm,_⟩:=wv i hi
  exact⟨cd,an,by omega,bK,cm⟩) hA (by omega) za
 have vy:b<w.heap.size:=bx.lt id loc b aq ae
 have fin:∀(tV:Array MapEntry) (zb:Nat) (c2:List (List R)),lj n' key r l=c2->(Instr.mapUpdate t (.map (some b)) mz sA).run P w= .ok () {w with heap:=w.heap.setIfInBounds b (.map tV zb)}->
  tV.size=c2.length->(c2.map (iF n')).Nodup->(∀i,i<c2.length->∃e,tV[i]? =some e/\(c2.getD i []).length=aj/\jI ((c2.getD i []).take n')/\nn (aI N ρ own) w ((c2.getD i []).take n') e.key/\p9 (aI N ρ own) w ((c2.getD i []).drop n') e.val)->
  ∃w',J.un= .un/\(Instr.mapUpdate t (.map (some b)) mz sA).run P w= .ok () w'/\Step N ρ own w ρ (cH own id (false, .map n' aj (lj n' key r l))) w':=by
  intro tV zb c2 ia eI U aa al
  rw[ia,ep]
  have lp:∀x,x≠b->({w with heap:=w.heap.setIfInBounds b (.map tV zb)}:World).heap[x]? =w.heap[x]? :=fun x af=>by
   simp[auj,atb af]
  have hm:∀x u,Reads (aI N ρ own) w x u->Reads (aI N ρ (own.set id (false, .map n' aj c2))) {w with heap:=w.heap.setIfInBounds b (.map tV zb)} x u:=fun x u ak=>
   ak.mono fun cF _ ot=>⟨lp cF fun az=>ot (.inr ⟨id,loc,aq,az▸ae,dy⟩),fun cS=>ot (by
    rcases cS with ar|⟨i,db,aL,bo,bX⟩
    ·exact .inl ar
    ·refine .inr ⟨i,db,aL,bo, ?_⟩
     rw[hS]at bX
     by_cases az:id=i
     ·subst az;exact dy
     ·rwa [asp (by simp[az])]at bX)⟩
  refine⟨_,rfl,eI,Step.Ql bx id loc b aq ae dy _ (by rw[aH];rfl) (by rw[aH];rfl) _ rfl rfl rfl (by simp) lp ⟨b,tV,zb,ae,by simp[vy],U,fs,aa,fun i hi=> ?_⟩⟩
  obtain⟨az,q1,cb,cu,fM,dm⟩:=al i hi
  exact⟨az,q1,cb,cu,fM.mono hm,dm.mono hm⟩
 have l9:(key++r).length=aj/\(key++r).take n'=key/\(key++r).drop n'=r:=by
  have r9:key.length=n':=by omega
  refine⟨by simp;omega,by rw[List.take_append_of_le_length (by omega),aul (by omega)],by rw[List.drop_append_of_le_length (by omega),List.drop_of_length_le (by omega)];rfl⟩
 have R0:iF n' (key++r)=key.map R.toInt:=by unfold iF;rw[l9.2.1]
 rcases f3 with⟨g1,g2⟩|⟨j,cd,lV,g1,g2,g3,g4,g5⟩
 ·obtain⟨_,_,cJ⟩:=wJ (z:=[]) g2
  refine fin (es.push ⟨mz,sA,zz⟩) (zz+1) (l++[key++r]) (cJ key r rfl) ?_ (by simp[cp]) ?_ fun i hi=> ?_
  ·simp[Instr.mapUpdate,run_underlying hu,MapKept.run_getObj_map ba,f1,g1,MapKept.run_setObj_map _ ba,Result.andThen]
  ·rw[as7,auH,List.nodup_append]
   refine⟨fq,by simp,fun a aC c ay=> ?_⟩
   simp only[atr]at ay
   subst ay
   obtain⟨cP,sc,rfl⟩:=asL.1 aC
   rw[R0];exact g2 cP sc
  ·by_cases nI:i<l.length
   ·obtain⟨az,q1,cb⟩:=wv i nI
    have aT:(l++[key++r]).getD i []=l.getD i []:=by simp only[ass];rw[atp nI]
    rw[aT]
    exact⟨az,by rw[Array.getElem?_push,asp (by omega)];exact q1,cb⟩
   ·have aay:i=l.length:=by simp at hi;omega
    subst aay
    have aT:(l++[key++r]).getD l.length []=key++r:=by simp[ass]
    rw[aT,l9.2.1,l9.2.2]
    exact⟨⟨mz,sA,zz⟩,by rw[Array.getElem?_push,asq cp.symm],l9.1,hA,za,j3⟩
 ·obtain⟨_,_,cJ⟩:=uG (z:=[]) fq g4 g5
  have hZ:=(atg.1 g4).1
  refine fin (es.modify j fun az=>{az with key:=mz,val:=sA}) zz (l.set j (key++r)) (cJ key r rfl) ?_ (by simp[cp]) ?_ fun i hi=> ?_
  ·simp[Instr.mapUpdate,run_underlying hu,MapKept.run_getObj_map ba,f1,g1,g2,g3,f2,MapKept.run_setObj_map _ ba,Result.andThen]
  ·rw[auf,R0]
   have:(l.map (iF n')).set j (key.map R.toInt)=l.map (iF n'):=by
    apply List.ext_getElem?
    intro i
    rw[ata]
    split
    ·rename_i az;subst az
     rw[asq (by simpa using hZ),atl,g4,ats,g5]
    ·rfl
   rw[this];exact fq
  ·have nI:i<l.length:=by simpa using hi
   obtain⟨az,q1,cb⟩:=wv i nI
   by_cases y1:j=i
   ·subst y1
    have aT:(l.set j (key++r)).getD j []=key++r:=by simp[ass,hZ]
    rw[aT,l9.2.1,l9.2.2]
    exact⟨{az with key:=mz,val:=sA},by rw[auo,asq rfl,q1];rfl,l9.1,hA,za,j3⟩
   ·have aT:(l.set j (key++r)).getD i []=l.getD i []:=by simp only[ass];rw[ata,asp y1]
    rw[aT]
    exact⟨az,by rw[auo,asp y1];exact q1,cb⟩
end
end Go.bG
end
section
namespace Go.bG
section
variable {P:Program} {N:Nat->Prop} {ρ:List Loc} {own:aB} {w:World}
theorem Bi {Z:Nat->Prop}{v:J}{u:Value}(ab:vu v=true)(h:dE Z w ρ own v u):u=vi v:=by
 cases v with
 |d x=>
  cases x with
  |int k n=>have h:Reads Z w _ u:=h;cases h;rfl
  |bool b=>have h:Reads Z w _ u:=h;cases h;rfl
  |_=>cases ab
 |bt=>exact h
 |bf=>exact h
 |_=>cases ab
theorem XP {Z:Nat->Prop}{v:J}{u:Value}(ab:vS v=true)(h:bz Z w ρ own v u):u=tz v:=by
 cases v with
 |agg l=>
  obtain⟨a,rfl,ao,ak⟩:=h
  have ab:dq vu l=true:=ab
  rw[eW,asH]at ab
  show Value.agg a=Value.agg (lmap vi l).toArray
  congr 1
  apply Array.ext
  ·rw[c5];simpa using ao
  ·intro i U aa
   have hi:i<l.length:=by omega
   have al:=Bi (ab (l.getD i .un) (by simp[ass,hi])) (ak i hi)
   simp only[c5,List.getElem_toArray,List.getElem_map]
   simpa[asA,ass,U,hi]using al
 |d x=>exact Bi (Z:=Z) (w:=w) (v:= .d x) (ρ:=ρ) (own:=own) ab h
 |bt=>exact Bi (Z:=Z) (w:=w) (v:= .bt) (ρ:=ρ) (own:=own) rfl h
 |bf=>exact Bi (Z:=Z) (w:=w) (v:= .bf) (ρ:=ρ) (own:=own) rfl h
 |_=>cases ab
theorem W3 {Z:Nat->Prop}{bM:List J}{us:Array Value}(ab:dq vS bM=true)(aq:bM.length=us.toList.length)(h:∀i,i<bM.length->bz Z w ρ own (bM.getD i .un) (us.toList.getD i undef)):us=(lmap tz bM).toArray:=by
 rw[eW,asH]at ab
 apply Array.ext
 ·rw[c5];simpa using aq.symm
 ·intro i U aa
  have hi:i<bM.length:=by rw[aq];simpa using U
  have al:=XP (ab (bM.getD i .un) (by simp[ass,hi])) (h i hi)
  simp only[c5,List.getElem_toArray,List.getElem_map]
  simpa[ass,U,hi]using al
theorem TG {s:TypeId}{i:bQ}(hi:cE P s i=true){bM:List (Nat×Nat×aO)}{cs:List b0}(h:i.ty= .struct bM cs)(f:Nat)(aQ:f<bM.length)(n:Nat)(r:List R){u:Value}
 (hu:bz (aI N ρ own) w ρ own (.rw n r) u) (aq:eV i.ty f+(kg i.ty f).size<=n) {safe:List Prop} {v:J} {own':aB}
 (he:(match kg i.ty f with
   | .bS s=>bH.aR [s.pa (r.getD (eV i.ty f) .undef)] (s.take (r.getD (eV i.ty f) .undef)) own
   |t'=>
    (match t'.jj with
    |true=> .aR [] (.rw t'.size (kM r (eV i.ty f) t'.size n)) own
    |false=> .aR (mc t'.cells r (eV i.ty f)).1 (.agg (mc t'.cells r (eV i.ty f)).2) own))= .aR safe v own') (ao:∀p∈safe,p):
 ∃cy,own'=own/\(Instr.field s u f).run P w= .ok cy w/\bz (aI N ρ own) w ρ own v cy:=by
 obtain⟨a,U,aa⟩:=wI hi h
 obtain⟨dv,g,aU,a_,bF,di,eB,hb⟩:=EK aa f aQ
 have sf:a[f]? =some dv:=by simpa using aU
 obtain⟨arr,rfl,aC,yU,ak⟩:=hu
 have HF:eV i.ty f=dv.offset:=by rw[h,eV,dp,<-bF]
 have bV:kg i.ty f=(bM.getD f (0,0, .no)).2.2:=by rw[h,kg,dp]
 rw[HF,bV]at aq he
 obtain⟨d,jC,hH⟩:=hb
 have Rm:∀m,m<g.size->dv.offset+g.size<=n->Reads (aI N ρ own) w (r.getD (dv.offset+m) .undef) ((arr.extract dv.offset (dv.offset+g.size)).getD m undef):=fun m hm aT=>by
  have:=ak (dv.offset+m) (by omega)
  have an:(arr.extract dv.offset (dv.offset+g.size)).getD m undef=arr.getD (dv.offset+m) undef:=by
   rw[asA,asA,Array.getElem?_extract,asq (by omega)]
  rw[an];exact this
 have rX:∀jX,(bM.getD f (0,0, .no)).2.2.isAgg=true->(bM.getD f (0,0, .no)).2.2.cells=jX->(bM.getD f (0,0, .no)).2.2.size=jX.length->
  (match(bM.getD f (0,0, .no)).2.2.jj with
    |true=>bH.aR [] (.rw (bM.getD f (0,0, .no)).2.2.size (kM r dv.offset (bM.getD f (0,0, .no)).2.2.size n)) own
    |false=> .aR (mc (bM.getD f (0,0, .no)).2.2.cells r dv.offset).1 (.agg (mc (bM.getD f (0,0, .no)).2.2.cells r dv.offset).2) own)= .aR safe v own'->
  ∃cy,own'=own/\(Instr.field s (.agg arr) f).run P w= .ok cy w/\bz (aI N ρ own) w ρ own v cy:=fun jX q1 cb cu he=>by
  rw[q1]at hH
  have eI:(Instr.field s (.agg arr) f).run P w= .ok (.agg (arr.extract dv.offset (dv.offset+g.size))) w:=by
   simp[Instr.field,underlying,U,sf,asAgg,part,pY jC,hH,k_ a_]
  split at he
  ·simp only[bH.aR.injEq]at he
   obtain⟨rfl,rfl,rfl⟩:=he
   obtain⟨dt,dD⟩:=EJ (j:=dv.offset) (n:=(bM.getD f (0,0, .no)).2.2.size) yU aq
   refine⟨_,rfl,eI, .gB ⟨_,rfl,by rw[Array.size_extract];omega,dt,fun m hm=> ?_⟩⟩
   rw[dD m hm]
   exact Rm m (by omega) (by omega)
  ·simp only[bH.aR.injEq]at he
   obtain⟨rfl,rfl,rfl⟩:=he
   rw[cb]at ao⊢
   obtain⟨dt,dD⟩:=EL (Z:=aI N ρ own) (w:=w) (ρ:=ρ) (own:=own) jX r dv.offset (fun m=>(arr.extract dv.offset (dv.offset+g.size)).getD m undef) (fun m hm=>Rm m (by omega) (by omega)) ao
   exact⟨_,rfl,eI, .gB ⟨_,rfl,by rw[Array.size_extract];omega,fun m hm=>dD m (by omega)⟩⟩
 cases qp:(bM.getD f (0,0, .no)).2.2 with
 |bS st=>
  rw[qp]at aq hH di he
  have bB:dv.offset<n:=by simp[aO.size]at aq;omega
  have js:dv.offset<arr.size:=by omega
  simp only[bH.aR.injEq]at he
  obtain⟨rfl,rfl,rfl⟩:=he
  refine⟨arr[dv.offset],rfl, ?_, ?_⟩
  ·simp[Instr.field,underlying,U,sf,asAgg,part,pY jC,hH,aO.isAgg,js]
  ·have:=ak dv.offset bB
   simp only[asA,aud js,atv]at this
   exact .cM (sE this (ao _ (by simp)))
 |no=>
  rw[qp]at aq di;simp[aO.size]at di;omega
 |struct DW jX=>rw[qp]at he rX;exact rX jX rfl rfl (by simp[aO.size,cf]) he
 |arr n' cd jX=>rw[qp]at he rX;exact rX jX rfl rfl (by simp[aO.size,cf]) he
theorem TH {s:TypeId}{i:bQ}(hi:cE P s i=true){f:Nat}{x:J}{u:Value}(af:bz (aI N ρ own) w ρ own x u){safe:List Prop}{v:J}{own':aB}
 (h:oW i.ty f x own= .aR safe v own') (ao:∀p∈safe,p):∃cy,own'=own/\(Instr.field s u f).run P w= .ok cy w/\bz (aI N ρ own) w ρ own v cy:=by
 unfold oW at h
 split at h
 ·cases h
 ·rename_i eE
  obtain⟨bM,cs,bV,aQ⟩:∃bM cs,i.ty= .struct bM cs/\f<bM.length:=by
   cases bV:i.ty with
   |struct bM cs=>
    rw[bV]at eE
    have:f+1<=bN bM:=by simpa[rr,Nat.blt]using eE
    rw[cf]at this
    exact⟨bM,cs,rfl,by omega⟩
   |_=>rw[bV]at eE;simp[rr]at eE
  split at h
  ·rename_i l
   split at h
   ·rename_i hle
    simp only[bH.aR.injEq]at h
    obtain⟨rfl,rfl,rfl⟩:=h
    have hle:=asV hle
    rw[cf]at hle
    obtain⟨u,U,aa⟩:=Vx (w:=w) hi bV f aQ l af hle
    exact⟨u,rfl,U,aa⟩
   ·cases h
  ·rename_i n r
   split at h
   ·rename_i hle ar
    exact TG hi bV f aQ n r af (asV hle) h ao
   ·cases h
  ·cases h
theorem BQ {tb:TypeId->bQ}{t:TypeId}(h:o2 P tb t=true):rF P tb t=true/\xz P (tb t) t=true:=by
 unfold o2 at h
 split at h
 ·rename_i U;exact⟨U,h⟩
 ·cases h
theorem VL {tb:TypeId->bQ}(bj:∀t,cE P t (tb t)=true)(ic:∀t,o2 P tb t=true){o:Oper}{tm:List J}{a:Act}(bx:b4 N ρ own w)(aA:dC (aI N ρ own) w ρ own tm a.tmps)
 {safe:List Prop} {v:J} {own':aB} (h:ei tb o tm own= .aR safe v own') (ao:∀p∈safe,p):Good P N ρ own w (execOp a.eval o) v own':=by
 unfold ei at h
 unfold execOp
 cases bD:o.op with
 |move x=>
  simp only[bD]at h⊢
  simp only[bH.aR.injEq]at h
  obtain⟨rfl,rfl,rfl⟩:=h
  exact .xA bx (dK aA x)
 |assign x=>
  simp only[bD]at h⊢
  simp only[bH.aR.injEq]at h
  obtain⟨rfl,rfl,rfl⟩:=h
  exact .xA bx (dK aA x)
 |pick c x y=>
  simp only[bD]at h⊢
  obtain⟨b,rfl,ae,aM⟩:=TZ aA h
  refine⟨.value (if b then a.eval x else a.eval y),w,ρ,_, ?_, .inl rfl,Step.refl bx,aM⟩
  rw[ae];cases b<;>rfl
 |alloc t=>
  simp only[bD]at h⊢
  obtain⟨u,w',ρ',U,aa,al⟩:=TB (bj t) bx h
  exact ng U aa al rfl
 |box t x=>
  simp only[bD]at h⊢
  obtain⟨u,w',ρ',U,aa,al⟩:=UL (P:=P) (t:=t) bx aA h
  exact ng U aa al rfl
 |build t parts=>
  simp only[bD]at h⊢
  obtain⟨u,rfl,U,aa⟩:=TC (bj t) aA parts h
  exact ij bx U aa rfl
 |buildSlice t n parts=>
  simp only[bD]at h⊢
  split at h
  ·rename_i k bV
   split at h
   ·rename_i l aq ar
    obtain⟨u,w',ρ',U,aa,al⟩:=Lh (bj t) bx aA parts n bV aq (asV ar)
    unfold rB at h
    split at h
    ·simp only[bH.aR.injEq]at h
     obtain⟨rfl,rfl,rfl⟩:=h
     obtain⟨aU,a_⟩:=forget bx aa al (.inl ⟨k,l,rfl⟩)
     exact ng U aU (v:= .d _) a_ rfl
    ·simp only[bH.aR.injEq]at h
     obtain⟨rfl,rfl,rfl⟩:=h
     rw[fu,cf]
     exact ng U aa al rfl
   ·cases h
  ·rename_i aj bV
   split at h
   ·rename_i l aq ar
    obtain⟨u,w',ρ',U,aa,al⟩:=Li (bj t) bx aA parts n bV aq (asV ar)
    unfold rB at h
    split at h
    ·simp only[bH.aR.injEq]at h
     obtain⟨rfl,rfl,rfl⟩:=h
     obtain⟨aU,a_⟩:=forget bx aa al (.inr ⟨aj,l,rfl⟩)
     exact ng U aU (v:= .d _) a_ rfl
    ·simp only[bH.aR.injEq]at h
     obtain⟨rfl,rfl,rfl⟩:=h
     rw[fu,cf]
     exact ng U aa al rfl
   ·cases h
  ·cases h
 |load t p=>
  simp only[bD]at h⊢
  obtain⟨u,rfl,U,aa⟩:=LP (bj t) bx aA h ao
  exact ij bx U aa rfl
 |store t p x=>
  simp only[bD]at h⊢
  obtain⟨w',rfl,U,aa⟩:=TA (bj t) bx aA h ao
  exact⟨.skip,w',ρ,undef,by simp[U], .inr ⟨rfl,rfl⟩,aa,bz.un⟩
 |nilCheck x=>
  simp only[bD]at h⊢
  have af:=dK aA x
  split at h
  ·rename_i id j he
   simp only[bH.aR.injEq]at h
   obtain⟨rfl,rfl,rfl⟩:=h
   rw[he]at af
   have lH:=af
   obtain⟨loc,b,U,aa,al,aL⟩:=af
   rw[aL]at lH⊢
   exact .xA bx lH
  ·rename_i id n j he
   simp only[bH.aR.injEq]at h
   obtain⟨rfl,rfl,rfl⟩:=h
   rw[he]at af
   have lH:=af
   obtain⟨loc,b,U,aa,al,aL,bo⟩:=af
   rw[aL]at lH⊢
   exact .xA bx lH
  ·rename_i y n j he
   simp only[bH.aR.injEq]at h
   obtain⟨rfl,rfl,rfl⟩:=h
   rw[he]at af
   have lH:=af
   obtain⟨b,off,cap,U,aa,al,aL⟩:=af
   rw[aL]at lH⊢
   exact .xA bx lH
  ·cases h
 |binOp op t x y ty=>
  simp only[bD]at h⊢
  unfold xx at h
  split at h
  ·obtain⟨u,rfl,U,aa⟩:=VG (P:=P) (bj t) (BQ (ic t)).2 aA h ao
   exact ij bx U aa rfl
  ·obtain⟨u,rfl,U,aa⟩:=UH (P:=P) (bj t) aA h ao
   exact ij bx U aa rfl
 |unOp op t x=>
  simp only[bD]at h⊢
  obtain⟨u,rfl,U,aa⟩:=Vt (P:=P) aA h
  exact ij bx U aa rfl
 |convert src dst x=>
  simp only[bD]at h⊢
  obtain⟨u,rfl,U,aa⟩:=W2 (bj src) (bj dst) bx aA h ao
  exact ij bx U aa rfl
 |extract x i=>
  simp only[bD]at h⊢
  split at h
  ·rename_i l he
   split at h
   ·rename_i bB
    simp only[bH.aR.injEq]at h
    obtain⟨rfl,rfl,rfl⟩:=h
    have bB:i+1<=bN l:=by simpa[Nat.blt]using bB
    rw[cf]at bB
    obtain⟨u,U,aa⟩:=T0 (P:=P) aA he bB
    exact ij bx U aa rfl
   ·cases h
  ·cases h
 |fieldAddr s x f=>
  simp only[bD]at h⊢
  split at h
  ·cases h
  ·rename_i eE
   have af:=dK aA x
   obtain⟨bM,cs,bV,aQ⟩:∃bM cs,(tb s).ty= .struct bM cs/\f<bM.length:=by
    cases bV:(tb s).ty with
    |struct bM cs=>
     rw[bV]at eE
     have:f+1<=bN bM:=by simpa[rr,Nat.blt]using eE
     rw[cf]at this
     exact⟨bM,cs,rfl,by omega⟩
    |_=>rw[bV]at eE;simp[rr]at eE
   have eI:=fun b o=>T3 (w:=w) (bj s) bV f aQ b o
   split at h
   ·rename_i id off he
    simp only[bH.aR.injEq]at h
    obtain⟨rfl,rfl,rfl⟩:=h
    rw[he]at af
    obtain⟨loc,b,U,aa,al,aL⟩:=af
    refine ij bx (by rw[aL];exact eI b off) ?_ rfl
    exact .cM ⟨loc,b,U,aa,al,rfl⟩
   ·rename_i id n j he
    simp only[bH.aR.injEq]at h
    obtain⟨rfl,rfl,rfl⟩:=h
    rw[he]at af
    obtain⟨loc,b,U,aa,al,aL,bo⟩:=af
    refine ij bx (by rw[aL];exact eI b _) ?_ rfl
    exact .cM ⟨loc,b,U,aa,al,by rw[atn];rfl,bo⟩
   ·rename_i y n j he
    simp only[bH.aR.injEq]at h
    obtain⟨rfl,rfl,rfl⟩:=h
    rw[he]at af
    obtain⟨b,off,cap,U,aa,al,aL⟩:=af
    refine ij bx (by rw[aL];exact eI b _) ?_ rfl
    exact .cM ⟨b,off,cap,U,aa,al,by rw[atn];rfl⟩
   ·cases h
 |field s x f=>
  simp only[bD]at h⊢
  obtain⟨u,rfl,U,aa⟩:=TH (w:=w) (bj s) (dK aA x) h ao
  exact ij bx U aa rfl
 |indexAddr t x i=>
  simp only[bD]at h⊢
  obtain⟨u,rfl,U,aa⟩:=S_ (bj t) bx aA h ao
  exact ij bx U aa rfl
 |index t x i=>
  simp only[bD]at h⊢
  have af:=dK aA x
  have hi:=dK aA i
  generalize aS tm x=aby at*
  generalize aS tm i=ii at*
  unfold xb at h
  split at h
  ·rename_i k n
   split at h
   ·rename_i l bV
    simp only[bH.aR.injEq]at h
    obtain⟨rfl,rfl,rfl⟩:=h
    have aE:0<=n:=ao _ (by simp)
    have U:n<(l.length:Int):=ao _ (by simp)
    obtain⟨s,hu,aq⟩:=rf af
    have an:=iE hi
    have tB:=rh (bj t) bV
    have bB:n.toNat<s.data.size:=by rw[aq,asy,atu]at U;omega
    refine ij bx (u:= .int .u8 (s.data[n.toNat]).toNat) ?_ ?_ rfl
    ·rw[hu,an]
     have aT:(if 0<=n then s[n.toNat]? else none)=some (s.data[n.toNat]):=by
      rw[asq aE]
      have:n.toNat<s.size:=bB
      rw[getElem?_pos s n.toNat this];rfl
     simp only[Instr.index,asIntOf,Sem.run_bind,Sem.run_pure,Result.andThen_ok,run_underlying tB,aT]
    ·rw[aq]
     have:((s.data.toList.map fun b=>(b.toNat:Int)).getD n.toNat 0)=((s.data[n.toNat]).toNat:Int):=by
      rw[ass,atl,auD,aud bB];rfl
     rw[this];exact nq _ _
   ·rename_i m s _ z r bV
    split at h
    ·rename_i bc
     obtain rfl:=ast bc
     simp only[bH.aR.injEq]at h
     obtain⟨rfl,rfl,rfl⟩:=h
     have aE:0<=n:=ao _ (by simp)
     have U:n<(z:Int):=ao _ (by simp)
     have an:=iE hi
     obtain⟨el,g,d,q1,cb,cu,fM,dm⟩:=UI (bj t) bV
     have cu:g.size=1:=cu
     have dm:n8 d=false:=dm
     obtain⟨arr,hu,eK,hJ,ak⟩:=af
     have bB:n.toNat<arr.size:=by omega
     refine ij bx (u:=arr[n.toNat]) ?_ ?_ rfl
     ·rw[hu,an]
      simp[Instr.index,asIntOf,underlying,q1,aE,U,k_ cb,cu,part,pY fM,dm,bB]
     ·have:=ak n.toNat (by omega)
      simp only[asA,aud bB,atv]at this
      exact .cM (sE this (ao _ (by simp)))
    ·cases h
   ·cases h
  ·cases h
 |makeSlice t n c=>
  simp only[bD]at h⊢
  obtain⟨u,w',ρ',U,aa,al⟩:=T5 (bj t) bx aA h ao
  exact ng U aa al rfl
 |slice t x lo hi cX=>
  simp only[bD]at h⊢
  obtain⟨u,ρ',U,aa,al⟩:=T7 (bj t) bx aA h ao
  exact ng U aa al rfl
 |call c=>
  simp only[bD]at h
  split at h
  ·rename_i b ay
   obtain⟨consts,he⟩:=Lk (a:=a) bD ay
   have:=Td (P:=P) (N:=N) (ρ:=ρ) (w:=w) bj bx aA h ao o.type consts
   rw[<-he]at this
   unfold execOp at this
   rw[bD]at this
   exact this
  ·cases h
  ·unfold rv at h
   split at h<;>cases h
  ·cases h
 |makeFunc fn first cap=>
  simp only[bD]at h⊢
  unfold ru at h
  obtain⟨cj,U⟩:=Gp aA first
  obtain⟨db,_⟩:=Gp aA cap
  generalize lmap (aS tm) first.toList=bM at h cj U
  generalize lmap (aS tm) cap.toList=cs at h db
  split at h
  ·rename_i f
   have wb:cap.map a.eval=#[]:=by
    have:(cap.map a.eval).toList.length=0:=db.symm
    exact Array.eq_empty_of_size_eq_zero (by simpa using this)
   rw[wb]
   split at h
   ·simp only[bH.aR.injEq]at h
    obtain⟨rfl,rfl,rfl⟩:=h
    have we:first.map a.eval=#[]:=by
     have:(first.map a.eval).toList.length=0:=cj.symm
     exact Array.eq_empty_of_size_eq_zero (by simpa using this)
    rw[we]
    exact ij bx (u:= .func (.func f) #[] #[]) (v:= .fn f) rfl (.cM rfl) rfl
   ·split at h
    ·rename_i ab
     simp only[bH.aR.injEq]at h
     obtain⟨rfl,rfl,rfl⟩:=h
     have e:=W3 ab cj U
     exact ij bx (u:= .func (.func f) (first.map a.eval) #[]) (v:= .cls f bM) rfl (.cM ⟨by rw[e],ab⟩) rfl
    ·cases h
  ·cases h
 |makeMap t r=>
  cases r with
  |some x=>simp only[bD]at h;cases h
  |none=>
   simp only[bD]at h⊢
   obtain⟨u,w',ρ',U,aa,al⟩:=T8 (P:=P) (BQ (ic t)).1 bx h
   exact ng U aa al rfl
 |lookup t m k c=>
  simp only[bD]at h⊢
  obtain⟨u,rfl,U,aa⟩:=UN (P:=P) (BQ (ic t)).1 bx (dK aA m) (dK aA k) h ao
  exact ij bx U aa rfl
 |mapUpdate t m k x=>
  simp only[bD]at h⊢
  obtain⟨w',rfl,U,aa⟩:=Tc (P:=P) (BQ (ic t)).1 bx (dK aA m) (dK aA k) (dK aA x) h ao
  exact⟨.skip,w',ρ,undef,by simp[U], .inr ⟨rfl,rfl⟩,aa,bz.un⟩
 |panic x=>
  simp only[bD]at h
  simp only[bH.aR.injEq]at h
  obtain⟨rfl,_⟩:=h
  exact(ao False (by simp)).elim
 |_=>simp only[bD]at h;cases h
end
end Go.bG
end
section
namespace Go.bG
def e6 (P:Program)(f:FuncId)(T:e3):Prop:=
 (∃fn,P.funcs[f]? =some fn/\fn.body.isNone=false/\(fn.name== "runtime.NumGoroutine")=false)/\
 ∀(N:Nat->Prop) (ρ:List Loc) (own:aB) (w:World) (args:List J) (vals:Array Value) (K:J->aB->Prop),T args own K->b4 N ρ own w->
  args.length=vals.size->(∀i,i<args.length->bz (aI N ρ own) w ρ own (args.getD i .un) (vals.getD i undef))->
  Calls P f vals w fun e w'=>∃r own' ρ' v,e= .returned v/\K r own'/\Step N ρ own w ρ' own' w'/\bz (aI N ρ' own') w' ρ' own' r v
def uP (P:Program)(f:FuncId)(T:e3):Prop:=
 ∀(N:Nat->Prop) (ρ:List Loc) (own:aB) (w:World) (args:List J) (vals:Array Value) (K:J->aB->Prop),T args own K->b4 N ρ own w->
  args.length=vals.size->(∀i,i<args.length->bz (aI N ρ own) w ρ own (args.getD i .un) (vals.getD i undef))->
  ∃v w' r own' ρ',(callFunc f vals).run P w= .ok (.value v) w'/\K r own'/\Step N ρ own w ρ' own' w'/\bz (aI N ρ' own') w' ρ' own' r v
def oY (P:Program)(f:FuncId)(T:e3):Prop:=e6 P f T\/uP P f T
section
variable {P:Program} {N:Nat->Prop} {ρ:List Loc} {own:aB} {w:World}
theorem VM {N:Nat->Prop}{ρ:List Loc}{own cx:aB}{w:World}{A:Value->World->Prop}{v:J}{own':aB}{id:Nat}(h:Step N ρ own w ρ cx w)
 (k:∃u w' ρ',A u w'/\b4 N ρ' own' w'/\Fr ρ cx w ρ' own' w'/\(∀i,i≠id->eg ρ cx ρ' own' i)/\bz (aI N ρ' own') w' ρ' own' v u):
 ∃u w' ρ',A u w'/\b4 N ρ' own' w'/\Fr ρ own w ρ' own' w'/\(∀i,i≠id->eg ρ own ρ' own' i)/\bz (aI N ρ' own') w' ρ' own' v u:=by
 obtain⟨u,w',ρ',U,aa,al,aL,bo⟩:=k
 refine⟨u,w',ρ',U,aa,h.toFr.trans al,fun i hi=> ?_,bo⟩
 intro loc aq
 obtain⟨a1,a2,a3⟩:=h.same i loc aq
 obtain⟨cn,cF,hN⟩:=aL i hi loc a1
 exact⟨cn,cF.trans a2,hN.trans a3⟩
theorem Lm (t:aO)(x:R)(i:Int)(j:Nat)(own:aB):loadData t x i j own= .bad\/∃s v,loadData t x i j own= .aR s v own:=by
 unfold loadData
 split
 ·split
  ·split
   ·exact .inr ⟨_,_,rfl⟩
   ·exact .inl rfl
  ·exact .inl rfl
 ·split
  ·split
   ·exact .inr ⟨_,_,rfl⟩
   ·split<;>exact .inr ⟨_,_,rfl⟩
   ·exact .inr ⟨_,_,rfl⟩
   ·exact .inl rfl
  ·exact .inl rfl
 ·exact .inl rfl
theorem My (t:aO)(x:R)(i:Int)(j:Nat)(own:aB):loadAt t x i j own= .bad\/∃s v,loadAt t x i j own= .aR s v own:=by
 unfold loadAt
 split
 ·exact .inr ⟨_,_,rfl⟩
 ·exact .inl rfl
theorem LR (t:aO)(p:J)(own:aB):hR t p own= .bad\/∃s v,hR t p own= .aR s v own:=by
 unfold hR
 split
 ·split
  ·split<;>first|exact .inr ⟨_,_,rfl⟩|exact .inl rfl
  ·exact .inl rfl
 ·exact Lm _ _ _ _ _
 ·exact Lm _ _ _ _ _
 ·exact My _ _ _ _ _
 ·exact My _ _ _ _ _
 ·exact .inl rfl
theorem TI (t:aO)(p:J)(r:List R)(own:aB):p1 t p r own= .bad\/∃s v own',p1 t p r own= .aR s v own':=by
 unfold p1
 (repeat' split)<;>first|exact .inr ⟨_,_,_,rfl⟩|exact .inl rfl
theorem Te (t:aO)(id:Nat)(i:Int)(j:Nat)(v:J)(own:aB):pX t id i j v own= .bad\/∃s cO own',pX t id i j v own= .aR s cO own':=by
 unfold pX
 (repeat' split)<;>first|exact .inr ⟨_,_,_,rfl⟩|exact .inl rfl
theorem TJ (t:aO)(p v:J)(own:aB):sO t p v own= .bad\/∃s cO own',sO t p v own= .aR s cO own':=by
 unfold sO
 (repeat' split)<;>first|exact .inr ⟨_,_,_,rfl⟩|exact .inl rfl
theorem Ln (t:aO)(p v:J)(own:aB):oT t p v own= .bad\/∃s cO own',oT t p v own= .aR s cO own':=by
 unfold oT
 split
 ·exact TI _ _ _ _
 ·split
  ·exact Te _ _ _ _ _ _
  ·exact TJ _ _ _ _
def bH.fixed:bH->Prop
 | .bad=>True
 | .aR ..=>True
 |_=>False
theorem OT {r:bH}(h:r= .bad\/∃s v o,r= .aR s v o):r.fixed:=by
 rcases h with rfl|⟨_,_,_,rfl⟩<;>trivial
theorem Bj {r:bH}(h:r.fixed):r= .bad\/∃s v o,r= .aR s v o:=by
 cases r<;>first|exact .inl rfl|exact .inr ⟨_,_,_,rfl⟩|exact h.elim
theorem Tf (t:aO)(p:J)(own:aB):(hR t p own).fixed:=OT ((LR t p own).imp id fun⟨s,v,h⟩=>⟨s,v,_,h⟩)
theorem SY (t:aO)(p v:J)(own:aB):(oT t p v own).fixed:=OT (Ln t p v own)
theorem VN (t:aO)(x:J)(n:Int)(own:aB):oc t x n own= .bad\/∃s v,oc t x n own= .aR s v own:=by
 unfold oc
 (repeat' split)<;>first|exact .inr ⟨_,_,rfl⟩|exact .inl rfl
theorem T9 (t:aO)(x:J)(n:Int)(own:aB):(oc t x n own).fixed:=by unfold oc;(repeat' split)<;>trivial
theorem SR (t:aO)(x i:J)(own:aB):(pS t x i own).fixed:=by unfold pS;(repeat' split)<;>first|trivial|exact T9 _ _ _ _
theorem SZ (t:aO)(x i:J)(own:aB):(xb t x i own).fixed:=by unfold xb;(repeat' split)<;>trivial
theorem Tg (t:bQ)(x i:J)(own:aB):(u2 t x i own).fixed:=by unfold u2;(repeat' split)<;>trivial
theorem S0 (t:aO)(x:J)(lo hi cX:Option J)(own:aB):(kf t x lo hi cX own).fixed:=by unfold kf;(repeat' split)<;>trivial
theorem S1 (t:aO)(x:J)(lo hi cX:Option J)(own:aB):(rk t x lo hi cX own).fixed:=by
 unfold rk
 split
 ·unfold oU;(repeat' split)<;>trivial
 ·exact S0 _ _ _ _ _ _
theorem KU (t:bQ)(x:J)(lo hi cX:Option J)(own:aB):(sV t x lo hi cX own).fixed:=by
 unfold sV
 split
 ·unfold Bg;(repeat' split)<;>trivial
 ·exact S1 _ _ _ _ _ _
theorem S2 (t:bQ)(x:J)(own:aB):(uO t x own).fixed:=by unfold uO;(repeat' split)<;>trivial
theorem SW (tb:TypeId->bQ)(t:bQ)(m k:J)(c:Bool)(own:aB):(nZ tb t m k c own).fixed:=by unfold nZ;(repeat' split)<;>trivial
theorem Ka (tb:TypeId->bQ)(t:bQ)(m k v:J)(own:aB):(q7 tb t m k v own).fixed:=by unfold q7;(repeat' split)<;>trivial
theorem SU (tb:TypeId->bQ)(t:bQ)(own:aB):(wO tb t own).fixed:=by unfold wO;(repeat' split)<;>trivial
theorem T_ (op:BinOp)(t:aO)(x y:J)(own:aB):(pb op t x y own).fixed:=by unfold pb;(repeat' split)<;>trivial
theorem S3 (t:aO)(f:Nat)(v:J)(own:aB):(oW t f v own).fixed:=by unfold oW;(repeat' split)<;>trivial
theorem S4 (t:aO)(ps:List (Nat×J))(own:aB):(oV t ps own).fixed:=by unfold oV;(repeat' split)<;>trivial
theorem KD (t:aO)(own:aB):(xc t own).fixed:=by unfold xc;(repeat' split)<;>trivial
theorem Lo (t:aO)(v:J)(own:aB):(xw t v own).fixed:=by unfold xw;(repeat' split)<;>trivial
theorem TK (b:Bool)(ob:ad)(own:aB):(rB b ob own).fixed:=by unfold rB;split<;>trivial
theorem Th (c x y:J)(own:aB):(u1 c x y own).fixed:=by unfold u1;(repeat' split)<;>trivial
theorem Ua (op:UnOp)(x:J)(own:aB):(vh op x own).fixed:=by unfold vh;(repeat' split)<;>trivial
theorem Ti (s d:aO)(x:J)(own:aB):(nt s d x own).fixed:=by unfold nt;(repeat' split)<;>trivial
theorem Tj (fn:Fn)(first cap:List J)(own:aB):(ru fn first cap own).fixed:=by unfold ru;(repeat' split)<;>trivial
theorem EP {op:BinOp}{t:aO}{cY:Operand}{x y:J}{own:aB}{r:bH}(h:xx op t cY x y own=r)(ak:r.fixed->False):n5 op t cY x y own=r:=by
 unfold xx at h
 split at h
 ·exact(ak (h▸T_ _ _ _ _ _)).elim
 ·exact h
theorem AN {t:bQ}{x:J}{own:aB}{r:bH}(h:uO t x own=r)(ak:r.fixed->False):False:=ak (h▸S2 _ _ _)
def XQ:Op->Bool
 | .binOp ..=>false
 | .call _=>false
 |_=>true
theorem FQ {tb:TypeId->bQ}{o:Oper}{tm:List J}{own:aB}(aw:XQ o.op=true):(ei tb o tm own).fixed:=by
 unfold ei
 split
 all_goals first
  |trivial
  |exact Th _ _ _ _
  |exact KD _ _
  |exact Lo _ _ _
  |exact S4 _ _ _
  |exact Tf _ _ _
  |exact SY _ _ _ _
  |exact Ua _ _ _
  |exact Ti _ _ _ _
  |exact S3 _ _ _ _
  |exact SR _ _ _ _
  |exact SZ _ _ _ _
  |exact Tg _ _ _ _
  |exact KU _ _ _ _ _ _
  |exact SU _ _ _
  |exact SW _ _ _ _ _ _
  |exact Ka _ _ _ _ _ _
  |exact Tj _ _ _ _
  |(rename_i he;rw[he]at aw;exact absurd aw atB)
  |((repeat' split)<;>first|trivial|exact TK _ _ _)
theorem KV (v:J)(args:List J)(tys:List TypeId):rv v args tys= .bad\/∃f a,rv v args tys= .call f a tys:=by
 unfold rv
 split
 ·exact .inr ⟨_,_,rfl⟩
 ·exact .inr ⟨_,_,rfl⟩
 ·exact .inl rfl
theorem Ny {tb:TypeId->bQ}{o:Oper}{tm:List J}{safe:List Prop}{v:J}{own':aB}{id:Nat}(h:ei tb o tm own= .grow safe v own' id):
 ∃c b,o.op= .call c/\c.callee= .builtin b/\j_ tb b c.argTypes.toList (lmap (aS tm) c.args.toList) own= .grow safe v own' id:=by
 have aE:=h
 unfold ei at h
 cases bD:o.op with
 |call c=>
  simp only[bD]at h
  split at h
  ·rename_i b ay
   exact⟨c,b,rfl,ay,h⟩
  ·cases h
  ·rename_i t _;rcases KV (bT .un tm t) (lmap (aS tm) c.args.toList) c.argTypes.toList with e|⟨_,_,e⟩<;>rw[e]at h<;>cases h
  ·cases h
 |binOp op t x y ty=>
  simp only[bD]at h
  replace h:=EP h (fun h=>h)
  unfold n5 at h
  split at h
  ·split at h
   ·cases h
   ·cases h
   ·split at h
    ·cases op<;>simp[l4]at h
    ·cases h
  ·split at h<;>cases h
  ·split at h<;>cases h
  ·split at h<;>cases h
  all_goals first|cases h|(unfold im at h;split at h<;>cases h)
 |_=>have:=FQ (tb:=tb) (o:=o) (tm:=tm) (own:=own) (by rw[bD];rfl);rw[aE]at this;exact this.elim
theorem UO {tb:TypeId->bQ}(bj:∀t,cE P t (tb t)=true){o:Oper}{tm:List J}{a:Act}(bx:b4 N ρ own w)(aA:dC (aI N ρ own) w ρ own tm a.tmps)
 {safe:List Prop} {v:J} {own':aB} {id:Nat} (h:ei tb o tm own= .grow safe v own' id) (ao:∀p∈safe,p):
 ∃u w' ρ',(execOp a.eval o).run P w= .ok (.value u) w'/\b4 N ρ' (fN id own') w'/\Fr ρ own w ρ' (fN id own') w'/\(∀i,i≠id->eg ρ own ρ' (fN id own') i)/\
  bz (aI N ρ' (fN id own')) w' ρ' (fN id own') v u:=by
 obtain⟨c,b,bD,ay,h⟩:=Ny h
 obtain⟨consts,he⟩:=Lk (a:=a) bD ay
 rw[he]
 unfold j_ at h
 split at h
 ·split at h
  ·cases h
  ·split at h<;>cases h
 ·rename_i x y fA
  obtain⟨p,q,qg,aw,aN⟩:=FO fA
  have af:=dK aA p
  have a6:=dK aA q
  rw[aw]at af
  rw[aN]at a6
  rw[qg]
  clear fA aw aN qg
  obtain⟨ct,a6⟩:=FP bx a6
  replace af:=ct.km af
  refine VM ct ?_
  replace bx:=ct.rel
  clear ct aA
  generalize kJ own y=cx at*
  generalize rJ own y=sv at*
  split at h
  ·rename_i n jW ae
   split at h
   ·rename_i mS
    have mS:=ast mS
    have tE:=Ll (tys:=c.argTypes) (by omega)
    obtain⟨cd,ab⟩:=pR (bj _) jW
    have qK:0<(tb (bT 0 c.argTypes.toList 0)).bytes:=by
     have:1<=(tb (bT 0 c.argTypes.toList 0)).bytes:=by simpa[Nat.blt]using ae
     omega
    have ny:∀(u:Value) (w':World),(Builtin.append_ #[bT 0 c.argTypes.toList 0,bT 0 c.argTypes.toList 1] o.type #[a.eval p,a.eval q]).run P w= .ok u w'->
     (builtin .append c.argTypes o.type consts (#[p,q].map a.eval)).run P w= .ok (.value u) w':=by
     intro u w' ak
     rw[tE]
     simp only[builtin,Sem.run_bind,auE,asX,List.map_nil,ak,Result.andThen_ok,Sem.run_pure]
    unfold rb at h
    split at h
    ·split at h<;>cases h
    ·split at h
     ·split at h<;>cases h
     ·cases h
    ·split at h<;>cases h
    ·rename_i lP x
     split at h
     ·rename_i aQ dy
      split at h
      ·rename_i k l b3 m aH
       split at h
       ·rename_i mj
        simp only[bH.grow.injEq]at h
        obtain⟨rfl,rfl,rfl,rfl⟩:=h
        obtain rfl:=iS.1 mj
        obtain⟨u,w',ρ',U,aa,al,aL,bo⟩:=KC (P:=P) (N:=N) (ρ:=ρ) (own:=cx) (w:=w) (ty:=o.type) (bj _) bx ab af a6 aQ dy (.ints k (m++l)) (.inl ⟨k,l,m,rfl,aH,rfl⟩) qK
         (by rw[aH];have:=ao _ (atr.2 rfl);exact this)
        rw[ep]
        exact⟨u,w',ρ',ny _ _ U,aa,al,aL,bo⟩
       ·cases h
      ·rename_i aj l hK m aH
       split at h
       ·rename_i mj
        simp only[bH.grow.injEq]at h
        obtain⟨rfl,rfl,rfl,rfl⟩:=h
        obtain rfl:=ast mj
        obtain⟨u,w',ρ',U,aa,al,aL,bo⟩:=KC (P:=P) (N:=N) (ρ:=ρ) (own:=cx) (w:=w) (ty:=o.type) (bj _) bx ab af a6 aQ dy (.rows aj (m++l)) (.inr ⟨aj,l,m,rfl,aH,rfl⟩) qK
         (by rw[aH];have:=ao _ (atr.2 rfl);exact this)
        rw[ep]
        exact⟨u,w',ρ',ny _ _ U,aa,al,aL,bo⟩
       ·cases h
      ·cases h
     ·cases h
    ·cases h
   ·cases h
  ·cases h
 ·split at h<;>cases h
 ·split at h<;>cases h
 ·split at h
  ·exact(AN h (fun h=>h)).elim
  ·cases h
 ·cases h
theorem PM {tb:TypeId->bQ}{o:Oper}{tm:List J}{p:Bool->Prop}(h:ei tb o tm own= .e0 p):(∃op t x y ty,o.op= .binOp op t x y ty/\n5 op (tb t).ty y (aS tm x) (aS tm y) own= .e0 p):=by
 have aE:=h
 unfold ei at h
 cases bD:o.op with
 |binOp op t x y ty=>simp only[bD]at h;exact⟨op,t,x,y,ty,rfl,EP h (fun h=>h)⟩
 |call c=>
  simp only[bD]at h
  split at h
  ·unfold j_ at h
   split at h
   ·split at h
    ·cases h
    ·split at h<;>cases h
   ·split at h
    ·split at h
     ·unfold rb at h
      split at h
      ·split at h<;>cases h
      ·split at h
       ·split at h<;>cases h
       ·cases h
      ·split at h<;>cases h
      ·split at h
       ·split at h
        ·split at h<;>cases h
        ·split at h<;>cases h
        ·cases h
       ·cases h
      ·cases h
     ·cases h
    ·cases h
   ·split at h<;>cases h
   ·split at h<;>cases h
   ·split at h
    ·exact(AN h (fun h=>h)).elim
    ·cases h
   ·cases h
  ·cases h
  ·rename_i t _;rcases KV (bT .un tm t) (lmap (aS tm) c.args.toList) c.argTypes.toList with e|⟨_,_,e⟩<;>rw[e]at h<;>cases h
  ·cases h
 |_=>have:=FQ (tb:=tb) (o:=o) (tm:=tm) (own:=own) (by rw[bD];rfl);rw[aE]at this;exact this.elim
theorem UP {tb:TypeId->bQ}(bj:∀t,cE P t (tb t)=true){o:Oper}{tm:List J}{a:Act}(aA:dC (aI N ρ own) w ρ own tm a.tmps)
 {p:Bool->Prop} (h:ei tb o tm own= .e0 p):∃b,p b/\(execOp a.eval o).run P w= .ok (.value (.bool b)) w:=by
 obtain⟨op,t,x,y,ty,aH,ae⟩:=PM h
 obtain⟨b,U,aa⟩:=WY (P:=P) (bj t) aA ae
 refine⟨b,U, ?_⟩
 unfold execOp
 rw[aH]
 simp only[Sem.run_bind]at aa⊢
 cases aT:(eqGuard op t x y (a.eval x) (a.eval y)).run P w with
 |ok q cz=>
  rw[aT]at aa
  simp only[Result.andThen_ok]at aa⊢
  rw[aa];rfl
 |halt q cz=>rw[aT]at aa;cases aa
theorem XR {tb:TypeId->bQ}{o:Oper}{tm:List J}{f:FuncId}{args:List J}{tys:List TypeId}(h:ei tb o tm own= .call f args tys):
 ∃c,o.op= .call c/\((c.callee= .value (.func f)/\args=lmap (aS tm) c.args.toList)\/∃t,c.callee= .value (.tmp t)/\
  ((bT .un tm t= .fn f/\args=lmap (aS tm) c.args.toList)\/∃l,bT .un tm t= .cls f l/\args=dV l (lmap (aS tm) c.args.toList))):=by
 have aE:=h
 unfold ei at h
 cases bD:o.op with
 |call c=>
  simp only[bD]at h
  split at h
  ·exfalso
   unfold j_ at h
   split at h
   ·split at h
    ·cases h
    ·split at h<;>cases h
   ·split at h
    ·split at h
     ·unfold rb at h
      split at h
      ·split at h<;>cases h
      ·split at h
       ·split at h<;>cases h
       ·cases h
      ·split at h<;>cases h
      ·split at h
       ·split at h
        ·split at h<;>cases h
        ·split at h<;>cases h
        ·cases h
       ·cases h
      ·cases h
     ·cases h
    ·cases h
   ·split at h<;>cases h
   ·split at h<;>cases h
   ·split at h
    ·exact(AN h (fun h=>h)).elim
    ·cases h
   ·cases h
  ·rename_i g ay
   simp only[bH.call.injEq]at h
   obtain⟨rfl,rfl,rfl⟩:=h
   exact⟨c,rfl, .inl ⟨ay,rfl⟩⟩
  ·rename_i t ay
   unfold rv at h
   split at h
   ·rename_i g aM
    simp only[bH.call.injEq]at h
    obtain⟨rfl,rfl,rfl⟩:=h
    exact⟨c,rfl, .inr ⟨t,ay, .inl ⟨aM,rfl⟩⟩⟩
   ·rename_i g l aM
    simp only[bH.call.injEq]at h
    obtain⟨rfl,rfl,rfl⟩:=h
    exact⟨c,rfl, .inr ⟨t,ay, .inr ⟨l,aM,rfl⟩⟩⟩
   ·cases h
  ·cases h
 |binOp op t x y ty=>
  simp only[bD]at h
  replace h:=EP h (fun h=>h)
  unfold n5 at h
  split at h
  ·split at h
   ·cases h
   ·cases h
   ·split at h
    ·cases op<;>simp[l4]at h
    ·cases h
  ·split at h<;>cases h
  ·split at h<;>cases h
  ·split at h<;>cases h
  all_goals first|cases h|(unfold im at h;split at h<;>cases h)
 |_=>have:=FQ (tb:=tb) (o:=o) (tm:=tm) (own:=own) (by rw[bD];rfl);rw[aE]at this;exact this.elim
end
end Go.bG
end
section
namespace Go.bG
def o3:Loc:=⟨none,1,none⟩
section
variable {P:Program} {N:Nat->Prop} {ρ:List Loc} {own:aB} {w:World}
theorem wP {Z:Nat->Prop}{t:J}{v:Value}{id:Nat}(aw:ρ[id]? =some o3)(h:dE Z w ρ own t v)(ar:t.kO id):False:=by
 cases t<;>try exact ar
 case vec i=>
  obtain rfl:i=id:=ar
  obtain⟨loc,U,_,al⟩:=h
  rw[aw]at U
  obtain rfl:=asB U
  have:=al rfl
  cases this
 case ptr i off=>
  obtain rfl:i=id:=ar
  obtain⟨loc,b,U,aa,_⟩:=h
  rw[aw]at U
  obtain rfl:=asB U
  cases aa
 case optr i x y=>
  obtain rfl:i=id:=ar
  obtain⟨loc,b,U,aa,_⟩:=h
  rw[aw]at U
  obtain rfl:=asB U
  cases aa
 case oat i x y=>
  obtain rfl:i=id:=ar
  obtain⟨loc,b,U,aa,_⟩:=h
  rw[aw]at U
  obtain rfl:=asB U
  cases aa
 case mp i=>
  obtain rfl:i=id:=ar
  obtain⟨loc,b,U,aa,_⟩:=h
  rw[aw]at U
  obtain rfl:=asB U
  cases aa
 case tail i x=>
  obtain rfl:i=id:=ar
  obtain⟨loc,b,U,aa,_⟩:=h
  rw[aw]at U
  obtain rfl:=asB U
  cases aa
theorem Nz {Z:Nat->Prop}{w:World}{ρ:List Loc}{own:aB}{t:J}{v:Value}(ar:∀l,t≠ .agg l)(ak:∀n r,t≠ .rw n r)(h:hg Z w ρ own t v):dE Z w ρ own t v:=by
 cases t<;>first|exact h|exact absurd rfl (ar _)|exact absurd rfl (ak _ _)
theorem OU {Z:Nat->Prop}{w:World}{ρ:List Loc}{own:aB}{t:J}{v:Value}(ar:∀l,t≠ .tup l)(h:bz Z w ρ own t v):hg Z w ρ own t v:=by
 cases t<;>first|exact h|exact absurd rfl (ar _)
theorem W7 {t:TypeId}{i:bQ}(hi:cE P t i=true)(ar:i.ty≠ .no)(h:b4 N ρ own w){id:Nat}(aw:ρ[id]? =some o3):
 ∃u w' ρ',(Instr.alloc t true (.tuple #[])).run P w= .ok u w'/\b4 N ρ' (own.set id (false, .cells i.ty.zero)) w'/\Fr ρ own w ρ' (own.set id (false, .cells i.ty.zero)) w'/\
  (∀j,j≠id->eg ρ own ρ' (own.set id (false, .cells i.ty.zero)) j)/\(∀e5 v,bz (aI N ρ own) w ρ own e5 v->bz (aI N ρ' (own.set id (false, .cells i.ty.zero))) w' ρ' (own.set id (false, .cells i.ty.zero)) e5 v)/\
  bz (aI N ρ' (own.set id (false, .cells i.ty.zero))) w' ρ' (own.set id (false, .cells i.ty.zero)) (.ptr id 0) u:=by
 obtain⟨g,z,U,aa,al,aL⟩:=Fa (w:=w) (ρ:=ρ) (own:=own) hi ar
 have bB:=h.jz aw
 have vj:id<ρ.length:=by rw[h.len];exact bB
 generalize aq:i.ty.zero=l at*
 have lp:∀b,b<w.heap.size->(w.alloc (.cells z.cells t)).heap[b]? =w.heap[b]? :=fun b ae=>heap_alloc_old w _ b ae
 have iu:∀b,fU (ρ.set id ⟨some ⟨w.heap.size,0,none⟩,0,some w.heap.size⟩) (own.set id (false, .cells l)) b->fU ρ own b\/b=w.heap.size:=fun b ⟨j,loc,aU,a_,bF⟩=>by
  rw[ata]at aU
  by_cases e:id=j
  ·subst e
   rw[asq rfl,asq vj]at aU
   obtain rfl:=asB aU
   exact .inr (asB a_).symm
  ·rw[asp e]at aU
   rw[hS,asp (by simp[e])]at bF
   exact .inl ⟨j,loc,aU,a_,bF⟩
 have cr:Fr ρ own w (ρ.set id ⟨some ⟨w.heap.size,0,none⟩,0,some w.heap.size⟩) (own.set id (false, .cells l)) (w.alloc (.cells z.cells t)):=by
  refine⟨rfl,rfl,rfl,by simp,fun b ae _=>lp b ae,fun b ae=> ?_⟩
  rcases iu b ae with ae|rfl
  ·exact .inl ae
  ·exact .inr (asz _)
 have ey:∀j,j≠id->eg ρ own (ρ.set id ⟨some ⟨w.heap.size,0,none⟩,0,some w.heap.size⟩) (own.set id (false, .cells l)) j:=fun j aK loc dg=>by
  refine⟨by rw[ata,asp (atb aK)];exact dg, ?_⟩
  rw[gx,asp (by simp[atb aK])];exact⟨rfl,rfl⟩
 have s7:∀x u,Reads (aI N ρ own) w x u->Reads (aI N (ρ.set id ⟨some ⟨w.heap.size,0,none⟩,0,some w.heap.size⟩) (own.set id (false, .cells l))) (w.alloc (.cells z.cells t)) x u:=fun x u af=>
  af.mono fun b ae bc=>⟨lp b ae,fun cS=>by
   rcases cS with cS|cS
   ·exact bc (.inl cS)
   ·rcases iu b cS with cS|rfl
    ·exact bc (.inr cS)
    ·omega⟩
 have aE:∀e5 v,dE (aI N ρ own) w ρ own e5 v->dE (aI N (ρ.set id ⟨some ⟨w.heap.size,0,none⟩,0,some w.heap.size⟩) (own.set id (false, .cells l))) (w.alloc (.cells z.cells t)) (ρ.set id ⟨some ⟨w.heap.size,0,none⟩,0,some w.heap.size⟩) (own.set id (false, .cells l)) e5 v:=
  fun e5 v aA=>aA.mono s7 fun j aK=>ey j fun e=>wP aw aA (e▸aK)
 have r_:∀e5 v,hg (aI N ρ own) w ρ own e5 v->hg (aI N (ρ.set id ⟨some ⟨w.heap.size,0,none⟩,0,some w.heap.size⟩) (own.set id (false, .cells l))) (w.alloc (.cells z.cells t)) (ρ.set id ⟨some ⟨w.heap.size,0,none⟩,0,some w.heap.size⟩) (own.set id (false, .cells l)) e5 v:=fun e5 v aA=>by
  cases e5 with
  |agg x=>
   obtain⟨a,an,az,bK⟩:=aA
   exact⟨a,an,az,fun j aK=>aE _ _ (bK j aK)⟩
  |rw n r=>
   obtain⟨a,an,az,cm,bK⟩:=aA
   exact⟨a,an,az,cm,fun j aK=>s7 _ _ (bK j aK)⟩
  |_=>exact .cM (aE _ _ (Nz (by intro l e;cases e) (by intro n l e;cases e) aA))
 have bx:b4 N (ρ.set id ⟨some ⟨w.heap.size,0,none⟩,0,some w.heap.size⟩) (own.set id (false, .cells l)) (w.alloc (.cells z.cells t)):=by
  refine h.se cr (by simp[h.len]) (fun j b9 aK k idx ab nM=> ?_) (fun j loc dg=> ?_)
  ·refine ey idx fun e=> ?_
   have HL:j<ρ.length:=by
    rcases Nat.lt_or_ge j ρ.length with af|af
    ·exact af
    ·rw[h.len]at af
     have:ad.at own j= .gone:=by simp[ad.at,dp,ass,as5 af]
     rw[this]at aK;cases aK
   have b1:=h.ob j ρ[j] (by simp[HL])
   rw[aK]at b1
   obtain⟨b,aG,cd,_,_,_,_,eB⟩:=b1
   exact wP aw (eB k ab) (e▸nM)
  ·rw[ata]at dg
   by_cases e:id=j
   ·subst e
    rw[asq rfl,asq vj]at dg
    obtain rfl:=asB dg
    refine .inr ⟨fun b ae=> ?_, ?_⟩
    ·simp only[asM]at ae
     subst ae
     refine⟨by simp,fun ar=>absurd (h.fE _ ar) (by omega),fun q ie aN zf _=> ?_⟩
     rw[ata]at aN
     by_cases az:id=q
     ·exact az.symm
     ·rw[asp az]at aN
      have:=h.lt q ie _ aN zf
      omega
    ·rw[gx,asq ⟨rfl,bB⟩]
     exact⟨w.heap.size,z.cells,t,rfl,rfl,nh w _,al,fun k ab=>aE _ _ (aL _ k ab)⟩
   ·rw[asp e]at dg
    exact .inl ⟨dg,by rw[gx,asp (by simp[e])],fun af=>by rwa [hS,asp (by simp[e])]at af,fun b ae=>lp b (h.lt j loc b dg ae)⟩
 refine⟨_,_,_,by simp[Instr.alloc,zeroValue,typeInfo,U,aa,newVar,newRow],bx,cr,ey,fun e5 v aA=> ?_, .cM ⟨_,w.heap.size,by rw[ata,asq rfl,asq vj],rfl,rfl,rfl⟩⟩
 cases e5 with
 |tup x=>
  obtain⟨a,an,az,bK⟩:=aA
  exact⟨a,an,az,fun j aK=>r_ _ _ (bK j aK)⟩
 |_=>exact .gB (r_ _ _ (OU (by intro l e;cases e) aA))
theorem VR {Z:Nat->Prop}{t:J}{v:Value}{id:Nat}(h:dE Z w ρ own t v)(ar:t.kO id):∃loc,ρ[id]? =some loc:=by
 cases t<;>try exact ar.elim
 case vec i=>obtain rfl:i=id:=ar;obtain⟨loc,U,_⟩:=h;exact⟨loc,U⟩
 case ptr i off=>obtain rfl:i=id:=ar;obtain⟨loc,b,U,_⟩:=h;exact⟨loc,U⟩
 case optr i x y=>obtain rfl:i=id:=ar;obtain⟨loc,b,U,_⟩:=h;exact⟨loc,U⟩
 case oat i x y=>obtain rfl:i=id:=ar;obtain⟨loc,b,U,_⟩:=h;exact⟨loc,U⟩
 case mp i=>obtain rfl:i=id:=ar;obtain⟨loc,b,U,_⟩:=h;exact⟨loc,U⟩
 case tail i x=>obtain rfl:i=id:=ar;obtain⟨loc,b,U,_⟩:=h;exact⟨loc,U⟩
theorem QI (h:b4 N ρ own w){id:Nat}(aw:ρ[id]? =some o3){eu:List Loc}{ob:ad}{w':World}(ao:Step N ρ own w eu (own++[(false,ob)]) w')(b1:∀l,ob≠ .cells l){u:Value}
 (hu:bz (aI N eu (own++[(false,ob)])) w' eu (own++[(false,ob)]) (.vec own.length) u):
 ∃fg,b4 N fg (own.set id (false,ob)) w'/\Fr ρ own w fg (own.set id (false,ob)) w'/\(∀j,j≠id->eg ρ own fg (own.set id (false,ob)) j)/\
  (∀e5 v,bz (aI N ρ own) w ρ own e5 v->bz (aI N fg (own.set id (false,ob))) w' fg (own.set id (false,ob)) e5 v)/\
  bz (aI N fg (own.set id (false,ob))) w' fg (own.set id (false,ob)) (.vec id) u:=by
 obtain⟨loc,an,az,bK⟩:∃loc,eu[own.length]? =some loc/\u= .slice loc.a (ad.at (own++[(false,ob)]) own.length).len loc.cap/\(loc.a=none->loc.cap=0):=hu
 have bB:=h.jz aw
 have vj:id<ρ.length:=by rw[h.len];exact bB
 have k0:∀j b9,ρ[j]? =some b9->eu[j]? =some b9:=fun j b9 aK=>(ao.same j b9 aK).1
 have cV:id≠own.length:=by omega
 have vz:∀j b9,(ρ.set id loc)[j]? =some b9->(j=id/\b9=loc)\/(j≠id/\ρ[j]? =some b9):=fun j b9 aK=>by
  rw[ata]at aK
  by_cases e:id=j
  ·subst e
   rw[asq rfl,asq vj]at aK
   exact .inl ⟨rfl,(asB aK).symm⟩
  ·rw[asp e]at aK
   exact .inr ⟨fun h=>e h.symm,aK⟩
 have sh:∀j b9,ρ[j]? =some b9->j<own.length:=fun j b9 aK=>h.jz aK
 have iu:∀b,fU (ρ.set id loc) (own.set id (false,ob)) b->fU eu (own++[(false,ob)]) b:=fun b ⟨j,b9,aU,a_,bF⟩=>by
  rcases vz j b9 aU with⟨rfl,rfl⟩|⟨aK,aU⟩
  ·exact⟨own.length,b9,an,a_,by rw[kn,asq rfl]⟩
  ·rw[hS,asp (by simp[atb aK])]at bF
   exact⟨j,b9,k0 j b9 aU,a_,by rw[kn,asp (by have:=sh j b9 aU;omega)];exact bF⟩
 have cr:Fr ρ own w (ρ.set id loc) (own.set id (false,ob)) w':=⟨ao.os,ao.tape,ao.output,ao.size,ao.e1,fun b ae=>ao.alive b (iu b ae)⟩
 have ey:∀j,j≠id->eg ρ own (ρ.set id loc) (own.set id (false,ob)) j:=fun j aK b9 dg=>by
  refine⟨by rw[ata,asp (atb aK)];exact dg, ?_⟩
  rw[gx,asp (by simp[atb aK])];exact⟨rfl,rfl⟩
 have Gq:∀x v,Reads (aI N eu (own++[(false,ob)])) w' x v->Reads (aI N (ρ.set id loc) (own.set id (false,ob))) w' x v:=fun x v af=>
  af.mono fun b _ bc=>⟨rfl,fun cS=>by
   rcases cS with cS|cS
   ·exact bc (.inl cS)
   ·exact bc (.inr (iu b cS))⟩
 have Yo:∀j,j≠id->j<own.length->eg eu (own++[(false,ob)]) (ρ.set id loc) (own.set id (false,ob)) j:=fun j aK hZ b9 dg=>by
  have Zk:j<ρ.length:=by rw[h.len];exact hZ
  have aT:ρ[j]? =some ρ[j]:=asI Zk
  have:=k0 j _ aT
  rw[dg]at this
  obtain rfl:=asB this
  refine⟨by rw[ata,asp (atb aK)];exact aT, ?_⟩
  rw[gx,asp (by simp[atb aK]),gw,asp (by omega)];exact⟨rfl,rfl⟩
 have names:∀j l,ad.at own j= .cells l->∀k idx,k<l.length->(l.getD k .un).kO idx->idx≠id/\idx<own.length:=fun j l aK k idx ab nM=>by
  have HL:j<ρ.length:=by
   rcases Nat.lt_or_ge j ρ.length with af|af
   ·exact af
   ·rw[h.len]at af
    have:ad.at own j= .gone:=by simp[ad.at,dp,ass,as5 af]
    rw[this]at aK;cases aK
  have b1:=h.ob j ρ[j] (by simp[HL])
  rw[aK]at b1
  obtain⟨b,aG,cd,_,_,_,_,eB⟩:=b1
  refine⟨fun e=>wP aw (eB k ab) (e▸nM), ?_⟩
  obtain⟨ajQ,af⟩:=VR (eB k ab) nM
  exact h.jz af
 have bx:b4 N (ρ.set id loc) (own.set id (false,ob)) w':=by
  refine h.Dy cr (by simp[h.len]) (fun j l aK k idx ab nM=>ey idx (names j l aK k idx ab nM).1) (fun j b9 aK=> ?_)
  by_cases sp:j≠id/\gE own j
  ·obtain⟨s1,s2⟩:=sp
   rcases vz j b9 aK with⟨rfl,_⟩|⟨_,aU⟩
   ·exact absurd rfl s1
   ·exact .inl ⟨aU,by rw[gx,asp (by simp[atb s1])],fun af=>by rwa [hS,asp (by simp[atb s1])]at af,fun aaG=>absurd s2 aaG⟩
  have fresh:¬gE (own++[(false,ob)]) own.length:=np (by rw[kn,asq rfl])
  have ks:∀q,q<own.length->¬gE own q->¬gE (own++[(false,ob)]) q:=fun q aN ar ⟨f,n,aj,e⟩=>ar ⟨by rwa [kn,asp (by omega)]at f,n,aj,by rwa [gw,asp (by omega)]at e⟩
  have QJ:∀q,q≠id->¬gE (own.set id (false,ob)) q->¬gE own q:=fun q aN ar ⟨f,n,aj,e⟩=>ar ⟨by rw[hS,asp (by simp[atb aN])];exact f,n,aj,by rw[gx,asp (by simp[atb aN])];exact e⟩
  refine .inr ⟨fun b ae=> ?_, ?_⟩
  ·have uniq:∀q ie,(ρ.set id loc)[q]? =some ie->ie.bO=some b->¬gE (own.set id (false,ob)) q->q=j:=fun q ie aN zf SI=>by
    rcases vz j b9 aK with⟨rfl,rfl⟩|⟨iL,aU⟩<;>rcases vz q ie aN with⟨rfl,rfl⟩|⟨vM,a_⟩
    ·rfl
    ·have:=ao.rel.inj q own.length ie b9 b (k0 q ie a_) an zf ae (ks q (sh q ie a_) (QJ q vM SI)) fresh
     have:=sh q ie a_
     omega
    ·have:=ao.rel.inj j own.length b9 ie b (k0 j b9 aU) an ae zf (ks j (sh j b9 aU) fun s=>sp ⟨iL,s⟩) fresh
     have:=sh j b9 aU
     omega
    ·exact ao.rel.inj q j ie b9 b (k0 q ie a_) (k0 j b9 aU) zf ae (ks q (sh q ie a_) (QJ q vM SI)) (ks j (sh j b9 aU) fun s=>sp ⟨iL,s⟩)
   rcases vz j b9 aK with⟨rfl,rfl⟩|⟨iL,aU⟩
   ·exact⟨ao.rel.lt _ _ _ an ae,ao.rel.fr _ _ _ an ae,uniq⟩
   ·exact⟨ao.rel.lt _ _ _ (k0 j b9 aU) ae,ao.rel.fr _ _ _ (k0 j b9 aU) ae,uniq⟩
  ·rcases vz j b9 aK with⟨rfl,rfl⟩|⟨iL,aU⟩
   ·rw[gx,asq ⟨rfl,bB⟩]
    have:=ao.rel.ob own.length b9 an
    rw[gw,asq rfl]at this
    exact this.mono (fun _ _=>rfl) Gq fun l aq=>absurd aq (b1 l)
   ·rw[gx,asp (by simp[atb iL])]
    have:=ao.rel.ob j b9 (k0 j b9 aU)
    rw[gw,asp (by have:=sh j b9 aU;omega)]at this
    exact this.mono (fun _ _=>rfl) Gq fun l aq k idx ab nM=>Yo idx (names j l aq k idx ab nM).1 (names j l aq k idx ab nM).2
 have s7:∀x v,Reads (aI N ρ own) w x v->Reads (aI N (ρ.set id loc) (own.set id (false,ob))) w' x v:=fun x v af=>Gq x v (ao.toFr.reads af)
 have aE:∀e5 v,dE (aI N ρ own) w ρ own e5 v->dE (aI N (ρ.set id loc) (own.set id (false,ob))) w' (ρ.set id loc) (own.set id (false,ob)) e5 v:=
  fun e5 v aA=>aA.mono s7 fun j aK=>ey j fun e=>wP aw aA (e▸aK)
 have r_:∀e5 v,hg (aI N ρ own) w ρ own e5 v->hg (aI N (ρ.set id loc) (own.set id (false,ob))) w' (ρ.set id loc) (own.set id (false,ob)) e5 v:=fun e5 v aA=>by
  cases e5 with
  |agg x=>
   obtain⟨a,an,az,bK⟩:=aA
   exact⟨a,an,az,fun j aK=>aE _ _ (bK j aK)⟩
  |rw n r=>
   obtain⟨a,an,az,cm,bK⟩:=aA
   exact⟨a,an,az,cm,fun j aK=>s7 _ _ (bK j aK)⟩
  |_=>exact .cM (aE _ _ (Nz (by intro l e;cases e) (by intro n l e;cases e) aA))
 refine⟨ρ.set id loc,bx,cr,ey,fun e5 v aA=> ?_, .cM ⟨loc,by rw[ata,asq rfl,asq vj], ?_,bK⟩⟩
 ·cases e5 with
  |tup x=>
   obtain⟨a,an,az,bK⟩:=aA
   exact⟨a,an,az,fun j aK=>r_ _ _ (bK j aK)⟩
  |_=>exact .gB (r_ _ _ (OU (by intro l e;cases e) aA))
 ·rw[az,gw,asq rfl,gx,asq ⟨rfl,bB⟩]
theorem W8 (h:b4 N ρ own w):Step N ρ own w (ρ++[o3]) (own++[(false, .gone)]) w:=by
 have cr:Fr ρ own w (ρ++[o3]) (own++[(false, .gone)]) w:=by
  refine⟨rfl,rfl,rfl,asz _,fun b ae _=>rfl,fun b ⟨i,loc,U,aa,al⟩=> ?_⟩
  rw[asS]at U
  by_cases hi:i<ρ.length
  ·rw[asq hi]at U
   rw[kn,asp (by rw[<-h.len];omega)]at al
   exact .inl ⟨i,loc,U,aa,al⟩
  ·rw[asp hi]at U
   cases aP:i-ρ.length with
   |zero=>simp[aP]at U;subst U;cases aa
   |succ n=>simp[aP]at U
 have ey:∀id,eg ρ own (ρ++[o3]) (own++[(false, .gone)]) id:=fun id=>EM h _ _ id
 refine{cr with rel:=h.se cr (by simp[h.len]) (fun _ _ _ _ id _ _=>ey id) (fun i loc aq=> ?_),same:=ey}
 rw[asS]at aq
 by_cases hi:i<ρ.length
 ·rw[asq hi]at aq
  exact .inl ⟨aq,by rw[gw,asp (by rw[<-h.len];omega)],fun af=>by rwa [kn,asp (by rw[<-h.len];omega)]at af,fun b ae=>rfl⟩
 ·rw[asp hi]at aq
  cases aP:i-ρ.length with
  |succ n=>simp[aP]at aq
  |zero=>
   simp[aP]at aq
   subst aq
   have dH:i=own.length:=by rw[<-h.len];omega
   refine .inr ⟨fun b ae=>(by cases ae), ?_⟩
   rw[dH,gw,asq rfl];trivial
theorem NA:∀(n:Nat) (ρ:List Loc) (own:aB),b4 N ρ own w->Step N ρ own w (ρ++List.replicate n o3) (own++List.replicate n (false, .gone)) w
 |0,ρ,own,h=>by simpa using Step.refl h
 |n+1,ρ,own,h=>by
  have U:=W8 h
  have aa:=NA n _ _ U.rel
  have:=U.trans aa
  simpa[List.replicate_succ]using this
end
end Go.bG
end
section
namespace Go.bG
structure eT (N:Nat->Prop)(ρ:List Loc)(tm:List J)(own:aB)(a:Act)(w:World):Prop where
 eJ:b4 N ρ own w
 eD:dC (aI N ρ own) w ρ own tm a.tmps
 iR:a.defers=[]
structure mO (N:Nat->Prop)(ρ:List Loc)(own:aB)(a:Act)(w:World)(wr:Tmp->Bool)(K:List J->aB->Prop)(cI:Act)(w':World):Prop where
 ex:∃dL own' ρ',K dL own'/\eT N ρ' dL own' cI w'/\Fr ρ own w ρ' own' w'
 same:∀t,wr t=false->cI.tmps.getD t undef=a.tmps.getD t undef
 aj:cI.tmps.size=a.tmps.size
section
variable {P:Program} {N:Nat->Prop}
def qo (ops:Array Oper)(t:Tmp):Bool:=ops.toList.any fun o=>match o.dst with|some d=>Nat.beq d t|none=>false
theorem LS:∀(l:List Oper) (j:Nat),la l j=(l[j]?).bind (·.dst)
 |[],j=>by simp[la]
 |o::r,0=>by simp[la]
 |o::r,n+1=>by simp[la,LS r n]
theorem W4 (a:Act)(dst:Option Tmp)(v:Value)(t:Tmp)(h:dst≠some t):(a.put dst v).tmps.getD t undef=a.tmps.getD t undef:=by
 cases dst with
 |none=>rfl
 |some d=>
  simp only[Act.put]
  rw[zG,asp]
  rintro⟨rfl,_⟩;exact h rfl
theorem VO {ops:Array Oper}{i:Nat}{o:Oper}(aH:ops[i]? =some o){t:Tmp}(h:qo ops t=false):o.dst≠some t:=by
 intro aP
 have hm:o∈ops.toList:=by
  obtain⟨hi,rfl⟩:=auG.1 aH
  simp
 unfold qo at h
 rw[List.any_eq_false]at h
 have:=h o hm
 rw[aP]at this
 simp at this
theorem Cx {N:Nat->Prop}{ρ:List Loc}{tm:List J}{own:aB}{a:Act}{w:World}(h:eT N ρ tm own a w)(g:Tmp){b:Bool}(ae:a.tmps.getD g undef= .bool b):
 eT N ρ (cH tm g (if b then .bt else .bf)) own a w:=by
 refine⟨h.eJ,⟨by rw[ep];simpa using h.eD.size,fun t=> ?_⟩,h.iR⟩
 rw[ep,ef]
 split
 ·rename_i e
  rw[<-e.1,ae]
  cases b<;>exact .cM rfl
 ·exact h.eD.at_ t
theorem VP {o:Oper}{a:Act}{next next':Act->World->Prop}{Q nU:Exit->Act->World->Prop}(ar:∀a w,next a w->next' a w)(aN:∀e a w,Q e a w->nU e a w){r:Result Next}
 (h:o.upon P a next Q r):o.upon P a next' nU r:=by
 unfold Oper.upon at h⊢
 split at h
 ·exact ar _ _ h
 ·exact ar _ _ h
 ·exact ar _ _ h
 ·refine h.mono fun e w ak=> ?_
  cases e with
  |returned v=>exact ar _ _ ak
  |panicked c=>exact aN _ _ _ ak
  |outgrown=>obtain⟨x,y,b2⟩:=ak;exact⟨x,y,aN _ _ _ b2⟩
 ·exact h.mono fun v w ak=>ar _ _ ak
 ·exact aN _ _ _ h
 ·exact h.elim
theorem sD {ops:Array Oper}{Q nU:Exit->Act->World->Prop}(aN:∀e a w,Q e a w->nU e a w):∀(l:List Nat) (a:Act) (w:World),wpOps P ops Q l a w->wpOps P ops nU l a w
 |[],a,w,h=>aN _ _ _ h
 |i::rest,a,w,h=>by
  simp only[wpOps]at h⊢
  split
  ·rename_i aH
   rw[aH]at h
   exact sD aN rest a w h
  ·rename_i o aH
   rw[aH]at h
   simp only at h
   split
   ·rename_i hw
    rw[asq hw]at h
    rcases h with h|⟨U,x,y,aa⟩
    ·exact .inl (VP (fun a w=>sD aN rest a w) aN h)
    ·exact .inr ⟨U,x,y,aN _ _ _ aa⟩
   ·rename_i hw
    rw[asp hw]at h
    exact sD aN rest _ w h
theorem Et (tb:TypeId->bQ)(ids:List (Tmp×Nat))(o:Oper)(tm:List J)(own:aB):ck tb ids o tm own=ei tb o tm own\/
 (∃t d id,o.op= .alloc t/\o.dst=some d/\eN d ids=some id/\(ck tb ids o tm own= .bad\/((tb t).ty≠ .no/\ck tb ids o tm own= .aR [] (.ptr id 0) (cH own id (false, .cells (tb t).ty.zero)))))\/
 ∃t n parts d id,o.op= .buildSlice t n parts/\o.dst=some d/\eN d ids=some id/\(ck tb ids o tm own= .bad\/∃ob,rK (tb t) n (lmap (fun p=>(p.1,aS tm p.2)) parts.toList) own=some ob/\ck tb ids o tm own= .aR [] (.vec id) (cH own id (false,ob))):=by
 unfold ck
 split
 ·rename_i t d aH aP
  split
  ·rename_i id de
   refine .inr (.inl ⟨t,d,id,aH,aP,de, ?_⟩)
   split
   ·exact .inl rfl
   ·exact .inl rfl
   ·rename_i ar;exact .inr ⟨fun h=>ar h,rfl⟩
   ·exact .inl rfl
  ·exact .inl rfl
 ·rename_i t n parts d aH aP
  split
  ·rename_i id aq de
   refine .inr (.inr ⟨t,n,parts,d,id,aH,aP,de, ?_⟩)
   split
   ·rename_i ob b1 _;exact .inr ⟨ob,b1,rfl⟩
   ·exact .inl rfl
  ·exact .inl rfl
 ·exact .inl rfl
theorem W5 {ρ:List Loc}{own:aB}{w:World}{tb:TypeId->bQ}{t:TypeId}(bj:cE P t (tb t)=true)(h:b4 N ρ own w){tm:List J}{a:Act}(aA:dC (aI N ρ own) w ρ own tm a.tmps){id:Nat}(aw:ρ[id]? =some o3)
 (n:Nat) (parts:Array (Nat×Operand)) {ob:ad} (b1:rK (tb t) n (lmap (fun p=>(p.1,aS tm p.2)) parts.toList) own=some ob):
 ∃u w' fg,(Instr.buildSlice t n (parts.map fun(i,x)=>(i,a.eval x))).run P w= .ok u w'/\b4 N fg (own.set id (false,ob)) w'/\Fr ρ own w fg (own.set id (false,ob)) w'/\(∀j,j≠id->eg ρ own fg (own.set id (false,ob)) j)/\
  (∀e5 v,bz (aI N ρ own) w ρ own e5 v->bz (aI N fg (own.set id (false,ob))) w' fg (own.set id (false,ob)) e5 v)/\
  bz (aI N fg (own.set id (false,ob))) w' fg (own.set id (false,ob)) (.vec id) u:=by
 unfold rK at b1
 split at b1
 ·rename_i k bV
  split at b1
  ·rename_i l aq ar
   obtain rfl:=asB b1
   obtain⟨u,w',eu,U,aa,al⟩:=Lh (P:=P) bj h aA parts n bV aq (asV ar)
   obtain⟨fg,aU⟩:=QI h aw aa (fun l e=>by cases e) al
   exact⟨u,w',fg,U,aU⟩
  ·cases b1
 ·rename_i aj bV
  split at b1
  ·rename_i l aq ar
   obtain rfl:=asB b1
   obtain⟨u,w',eu,U,aa,al⟩:=Li (P:=P) bj h aA parts n bV aq (asV ar)
   obtain⟨fg,aU⟩:=QI h aw aa (fun l e=>by cases e) al
   exact⟨u,w',fg,U,aU⟩
  ·cases b1
 ·cases b1
theorem UQ {t:bQ}{x y:J}{own own':aB}{s:List Prop}{v:J}{id:Nat}(h:rb t x y own= .grow s v own' id):x= .vec id:=by
 unfold rb at h
 split at h
 ·split at h<;>cases h
 ·split at h
  ·split at h<;>cases h
  ·cases h
 ·split at h<;>cases h
 ·rename_i i a
  split at h
  ·split at h
   ·split at h
    ·simp only[bH.grow.injEq]at h;rw[h.2.2.2]
    ·cases h
   ·split at h
    ·simp only[bH.grow.injEq]at h;rw[h.2.2.2]
    ·cases h
   ·cases h
  ·cases h
 ·cases h
theorem W6 {tb:TypeId->bQ}{o:Oper}{tm:List J}{own own':aB}{s:List Prop}{v:J}{id:Nat}(h:ei tb o tm own= .grow s v own' id):∃x:Operand,aS tm x= .vec id:=by
 obtain⟨c,b,_,_,h⟩:=Ny h
 generalize fA:lmap (aS tm) c.args.toList=args at h
 unfold j_ at h
 split at h
 ·split at h
  ·cases h
  ·split at h<;>cases h
 ·obtain⟨p,q,_,aw,_⟩:=FO fA
  split at h
  ·split at h
   ·exact⟨p,by rw[aw];exact UQ h⟩
   ·cases h
  ·cases h
 ·split at h<;>cases h
 ·split at h<;>cases h
 ·split at h
  ·exact(AN h (fun h=>h)).elim
  ·cases h
 ·cases h
def yv (ids:List (Tmp×Nat))(ops:Array Oper)(is:List Nat)(ρ:List Loc):Prop:=∀i∈is,∀o d id,ops[i]? =some o->o.dst=some d->eN d ids=some id->ρ[id]? =some o3
def FR (ids:List (Tmp×Nat))(ops:Array Oper):Prop:=∀(i j:Nat) (o p:Oper) (d e:Tmp) (id:Nat),ops[i]? =some o->ops[j]? =some p->o.dst=some d->p.dst=some e->eN d ids=some id->eN e ids=some id->i=j
theorem Ah {Z:Nat->Prop}{w:World}{ρ:List Loc}{own:aB}{v:J}(ab:vu v=true):dE Z w ρ own v (vi v):=by
 cases v with
 |d x=>
  cases x with
  |int k n=>exact Reads.int k n
  |bool b=>exact Reads.bool b
  |_=>cases ab
 |bt=>rfl
 |bf=>rfl
 |_=>cases ab
theorem UR {Z:Nat->Prop}{w:World}{ρ:List Loc}{own:aB}{v:J}(ab:vS v=true):bz Z w ρ own v (tz v):=by
 cases v with
 |agg l=>
  have ab:dq vu l=true:=ab
  rw[eW,asH]at ab
  refine .gB ⟨(lmap vi l).toArray,rfl,by rw[c5];simp,fun i hi=> ?_⟩
  have:=Ah (Z:=Z) (w:=w) (ρ:=ρ) (own:=own) (ab (l.getD i .un) (by simp[ass,hi]))
  simpa[c5,asA,ass,hi]using this
 |d x=>exact .cM (Ah (v:= .d x) ab)
 |bt=>exact .cM (Ah (v:= .bt) rfl)
 |bf=>exact .cM (Ah (v:= .bf) rfl)
 |_=>cases ab
theorem VQ {tb:TypeId->bQ}{o:Oper}{tm:List J}{ρ:List Loc}{own:aB}{a:Act}{w:World}{f:FuncId}{args:List J}{tys:List TypeId}(aA:dC (aI N ρ own) w ρ own tm a.tmps)(h:ei tb o tm own= .call f args tys):
 ∃vals:Array Value,args.length=vals.size/\(∀j,j<args.length->bz (aI N ρ own) w ρ own (args.getD j .un) (vals.getD j undef))/\(execOp a.eval o).run P w=(callFunc f vals).run P w:=by
 obtain⟨c,bD,h⟩:=XR h
 obtain⟨hlen,fA⟩:=Gp aA c.args
 have qg:∀j,j<(lmap (aS tm) c.args.toList).length->bz (aI N ρ own) w ρ own ((lmap (aS tm) c.args.toList).getD j .un) ((c.args.map a.eval).getD j undef):=fun j aK=>by have:=fA j aK;simpa[asA,ass]using this
 have aq:(lmap (aS tm) c.args.toList).length=(c.args.map a.eval).size:=by simpa using hlen
 rcases h with⟨ay,rfl⟩|⟨t,ay,⟨aM,rfl⟩|⟨l,aM,rfl⟩⟩
 ·refine⟨c.args.map a.eval,aq,qg, ?_⟩
  unfold execOp
  rw[bD]
  simp only[resolve,ay,Deferred.ofValue,Act.eval,pure_bind,invoke]
  simp
 ·have af:=aA.at_ t
  rw[<-dp,aM]at af
  have af:a.tmps.getD t undef= .func (.func f) #[] #[]:=af
  refine⟨c.args.map a.eval,aq,qg, ?_⟩
  unfold execOp
  rw[bD]
  simp only[resolve,ay,Act.eval,af,Deferred.ofValue,pure_bind,invoke]
  simp
 ·have af:=aA.at_ t
  rw[<-dp,aM]at af
  obtain⟨af,ab⟩:a.tmps.getD t undef= .func (.func f) (lmap tz l).toArray #[]/\dq vS l=true:=af
  rw[eW,asH]at ab
  refine⟨(lmap tz l).toArray++c.args.map a.eval,by rw[fu,as2,aq,Array.size_append,c5];simp,fun j aK=> ?_, ?_⟩
  ·rw[fu]at aK⊢
   rw[ass,asA,asS,Array.getElem?_append]
   have ao:(lmap tz l).toArray.size=l.length:=by rw[c5];simp
   rw[ao]
   by_cases bB:j<l.length
   ·rw[asq bB,asq bB]
    have:=UR (Z:=aI N ρ own) (w:=w) (ρ:=ρ) (own:=own) (ab (l.getD j .un) (by simp[ass,bB]))
    simpa[c5,ass,bB]using this
   ·rw[asp bB,asp bB]
    have:=qg (j-l.length) (by rw[as2]at aK;omega)
    simpa[asA,ass]using this
  ·unfold execOp
   rw[bD]
   simp only[resolve,ay,Act.eval,af,Deferred.ofValue,pure_bind,invoke]
   simp
theorem E7 {tb:TypeId->bQ}{bd:FuncId->e3}(bj:∀t,cE P t (tb t)=true)(D1:∀t,o2 P tb t=true)(dz:∀f args own K,bd f args own K->oY P f (bd f))(ids:List (Tmp×Nat))(ops:Array Oper)(DC:FR ids ops)(K:List J->aB->Prop):
 ∀(is:List Nat),(∀i∈is,i<ops.size)->is.Nodup->∀(tm:List J) (own:aB) (a:Act) (w:World) (ρ:List Loc),yv ids ops is ρ->
  c6 tb bd ids ops.toList (is.map fun i=>ops.toList.getD i default) tm own K->eT N ρ tm own a w->
  wpOps P ops (fun e cI w'=>e= .normal/\mO N ρ own a w (qo ops) K cI w') is a w:=by
 intro is
 induction is with
 |nil=>
  intro _ _ tm own a w ρ _ h ao
  exact⟨rfl,⟨tm,own,ρ,h,ao,Fr.refl _ _ _⟩,fun _ _=>rfl,rfl⟩
 |cons i rest bA=>
  intro bB ze tm own a w ρ IA h ao
  have hi:i<ops.size:=bB i (by simp)
  have aH:ops[i]? =some ops[i]:=by simp[hi]
  have l_:ops.toList.getD i default=ops[i]:=by simp[ass,hi]
  simp only[asX,l_]at h
  simp only[wpOps,aH]
  have aaC:=bA (fun j aK=>bB j (by simp[aK])) (List.nodup_cons.1 ze).2
  have next:∀(gX:List J) (cx:aB) (cz:World) (eu:List Loc) (u:Value),c6 tb bd ids ops.toList (rest.map fun i=>ops.toList.getD i default) gX cx K->
   eT N eu gX cx (a.put ops[i].dst u) cz->Fr ρ own w eu cx cz->yv ids ops rest eu->
   wpOps P ops (fun e cI w'=>e= .normal/\mO N ρ own a w (qo ops) K cI w') rest (a.put ops[i].dst u) cz:=by
   intro gX cx cz eu u ab gb aQ yQ
   have:=aaC gX cx (a.put ops[i].dst u) cz eu yQ ab gb
   refine sD ?_ _ _ _ this
   rintro e cI w' ⟨he,⟨dL,own',ρ',aU,a_,bF⟩,ey,ca⟩
   refine⟨he,⟨dL,own',ρ',aU,a_,aQ.trans bF⟩,fun t aA=> ?_,ca.trans (by cases ops[i].dst<;>simp[Act.put])⟩
   rw[ey t aA,W4 _ _ _ _ (VO aH aA)]
  have qS:yv ids ops rest ρ:=fun j aK=>IA j (by simp[aK])
  have je:∀{eu cx},(∀id,eg ρ own eu cx id)->yv ids ops rest eu:=fun lM j aK o d id an bK cm=>(lM id _ (qS j aK o d id an bK cm)).1
  have run:∀(c8:List J),eT N ρ c8 own a w->
   (match ck tb ids ops[i] c8 own with
     | .bad=>False
     | .aR safe v own'=>gk safe (c6 tb bd ids ops.toList (rest.map fun i=>ops.toList.getD i default) (put c8 ops[i].dst v) own' K)
     | .grow safe v own' id=>gk safe (c6 tb bd ids ops.toList (rest.map fun i=>ops.toList.getD i default) (put (lmap (da id) c8) ops[i].dst v) (fN id own') K)
     | .e0 p=>∀b:Bool,p b->c6 tb bd ids ops.toList (rest.map fun i=>ops.toList.getD i default) (put c8 ops[i].dst (.d (.bool b))) own K
     | .call f args _=>bd f args own fun v own'=>c6 tb bd ids ops.toList (rest.map fun i=>ops.toList.getD i default) (put c8 ops[i].dst v) own' K)->
   ops[i].wp P a w (wpOps P ops (fun e cI w'=>e= .normal/\mO N ρ own a w (qo ops) K cI w') rest) (fun e cI w'=>e= .normal/\mO N ρ own a w (qo ops) K cI w'):=by
   intro c8 ev ak
   unfold Oper.wp
   rcases Et tb ids ops[i] c8 own with af|⟨t,d,id,nQ,fG,na,af⟩|⟨t,n,parts,d,id,nQ,fG,na,af⟩
   rotate_left
   ·rcases af with af|⟨ar,af⟩
    ·rw[af]at ak;exact ak.elim
    rw[af]at ak
    have ak:c6 tb bd ids ops.toList (rest.map fun i=>ops.toList.getD i default) (put c8 ops[i].dst (.ptr id 0)) (cH own id (false, .cells (tb t).ty.zero)) K:=ak
    obtain⟨u,w',ρ',U,aa,al,aL,bo,bX⟩:=W7 (P:=P) (bj t) ar ev.eJ (IA i (by simp) _ d id aH fG na)
    have hex:(execOp a.eval ops[i]).run P w= .ok (.value u) w':=by
     unfold execOp
     rw[nQ]
     simp only[Sem.run_bind,U,Result.andThen_ok,Sem.run_pure]
    rw[hex]
    rw[ep]at ak
    have gb:eT N ρ' (put c8 ops[i].dst (.ptr id 0)) (own.set id (false, .cells (tb t).ty.zero)) (a.put ops[i].dst u) w':=
     ⟨aa,dC.put ⟨ev.eD.size,fun t=>bo _ _ (ev.eD.at_ t)⟩ _ bX,by cases ops[i].dst<;>exact ev.iR⟩
    refine next _ _ _ _ u ak gb al fun j aK o zB lP an bK cm=> ?_
    have cV:lP≠id:=fun e=>(List.nodup_cons.1 ze).1 (DC j i o ops[i] zB d id an aH bK fG (e▸cm) na▸aK)
    exact(aL lP cV _ (qS j aK o zB lP an bK cm)).1
   ·rcases af with af|⟨ob,b1,af⟩
    ·rw[af]at ak;exact ak.elim
    rw[af]at ak
    have ak:c6 tb bd ids ops.toList (rest.map fun i=>ops.toList.getD i default) (put c8 ops[i].dst (.vec id)) (cH own id (false,ob)) K:=ak
    obtain⟨u,w',ρ',U,aa,al,aL,bo,bX⟩:=W5 (P:=P) (bj t) ev.eJ ev.eD (IA i (by simp) _ d id aH fG na) n parts b1
    have hex:(execOp a.eval ops[i]).run P w= .ok (.value u) w':=by
     unfold execOp
     rw[nQ]
     simp only[Sem.run_bind,U,Result.andThen_ok,Sem.run_pure]
    rw[hex]
    rw[ep]at ak
    have gb:eT N ρ' (put c8 ops[i].dst (.vec id)) (own.set id (false,ob)) (a.put ops[i].dst u) w':=
     ⟨aa,dC.put ⟨ev.eD.size,fun t=>bo _ _ (ev.eD.at_ t)⟩ _ bX,by cases ops[i].dst<;>exact ev.iR⟩
    refine next _ _ _ _ u ak gb al fun j aK o zB lP an bK cm=> ?_
    have cV:lP≠id:=fun e=>(List.nodup_cons.1 ze).1 (DC j i o ops[i] zB d id an aH bK fG (e▸cm) na▸aK)
    exact(aL lP cV _ (qS j aK o zB lP an bK cm)).1
   rw[af]at ak
   split at ak
   ·exact ak.elim
   ·rename_i safe v own' he
    rw[gr]at ak
    obtain⟨qq,ak⟩:=ak
    obtain⟨my,w',ρ',u,U,aa,al,aL⟩:=VL (P:=P) bj D1 ev.eJ ev.eD he qq
    rw[U]
    have gb:eT N ρ' (put c8 ops[i].dst v) own' (a.put ops[i].dst u) w':=
     ⟨al.rel,dC.put (ev.eD.step al) _ aL,by cases ops[i].dst<;>exact ev.iR⟩
    have ar:=next _ _ _ _ u ak gb al.toFr (je al.same)
    rcases aa with rfl|⟨rfl,rfl⟩
    ·exact ar
    ·exact ar
   ·rename_i safe v own' id he
    rw[gr]at ak
    obtain⟨qq,ak⟩:=ak
    obtain⟨u,w',ρ',U,aa,al,aL,bo⟩:=UO (P:=P) bj ev.eJ ev.eD he qq
    rw[U]
    have aaD:dC (aI N ρ' (fN id own')) w' ρ' (fN id own') (lmap (da id) c8) a.tmps:=by
     refine⟨by rw[c5];simpa using ev.eD.size,fun t=> ?_⟩
     have:=(ev.eD.at_ t).kill id (fun _ _=>al.reads) aL
     rw[c5]
     by_cases bB:t<c8.length
     ·simpa[ass,bB]using this
     ·have an:(c8.map (da id)).getD t .un= .un:=by rw[ass,as5 (by simpa using bB)];rfl
      have az:c8.getD t .un= .un:=by rw[ass,as5 (by omega)];rfl
      rw[az]at this
      rw[an];exact this
    have gb:eT N ρ' (put (lmap (da id) c8) ops[i].dst v) (fN id own') (a.put ops[i].dst u) w':=
     ⟨aa,dC.put aaD _ bo,by cases ops[i].dst<;>exact ev.iR⟩
    refine next _ _ _ _ u ak gb al fun j aK o d lP an bK cm=> ?_
    have cV:lP≠id:=fun e=>by
     obtain⟨x,aaE⟩:=W6 he
     have oD:=dK ev.eD x
     rw[aaE]at oD
     exact wP (Z:=aI N ρ own) (w:=w) (own:=own) (qS j aK o d lP an bK cm) (show dE _ _ _ _ (.vec id) _ from oD) e.symm
    exact(aL lP cV _ (qS j aK o d lP an bK cm)).1
   ·rename_i p he
    obtain⟨b,ae,U⟩:=UP (P:=P) (w:=w) bj ev.eD he
    rw[U]
    have gb:eT N ρ (put c8 ops[i].dst (.d (.bool b))) own (a.put ops[i].dst (.bool b)) w:=
     ⟨ev.eJ,dC.put ev.eD _ (jq b),by cases ops[i].dst<;>exact ev.iR⟩
    exact next _ _ _ _ _ (ak b ae) gb (Fr.refl _ _ _) qS
   ·rename_i f args tys he
    obtain⟨vals,hlen,qg,sg⟩:=VQ (P:=P) ev.eD he
    rcases dz _ _ _ _ ak with⟨⟨fn,IB,qT,aaF⟩,tC⟩|tC
    ·have hex:(execOp a.eval ops[i]).run P w= .ok (.enter f vals) w:=by
      rw[sg]
      simp only[callFunc,Sem.run_bind,run_program,Result.andThen_ok,IB,qT,aaF]
      simp
     rw[hex]
     refine(tC N ρ own w _ _ _ ak ev.eJ hlen qg).mono ?_
     rintro e w' ⟨r,own',ρ',v,rfl,U,aa,al⟩
     have gb:eT N ρ' (put c8 ops[i].dst r) own' (a.put ops[i].dst v) w':=
      ⟨aa.rel,dC.put (ev.eD.step aa) _ al,by cases ops[i].dst<;>exact ev.iR⟩
     exact next _ _ _ _ v U gb aa.toFr (je aa.same)
    ·obtain⟨v,w',r,own',ρ',eI,U,aa,al⟩:=tC N ρ own w _ _ _ ak ev.eJ hlen qg
     rw[sg,eI]
     have gb:eT N ρ' (put c8 ops[i].dst r) own' (a.put ops[i].dst v) w':=
      ⟨aa.rel,dC.put (ev.eD.step aa) _ al,by cases ops[i].dst<;>exact ev.iR⟩
     exact next _ _ _ _ v U gb aa.toFr (je aa.same)
  have skip:∀(c8:List J),eT N ρ c8 own a w->c6 tb bd ids ops.toList (rest.map fun i=>ops.toList.getD i default) (put c8 ops[i].dst .un) own K->
   wpOps P ops (fun e cI w'=>e= .normal/\mO N ρ own a w (qo ops) K cI w') rest (a.put ops[i].dst undef) w:=fun c8 ev ak=>
   next _ _ _ _ undef ak ⟨ev.eJ,dC.put ev.eD _ bz.un,by cases ops[i].dst<;>exact ev.iR⟩ (Fr.refl _ _ _) qS
  unfold c6 at h
  cases aT:ops[i].guard with
  |none=>
   rw[aT]at h
   simp only[Region.wanted,aT,atj]
   exact .inl (run tm ao h)
  |some abz=>
   obtain⟨j,want⟩:=abz
   rw[aT]at h
   simp only[Region.wanted,aT]
   have yK:la ops.toList j=(ops[j]?).bind (·.dst):=by rw[LS];simp
   simp only at h
   cases a6:la ops.toList j with
   |none=>
    rw[a6]at h
    have:yielded ops a.tmps j=none:=by unfold yielded;rw[<-yK,a6];rfl
    rw[this]
    exact skip tm ao h
   |some g=>
    rw[a6]at h
    simp only at h
    have IC:∀b,a.tmps.getD g undef= .bool b->yielded ops a.tmps j=some b:=by
     intro b ae
     unfold yielded
     rw[<-yK,a6]
     simp only[Option.bind_some]
     have:a.tmps[g]? =some (.bool b):=by
      rw[asA]at ae
      cases aN:a.tmps[g]? with
      |none=>rw[aN]at ae;cases ae
      |some q=>rw[aN]at ae;simp at ae;rw[ae]
     rw[this]
    have cg:=ao.eD.at_ g
    rw[<-dp]at cg
    split at h
    ·rename_i he
     rw[he]at cg
     have ae:a.tmps.getD g undef= .bool true:=cg
     rw[IC true ae]
     cases want with
     |true=>simp only[beq_self_eq_true,atj];exact .inl (run tm ao h)
     |false=>simp only[show(some true==some false)=false from rfl];exact skip tm ao h
    ·rename_i he
     rw[he]at cg
     have ae:a.tmps.getD g undef= .bool false:=cg
     rw[IC false ae]
     cases want with
     |false=>simp only[beq_self_eq_true,atj];exact .inl (run tm ao h)
     |true=>simp only[show(some false==some true)=false from rfl];exact skip tm ao h
    ·rename_i he
     rw[he]at cg
     have ae:a.tmps.getD g undef=undef:=cg
     have:yielded ops a.tmps j=none:=by
      unfold yielded
      rw[<-yK,a6]
      simp only[Option.bind_some]
      rw[asA]at ae
      cases aN:a.tmps[g]? with
      |none=>rfl
      |some q=>rw[aN]at ae;simp at ae;rw[ae];rfl
     rw[this]
     exact skip tm ao h
    ·rename_i b he
     rw[he]at cg
     have ae:=lW cg
     rw[IC b ae]
     obtain⟨aA,aQ⟩:=h
     have gO:=Cx ao g ae
     cases b with
     |true=>
      have aA:=aA rfl
      cases want with
      |true=>simp only[beq_self_eq_true,atj];exact .inl (run _ gO aA)
      |false=>simp only[show(some true==some false)=false from rfl];exact skip _ gO aA
     |false=>
      have aQ:=aQ rfl
      cases want with
      |false=>simp only[beq_self_eq_true,atj];exact .inl (run _ gO aQ)
      |true=>simp only[show(some false==some true)=false from rfl];exact skip _ gO aQ
    ·exact h.elim
end
end Go.bG
end
section
namespace Go.bG
def fw (T:e3):Prop:=
 (∀args own (K K':J->aB->Prop),(∀r o,K r o->K' r o)->T args own K->T args own K')/\∀args own K,T args own K->∃r o,K r o
section
variable {tb:TypeId->bQ} {bd:FuncId->e3}
def e7 (bd:FuncId->e3)(own:aB)(k:J->aB->Prop):bH->Prop
 | .bad=>False
 | .aR safe v own'=>gk safe (k v own')
 | .grow _ _ _ _=>False
 | .e0 _=>False
 | .call f args _=>bd f args own k
theorem EC {t:Tmp}{l:List Operand}:p7 t l=true↔Operand.tmp t∈l:=by
 induction l with
 |nil=>simp[p7]
 |cons x r bA=>
  cases x with
  |tmp u=>
   simp only[p7]
   by_cases h:u=t
   ·subst h;simp
   ·have:Nat.beq u t=false:=by
     cases ae:Nat.beq u t with
     |false=>rfl
     |true=>exact absurd (ast ae) h
    rw[this];simp[bA,atb h]
  |_=>simp[p7,bA]
theorem GH {tm:List J}{dst:Option Tmp}{v:J}{x:Operand}(h:∀t,dst=some t->x≠ .tmp t):aS (put tm dst v) x=aS tm x:=by
 cases dst with
 |none=>rfl
 |some d=>
  cases x with
  |tmp t=>
   simp only[put,aS,ep,dp,ef]
   rw[asp]
   rintro⟨rfl,_⟩
   exact h d rfl rfl
  |_=>rfl
theorem w4 {o:Oper}{tm:List J}{dst:Option Tmp}{v:J}(h:lb o dst=false){x:Operand}(af:x∈o.op.operands.toList):aS (put tm dst v) x=aS tm x:=by
 refine GH fun t aA zg=> ?_
 subst aA zg
 simp only[lb]at h
 rw[EC.2 af]at h
 cases h
theorem pV {α β:Type}{f g:α->β}{l:List α}(h:∀x∈l,f x=g x):lmap f l=lmap g l:=by
 rw[c5,c5];exact auC h
theorem ED {o:Oper}{tm dL:List J}{own:aB}(h:∀x∈o.op.operands.toList,aS dL x=aS tm x):ei tb o dL own=ei tb o tm own:=by
 unfold ei
 cases bD:o.op with
 |move x=>simp only[bD]at h⊢;rw[h x (by simp[Op.operands])]
 |assign x=>simp only[bD]at h⊢;rw[h x (by simp[Op.operands])]
 |pick c x y=>simp only[bD]at h⊢;rw[h c (by simp[Op.operands]),h x (by simp[Op.operands]),h y (by simp[Op.operands])]
 |box t x=>simp only[bD]at h⊢;rw[h x (by simp[Op.operands])]
 |build t parts=>
  simp only[bD]at h⊢
  have:lmap (fun p=>(p.1,aS dL p.2)) parts.toList=lmap (fun p=>(p.1,aS tm p.2)) parts.toList:=pV fun p aw=>by rw[h p.2 (by simp[Op.operands];exact⟨p.1,by simpa using aw⟩)]
  rw[this]
 |buildSlice t n parts=>
  simp only[bD]at h⊢
  have:lmap (fun p=>(p.1,aS dL p.2)) parts.toList=lmap (fun p=>(p.1,aS tm p.2)) parts.toList:=pV fun p aw=>by rw[h p.2 (by simp[Op.operands];exact⟨p.1,by simpa using aw⟩)]
  rw[this]
 |load t x=>simp only[bD]at h⊢;rw[h x (by simp[Op.operands])]
 |store t x y=>simp only[bD]at h⊢;rw[h x (by simp[Op.operands]),h y (by simp[Op.operands])]
 |nilCheck x=>simp only[bD]at h⊢;rw[h x (by simp[Op.operands])]
 |binOp op t x y ty=>simp only[bD]at h⊢;rw[h x (by simp[Op.operands]),h y (by simp[Op.operands])]
 |unOp op t x=>simp only[bD]at h⊢;rw[h x (by simp[Op.operands])]
 |convert s d x=>simp only[bD]at h⊢;rw[h x (by simp[Op.operands])]
 |extract x i=>simp only[bD]at h⊢;rw[h x (by simp[Op.operands])]
 |fieldAddr s x f=>simp only[bD]at h⊢;rw[h x (by simp[Op.operands])]
 |field s x f=>simp only[bD]at h⊢;rw[h x (by simp[Op.operands])]
 |indexAddr t x i=>simp only[bD]at h⊢;rw[h x (by simp[Op.operands]),h i (by simp[Op.operands])]
 |index t x i=>simp only[bD]at h⊢;rw[h x (by simp[Op.operands]),h i (by simp[Op.operands])]
 |makeSlice t x y=>simp only[bD]at h⊢;rw[h x (by simp[Op.operands]),h y (by simp[Op.operands])]
 |slice t x lo hi cX=>
  simp only[bD]at h⊢
  have aH:∀q:Option Operand,(∀y,q=some y->aS dL y=aS tm y)->omap (aS dL) q=omap (aS tm) q:=by
   intro q aN
   cases q with
   |none=>rfl
   |some y=>simp only[omap,aN y rfl]
  rw[h x (by simp[Op.operands]),aH lo (fun y a6=>h y (by subst a6;simp[Op.operands])),aH hi (fun y a6=>h y (by subst a6;simp[Op.operands])),aH cX (fun y a6=>h y (by subst a6;simp[Op.operands]))]
 |call c=>
  simp only[bD]at h⊢
  have:lmap (aS dL) c.args.toList=lmap (aS tm) c.args.toList:=pV fun x af=>h x (by simp[Op.operands,Call.operands];exact .inr (by simpa using af))
  rw[this]
  cases ay:c.callee with
  |value x=>
   cases x with
   |tmp t=>
    have e:bT .un dL t=bT .un tm t:=h (.tmp t) (by simp[Op.operands,Call.operands,ay])
    simp only[e]
   |_=>rfl
  |_=>rfl
 |makeFunc fn first cap=>
  simp only[bD]at h⊢
  have U:lmap (aS dL) first.toList=lmap (aS tm) first.toList:=pV fun x af=>h x (by simp[Op.operands];exact .inl (by simpa using af))
  have aa:lmap (aS dL) cap.toList=lmap (aS tm) cap.toList:=pV fun x af=>h x (by simp[Op.operands];exact .inr (by simpa using af))
  rw[U,aa]
 |makeMap t r=>cases r<;>rfl
 |lookup t m k c=>simp only[bD]at h⊢;rw[h m (by simp[Op.operands]),h k (by simp[Op.operands])]
 |mapUpdate t m k v=>simp only[bD]at h⊢;rw[h m (by simp[Op.operands]),h k (by simp[Op.operands]),h v (by simp[Op.operands])]
 |_=>rfl
theorem Fe (own own':aB)(s:b0){v:J}(h:J.gy v=true):J.hn own (s.norm own v)=J.hn own' (s.norm own' v):=by
 cases v<;>simp[J.gy]at h<;>cases s<;>rfl
theorem GI (own own':aB){v:J}(h:J.gy v=true):J.hn own v=J.hn own' v:=by
 cases v<;>simp[J.gy]at h<;>rfl
theorem BR (own own':aB):∀(cs:List b0) (aG:List J),dq J.gy aG=true->lmap (J.hn own) (h3 own cs aG)=lmap (J.hn own') (h3 own' cs aG)
 |[],aG,h=>by
  rw[eW,asH]at h
  exact pV fun x af=>GI own own' (h x af)
 |s::cs,[],_=>rfl
 |s::cs,v::aG,h=>by
  have U:J.gy v=true/\dq J.gy aG=true:=by
   rw[eW,at2,asD]at h
   rw[eW];exact h
  show J.hn own (s.norm own v)::lmap (J.hn own) (h3 own cs aG)=J.hn own' (s.norm own' v)::lmap (J.hn own') (h3 own' cs aG)
  rw[Fe own own' s U.1,BR own own' cs aG U.2]
theorem Ff (own own':aB)(cs:List b0){v:J}(h:dq J.gy v.cellsOf=true):lz own cs v=lz own' cs v:=BR own own' cs _ h
theorem wL (own own':aB)(aj:Nat)(cs:List b0):∀(parts:List (Nat×J)) (i n:Nat),hB.go own aj cs i n parts=hB.go own' aj cs i n parts
 |[],i,0=>rfl
 |[],i,n+1=>rfl
 |_::_,i,0=>rfl
 |(j,v)::r,i,n+1=>by
  by_cases aM:∃m x,v= .rw m x
  ·obtain⟨m,x,rfl⟩:=aM
   simp only[hB.go]
   rw[wL own own' aj cs r]
  ·have gen:∀o:aB,hB.go o aj cs i (n+1) ((j,v)::r)=(match Nat.beq i j,Nat.beq (bN v.cellsOf) aj,dq J.gy v.cellsOf with
    |true,true,true=>(match hB.go o aj cs (Nat.succ i) n r with|some l=>some (lz o cs v::l)|none=>none)
    |_,_,_=>none):=fun o=>by cases v<;>first|rfl|exact absurd ⟨_,_,rfl⟩ aM
   rw[gen,gen,wL own own' aj cs r]
   split
   ·rename_i U aa al
    rw[Ff own own' cs al]
   ·rfl
theorem wQ (own own':aB)(t:aO)(v:J):n6 own t v=n6 own' t v:=by
 cases v<;>try rfl
 rename_i l
 simp only[n6]
 split
 ·rename_i _ _ h;rw[Ff own own' t.cells (v:= .agg l) h]
 ·rfl
theorem LU (own own':aB)(t:aO)(v:J):nu own t v=nu own' t v:=by
 have rX:∀l,(match Nat.beq (bN l) t.size,dq J.gy l with|true,true=>some (lz own t.cells (.agg l))|_,_=>none)=(match Nat.beq (bN l) t.size,dq J.gy l with|true,true=>some (lz own' t.cells (.agg l))|_,_=>none):=fun l=>by
  split
  ·rename_i _ h;rw[Ff own own' t.cells (v:= .agg l) h]
  ·rfl
 cases t with
 |bS s=>
  simp only[nu]
  split
  ·rename_i h;rw[Fe own own' s h]
  ·rfl
 |_=>cases v<;>first|rfl|exact rX _
theorem Lp (own own':aB)(cs:List b0)(parts:List (Nat×J)):∀(bM:List (Nat×Nat×aO)) (k:Nat),p2 own cs parts k bM=p2 own' cs parts k bM
 |[],_=>rfl
 |f::r,k=>by
  unfold p2
  rw[Lp own own' cs parts r]
  cases eN k parts with
  |none=>rfl
  |some v=>simp only[LU own own' f.2.2 v]
theorem Tk (t:aO)(parts:List (Nat×J))(own own':aB):(oV t parts own= .bad/\oV t parts own'= .bad)\/∃s v,oV t parts own= .aR s v own/\oV t parts own'= .aR s v own':=by
 unfold oV
 split
 ·split
  ·rename_i bM cs _
   rw[Lp own own' cs parts bM 0]
   split<;>first|exact .inr ⟨_,_,rfl,rfl⟩|exact .inl ⟨rfl,rfl⟩
  ·split<;>first|exact .inr ⟨_,_,rfl,rfl⟩|exact .inl ⟨rfl,rfl⟩
  ·exact .inl ⟨rfl,rfl⟩
 ·split<;>first|exact .inr ⟨_,_,rfl,rfl⟩|exact .inl ⟨rfl,rfl⟩
theorem Tl (t:aO)(f:Nat)(x:J)(own own':aB):(oW t f x own= .bad/\oW t f x own'= .bad)\/∃s v,oW t f x own= .aR s v own/\oW t f x own'= .aR s v own':=by
 unfold oW
 (repeat' split)<;>first|exact .inr ⟨_,_,rfl,rfl⟩|exact .inl ⟨rfl,rfl⟩
theorem US (op:BinOp)(t:aO)(x y:J)(own own':aB):(pb op t x y own= .bad/\pb op t x y own'= .bad)\/∃s v,pb op t x y own= .aR s v own/\pb op t x y own'= .aR s v own':=by
 unfold pb
 rw[wQ own own' t x,wQ own own' t y]
 (repeat' split)<;>first|exact .inr ⟨_,_,rfl,rfl⟩|exact .inl ⟨rfl,rfl⟩
theorem UT (tb:TypeId->bQ)(t:bQ)(m k:J)(c:Bool)(own:aB):nZ tb t m k c own= .bad\/∃s v,nZ tb t m k c own= .aR s v own:=by
 unfold nZ
 (repeat' split)<;>first|exact .inr ⟨_,_,rfl⟩|exact .inl rfl
theorem W9 (k:IntKind)(dst:aO)(x:J):(∀own,nt (.bS (.int k)) dst x own= .bad)\/∃s v,∀own,nt (.bS (.int k)) dst x own= .aR s v own:=by
 unfold nt
 cases dst with
 |bS s=>
  cases s with
  |int b3=>
   cases x with
   |d a=>cases a<;>first|exact .inr ⟨_,_,fun _=>rfl⟩|exact .inl fun _=>rfl
   |_=>exact .inl fun _=>rfl
  |str=>
   cases x with
   |d a=>
    cases a with
    |ints b3 l=>cases b3<;>exact .inl fun _=>rfl
    |_=>exact .inl fun _=>rfl
   |vec id=>
    refine .inl fun own=> ?_
    simp only
    cases ad.at own id with
    |ints b3 l=>cases b3<;>rfl
    |_=>rfl
   |_=>exact .inl fun _=>rfl
  |_=>exact .inl fun _=>rfl
 |_=>exact .inl fun _=>rfl
theorem Rn {o:Oper}(ay:eP tb o.op=0)(hm:n7 o.op=false)(tm:List J)(own own':aB):
 (ei tb o tm own= .bad/\ei tb o tm own'= .bad)\/∃s v,ei tb o tm own= .aR s v own/\ei tb o tm own'= .aR s v own':=by
 have bad:∀{x y:bH},x= .bad->y= .bad->(x= .bad/\y= .bad)\/∃s v,x= .aR s v own/\y= .aR s v own':=fun U aa=> .inl ⟨U,aa⟩
 unfold ei
 cases bD:o.op<;>simp only[bD,eP]at ay hm⊢<;>try (exact absurd ay (by decide))
 case move x=>exact .inr ⟨_,_,rfl,rfl⟩
 case buildSlice t n parts=>
  have aq:(tb t).lit=true:=by
   cases ae:(tb t).lit with
   |true=>rfl
   |false=>rw[ae]at ay;cases ay
  rw[aq]
  split
  ·split
   ·exact .inr ⟨_,_,rfl,rfl⟩
   ·exact .inl ⟨rfl,rfl⟩
  ·rw[show∀q,hB own q (tb t).hC n (lmap (fun p=>(p.1,aS tm p.2)) parts.toList)=hB own' q (tb t).hC n (lmap (fun p=>(p.1,aS tm p.2)) parts.toList)from fun q=>wL own own' q _ _ 0 n]
   split
   ·exact .inr ⟨_,_,rfl,rfl⟩
   ·exact .inl ⟨rfl,rfl⟩
  ·exact .inl ⟨rfl,rfl⟩
 case build t parts=>exact Tk _ _ _ _
 case makeFunc fn first cap=>
  unfold ru
  split
  ·split
   ·exact .inr ⟨_,_,rfl,rfl⟩
   ·split
    ·exact .inr ⟨_,_,rfl,rfl⟩
    ·exact .inl ⟨rfl,rfl⟩
  ·exact .inl ⟨rfl,rfl⟩
 case assign x=>exact .inr ⟨_,_,rfl,rfl⟩
 case pick c x y=>
  unfold u1
  split
  ·exact .inr ⟨_,_,rfl,rfl⟩
  ·exact .inr ⟨_,_,rfl,rfl⟩
  ·split
   ·exact .inr ⟨_,_,rfl,rfl⟩
   ·exact .inr ⟨_,_,rfl,rfl⟩
   ·exact .inr ⟨_,_,rfl,rfl⟩
   ·exact .inr ⟨_,_,rfl,rfl⟩
   ·split
    ·exact .inr ⟨_,_,rfl,rfl⟩
    ·exact .inl ⟨rfl,rfl⟩
   ·exact .inl ⟨rfl,rfl⟩
  ·exact .inl ⟨rfl,rfl⟩
 case nilCheck x=>split<;>first|exact .inr ⟨_,_,rfl,rfl⟩|exact .inl ⟨rfl,rfl⟩
 case binOp op t x y ty=>
  have R1:∀v,y= .const v->(∀a l c,v≠ .slice a l c):=by
   rintro v rfl a l c rfl
   simp[n7,zX]at hm
  have ae:∀(op:BinOp) (cY:Operand) (k:IntKind) (a b:Int),(l4 op cY k a b own= .bad/\l4 op cY k a b own'= .bad)\/∃s v,l4 op cY k a b own= .aR s v own/\l4 op cY k a b own'= .aR s v own':=by
   intro op cY k a b
   cases op<;>first|exact .inr ⟨_,_,rfl,rfl⟩|exact .inl ⟨rfl,rfl⟩
  have YR:∀(op:BinOp) (t:aO) (a b:Bool),(im op t a b own= .bad/\im op t a b own'= .bad)\/∃s v,im op t a b own= .aR s v own/\im op t a b own'= .aR s v own':=by
   intro op t a b
   unfold im
   split<;>first|exact .inr ⟨_,_,rfl,rfl⟩|exact .inl ⟨rfl,rfl⟩
  generalize hex:aS tm x=aby
  generalize qP:aS tm y=abA
  have DD:abA= .emp->zX y=false->∀v,y≠ .const v:=by
   intro U aa v aM
   subst aM
   rw[U]at qP
   have:=Qm qP
   subst this
   simp[zX]at aa
  unfold xx
  split
  ·exact US _ _ _ _ _ _
  unfold n5
  split
  ·split
   ·exact .inr ⟨_,_,rfl,rfl⟩
   ·exact .inr ⟨_,_,rfl,rfl⟩
   ·split
    ·exact ae _ _ _ _ _
    ·exact .inl ⟨rfl,rfl⟩
  ·split<;>first|exact .inr ⟨_,_,rfl,rfl⟩|exact .inl ⟨rfl,rfl⟩
  ·split
   ·exact absurd rfl (DD rfl hm _)
   ·exact absurd rfl (DD rfl hm _)
   ·exact .inl ⟨rfl,rfl⟩
  ·split
   ·exact absurd rfl (DD rfl hm _)
   ·exact absurd rfl (DD rfl hm _)
   ·exact .inl ⟨rfl,rfl⟩
  all_goals first|exact YR _ _ _ _|exact .inl ⟨rfl,rfl⟩
 case unOp op t x=>unfold vh;split<;>first|exact .inr ⟨_,_,rfl,rfl⟩|exact .inl ⟨rfl,rfl⟩
 case convert s d x=>
  split at ay
  ·rename_i k ab
   rw[ab]
   rcases W9 k (tb d).ty (aS tm x)with h|⟨s,v,h⟩
   ·exact .inl ⟨h own,h own'⟩
   ·exact .inr ⟨s,v,h own,h own'⟩
  ·cases ay
 case extract x i=>
  split
  ·split
   ·exact .inr ⟨_,_,rfl,rfl⟩
   ·exact .inl ⟨rfl,rfl⟩
  ·exact .inl ⟨rfl,rfl⟩
 case fieldAddr s x f=>
  split
  ·exact .inl ⟨rfl,rfl⟩
  ·split<;>first|exact .inr ⟨_,_,rfl,rfl⟩|exact .inl ⟨rfl,rfl⟩
 case field s x f=>exact Tl _ _ _ _ _
 case index t x i=>
  unfold xb
  split
  ·split
   ·exact .inr ⟨_,_,rfl,rfl⟩
   ·split
    ·exact .inr ⟨_,_,rfl,rfl⟩
    ·exact .inl ⟨rfl,rfl⟩
   ·exact .inl ⟨rfl,rfl⟩
  ·exact .inl ⟨rfl,rfl⟩
 case call c=>
  exfalso
  revert ay
  split<;>simp
theorem Zl {o:Oper}(ay:eP tb o.op<=1)(hm:n7 o.op=false)(tm:List J)(own:aB):ei tb o tm own= .bad\/∃s v,ei tb o tm own= .aR s v own:=by
 by_cases aE:eP tb o.op=0
 ·rcases Rn (tb:=tb) aE hm tm own own with⟨h,_⟩|⟨s,v,h,_⟩
  ·exact .inl h
  ·exact .inr ⟨s,v,h⟩
 ·have U:eP tb o.op=1:=by omega
  clear aE ay
  unfold ei
  cases bD:o.op<;>simp only[bD,eP]at U⊢<;>try (exact absurd U (by decide))
  case buildSlice t n parts=>exfalso;revert U;cases (tb t).lit<;>simp
  case load t x=>exact LR _ _ _
  case lookup t m k c=>exact UT _ _ _ _ _ _
  case convert s d x=>
   unfold nt
   split<;>(try split)<;>first|exact .inr ⟨_,_,rfl⟩|exact .inl rfl
  case indexAddr t x i=>
   unfold pS
   split
   ·split
    ·split<;>first|exact .inr ⟨_,_,rfl⟩|exact .inl rfl
    ·split<;>first|exact .inr ⟨_,_,rfl⟩|exact .inl rfl
    ·exact .inr ⟨_,_,rfl⟩
    ·exact VN _ _ _ _
   ·exact .inl rfl
  case call c=>
   split
   ·rename_i b ID
    rw[ID]at U
    unfold j_
    split
    ·split
     ·exact .inl rfl
     ·split<;>first|exact .inr ⟨_,_,rfl⟩|exact .inl rfl
    ·exact absurd U (by decide)
    ·split<;>first|exact .inr ⟨_,_,rfl⟩|exact .inl rfl
    ·split<;>first|exact .inr ⟨_,_,rfl⟩|exact .inl rfl
    ·exact absurd U (by decide)
    ·exact .inl rfl
   ·rename_i f sg
    rw[sg]at U
    simp at U
   ·rename_i t sg
    rw[sg]at U
    simp at U
   ·exact .inl rfl
theorem Zm {o:Oper}(ay:eP tb o.op=2)(tm:List J)(own:aB):ei tb o tm own= .bad\/(∃s v own',ei tb o tm own= .aR s v own')\/∃f args tys,ei tb o tm own= .call f args tys:=by
 unfold ei
 cases bD:o.op<;>simp only[bD,eP]at ay⊢<;>try (exact absurd ay (by decide))
 case alloc t=>exact(Bj (KD _ _)).imp id .inl
 case box t x=>exact(Bj (Lo _ _ _)).imp id .inl
 case convert s d x=>exfalso;revert ay;split<;>simp
 case buildSlice t n parts=>
  have aq:(tb t).lit=false:=by
   cases ae:(tb t).lit with
   |true=>rw[ae]at ay;cases ay
   |false=>rfl
  rw[aq]
  split
  ·split<;>first|exact .inl rfl|exact .inr (.inl ⟨_,_,_,rfl⟩)
  ·split<;>first|exact .inl rfl|exact .inr (.inl ⟨_,_,_,rfl⟩)
  ·exact .inl rfl
 case store t x y=>
  rcases Ln (tb t).ty (aS tm x) (aS tm y) own with e|e
  ·exact .inl e
  ·exact .inr (.inl e)
 case makeSlice t x y=>
  unfold u2
  split
  ·split<;>first|exact .inl rfl|exact .inr (.inl ⟨_,_,_,rfl⟩)
  ·exact .inl rfl
 case slice t x lo hi cX=>exact(Bj (KU _ _ _ _ _ _)).imp id .inl
 case mapUpdate t m k v=>exact(Bj (Ka _ _ _ _ _ _)).imp id .inl
 case call c=>
  split
  ·rename_i b ID
   rw[ID]at ay
   exfalso
   revert ay
   cases b<;>simp
  ·exact .inr (.inr ⟨_,_,_,rfl⟩)
  ·rename_i t sg
   rw[sg]at ay
   simp at ay
  ·exact .inl rfl
theorem put_comm {tm:List J}{d e:Option Tmp}{u v:J}(h:fl d e=false):put (put tm d u) e v=put (put tm e v) d u:=by
 cases d with
 |none=>cases e<;>rfl
 |some d=>
  cases e with
  |none=>rfl
  |some e=>
   have cV:d≠e:=by
    rintro rfl
    simp[fl]at h
   simp only[put,ep]
   exact List.set_comm _ _ cV
theorem Fg {s t:List Prop}{q:Prop}(h:gk s (gk t q)):gk t (gk s q):=by
 rw[gr,gr]at h⊢
 exact⟨h.2.1,h.1,h.2.2⟩
end
end Go.bG
end
section
namespace Go.bG
def gh (ps:List aO)(T:List J->(J->Prop)->Prop):e3:=fun args own K=>
 match Nat.beq (bN ps) (bN args),dq J.plain (aO.dF own ps args)with
 |true,true=>T (aO.dF own ps args) fun v=>K v (b7 own args)
 |_,_=>False
def jA (T:List J->(J->Prop)->Prop):Prop:=
 (∀args (K K':J->Prop),(∀r,K r->K' r)->T args K->T args K')/\∀args K,T args K->∃r,K r
def ad.plain:ad->Bool
 | .cells l=>dq J.qe l
 | .ints ..=>true
 | .rows ..=>true
 |_=>false
def ad.alike:ad->ad->Bool
 | .cells l, .cells c2=>Nat.beq (bN l) (bN c2)
 | .ints k _, .ints b3 _=>iU k b3
 | .rows s _, .rows k5 _=>Nat.beq s k5
 |_,_=>false
def CA:J->ad->Bool
 | .vec _, .ints ..=>true
 | .vec _, .rows ..=>true
 | .ptr .., .cells l=>dq J.qe l
 |_,_=>false
def xm:J->ad->Prop->Prop
 | .vec _,ob,q=>0<ob.len/\q
 |_,_,q=>q
def CB:J->Option Nat
 | .vec id=>some id
 | .ptr id _=>some id
 |_=>none
def l6:J->J
 | .vec _=> .vec 0
 | .ptr _ off=> .ptr 0 off
 |v=>v
def lg (ps:List aO)(T:J->ad->List J->(ad->J->Prop)->Prop):e3:=fun args own K=>
 match args with
 |[]=>False
 |a0::rest=>
  match CB a0 with
  |none=>False
  |some id=>
   match frozenAt (b7 own rest) id,CA a0 (ad.at own id),Nat.beq (bN ps) (bN rest),dq J.plain (aO.dF own ps rest)with
   |false,true,true,true=>xm a0 (ad.at own id) (T (l6 a0) (ad.at own id) (aO.dF own ps rest) fun ob r=>
    (match ad.alike (ad.at own id) ob with|true=>K r (cH (b7 own rest) id (false,ob))|false=>False))
   |_,_,_,_=>False
def xr (n:Nat)(args:List J):List J:=bT .un args n::dV (kp args n) (ko args (Nat.succ n))
def n1 (ps:List aO)(T:J->ad->List J->(ad->J->Prop)->Prop):e3:=fun args own K=>
 match args with
 |[]=>False
 |a0::rest=>
  match CB a0 with
  |none=>False
  |some id=>
   match frozenAt (b7 own rest) id,CA a0 (ad.at own id),Nat.beq (bN ps) (bN rest),dq J.plain (aO.dF own ps rest)with
   |false,true,true,true=>T (l6 a0) (ad.at own id) (aO.dF own ps rest) fun ob r=>
    (match ad.alike (ad.at own id) ob with|true=>K r (cH (b7 own rest) id (false,ob))|false=>False)
   |_,_,_,_=>False
def kb (n:Nat)(ps:List aO)(T:J->ad->List J->(ad->J->Prop)->Prop):e3:=fun args own K=>
 match Nat.blt n (bN args)with
 |true=>n1 ps T (xr n args) own K
 |false=>False
def jB (T:J->ad->List J->(ad->J->Prop)->Prop):Prop:=
 (∀a o args (K K':ad->J->Prop),(∀o r,K o r->K' o r)->T a o args K->T a o args K')/\∀a o args K,T a o args K->∃o r,K o r
theorem wM (a:J)(ob:ad)(q:Prop):xm a ob q↔(∀id,a= .vec id->0<ob.len)/\q:=by
 cases a with
 |vec i=>simp[xm]
 |_=>simp[xm]
def mE (ps:List aO)(T:List J->(ad->Prop)->Prop):e3:=fun args own K=>
 match Nat.beq (bN ps) (bN args),dq J.plain (aO.dF own ps args)with
 |true,true=>T (aO.dF own ps args) fun ob=>K (.vec (bN (b7 own args))) (dV (b7 own args) [(false,ob)])
 |_,_=>False
def mr (T:List J->(ad->Prop)->Prop):Prop:=
 (∀args (K K':ad->Prop),(∀r,K r->K' r)->T args K->T args K')/\∀args K,T args K->∃r,K r
def kK (ps:List aO)(T:List J->(J->Prop)->Prop):e3:=fun args own K=>
 match Nat.beq (bN ps) (bN args),dq J.plain (aO.dF own ps args)with
 |true,true=>T (aO.dF own ps args) fun v=>K v own
 |_,_=>False
def po (T:e3):Prop:=(∃ps gp,jA gp/\T=gh ps gp)\/(∃ps gp,jB gp/\T=lg ps gp)\/∃ps gp,jA gp/\T=kK ps gp
def vk (T:e3):Prop:=∃ps gp,mr gp/\T=mE ps gp
def qh (data:FuncId->Nat)(bd:FuncId->e3):Prop:=∀f,(data f=1->po (bd f))/\(data f=2->vk (bd f))
section
variable {tb:TypeId->bQ} {bd:FuncId->e3} {ids:List (Tmp×Nat)}
theorem il {o:Oper}(h:o6 tb o.op=false)(tm:List J)(own:aB):ck tb ids o tm own=ei tb o tm own:=by
 unfold ck
 split
 ·rename_i t d aH _;rw[aH]at h;cases h
 ·rename_i t n parts d aH _
  rw[aH]at h
  have aq:(tb t).lit=true:=by simpa[o6]using h
  rw[aq]
 ·rfl
theorem zY {o:Oper}{tm dL:List J}{own:aB}(h:∀x∈o.op.operands.toList,aS dL x=aS tm x):ck tb ids o dL own=ck tb ids o tm own:=by
 unfold ck
 split
 ·split
  ·rfl
  ·exact ED h
 ·rename_i t n parts d aH _
  split
  ·have e:lmap (fun p:Nat×Operand=>(p.1,aS dL p.2)) parts.toList=lmap (fun p:Nat×Operand=>(p.1,aS tm p.2)) parts.toList:=by
    rw[c5,c5]
    refine auC fun p aw=> ?_
    rw[h p.2 (by rw[aH];simp[Op.operands];exact⟨p.1,by simpa using aw⟩)]
   rw[e]
  ·exact ED h
 ·exact ED h
theorem Fh {o:Oper}(ay:eP tb o.op<=1):o6 tb o.op=false:=by
 cases bD:o.op<;>try rfl
 ·rw[bD]at ay;exact absurd (show(2:Nat)<=1 from ay) (by decide)
 ·rename_i t n parts
  rw[bD]at ay
  unfold o6
  simp only[eP]at ay
  cases ae:(tb t).lit with
  |true=>simp[ae]
  |false=>rw[ae]at ay;exact absurd ay (by decide)
theorem tn {o:Oper}(ay:eP tb o.op=0)(hm:n7 o.op=false)(tm:List J)(own own':aB):
 (ck tb ids o tm own= .bad/\ck tb ids o tm own'= .bad)\/∃s v,ck tb ids o tm own= .aR s v own/\ck tb ids o tm own'= .aR s v own':=by
 have U:eP tb o.op<=1:=by omega
 rw[il (Fh U),il (Fh U)]
 exact Rn ay hm tm own own'
theorem vl {o:Oper}(ay:eP tb o.op<=1)(hm:n7 o.op=false)(tm:List J)(own:aB):ck tb ids o tm own= .bad\/∃s v,ck tb ids o tm own= .aR s v own:=by
 rw[il (Fh ay)]
 exact Zl ay hm tm own
theorem tp {o:Oper}(ay:eP tb o.op=2)(tm:List J)(own:aB):ck tb ids o tm own= .bad\/(∃s v own',ck tb ids o tm own= .aR s v own')\/∃f args tys,ck tb ids o tm own= .call f args tys:=by
 rcases Et tb ids o tm own with h|⟨t,d,id,_,_,_,h|⟨_,h⟩⟩|⟨t,n,parts,d,id,_,_,_,h|⟨ob,_,h⟩⟩
 ·rw[h];exact Zm ay tm own
 ·exact .inl h
 ·exact .inr (.inl ⟨_,_,_,h⟩)
 ·exact .inl h
 ·exact .inr (.inl ⟨_,_,_,h⟩)
theorem XS {a i:Oper}(hi:o7 tb a i=true)(dz:∀f args own K,bd f args own K->fw (bd f)){t:List J}{own:aB}{k:J->J->aB->Prop}
 (h:e7 bd own (fun v own'=>e7 bd own' (fun cO fK=>k v cO fK) (ck tb ids i t own')) (ck tb ids a t own)):
 e7 bd own (fun cO own'=>e7 bd own' (fun v fK=>k v cO fK) (ck tb ids a t own')) (ck tb ids i t own):=by
 simp only[o7,asD,atq]at hi
 obtain⟨⟨⟨⟨⟨aQ,pH⟩,v8⟩,ct⟩,lQ⟩,sc⟩:=hi
 have CC:(eP tb a.op<=1/\eP tb i.op<=1)\/(eP tb a.op=0/\eP tb i.op=2)\/(eP tb a.op=2/\eP tb i.op=0):=by
  unfold pc at aQ
  split at aQ
  ·rename_i U aa;exact .inl ⟨asV U,asV aa⟩
  ·simp only[asD]at aQ;exact .inr (.inl ⟨ast aQ.1,ast aQ.2⟩)
  ·simp only[asD]at aQ;exact .inr (.inr ⟨ast aQ.1,ast aQ.2⟩)
  ·cases aQ
 rcases CC with⟨U,aa⟩|⟨U,aa⟩|⟨U,aa⟩
 ·
  rcases vl (tb:=tb) (ids:=ids) U pH t own with ae|⟨iO,Eg,aP⟩
  ·rw[ae]at h;exact h.elim
  ·rw[aP]at h
   simp only[e7]at h
   rcases vl (tb:=tb) (ids:=ids) aa v8 t own with ae|⟨jF,D7,h9⟩
   ·rw[ae]at h
    exact((gr _ _).1 h).2.elim
   ·rw[h9]at h⊢
    simp only[e7,aP]at h⊢
    exact Fg h
 ·
  rcases tn (tb:=tb) (ids:=ids) U pH t own own with⟨ae,_⟩|⟨iO,Eg,aP,_⟩
  ·rw[ae]at h;exact h.elim
  ·rw[aP]at h
   simp only[e7]at h
   have hH:∀bZ,ck tb ids a t bZ= .aR iO Eg bZ:=fun bZ=>by
    rcases tn (tb:=tb) (ids:=ids) U pH t own bZ with⟨ae,_⟩|⟨s,v,aU,a_⟩
    ·rw[aP]at ae;cases ae
    ·rw[aP]at aU;cases aU;exact a_
   rcases tp (tb:=tb) (ids:=ids) aa t own with ae|⟨jF,D7,bZ,h9⟩|⟨f,args,tys,h9⟩
   ·rw[ae]at h
    exact((gr _ _).1 h).2.elim
   ·rw[h9]at h⊢
    simp only[e7,hH]at h⊢
    exact Fg h
   ·rw[h9]at h⊢
    simp only[e7,hH]at h⊢
    rw[gr]at h
    obtain⟨qq,ny⟩:=h
    refine(dz _ _ _ _ ny).1 _ _ _ _ (fun r o ak=> ?_) ny
    rw[gr]
    exact⟨qq,ak⟩
 ·
  rcases tn (tb:=tb) (ids:=ids) aa v8 t own own with⟨ae,gT⟩|⟨jF,D7,aP,_⟩
  ·
   exfalso
   have dr:∀bZ,ck tb ids i t bZ= .bad:=fun bZ=>by
    rcases tn (tb:=tb) (ids:=ids) aa v8 t own bZ with⟨_,k⟩|⟨s,v,aU,_⟩
    ·exact k
    ·rw[ae]at aU;cases aU
   rcases tp (tb:=tb) (ids:=ids) U t own with ae|⟨iO,Eg,bZ,h9⟩|⟨f,args,tys,h9⟩
   ·rw[ae]at h;exact h
   ·rw[h9]at h
    simp only[e7,dr]at h
    exact((gr _ _).1 h).2
   ·rw[h9]at h
    simp only[e7,dr]at h
    obtain⟨r,o,ak⟩:=(dz _ _ _ _ h).2 _ _ _ h
    exact ak
  ·have hH:∀bZ,ck tb ids i t bZ= .aR jF D7 bZ:=fun bZ=>by
    rcases tn (tb:=tb) (ids:=ids) aa v8 t own bZ with⟨ae,_⟩|⟨s,v,aU,a_⟩
    ·rw[aP]at ae;cases ae
    ·rw[aP]at aU;cases aU;exact a_
   rw[aP]
   simp only[e7]
   rcases tp (tb:=tb) (ids:=ids) U t own with ae|⟨iO,Eg,bZ,h9⟩|⟨f,args,tys,h9⟩
   ·rw[ae]at h;exact h.elim
   ·rw[h9]at h⊢
    simp only[e7,hH]at h⊢
    exact Fg h
   ·rw[h9]at h⊢
    simp only[e7,hH]at h⊢
    have fh:=dz _ _ _ _ h
    rw[gr]
    refine⟨?_,fh.1 _ _ _ _ (fun r o ak=> ?_) h⟩
    ·obtain⟨r,o,ak⟩:=fh.2 _ _ _ h
     exact((gr _ _).1 ak).1
    ·exact((gr _ _).1 ak).2
def res (all:List Oper)(o:Oper)(tm:List J):Option (Bool×List J):=
 match o.guard with
 |none=>some (true,tm)
 |some (j,want)=>
  match la all j with
  |none=>some (false,tm)
  |some g=>
   match bT .un tm g with
   | .bt=>some (want,tm)
   | .bf=>some (!want,tm)
   | .un=>some (false,tm)
   | .d (.bool true)=>some (want,cH tm g .bt)
   | .d (.bool false)=>some (!want,cH tm g .bf)
   |_=>none
def rO (m:Bool)(bd:FuncId->e3)(own:aB)(k:J->aB->Prop)(r:bH):Prop:=
 match m with
 |true=>e7 bd own k r
 |false=>k .un own
theorem wR {all rest:List Oper}{o:Oper}{tm:List J}{own:aB}{K:List J->aB->Prop}
 (U:∀tm own s v bZ id,ck tb ids o tm own≠ .grow s v bZ id) (aa:∀tm own p,ck tb ids o tm own≠ .e0 p):
 c6 tb bd ids all (o::rest) tm own K↔match res all o tm with
  |none=>False
  |some (m,dL)=>rO m bd own (fun v own'=>c6 tb bd ids all rest (put dL o.dst v) own' K) (ck tb ids o dL own):=by
 have run:∀c8:List J,(match ck tb ids o c8 own with
  | .bad=>False
  | .aR safe v own'=>gk safe (c6 tb bd ids all rest (put c8 o.dst v) own' K)
  | .grow safe v own' id=>gk safe (c6 tb bd ids all rest (put (lmap (da id) c8) o.dst v) (fN id own') K)
  | .e0 p=>∀b:Bool,p b->c6 tb bd ids all rest (put c8 o.dst (.d (.bool b))) own K
  | .call f args _=>bd f args own fun v own'=>c6 tb bd ids all rest (put c8 o.dst v) own' K)↔
  rO true bd own (fun v own'=>c6 tb bd ids all rest (put c8 o.dst v) own' K) (ck tb ids o c8 own):=by
  intro c8
  cases h:ck tb ids o c8 own with
  |grow s v bZ id=>exact absurd h (U c8 own s v bZ id)
  |e0 p=>exact absurd h (aa c8 own p)
  |_=>rfl
 rw[c6]
 simp only
 unfold res
 cases aT:o.guard with
 |none=>exact run tm
 |some p=>
  obtain⟨j,want⟩:=p
  simp only
  cases a6:la all j with
  |none=>exact atd
  |some g=>
   simp only
   generalize aq:bT J.un tm g=x
   cases x with
   |bt=>
    cases want
    ·exact atd
    ·exact run tm
   |bf=>
    cases want
    ·exact run tm
    ·exact atd
   |un=>exact atd
   |d a=>
    cases a with
    |bool b=>
     cases b
     ·simp only[atF,false_implies,true_and,true_implies]
      cases want
      ·exact run _
      ·exact atd
     ·simp only[Bool.true_eq_false,false_implies,and_true,true_implies]
      cases want
      ·exact atd
      ·exact run _
    |_=>exact atd
   |_=>exact atd
theorem Lq {α:Type}{d:α}{l:List α}{g h:Nat}{x:α}(ar:g≠h):bT d (cH l g x) h=bT d l h:=by
 rw[dp,dp,ep,ass,ass,List.getElem?_set_ne ar]
theorem Ep {α:Type}{d:α}{l:List α}{g:Nat}{x:α}(h:g<l.length):bT d (cH l g x) g=x:=by
 rw[dp,ep,ass,List.getElem?_set_self h];rfl
theorem OV {tm:List J}{g:Nat}(h:bT .un tm g≠ .un):g<tm.length:=by
 refine Nat.lt_of_not_le fun af=>h ?_
 rw[dp,ass,as5 af];rfl
theorem Ai {a b:Option Tmp}:fl a b=true↔∃g,a=some g/\b=some g:=by
 cases a with
 |none=>simp[fl]
 |some x=>
  cases b with
  |none=>simp[fl]
  |some y=>
   simp only[fl]
   constructor
   ·intro h
    obtain rfl:=ast h
    exact⟨x,rfl,rfl⟩
   ·rintro⟨g,U,aa⟩
    cases U;cases aa
    exact ato _
theorem OW {all:List Oper}{o:Oper}{tm t:List J}{m:Bool}(h:res all o tm=some (m,t)):∃r x,t=put tm r x/\(r=none\/r=ik all o):=by
 unfold res at h
 unfold ik
 cases aT:o.guard with
 |none=>rw[aT]at h;simp only[asM,asO]at h;exact⟨none, .un,h.2.symm, .inl rfl⟩
 |some p=>
  obtain⟨j,want⟩:=p
  rw[aT]at h
  simp only at h⊢
  cases a6:la all j with
  |none=>rw[a6]at h;simp only[asM,asO]at h;exact⟨none, .un,h.2.symm, .inl rfl⟩
  |some g=>
   rw[a6]at h
   simp only at h
   split at h
   ·simp only[asM,asO]at h;exact⟨none, .un,h.2.symm, .inl rfl⟩
   ·simp only[asM,asO]at h;exact⟨none, .un,h.2.symm, .inl rfl⟩
   ·simp only[asM,asO]at h;exact⟨none, .un,h.2.symm, .inl rfl⟩
   ·simp only[asM,asO]at h;exact⟨some g, .bt,h.2.symm, .inr rfl⟩
   ·simp only[asM,asO]at h;exact⟨some g, .bf,h.2.symm, .inr rfl⟩
   ·cases h
theorem BS {all:List Oper}{o:Oper}{tm:List J}{d:Option Tmp}{v:J}(aP:fl (ik all o) d=false):res all o (put tm d v)=(res all o tm).map fun p=>(p.1,put p.2 d v):=by
 cases d with
 |none=>
  have:∀t:List J,put t none v=t:=fun t=>rfl
  simp only[this]
  cases res all o tm<;>rfl
 |some d=>
  unfold ik at aP
  unfold res
  cases aT:o.guard with
  |none=>rfl
  |some p=>
   obtain⟨j,want⟩:=p
   rw[aT]at aP
   simp only at aP⊢
   cases a6:la all j with
   |none=>rfl
   |some g=>
    rw[a6]at aP
    simp only
    have cV:d≠g:=by
     rintro rfl
     simp[fl]at aP
    have e:bT J.un (put tm (some d) v) g=bT J.un tm g:=Lq cV
    have c:∀x,cH (put tm (some d) v) g x=put (cH tm g x) (some d) v:=fun x=>by
     simp only[put,ep]
     exact(List.set_comm _ _ (atb cV)).symm▸rfl
    rw[e]
    generalize bT J.un tm g=x
    cases x with
    |d a=>
     cases a with
     |bool b=>cases b<;>simp[c]
     |_=>rfl
    |_=>rfl
theorem W_ {all:List Oper}{a i:Oper}{g:Tmp}(aC:ik all a=some g)(hi:ik all i=some g){tm jn k2:List J}{pP um:Bool}(U:res all a tm=some (pP,jn))(aa:res all i jn=some (um,k2)):
 k2=jn/\res all i tm=some (um,jn)/\res all a jn=some (pP,jn):=by
 unfold ik at aC hi
 cases ox:a.guard with
 |none=>rw[ox]at aC;cases aC
 |some uc=>
  cases qU:i.guard with
  |none=>rw[qU]at hi;cases hi
  |some pi=>
   obtain⟨ajR,ajS⟩:=uc
   obtain⟨ajT,wc⟩:=pi
   rw[ox]at aC
   rw[qU]at hi
   simp only at aC hi
   unfold res at U aa⊢
   simp only[ox,qU,aC,hi]at U aa⊢
   generalize af:bT J.un tm g=x at U⊢
   cases x with
   |bt=>simp only[asM,asO]at U;obtain⟨rfl,rfl⟩:=U;simp only[af,asM,asO]at aa⊢;obtain⟨rfl,rfl⟩:=aa;simp
   |bf=>simp only[asM,asO]at U;obtain⟨rfl,rfl⟩:=U;simp only[af,asM,asO]at aa⊢;obtain⟨rfl,rfl⟩:=aa;simp
   |un=>simp only[asM,asO]at U;obtain⟨rfl,rfl⟩:=U;simp only[af,asM,asO]at aa⊢;obtain⟨rfl,rfl⟩:=aa;simp
   |d y=>
    have ak:g<tm.length:=OV (by rw[af];intro h;cases h)
    cases y with
    |bool b=>
     cases b
     ·simp only[asM,asO]at U
      obtain⟨rfl,rfl⟩:=U
      rw[Ep ak]at aa⊢
      simp only[asM,asO]at aa⊢
      obtain⟨rfl,rfl⟩:=aa
      simp
     ·simp only[asM,asO]at U
      obtain⟨rfl,rfl⟩:=U
      rw[Ep ak]at aa⊢
      simp only[asM,asO]at aa⊢
      obtain⟨rfl,rfl⟩:=aa
      simp
    |_=>cases U
   |_=>cases U
theorem NB {o:Oper}{tm:List J}{r:Option Tmp}{x:J}(h:∀g,r=some g->p7 g o.op.operands.toList=false)(own:aB):ck tb ids o (put tm r x) own=ck tb ids o tm own:=by
 cases r with
 |none=>rfl
 |some g=>exact zY fun y a6=>w4 (dst:=some g) (show lb o (some g)=false from h g rfl) a6
theorem Xa {all:List Oper}{a i:Oper}(U:lX all a i=true)(aa:lX all i a=true){tm jn k2:List J}{pP um:Bool}(nW:res all a tm=some (pP,jn))(q0:res all i jn=some (um,k2)):
 ∃uo,res all i tm=some (um,uo)/\res all a uo=some (pP,k2)/\(∀own,ck tb ids a k2 own=ck tb ids a jn own)/\∀own,ck tb ids i k2 own=ck tb ids i uo own:=by
 by_cases ao:fl (ik all a) (ik all i)=true
 ·obtain⟨g,Eh,wh⟩:=Ai.1 ao
  obtain⟨rfl,an,az⟩:=W_ Eh wh nW q0
  exact⟨k2,an,az,fun _=>rfl,fun _=>rfl⟩
 ·have gb:fl (ik all a) (ik all i)=false:=by simpa using ao
  have k1:fl (ik all i) (ik all a)=false:=by
   cases af:fl (ik all i) (ik all a)with
   |false=>rfl
   |true=>
    obtain⟨g,an,az⟩:=Ai.1 af
    exact absurd (Ai.2 ⟨g,az,an⟩) ao
  obtain⟨r,x,rfl,ak⟩:=OW nW
  have lQ:fl (ik all i) r=false:=by
   rcases ak with rfl|rfl
   ·cases ik all i<;>rfl
   ·exact k1
  rw[BS lQ]at q0
  cases IE:res all i tm with
  |none=>rw[IE]at q0;cases q0
  |some p=>
   obtain⟨ajU,uo⟩:=p
   rw[IE]at q0
   simp only[ats,asM,asO]at q0
   obtain⟨rfl,rfl⟩:=q0
   obtain⟨q,y,rfl,aN⟩:=OW IE
   have yO:fl (ik all a) q=false:=by
    rcases aN with rfl|rfl
    ·cases ik all a<;>rfl
    ·exact gb
   have Iz:fl q r=false:=by
    rcases aN with rfl|rfl
    ·rfl
    ·exact lQ
   refine⟨_,rfl, ?_,fun own=> ?_,fun own=> ?_⟩
   ·rw[BS yO,nW]
    simp only[ats]
    rw[put_comm Iz]
   ·rw[put_comm Iz]
    refine NB (fun g aT=> ?_) own
    subst aT
    rcases aN with aN|aN
    ·cases aN
    ·unfold lX at aa
     rw[<-aN]at aa
     simp only[asD,atO,atq]at aa
     rcases aa.2 with al|al
     ·exact al
     ·rw[aN,gb]at al;cases al
   ·refine NB (fun g aT=> ?_) own
    subst aT
    rcases ak with ak|ak
    ·cases ak
    ·unfold lX at U
     rw[<-ak]at U
     simp only[asD,atO,atq]at U
     rcases U.2 with al|al
     ·exact al
     ·rw[ak,k1]at al;cases al
theorem KW {all:List Oper}{a i:Oper}(h:lX all a i=true):fl (ik all a) i.dst=false:=by
 unfold lX at h
 split at h
 ·rename_i aT;rw[aT];rfl
 ·rename_i g aT
  rw[aT]
  simp only[asD,atq]at h
  exact h.1
end
end Go.bG
end
section
namespace Go.bG
abbrev gone:Bool×ad:=(true, .gone)
def gI (r:List Nat)(own own':aB):Prop:=∀x∈r,bT gone own x=bT gone own' x
theorem lq {own:aB}{x:Nat}(h:frozenAt own x=false):x<own.length:=by
 refine Nat.lt_of_not_le fun af=> ?_
 unfold frozenAt at h
 rw[dp,ass,as5 af]at h
 cases h
theorem gI.at_ {r:List Nat}{own own':aB}(h:gI r own own'){x:Nat}(af:x∈r):ad.at own x=ad.at own' x/\frozenAt own x=frozenAt own' x:=by
 have:=h x af
 unfold ad.at frozenAt
 exact⟨asQ Prod.snd this,asQ Prod.fst this⟩
theorem sQ (own:aB)(id:Nat)(p:Bool×ad)(x:Nat):bT gone (cH own id p) x=if id=x/\id<own.length then p else bT gone own x:=by
 rw[dp,ep,ef,dp]
theorem FT (own:aB)(id:Nat)(p:Bool×ad):(cH own id p).length=own.length:=by rw[ep];simp
def YS (own:aB):bH->aB
 | .aR _ _ o=>o
 | .call _ args _=>b7 own args
 |_=>own
theorem Lr (t:aO)(x:R)(i:Int)(j:Nat):(∀own,loadData t x i j own= .bad)\/∃s v,∀own,loadData t x i j own= .aR s v own:=by
 unfold loadData
 split
 ·split
  ·split
   ·exact .inr ⟨_,_,fun _=>rfl⟩
   ·exact .inl fun _=>rfl
  ·exact .inl fun _=>rfl
 ·split
  ·split
   ·exact .inr ⟨_,_,fun _=>rfl⟩
   ·split<;>exact .inr ⟨_,_,fun _=>rfl⟩
   ·exact .inr ⟨_,_,fun _=>rfl⟩
   ·exact .inl fun _=>rfl
  ·exact .inl fun _=>rfl
 ·exact .inl fun _=>rfl
theorem Mz (t:aO)(x:R)(i:Int)(j:Nat):(∀own,loadAt t x i j own= .bad)\/∃s v,∀own,loadAt t x i j own= .aR s v own:=by
 unfold loadAt
 split
 ·exact .inr ⟨_,_,fun _=>rfl⟩
 ·exact .inl fun _=>rfl
def rP (own own':aB)(a b:bH):Prop:=(a= .bad/\b= .bad)\/∃s v,a= .aR s v own/\b= .aR s v own'
theorem TL (t:aO)(p:J){own own':aB}(h:gI p.ids own own'):rP own own' (hR t p own) (hR t p own'):=by
 cases p with
 |ptr id off=>
  have U:=(h.at_ (x:=id) (by simp[J.ids,J.jc])).1
  unfold hR
  simp only
  rw[U]
  split
  ·split
   ·exact .inr ⟨_,_,rfl,rfl⟩
   ·exact .inr ⟨_,_,rfl,rfl⟩
   ·exact .inr ⟨_,_,rfl,rfl⟩
   ·exact .inl ⟨rfl,rfl⟩
  ·exact .inl ⟨rfl,rfl⟩
 |optr id i j=>
  have U:=(h.at_ (x:=id) (by simp[J.ids,J.jc])).1
  unfold hR
  simp only
  rw[U]
  rcases Lr t (ad.at own' id).data i j with aa|⟨s,v,aa⟩
  ·exact .inl ⟨aa _,aa _⟩
  ·exact .inr ⟨s,v,aa _,aa _⟩
 |rptr x i j=>
  unfold hR
  simp only
  rcases Lr t x i j with aa|⟨s,v,aa⟩
  ·exact .inl ⟨aa _,aa _⟩
  ·exact .inr ⟨s,v,aa _,aa _⟩
 |oat id i j=>
  have U:=(h.at_ (x:=id) (by simp[J.ids,J.jc])).1
  unfold hR
  simp only
  rw[U]
  rcases Mz t (ad.at own' id).data i j with aa|⟨s,v,aa⟩
  ·exact .inl ⟨aa _,aa _⟩
  ·exact .inr ⟨s,v,aa _,aa _⟩
 |rat x i j=>
  unfold hR
  simp only
  rcases Mz t x i j with aa|⟨s,v,aa⟩
  ·exact .inl ⟨aa _,aa _⟩
  ·exact .inr ⟨s,v,aa _,aa _⟩
 |_=>exact .inl ⟨rfl,rfl⟩
theorem UU (t:aO)(x:J)(n:Int){own own':aB}(h:gI x.ids own own'):rP own own' (oc t x n own) (oc t x n own'):=by
 unfold oc
 split
 rotate_left
 ·exact .inl ⟨rfl,rfl⟩
 cases x with
 |optr id a j=>
  have U:=(h.at_ (x:=id) (by simp[J.ids,J.jc])).1
  simp only
  rw[U]
  (repeat' split)<;>first|exact .inr ⟨_,_,rfl,rfl⟩|exact .inl ⟨rfl,rfl⟩
 |rptr y a j=>
  cases y<;>simp only<;>(repeat' split)<;>first|exact .inr ⟨_,_,rfl,rfl⟩|exact .inl ⟨rfl,rfl⟩
 |_=>exact .inl ⟨rfl,rfl⟩
theorem S5 (t:aO)(x i:J){own own':aB}(h:gI x.ids own own'):rP own own' (pS t x i own) (pS t x i own'):=by
 unfold pS
 split
 ·cases x with
  |vec id=>
   have U:=(h.at_ (x:=id) (by simp[J.ids,J.jc])).1
   simp only
   rw[U]
   split
   ·exact .inr ⟨_,_,rfl,rfl⟩
   ·exact .inl ⟨rfl,rfl⟩
  |d a=>
   simp only
   split
   ·exact .inr ⟨_,_,rfl,rfl⟩
   ·exact .inl ⟨rfl,rfl⟩
  |emp=>exact .inr ⟨_,_,rfl,rfl⟩
  |_=>exact UU t _ _ h
 ·exact .inl ⟨rfl,rfl⟩
theorem UW (t:aO)(x:J){own own':aB}(h:gI x.ids own own'):tf t x own=tf t x own':=by
 cases x with
 |vec id=>
  have U:=(h.at_ (x:=id) (by simp[J.ids,J.jc])).1
  unfold tf
  simp only
  rw[U]
 |d a=>cases a<;>rfl
 |_=>rfl
theorem XT (own own':aB)(t:aO)(v:J)(h:dq J.gy v.cellsOf=true):lmap (J.hn own) (t.norm own v).cellsOf=lmap (J.hn own') (t.norm own' v).cellsOf:=by
 cases v with
 |agg l=>
  have h:dq J.gy l=true:=h
  cases t with
  |bS s=>have e:∀o:aB,aO.norm o (.bS s) (.agg l)= .agg l:=fun o=>by cases s<;>rfl
         rw[e,e]
         exact pV fun x af=>by
          rw[eW,asH]at h
          exact GI own own' (h x af)
  |struct bM cs=>exact BR own own' cs l h
  |arr n e cs=>exact BR own own' cs l h
  |no=>
   exact pV fun x af=>by
    rw[eW,asH]at h
    exact GI own own' (h x af)
 |d a=>cases t with
  |bS s=>cases s<;>rfl
  |_=>rfl
 |bt=>cases t with
  |bS s=>cases s<;>rfl
  |_=>rfl
 |bf=>cases t with
  |bS s=>cases s<;>rfl
  |_=>rfl
 |emp=>cases t with
  |bS s=>cases s<;>rfl
  |_=>rfl
 |_=>exact absurd h (by simp[J.cellsOf,eW,J.gy])
def oj (w:List Nat)(own own':aB)(a b:bH):Prop:=(a= .bad/\b= .bad)\/∃s v id X,a= .aR s v (cH own id X)/\b= .aR s v (cH own' id X)/\w=[id]/\id<own.length/\id<own'.length
theorem Tm (t:aO)(p:J)(r:List R){own own':aB}(h:gI p.ids own own'):oj p.ids own own' (p1 t p r own) (p1 t p r own'):=by
 have bad:oj p.ids own own' .bad .bad:= .inl ⟨rfl,rfl⟩
 unfold p1
 cases p with
 |optr id i j=>
  have hm:id∈J.ids (.optr id i j):=by simp[J.ids,J.jc]
  obtain⟨U,aa⟩:=h.at_ hm
  cases t.jj with
  |false=>exact bad
  |true=>
  simp only
  rw[U,aa]
  cases bc:frozenAt own' id with
  |true=>exact bad
  |false=>
  have c3:=lq bc
  have cP:=lq (aa.trans bc)
  split
  ·split
   ·exact .inr ⟨_,_,_,_,rfl,rfl,rfl,cP,c3⟩
   ·exact bad
  ·exact bad
 |_=>cases t.jj<;>exact bad
theorem S6 (t:aO)(id:Nat)(i:Int)(j:Nat)(v:J){own own':aB}(h:gI [id] own own'):oj [id] own own' (pX t id i j v own) (pX t id i j v own'):=by
 have bad:oj [id] own own' .bad .bad:= .inl ⟨rfl,rfl⟩
 obtain⟨U,aa⟩:=h.at_ (atr.2 rfl)
 unfold pX
 cases t with
 |bS s=>
  simp only
  rw[U,aa]
  cases bc:frozenAt own' id with
  |true=>exact bad
  |false=>
  have c3:=lq bc
  have cP:=lq (aa.trans bc)
  split
  ·rename_i aP
   rw[Fe own own' s aP]
   exact .inr ⟨_,_,_,_,rfl,rfl,rfl,cP,c3⟩
  ·exact bad
 |_=>exact bad
theorem Tn (t:aO)(p v:J){own own':aB}(h:gI p.ids own own'):oj p.ids own own' (oT t p v own) (oT t p v own'):=by
 have bad:oj p.ids own own' .bad .bad:= .inl ⟨rfl,rfl⟩
 unfold oT
 rw[wQ own own' t v]
 split
 ·exact Tm t p _ h
 cases p with
 |oat id i j=>exact S6 t id i j v h
 |ptr id off=>
  have hm:id∈J.ids (.ptr id off):=by simp[J.ids,J.jc]
  obtain⟨U,aa⟩:=h.at_ hm
  unfold sO
  simp only
  rw[U,aa]
  cases bc:frozenAt own' id with
  |true=>exact bad
  |false=>
  have c3:=lq bc
  have cP:=lq (aa.trans bc)
  split
  ·split
   ·exact .inr ⟨_,_,_,_,rfl,rfl,rfl,cP,c3⟩
   ·exact bad
  ·exact bad
 |optr id i j=>
  have hm:id∈J.ids (.optr id i j):=by simp[J.ids,J.jc]
  obtain⟨U,aa⟩:=h.at_ hm
  unfold sO
  simp only
  rw[U,aa]
  cases bc:frozenAt own' id with
  |true=>exact bad
  |false=>
  have c3:=lq bc
  have cP:=lq (aa.trans bc)
  split
  ·split
   ·split
    ·exact .inr ⟨_,_,_,_,rfl,rfl,rfl,cP,c3⟩
    ·exact bad
   ·exact bad
  ·split
   ·rename_i aP
    rw[XT own own' t v aP]
    exact .inr ⟨_,_,_,_,rfl,rfl,rfl,cP,c3⟩
   ·exact bad
  ·exact bad
 |_=>exact bad
theorem MA (s:b0)(v:J){own own':aB}(h:gI v.jc own own'):s.norm own v=s.norm own' v:=by
 cases v with
 |vec id=>
  have U:=(h.at_ (x:=id) (by simp[J.jc])).1
  cases s<;>first|rfl|(show J.d _=J.d _;rw[U])
 |_=>cases s<;>rfl
theorem gI.mono {r lV:List Nat}{own own':aB}(h:gI r own own')(ak:∀x∈lV,x∈r):gI lV own own':=fun x af=>h x (ak x af)
theorem ER:∀(cs:List b0) (aG:List J) {own own':aB},gI (rV aG) own own'->h3 own cs aG=h3 own' cs aG
 |[],aG,_,_,_=>by cases aG<;>rfl
 |s::cs,[],_,_,_=>rfl
 |s::cs,v::aG,own,own',h=>by
  have e:rV (v::aG)=v.jc++rV aG:=by show dV _ _=_;rw[fu]
  rw[e]at h
  show s.norm own v::h3 own cs aG=s.norm own' v::h3 own' cs aG
  rw[MA s v (h.mono fun x af=>by simp[af]),ER cs aG (h.mono fun x af=>by simp[af])]
theorem VS (t:aO)(v:J){own own':aB}(h:gI v.ids own own'):t.norm own v=t.norm own' v:=by
 cases t with
 |bS s=>
  cases v with
  |agg l=>cases s<;>rfl
  |_=>exact MA s _ h
 |struct bM cs=>
  cases v with
  |agg l=>exact asQ J.agg (ER cs l h)
  |_=>rfl
 |arr n e cs=>
  cases v with
  |agg l=>exact asQ J.agg (ER cs l h)
  |_=>rfl
 |no=>cases v<;>rfl
theorem sI (v:J)(aG:List J):fY (v::aG)=v.ids++fY aG:=by show dV _ _=_;rw[fu]
theorem wS:∀(ts:List aO) (aG:List J) {own own':aB},gI (fY aG) own own'->aO.dF own ts aG=aO.dF own' ts aG
 |[],aG,_,_,_=>by cases aG<;>rfl
 |t::ts,[],_,_,_=>rfl
 |t::ts,v::aG,own,own',h=>by
  rw[sI]at h
  show t.norm own v::aO.dF own ts aG=t.norm own' v::aO.dF own' ts aG
  rw[VS t v (h.mono fun x af=>by simp[af]),wS ts aG (h.mono fun x af=>by simp[af])]
theorem u4 {own:aB}{x:Nat}(h:ad.at own x≠ .gone):x<own.length:=by
 refine Nat.lt_of_not_le fun af=>h ?_
 unfold ad.at
 rw[dp,ass,as5 af];rfl
def nx (w:List Nat)(f:aB->aB):Prop:=(∀own,(f own).length=own.length)/\(∀own x,x∉w->bT gone (f own) x=bT gone own x)/\
 ∀own own' x,bT gone own x=bT gone own' x->bT gone (f own) x=bT gone (f own') x
theorem nx.comp {w w':List Nat}{f g:aB->aB}(aQ:nx w f)(aT:nx w' g):nx (w++w') (fun own=>g (f own)):=by
 refine⟨fun own=>by rw[aT.1,aQ.1],fun own x af=> ?_,fun own own' x af=>aT.2.2 _ _ _ (aQ.2.2 _ _ _ af)⟩
 rw[atY,not_or]at af
 rw[aT.2.1 _ _ af.2,aQ.2.1 _ _ af.1]
theorem Eu (own:aB)(id x:Nat):bT gone (en own id) x=if id=x then(true,ad.at own id)else bT gone own x:=by
 unfold en
 rw[sQ]
 by_cases e:id=x
 ·subst e
  by_cases aq:id<own.length
  ·rw[asq ⟨rfl,aq⟩,asq rfl]
  ·rw[asp (fun h=>aq h.2),asq rfl]
   have:bT gone own id=gone:=by rw[dp,ass,as5 (by omega)];rfl
   unfold ad.at
   rw[show bT (true,ad.gone) own id=gone from this]
 ·rw[asp (fun h=>e h.1),asp e]
theorem KE (id:Nat):nx [id] (fun own=>en own id):=by
 refine⟨fun own=>FT _ _ _,fun own x af=> ?_,fun own own' x af=> ?_⟩
 ·rw[Eu,asp]
  rintro rfl;simp at af
 ·rw[Eu,Eu]
  split
  ·rename_i e
   rw[e]
   unfold ad.at
   rw[show bT (true,ad.gone) own x=bT (true,ad.gone) own' x from af]
  ·exact af
theorem OX:nx [] (fun own=>own):=⟨fun _=>rfl,fun _ _ _=>rfl,fun _ _ _ h=>h⟩
theorem To (v:J):nx v.jc (fun own=>kJ own v):=by
 have IF:∀w,nx w (fun own=>own):=fun w=>⟨fun _=>rfl,fun _ _ _=>rfl,fun _ _ _ h=>h⟩
 cases v with
 |vec id=>exact KE id
 |_=>exact IF _
theorem KX:∀l:List J,nx (rV l) (fun own=>sU own l)
 |[]=>OX
 |v::aG=>by
  have e:rV (v::aG)=v.jc++rV aG:=by show dV _ _=_;rw[fu]
  rw[e]
  exact(To v).comp (KX aG)
theorem TM (v:J):nx v.ids (fun own=>freeze own v):=by
 have IF:∀w,nx w (fun own=>own):=fun w=>⟨fun _=>rfl,fun _ _ _=>rfl,fun _ _ _ h=>h⟩
 cases v with
 |vec id=>exact KE id
 |agg l=>exact KX l
 |_=>exact IF _
theorem zM:∀l:List J,nx (fY l) (fun own=>b7 own l)
 |[]=>OX
 |v::aG=>by
  rw[sI]
  exact(TM v).comp (zM aG)
section
variable {tb:TypeId->bQ} {bd:FuncId->e3} {data:FuncId->Nat} {ids:List (Tmp×Nat)} {n:Nat}
theorem VT (dz:∀f args own K,bd f args own K->fw (bd f)){own:aB}{k b3:J->aB->Prop}(ab:∀v o,k v o->b3 v o){r:bH}(h:e7 bd own k r):e7 bd own b3 r:=by
 cases r with
 |aR s v o=>exact uI (ab v o) h
 |call f args tys=>exact(dz _ _ _ _ h).1 _ _ _ _ ab h
 |_=>exact h
structure Yp (bd:FuncId->e3)(n:Nat)(f:gl)(bp:aB->bH)(B:aB->(J->ad->Prop)->Prop)(E:ad->aB->aB):Prop where
 none:∀own s v o id,bp own≠ .grow s v o id
 R2:∀own p,bp own≠ .e0 p
 pull:∀own k,e7 bd own k (bp own)↔B own fun v x=>k v (E x own)
 mono:∀own k b3,(∀v x,k v x->b3 v x)->B own k->B own b3
 some:∀own k,B own k->∃v x,k v x
 same:∀own own',gI f.r own own'->(f.ext=true->own.length=n/\own'.length=n)->∀k,B own k↔B own' k
 len:∀x own,(E x own).length=own.length+f.ext.toNat
 out:∀x own y,(f.ext=true->own.length=n)->y∉f.w->bT gone (E x own) y=bT gone own y
 R3:∀own own',gI f.r own own'->(f.ext=true->own.length=n/\own'.length=n)->(∃k,B own k)->(∃k,B own' k)->∀x,∀y∈f.w,bT gone (E x own) y=bT gone (E x own') y
 calls:f.ext=true->f.call=true
 aR:f.call=false->∀own,∃(S:Prop) (v:J) (x:ad),∀k,B own k↔S/\k v x
def n9 (bd:FuncId->e3)(n:Nat)(f:gl)(bp:aB->bH):Prop:=∃B E,Yp bd n f bp B E
theorem sJ {f:gl}{bp:aB->bH}(hw:f.w=[])(af:f.ext=false)(h:∀own own',gI f.r own own'->rP own own' (bp own) (bp own')):n9 bd n f bp:=by
 have U:∀own,bp own= .bad\/∃s v,bp own= .aR s v own:=fun own=>by
  rcases h own own (fun _ _=>rfl)with⟨h,_⟩|⟨s,v,h,_⟩
  ·exact .inl h
  ·exact .inr ⟨s,v,h⟩
 refine⟨fun own k=>e7 bd own (fun v _=>k v .gone) (bp own),fun _ own=>own, ?_⟩
 refine⟨fun own s v o id=> ?_,fun own p=> ?_,fun own k=> ?_,fun own k b3 ab ae=> ?_,fun own k ae=> ?_,fun own own' ao _ k=> ?_,fun _ own=>by rw[af];rfl,fun _ own y _ _=>rfl,fun own own' _ _ _ _ x y a6=>absurd (hw▸a6) atW,fun he=>absurd (af.symm.trans he) atB,fun _ own=> ?_⟩
 ·rcases U own with h|⟨s,v,h⟩<;>rw[h]<;>simp
 ·rcases U own with h|⟨s,v,h⟩<;>rw[h]<;>simp
 ·rcases U own with h|⟨s,v,h⟩<;>rw[h]<;>exact atd
 ·rcases U own with h|⟨s,v,h⟩<;>rw[h]at ae⊢
  ·exact ae
  ·exact uI (ab _ _) ae
 ·rcases U own with h|⟨s,v,h⟩<;>rw[h]at ae
  ·exact ae.elim
  ·exact⟨_,_,((gr _ _).1 ae).2⟩
 ·rcases h own own' ao with⟨U,aa⟩|⟨s,v,U,aa⟩<;>simp only[U,aa]<;>exact atd
 ·rcases U own with h|⟨s,v,h⟩<;>simp only[h]
  ·exact⟨False, .un, .gone,fun k=>by simp[e7]⟩
  ·exact⟨∀p∈s,p,v, .gone,fun k=>gr _ _⟩
theorem rn {f:gl}{bp:aB->bH}(af:f.ext=false)(h:∀own own',gI f.r own own'->oj f.w own own' (bp own) (bp own')):n9 bd n f bp:=by
 have U:∀own,bp own= .bad\/∃s v id X,bp own= .aR s v (cH own id X)/\f.w=[id]/\id<own.length:=fun own=>by
  rcases h own own (fun _ _=>rfl)with⟨h,_⟩|⟨s,v,id,X,h,_,hm,aq,_⟩
  ·exact .inl h
  ·exact .inr ⟨s,v,id,X,h,hm,aq⟩
 refine⟨fun own k=>e7 bd own (fun v _=>k v .gone) (bp own),fun _ own=>YS own (bp own), ?_⟩
 refine⟨fun own s v o id=> ?_,fun own p=> ?_,fun own k=> ?_,fun own k b3 ab ae=> ?_,fun own k ae=> ?_,fun own own' ao _ k=> ?_,fun _ own=> ?_,fun _ own x _ af=> ?_,fun own own' ao _ tK _ _ x af=> ?_,fun he=>absurd (af.symm.trans he) atB,fun _ own=> ?_⟩
 ·rcases U own with h|⟨s,v,id,X,h,_⟩<;>rw[h]<;>simp
 ·rcases U own with h|⟨s,v,id,X,h,_⟩<;>rw[h]<;>simp
 ·rcases U own with h|⟨s,v,id,X,h,_⟩<;>rw[h]<;>exact atd
 ·rcases U own with h|⟨s,v,id,X,h,_⟩<;>rw[h]at ae⊢
  ·exact ae
  ·exact uI (ab _ _) ae
 ·rcases U own with h|⟨s,v,id,X,h,_⟩<;>rw[h]at ae
  ·exact ae.elim
  ·exact⟨_,_,((gr _ _).1 ae).2⟩
 ·rcases h own own' ao with⟨U,aa⟩|⟨s,v,id,X,U,aa,_⟩<;>simp only[U,aa]<;>exact atd
 ·rw[af]
  rcases U own with h|⟨s,v,id,X,h,_⟩<;>rw[h]
  ·rfl
  ·exact FT _ _ _
 ·rcases U own with h|⟨s,v,id,X,h,hm,_⟩<;>rw[h]
  ·rfl
  ·show bT gone (cH own id X) x=_
   rw[sQ,asp]
   rintro⟨rfl,_⟩;exact af (by rw[hm];simp)
 ·rcases h own own' ao with⟨aa,al⟩|⟨s,v,id,X,aa,al,hm,cj,db⟩
  ·obtain⟨k,ae⟩:=tK
   rw[aa]at ae
   exact ae.elim
  ·rw[aa,al]
   show bT gone (cH own id X) x=bT gone (cH own' id X) x
   rw[hm]at af
   have af:x=id:=by simpa using af
   subst af
   rw[sQ,sQ,asq ⟨rfl,cj⟩,asq ⟨rfl,db⟩]
 ·rcases U own with h|⟨s,v,id,X,h,_⟩<;>simp only[h]
  ·exact⟨False, .un, .gone,fun k=>by simp[e7]⟩
  ·exact⟨∀p∈s,p,v, .gone,fun k=>gr _ _⟩
theorem VU {ps:List aO}{gp:List J->(J->Prop)->Prop}(bj:jA gp){f:gl}{bp:aB->bH}{args:List J}(ak:f.r=fY args)(hw:f.w=fY args)(ay:f.call=true)(af:f.ext=false)
 (U:∀own s v o id,bp own≠ .grow s v o id) (aa:∀own p,bp own≠ .e0 p) (st:∀own k,e7 bd own k (bp own)=gh ps gp args own k):n9 bd n f bp:=by
 have dg:=zM args
 refine⟨fun own k=>gh ps gp args own fun v _=>k v .gone,fun _ own=>b7 own args,U,aa,fun own k=> ?_,fun own k b3 ab ae=> ?_,fun own k ae=> ?_,fun own own' ao _ k=> ?_,fun _ own=>by rw[af];exact dg.1 own,
  fun _ own x _ a6=>dg.2.1 _ _ (hw▸a6),fun own own' ao _ _ _ _ x a6=>dg.2.2 _ _ _ (ao x (by rw[ak,<-hw];exact a6)),fun _=>ay,fun h=>absurd (h.symm.trans ay) atB⟩
 ·rw[st];exact atd
 ·unfold gh at ae⊢
  split
  ·rename_i an az
   rw[an,az]at ae
   exact bj.1 _ _ _ (fun r=>ab r _) ae
  ·rename_i af
   split at ae
   ·rename_i an az;exact(af an az).elim
   ·exact ae
 ·unfold gh at ae
  split at ae
  ·obtain⟨r,ak⟩:=bj.2 _ _ ae
   exact⟨r,_,ak⟩
  ·exact ae.elim
 ·unfold gh
  rw[wS ps args (ak▸ao)]
theorem VV {ps:List aO}{gp:List J->(J->Prop)->Prop}(bj:jA gp){f:gl}{bp:aB->bH}{args:List J}(ak:f.r=fY args)(hw:f.w=fY args)(ay:f.call=true)(af:f.ext=false)
 (U:∀own s v o id,bp own≠ .grow s v o id) (aa:∀own p,bp own≠ .e0 p) (st:∀own k,e7 bd own k (bp own)=kK ps gp args own k):n9 bd n f bp:=by
 refine⟨fun own k=>kK ps gp args own fun v _=>k v .gone,fun _ own=>own,U,aa,fun own k=> ?_,fun own k b3 ab ae=> ?_,fun own k ae=> ?_,fun own own' ao _ k=> ?_,fun _ own=>by rw[af];rfl,
  fun _ own x _ _=>rfl,fun own own' ao _ _ _ _ x a6=>ao x (by rw[ak,<-hw];exact a6),fun _=>ay,fun h=>absurd (h.symm.trans ay) atB⟩
 ·rw[st];exact atd
 ·unfold kK at ae⊢
  split
  ·rename_i an az
   rw[an,az]at ae
   exact bj.1 _ _ _ (fun r=>ab r _) ae
  ·rename_i af
   split at ae
   ·rename_i an az;exact(af an az).elim
   ·exact ae
 ·unfold kK at ae
  split at ae
  ·obtain⟨r,ak⟩:=bj.2 _ _ ae
   exact⟨r,_,ak⟩
  ·exact ae.elim
 ·unfold kK
  rw[wS ps args (ak▸ao)]
theorem VW {ps:List aO}{gp:J->ad->List J->(ad->J->Prop)->Prop}(bj:jB gp){f:gl}{bp:aB->bH}{args:List J}(ak:f.r=fY args)(hw:f.w=fY args)(ay:f.call=true)(af:f.ext=false)
 (U:∀own s v o id,bp own≠ .grow s v o id) (aa:∀own p,bp own≠ .e0 p) (st:∀own k,e7 bd own k (bp own)=lg ps gp args own k):n9 bd n f bp:=by
 match args with
 |[]=>
  refine⟨fun _ _=>False,fun _ own=>own,U,aa,fun own k=>by rw[st];exact atd,fun _ _ _ _ h=>h,fun _ _ h=>h.elim,fun _ _ _ _ _=>atd,fun _ _=>by rw[af];rfl,fun _ _ _ _ _=>rfl,fun _ _ _ _ ⟨_,h⟩=>h.elim,fun _=>ay,fun h=>absurd (h.symm.trans ay) atB⟩
 |a0::rest=>
  have dg:=zM rest
  cases de:CB a0 with
  |none=>
   refine⟨fun _ _=>False,fun _ own=>own,U,aa,fun own k=>by rw[st];unfold lg;simp only[de],fun _ _ _ _ h=>h,fun _ _ h=>h.elim,fun _ _ _ _ _=>atd,fun _ _=>by rw[af];rfl,fun _ _ _ _ _=>rfl,fun _ _ _ _ ⟨_,h⟩=>h.elim,fun _=>ay,fun h=>absurd (h.symm.trans ay) atB⟩
  |some id=>
   have hl:id∈fY (a0::rest):=by
    rw[sI]
    cases a0<;>simp[CB]at de<;>subst de<;>simp[J.ids,J.jc]
   have yc:∀x∈fY rest,x∈fY (a0::rest):=fun x af=>by rw[sI];simp[af]
   let B:aB->(J->ad->Prop)->Prop:=fun own k=>
    match frozenAt (b7 own rest) id,CA a0 (ad.at own id),Nat.beq (bN ps) (bN rest),dq J.plain (aO.dF own ps rest)with
    |false,true,true,true=>xm a0 (ad.at own id) (gp (l6 a0) (ad.at own id) (aO.dF own ps rest) fun ob r=>(match ad.alike (ad.at own id) ob with|true=>k r ob|false=>False))
    |_,_,_,_=>False
   refine⟨B,fun x own=>cH (b7 own rest) id (false,x),U,aa,fun own k=> ?_,fun own k b3 ab ae=> ?_,fun own k ae=> ?_,fun own own' ao _ k=> ?_,fun x own=>by rw[FT,dg.1,af];rfl,fun x own y _ a6=> ?_,fun own own' ao _ ⟨k,ab⟩ ⟨b3,py⟩ x y a6=> ?_,fun _=>ay,fun h=>absurd (h.symm.trans ay) atB⟩
   ·rw[st]
    unfold lg
    simp only[de]
    exact atd
   ·show B own b3
    have ae:B own k:=ae
    simp only[B]at ae⊢
    split at ae
    ·rw[wM]at ae⊢
     refine⟨ae.1,bj.1 _ _ _ _ _ (fun o r aH=> ?_) ae.2⟩
     split
     ·rename_i aC;rw[aC]at aH;exact ab _ _ aH
     ·rename_i aC;rw[aC]at aH;exact aH
    ·exact ae.elim
   ·have ae:B own k:=ae
    simp only[B]at ae
    split at ae
    ·rw[wM]at ae
     obtain⟨o,r,aH⟩:=bj.2 _ _ _ _ ae.2
     split at aH
     ·exact⟨r,o,aH⟩
     ·exact aH.elim
    ·exact ae.elim
   ·rw[ak]at ao
    have an:=(ao.at_ hl).1
    have az:frozenAt (b7 own rest) id=frozenAt (b7 own' rest) id:=asQ Prod.fst (dg.2.2 own own' id (ao id hl))
    have bK:=wS ps rest (ao.mono yc)
    show B own k↔B own' k
    simp only[B]
    rw[an,az,bK]
   ·rw[hw]at a6
    rw[sQ,asp]
    ·exact dg.2.1 _ _ fun h=>a6 (yc _ h)
    ·rintro⟨rfl,_⟩;exact a6 hl
   ·rw[ak]at ao
    rw[hw]at a6
    have y_:∀(own:aB) (k:J->ad->Prop),B own k->id<(b7 own rest).length:=fun own k ae=>by
     simp only[B]at ae
     split at ae
     ·rename_i bc _ _ _;exact lq bc
     ·exact ae.elim
    rw[sQ,sQ]
    by_cases e:id=y
    ·rw[asq ⟨e,y_ _ _ ab⟩,asq ⟨e,y_ _ _ py⟩]
    ·rw[asp (fun h=>e h.1),asp (fun h=>e h.1)]
     exact dg.2.2 _ _ _ (ao y a6)
theorem UX {ps:List aO}{gp:List J->(ad->Prop)->Prop}(bj:mr gp){f:gl}{bp:aB->bH}{args:List J}(ak:f.r=fY args)(hw:f.w=n::fY args)(ay:f.call=true)(af:f.ext=true)
 (U:∀own s v o id,bp own≠ .grow s v o id) (aa:∀own p,bp own≠ .e0 p) (st:∀own k,e7 bd own k (bp own)=mE ps gp args own k):n9 bd n f bp:=by
 have dg:=zM args
 let B:aB->(J->ad->Prop)->Prop:=fun own k=>
  match Nat.beq (bN ps) (bN args),dq J.plain (aO.dF own ps args)with
  |true,true=>gp (aO.dF own ps args) fun ob=>k (.vec (bN (b7 own args))) ob
  |_,_=>False
 refine⟨B,fun ob own=>dV (b7 own args) [(false,ob)],U,aa,fun own k=> ?_,fun own k b3 ab ae=> ?_,fun own k ae=> ?_,fun own own' ao aq k=> ?_,fun x own=> ?_,fun x own y aq a6=> ?_,fun own own' ao aq _ _ x y a6=> ?_,
  fun _=>ay,fun h=>absurd (h.symm.trans ay) atB⟩
 ·rw[st];unfold mE;exact atd
 ·show B own b3
  have ae:B own k:=ae
  simp only[B]at ae⊢
  split at ae
  ·exact bj.1 _ _ _ (fun r=>ab _ r) ae
  ·exact ae.elim
 ·have ae:B own k:=ae
  simp only[B]at ae
  split at ae
  ·obtain⟨r,ak⟩:=bj.2 _ _ ae
   exact⟨_,r,ak⟩
  ·exact ae.elim
 ·show B own k↔B own' k
  simp only[B]
  have e:bN (b7 own args)=bN (b7 own' args):=by rw[cf,cf,show(b7 own args).length=own.length from dg.1 own,show(b7 own' args).length=own'.length from dg.1 own',(aq af).1,(aq af).2]
  rw[wS ps args (ak▸ao),e]
 ·rw[fu,as2,dg.1,af];rfl
 ·rw[hw,asP,not_or]at a6
  have e:(b7 own args).length=own.length:=dg.1 own
  have aq:=aq af
  rw[fu,dp,ass,asS]
  split
  ·rw[<-ass,<-dp];exact dg.2.1 _ _ a6.2
  ·rename_i ar
   rw[dp,ass,as5 (l:=own) (by omega),as5 (by simp;omega)]
 ·obtain⟨cj,db⟩:=aq af
  have e:(b7 own args).length=own.length:=dg.1 own
  have cd:(b7 own' args).length=own'.length:=dg.1 own'
  show bT gone (dV (b7 own args) [(false,x)]) y=bT gone (dV (b7 own' args) [(false,x)]) y
  rw[fu,fu,dp,dp,ass,ass,asS,asS,e,cd,cj,db]
  split
  ·rename_i bB
   rw[hw]at a6
   have a6:y∈fY args:=(asP.1 a6).resolve_left (by omega)
   rw[<-ass,<-ass,<-dp,<-dp]
   exact dg.2.2 _ _ _ (ao y (by rw[ak];exact a6))
  ·rfl
theorem VX (t:aO)(id:Nat)(lo hi cX:Option J){own own':aB}(h:gI [id] own own'):oj [id] own own' (kf t (.vec id) lo hi cX own) (kf t (.vec id) lo hi cX own'):=by
 have U:=(h.at_ (x:=id) (by simp)).1
 have bc:en own id=cH own id (true,ad.at own' id):=by unfold en;rw[U]
 unfold kf
 cases cX with
 |none=>
  simp only
  split
  ·rw[U,bc]
   split
   ·rename_i aH
    split
    ·exact .inr ⟨_,_,_,_,rfl,rfl,rfl,u4 (by rw[U,aH];simp),u4 (by rw[aH];simp)⟩
    ·exact .inl ⟨rfl,rfl⟩
   ·rename_i aH
    split
    ·exact .inr ⟨_,_,_,_,rfl,rfl,rfl,u4 (by rw[U,aH];simp),u4 (by rw[aH];simp)⟩
    ·exact .inl ⟨rfl,rfl⟩
   ·exact .inl ⟨rfl,rfl⟩
  ·exact .inl ⟨rfl,rfl⟩
 |some m=>
  have key:∀o:aB,kf t (.vec id) lo hi (some m) o= .bad:=fun o=>by
   unfold kf
   generalize ll lo=a
   generalize ll hi=b
   split
   ·rename_i h;cases h
   ·rcases a with _|_|(_|_)|_<;>rcases b with _|_|(_|_)|_<;>rfl
   ·rfl
  unfold kf at key
  exact .inl ⟨key own,key own'⟩
theorem UY (t:aO)(x:J)(lo hi cX:Option J)(af:∀id,x≠ .vec id)(own own':aB):rP own own' (kf t x lo hi cX own) (kf t x lo hi cX own'):=by
 unfold kf
 cases cX with
 |none=>
  simp only
  split
  ·cases x with
   |vec id=>exact absurd rfl (af id)
   |d a=>
    cases a<;>simp only<;>first|exact .inl ⟨rfl,rfl⟩|(split<;>first|exact .inr ⟨_,_,rfl,rfl⟩|exact .inl ⟨rfl,rfl⟩)
   |emp=>simp only;split<;>first|exact .inr ⟨_,_,rfl,rfl⟩|exact .inl ⟨rfl,rfl⟩
   |_=>exact .inl ⟨rfl,rfl⟩
  ·exact .inl ⟨rfl,rfl⟩
 |some m=>
  split
  ·rename_i h;cases h
  ·split
   ·split<;>first|exact .inr ⟨_,_,rfl,rfl⟩|exact .inl ⟨rfl,rfl⟩
   ·split<;>first|exact .inr ⟨_,_,rfl,rfl⟩|exact .inl ⟨rfl,rfl⟩
   ·exact .inl ⟨rfl,rfl⟩
  ·exact .inl ⟨rfl,rfl⟩
theorem Tp (t:aO)(id:Nat)(i:Int)(j:Nat)(lo hi cX:Option J){own own':aB}(h:gI [id] own own'):oj [id] own own' (oU t (.optr id i j) lo hi cX own) (oU t (.optr id i j) lo hi cX own'):=by
 have U:=(h.at_ (x:=id) (by simp)).1
 have bc:en own id=cH own id (true,ad.at own' id):=by unfold en;rw[U]
 unfold oU
 split
 ·rename_i he
  injection he with an az bK
  subst an az bK
  rw[U,bc]
  split
  ·rename_i aH _ _
   split
   ·exact .inr ⟨_,_,_,_,rfl,rfl,rfl,u4 (by rw[U,aH];simp),u4 (by rw[aH];simp)⟩
   ·exact .inl ⟨rfl,rfl⟩
  ·exact .inl ⟨rfl,rfl⟩
 ·exact .inl ⟨rfl,rfl⟩
theorem Ls (t:aO)(x:J)(lo hi cX:Option J)(af:∀id i j,x≠ .optr id i j)(own:aB):oU t x lo hi cX own= .bad:=by
 unfold oU
 split
 ·exact absurd rfl (af _ _ _)
 ·rfl
theorem Ub (tb:TypeId->bQ)(t:bQ)(m k:J)(c:Bool){own own':aB}(h:gI m.ids own own'):rP own own' (nZ tb t m k c own) (nZ tb t m k c own'):=by
 unfold nZ
 split
 ·rename_i n fb e id _
  have U:=(h.at_ (x:=id) (by simp[J.ids,J.jc])).1
  rw[U,wQ own own' _ k]
  (repeat' split)<;>first|exact .inr ⟨_,_,rfl,rfl⟩|exact .inl ⟨rfl,rfl⟩
 ·exact .inl ⟨rfl,rfl⟩
theorem S7 (tb:TypeId->bQ)(t:bQ)(m k v:J){own own':aB}(h:gI m.ids own own'):oj m.ids own own' (q7 tb t m k v own) (q7 tb t m k v own'):=by
 have bad:oj m.ids own own' .bad .bad:= .inl ⟨rfl,rfl⟩
 unfold q7
 split
 ·rename_i n fb e id _
  obtain⟨U,aa⟩:=h.at_ (x:=id) (by simp[J.ids,J.jc])
  rw[U,aa,wQ own own' _ k,LU own own' _ v]
  cases bc:frozenAt own' id with
  |true=>exact bad
  |false=>
   have c3:=lq bc
   have cP:=lq (aa.trans bc)
   (repeat' split)<;>first|exact .inr ⟨_,_,_,_,rfl,rfl,rfl,cP,c3⟩|exact bad
 ·exact bad
theorem VY (s d:aO)(x:J){own own':aB}(h:gI x.ids own own'):rP own own' (nt s d x own) (nt s d x own'):=by
 unfold nt
 split
 ·split<;>first|exact .inr ⟨_,_,rfl,rfl⟩|exact .inl ⟨rfl,rfl⟩
 ·split<;>first|exact .inr ⟨_,_,rfl,rfl⟩|exact .inl ⟨rfl,rfl⟩
 ·split<;>first|exact .inr ⟨_,_,rfl,rfl⟩|exact .inl ⟨rfl,rfl⟩
 ·rename_i id
  have U:=(h.at_ (x:=id) (by simp[J.ids,J.jc])).1
  rw[U]
  split<;>first|exact .inr ⟨_,_,rfl,rfl⟩|exact .inl ⟨rfl,rfl⟩
 ·split<;>first|exact .inr ⟨_,_,rfl,rfl⟩|exact .inl ⟨rfl,rfl⟩
 ·exact .inl ⟨rfl,rfl⟩
theorem Xb (tys:List TypeId)(args:List J){own own':aB}(ao:gI (fY args) own own'):rP own own' (j_ tb .len tys args own) (j_ tb .len tys args own'):=by
 match args with
 |[]=>exact .inl ⟨rfl,rfl⟩
 |[x]=>
  have af:gI x.ids own own':=ao.mono fun y a6=>by rw[sI];simp[a6]
  cases tys with
  |nil=>exact .inl ⟨rfl,rfl⟩
  |cons t r=>
   have e:∀o,j_ tb .len (t::r) [x] o=(match tf (tb t).ty x o with|some n=> .aR [] (.d (.int .i64 n)) o|none=> .bad):=fun o=>rfl
   rw[e,e,UW (tb t).ty x af]
   split
   ·exact .inr ⟨_,_,rfl,rfl⟩
   ·exact .inl ⟨rfl,rfl⟩
 |x::y::r=>
  have e:∀o,j_ tb .len tys (x::y::r) o= .bad:=fun o=>by
   unfold j_
   split
   ·rename_i h;cases h
   ·rename_i h _;exact absurd h (by decide)
   ·rename_i h _;exact absurd h (by decide)
   ·rename_i h _;exact absurd h (by decide)
   ·rename_i h _;exact absurd h (by decide)
   ·rfl
  rw[e,e]
  exact .inl ⟨rfl,rfl⟩
theorem s0 (hj:qh data bd)(o:Oper)(t:List J)(fh:(b8 tb data ids n o t).ok=true):n9 bd n (b8 tb data ids n o t) (ck tb ids o t):=by
 have QK:o6 tb o.op=false->eP tb o.op=0->n7 o.op=false->∀f:gl,f.w=[]->f.ext=false->n9 bd n f (ck tb ids o t):=fun _ U aa f hw af=>sJ hw af fun own own' _=>by
  rcases tn (tb:=tb) (ids:=ids) U aa t own own' with h|⟨s,v,h,kE⟩
  ·exact .inl h
  ·exact .inr ⟨s,v,h,kE⟩
 have Zn:b8 tb data ids n o t=⟨Nat.beq (eP tb o.op) 0&& !n7 o.op,false,[],[],false,kl tb o.op t,false⟩->o6 tb o.op=false->n9 bd n (b8 tb data ids n o t) (ck tb ids o t):=fun e aC=>by
  rw[e]at fh⊢
  simp only[asD,atq]at fh
  exact QK aC (ast fh.1) fh.2 _ rfl rfl
 cases bD:o.op with
 |load ty p=>
  have e:b8 tb data ids n o t=⟨true,false,(aS t p).ids,[],false,kl tb o.op t,false⟩:=by unfold b8;rw[bD]
  rw[e]
  refine sJ rfl rfl fun own own' ao=> ?_
  rw[il (by rw[bD];rfl),il (by rw[bD];rfl)]
  unfold ei
  rw[bD]
  exact TL _ _ ao
 |store ty p v=>
  have e:b8 tb data ids n o t=⟨true,false,(aS t p).ids,(aS t p).ids,false,false,false⟩:=by unfold b8;rw[bD]
  rw[e]
  refine rn rfl fun own own' ao=> ?_
  rw[il (by rw[bD];rfl),il (by rw[bD];rfl)]
  unfold ei
  rw[bD]
  exact Tn _ _ _ ao
 |indexAddr ty x i=>
  have e:b8 tb data ids n o t=⟨true,false,(aS t x).ids,[],false,false,false⟩:=by unfold b8;rw[bD]
  rw[e]
  refine sJ rfl rfl fun own own' ao=> ?_
  rw[il (by rw[bD];rfl),il (by rw[bD];rfl)]
  unfold ei
  rw[bD]
  exact S5 _ _ _ ao
 |lookup ty m k c=>
  have e:b8 tb data ids n o t=⟨true,false,(aS t m).ids,[],false,false,false⟩:=by unfold b8;rw[bD]
  rw[e]
  refine sJ rfl rfl fun own own' ao=> ?_
  rw[il (by rw[bD];rfl),il (by rw[bD];rfl)]
  unfold ei
  rw[bD]
  exact Ub _ _ _ _ _ ao
 |mapUpdate ty m k v=>
  have e:b8 tb data ids n o t=⟨true,false,(aS t m).ids,(aS t m).ids,false,false,false⟩:=by unfold b8;rw[bD]
  rw[e]
  refine rn rfl fun own own' ao=> ?_
  rw[il (by rw[bD];rfl),il (by rw[bD];rfl)]
  unfold ei
  rw[bD]
  exact S7 _ _ _ _ _ ao
 |slice ty x lo hi cX=>
  have e:b8 tb data ids n o t=(match(tb ty).cut with|true=>l5|false=>⟨true,false,(aS t x).ids,(aS t x).ids,false,false,false⟩):=by unfold b8;rw[bD];rfl
  rw[e]at fh⊢
  cases vv:(tb ty).cut with
  |true=>rw[vv]at fh;cases fh
  |false=>
  simp only
  have I2:∀own,ck tb ids o t own=rk (tb ty).ty (aS t x) (omap (aS t) lo) (omap (aS t) hi) (omap (aS t) cX) own:=fun own=>by
   rw[il (by rw[bD];rfl)]
   unfold ei
   rw[bD]
   show sV (tb ty) _ _ _ _ own=_
   unfold sV
   rw[vv]
  generalize aS t x=v at I2
  cases Ro:(tb ty).ty.Gk with
  |true=>
   have ig:∀own,ck tb ids o t own=oU (tb ty).ty v (omap (aS t) lo) (omap (aS t) hi) (omap (aS t) cX) own:=fun own=>by rw[I2];unfold rk;rw[Ro]
   by_cases aM:∃id i j,v= .optr id i j
   ·obtain⟨id,i,j,rfl⟩:=aM
    refine rn rfl fun own own' ao=> ?_
    rw[ig,ig]
    exact Tp _ _ _ _ _ _ _ ao
   ·refine rn rfl fun own own' _=> ?_
    rw[ig,ig,Ls _ _ _ _ _ fun id i j e=>aM ⟨id,i,j,e⟩,Ls _ _ _ _ _ fun id i j e=>aM ⟨id,i,j,e⟩]
    exact .inl ⟨rfl,rfl⟩
  |false=>
  have ig:∀own,ck tb ids o t own=kf (tb ty).ty v (omap (aS t) lo) (omap (aS t) hi) (omap (aS t) cX) own:=fun own=>by rw[I2];unfold rk;rw[Ro]
  by_cases aM:∃id,v= .vec id
  ·obtain⟨id,rfl⟩:=aM
   refine rn rfl fun own own' ao=> ?_
   rw[ig,ig]
   exact VX _ _ _ _ _ ao
  ·have aM:∀id,v≠ .vec id:=fun id e=>aM ⟨id,e⟩
   by_cases hw:v.ids=[]
   ·rw[hw]
    refine sJ rfl rfl fun own own' _=> ?_
    rw[ig,ig]
    exact UY _ _ _ _ _ aM _ _
   ·have ae:∀own,kf (tb ty).ty v (omap (aS t) lo) (omap (aS t) hi) (omap (aS t) cX) own= .bad:=fun own=>by
     have:∀a,v≠ .d a:=fun a e=>hw (by rw[e];rfl)
     have aa:v≠ .emp:=fun e=>hw (by rw[e];rfl)
     unfold kf
     split
     ·split
      ·cases v<;>first|rfl|exact absurd rfl (aM _)|exact absurd rfl (this _)|exact absurd rfl aa
      ·rfl
     ·split<;>first|rfl|exact absurd rfl (this _)
     ·rfl
    refine rn rfl fun own own' _=> ?_
    rw[ig,ig,ae,ae]
    exact .inl ⟨rfl,rfl⟩
 |convert abB abC x=>
  have e:b8 tb data ids n o t=⟨true,false,(aS t x).ids,[],false,false,false⟩:=by unfold b8;rw[bD]
  rw[e]
  refine sJ rfl rfl fun own own' ao=> ?_
  rw[il (by rw[bD];rfl),il (by rw[bD];rfl)]
  unfold ei
  rw[bD]
  exact VY _ _ _ ao
 |alloc ty=>
  have e:b8 tb data ids n o t=(match o.dst with|some d=>(match eN d ids with|some id=>⟨true,false,[id],[id],false,false,false⟩|none=>l5)|none=>l5):=by unfold b8;rw[bD];rfl
  cases aP:o.dst with
  |none=>rw[e,aP]at fh;cases fh
  |some d=>
   cases aq:eN d ids with
   |none=>rw[e,aP]at fh;simp only[aq]at fh;cases fh
   |some id=>
    rw[e,aP]
    simp only[aq]
    refine rn rfl fun own own' ao=> ?_
    have az:∀own,ck tb ids o t own=(match(tb ty).ty.jj,(tb ty).ty,frozenAt own id with|false, .no,_=> .bad|false,_,true=> .bad|false,ty,false=> .aR [] (.ptr id 0) (cH own id (false, .cells ty.zero))|true,_,_=> .bad):=fun own=>by
     unfold ck
     rw[bD,aP]
     simp only[aq]
     rfl
    have bc:=(ao.at_ (x:=id) (by simp)).2
    rw[az,az,bc]
    cases (tb ty).ty.jj with
    |true=>exact .inl ⟨rfl,rfl⟩
    |false=>
    cases cS:frozenAt own' id with
    |true=>cases (tb ty).ty<;>exact .inl ⟨rfl,rfl⟩
    |false=>
     have c3:=lq cS
     have cP:=lq (bc.trans cS)
     cases (tb ty).ty with
     |no=>exact .inl ⟨rfl,rfl⟩
     |_=>exact .inr ⟨_,_,_,_,rfl,rfl,rfl,cP,c3⟩
 |buildSlice ty q parts=>
  have e:b8 tb data ids n o t=(match(tb ty).lit with|true=>⟨true,false,[],[],false,kl tb o.op t,false⟩|false=>(match o.dst with|some d=>(match eN d ids with|some id=>⟨true,false,[id],[id],false,false,false⟩|none=>l5)|none=>l5)):=by unfold b8;rw[bD];rfl
  cases lF:(tb ty).lit with
  |true=>
   rw[e,lF]
   exact QK (by rw[bD];simp[o6,lF]) (by rw[bD];simp[eP,lF]) (by rw[bD];rfl) _ rfl rfl
  |false=>
   cases aP:o.dst with
   |none=>rw[e,lF,aP]at fh;cases fh
   |some d=>
    cases aq:eN d ids with
    |none=>rw[e,lF,aP]at fh;simp only[aq]at fh;cases fh
    |some id=>
     rw[e,lF,aP]
     simp only[aq]
     refine rn rfl fun own own' ao=> ?_
     have az:∀own,ck tb ids o t own=(match rK (tb ty) q (lmap (fun p=>(p.1,aS t p.2)) parts.toList) own,frozenAt own id with|some ob,false=> .aR [] (.vec id) (cH own id (false,ob))|_,_=> .bad):=fun own=>by
      unfold ck
      rw[bD,aP]
      simp only[aq,lF]
      rfl
     have bK:rK (tb ty) q (lmap (fun p=>(p.1,aS t p.2)) parts.toList) own=rK (tb ty) q (lmap (fun p=>(p.1,aS t p.2)) parts.toList) own':=by
      have aN:∀z,hB own z (tb ty).hC q (lmap (fun p=>(p.1,aS t p.2)) parts.toList)=hB own' z (tb ty).hC q (lmap (fun p=>(p.1,aS t p.2)) parts.toList):=fun z=>wL own own' z _ _ 0 q
      unfold rK
      simp only[aN]
     have bc:=(ao.at_ (x:=id) (by simp)).2
     rw[az,az,bK,bc]
     split
     ·rename_i cS
      exact .inr ⟨_,_,_,_,rfl,rfl,rfl,lq (bc.trans cS),lq cS⟩
     ·exact .inl ⟨rfl,rfl⟩
 |call c=>
  have e:b8 tb data ids n o t=(match c.callee with
   | .builtin .len=>⟨true,false,fY (lmap (aS t) c.args.toList),[],false,false,false⟩
   | .builtin .append=>⟨false,false,[],[],false,false,kh (lmap (aS t) c.args.toList)⟩
   | .value (.func f)=>(match data f with|1=>⟨true,true,fY (lmap (aS t) c.args.toList),fY (lmap (aS t) c.args.toList),false,false,false⟩|2=>⟨true,true,fY (lmap (aS t) c.args.toList),n::fY (lmap (aS t) c.args.toList),true,false,false⟩|_=>l5)
   |_=>l5):=by unfold b8;rw[bD];rfl
  have ig:∀own,ck tb ids o t own=(match c.callee with
   | .builtin b=>j_ tb b c.argTypes.toList (lmap (aS t) c.args.toList) own
   | .value (.func f)=> .call f (lmap (aS t) c.args.toList) c.argTypes.toList
   | .value (.tmp u)=>rv (bT .un t u) (lmap (aS t) c.args.toList) c.argTypes.toList
   |_=> .bad):=fun own=>by
   rw[il (by rw[bD];rfl)]
   unfold ei
   rw[bD]
   rfl
  cases ay:c.callee with
  |builtin b=>
   cases b with
   |len=>
    rw[e,ay]
    refine sJ rfl rfl fun own own' ao=> ?_
    rw[ig,ig,ay]
    simp only at ao⊢
    exact Xb _ _ ao
   |_=>rw[e,ay]at fh;cases fh
  |value x=>
   cases x with
   |func f=>
    have oG:∀own,ck tb ids o t own= .call f (lmap (aS t) c.args.toList) c.argTypes.toList:=fun own=>by rw[ig,ay]
    have U:∀own s v bZ id,ck tb ids o t own≠ .grow s v bZ id:=fun own s v bZ id=>by rw[oG];simp
    have aa:∀own p,ck tb ids o t own≠ .e0 p:=fun own p=>by rw[oG];simp
    generalize lmap (aS t) c.args.toList=args at oG e
    rw[ay]at e
    match v_:data f with
    |1=>
     simp only[v_]at e
     rw[e]
     rcases(hj f).1 v_ with⟨ps,gp,tY,hL⟩|⟨ps,gp,tY,hL⟩|⟨ps,gp,tY,hL⟩
     ·exact VU tY (args:=args) rfl rfl rfl rfl U aa fun own k=>by rw[oG];show bd f args own k=_;rw[hL]
     ·exact VW tY (args:=args) rfl rfl rfl rfl U aa fun own k=>by rw[oG];show bd f args own k=_;rw[hL]
     ·exact VV tY (args:=args) rfl rfl rfl rfl U aa fun own k=>by rw[oG];show bd f args own k=_;rw[hL]
    |2=>
     simp only[v_]at e
     rw[e]
     obtain⟨ps,gp,tY,hL⟩:=(hj f).2 v_
     exact UX tY (args:=args) rfl rfl rfl rfl U aa fun own k=>by rw[oG];show bd f args own k=_;rw[hL]
    |0=>simp only[v_]at e;rw[e]at fh;cases fh
    |n+3=>simp only[v_]at e;rw[e]at fh;cases fh
   |_=>rw[e,ay]at fh;cases fh
  |_=>rw[e,ay]at fh;cases fh
 |_=>
  refine Zn ?_ (by rw[bD];rfl)
  unfold b8
  rw[bD]
theorem uR {x:Nat}:∀{l:List Nat},pk x l=true↔x∈l
 |[]=>by simp[pk]
 |y::r=>by
  unfold pk
  by_cases h:x=y
  ·subst h;simp
  ·have:Nat.beq x y=false:=by
    cases ae:Nat.beq x y with
    |false=>rfl
    |true=>exact absurd (ast ae) h
   rw[this]
   simp[h,uR (l:=r)]
theorem xf {m:List Nat}:∀{l:List Nat},tA l m=true↔∀x∈l,x∉m
 |[]=>by simp[tA]
 |y::r=>by
  unfold tA
  cases h:pk y m with
  |true=>simp[uR.1 h]
  |false=>
   have:y∉m:=fun hm=>by rw[uR.2 hm]at h;cases h
   simp[this,xf (l:=r)]
theorem Xc (_:∀f args own K,bd f args own K->fw (bd f)){dJ gn:gl}{I3 I4:aB->bH}(aC:n9 bd n dJ I3)(hi:n9 bd n gn I4)(ay:(dJ.call&&gn.call)=false)
 (d1:∀x∈dJ.w,x∉gn.w) (d2:∀x∈dJ.w,x∉gn.r) (d3:∀x∈gn.w,x∉dJ.r) {own:aB} (ar:own.length=n) {k:J->J->aB->Prop}
 (h:e7 bd own (fun v own'=>e7 bd own' (fun cO fK=>k v cO fK) (I4 own')) (I3 own)):
 e7 bd own (fun cO own'=>e7 bd own' (fun v fK=>k v cO fK) (I3 own')) (I4 own):=by
 obtain⟨zC,nd,aC⟩:=aC
 obtain⟨Ei,nf,hi⟩:=hi
 have h0:gn.ext=true->∀x,(nd x own).length=n:=fun he x=>by
  have U:=hi.calls he
  have aa:dJ.ext=false:=by
   cases af:dJ.ext with
   |false=>rfl
   |true=>have:=aC.calls af;rw[U,this]at ay;cases ay
  rw[aC.len,aa];exact ar
 have li:dJ.ext=true->∀x,(nf x own).length=n:=fun he x=>by
  have U:=aC.calls he
  have aa:gn.ext=false:=by
   cases af:gn.ext with
   |false=>rfl
   |true=>have:=hi.calls af;rw[U,this]at ay;cases ay
  rw[hi.len,aa];exact ar
 have IG:∀x,gI gn.r (nd x own) own:=fun x y a6=>aC.out _ _ _ (fun _=>ar) fun hw=>d2 y hw a6
 have IH:∀x,gI dJ.r own (nf x own):=fun x y a6=>(hi.out _ _ _ (fun _=>ar) fun hw=>d3 y hw a6).symm
 have kE:zC own fun v x=>Ei own fun cO hP=>k v cO (nf hP (nd x own)):=by
  refine aC.mono _ _ _ (fun v x aM=> ?_) ((aC.pull _ _).1 h)
  exact(hi.same _ _ (IG x) (fun he=>⟨h0 he x,ar⟩) _).1 ((hi.pull _ _).1 aM)
 have Ej:∃k,zC own k:=⟨_,kE⟩
 have SJ:∃k,Ei own k:=by
  obtain⟨v,x,aM⟩:=aC.some _ _ kE
  exact⟨_,aM⟩
 have aaH:∀x,∃k,zC (nf x own) k:=fun x=>⟨_,(aC.same _ _ (IH x) (fun he=>⟨ar,li he x⟩) _).1 kE⟩
 have aaI:∀x,∃k,Ei (nd x own) k:=fun x=>by
  obtain⟨k,ab⟩:=SJ
  exact⟨k,(hi.same _ _ (IG x) (fun he=>⟨h0 he x,ar⟩) _).2 ab⟩
 have heq:∀x hP,nf hP (nd x own)=nd x (nf hP own):=fun x hP=>by
  have aq:(nf hP (nd x own)).length=(nd x (nf hP own)).length:=by rw[hi.len,aC.len,aC.len,hi.len];omega
  have af:∀y,bT gone (nf hP (nd x own)) y=bT gone (nd x (nf hP own)) y:=fun y=>by
   by_cases U:y∈dJ.w
   ·rw[hi.out _ _ _ (fun he=>h0 he x) (d1 y U)]
    exact aC.R3 _ _ (IH hP) (fun he=>⟨ar,li he hP⟩) Ej (aaH hP) x y U
   ·rw[aC.out _ _ _ (fun he=>li he hP) U]
    by_cases aa:y∈gn.w
    ·exact(hi.R3 _ _ (fun z bc=>(IG x z bc).symm) (fun he=>⟨ar,h0 he x⟩) SJ (aaI x) hP y aa).symm
    ·rw[hi.out _ _ _ (fun he=>h0 he x) aa,aC.out _ _ _ (fun _=>ar) U,hi.out _ _ _ (fun _=>ar) aa]
  apply List.ext_getElem?
  intro y
  have:=af y
  rw[dp,dp,ass,ass]at this
  by_cases bB:y<(nf hP (nd x own)).length
  ·rw[asI bB,asI (by rw[<-aq];exact bB)]at this⊢
   simpa using this
  ·rw[as5 (by omega),as5 (by omega)]
 have goal:Ei own fun cO hP=>zC own fun v x=>k v cO (nf hP (nd x own)):=by
  cases pI:dJ.call with
  |false=>
   obtain⟨S,v,x,k4⟩:=aC.aR pI own
   have aa:=(k4 _).1 kE
   exact hi.mono _ _ _ (fun cO hP aM=>(k4 _).2 ⟨aa.1,aM⟩) aa.2
  |true=>
   have nL:gn.call=false:=by rw[pI]at ay;simpa using ay
   obtain⟨S,cO,hP,k4⟩:=hi.aR nL own
   refine(k4 _).2 ?_
   have aa:zC own fun v x=>S/\k v cO (nf hP (nd x own)):=aC.mono _ _ _ (fun v x aM=>(k4 _).1 aM) kE
   obtain⟨v,x,aM⟩:=aC.some _ _ aa
   exact⟨aM.1,aC.mono _ _ _ (fun v x aM=>aM.2) aa⟩
 refine(hi.pull _ _).2 (hi.mono _ _ _ (fun cO hP aM=> ?_) goal)
 refine(aC.pull _ _).2 ((aC.same _ _ (IH hP) (fun he=>⟨ar,li he hP⟩) _).1 (aC.mono _ _ _ (fun v x aM=> ?_) aM))
 rw[<-heq];exact aM
end
end Go.bG
end
section
namespace Go.bG
section
variable {tb:TypeId->bQ} {bd:FuncId->e3} {data:FuncId->Nat} {ids:List (Tmp×Nat)} {n:Nat}
def nB (cO v:J):Prop:=cO=v\/((cO= .bt\/cO= .bf)/\∃b,v= .d (.bool b))
theorem nB.Yq {cO v:J}(h:nB cO v):cO.ids=v.ids:=by
 rcases h with rfl|⟨rfl|rfl,b,rfl⟩<;>rfl
theorem nB.ptr {cO v:J}(h:nB cO v):qc cO=qc v:=by
 rcases h with rfl|⟨rfl|rfl,b,rfl⟩<;>rfl
theorem nB.int {cO v:J}(h:nB cO v):qd cO=qd v:=by
 rcases h with rfl|⟨rfl|rfl,b,rfl⟩<;>rfl
theorem VZ {f g:Operand->J}:∀l:List Operand,(∀x∈l,nB (f x) (g x))->kh (lmap f l)=kh (lmap g l)
 |[],_=>rfl
 |[x],_=>by
  show kh [f x]=kh [g x]
  have:∀v:J,kh [v]=false:=fun v=>by cases v<;>rfl
  rw[this,this]
 |[x,y],h=>by
  show kh [f x,f y]=kh [g x,g y]
  have no:∀v b,kh [v, .d (.bool b)]=false:=fun v b=>by cases v<;>rfl
  have ec:∀v,kh [v, .bt]=false:=fun v=>by cases v<;>rfl
  have gC:∀v,kh [v, .bf]=false:=fun v=>by cases v<;>rfl
  rcases h y (by simp)with e|⟨e,b,cd⟩
  ·rw[e]
   rcases h x (by simp)with e|⟨e|e,b,cd⟩
   ·rw[e]
   ·rw[e,cd];rfl
   ·rw[e,cd];rfl
  ·rw[cd,no]
   rcases e with e|e<;>rw[e]
   ·exact ec _
   ·exact gC _
 |x::y::z::r,_=>by
  show kh (f x::f y::f z::lmap f r)=kh (g x::g y::g z::lmap g r)
  have:∀(a b c:J) (l:List J),kh (a::b::c::l)=false:=fun a b c l=>by unfold kh;split<;>first|rfl|(rename_i h;simp at h)
  rw[this,this]
theorem UZ {o:Op}{t t':List J}(h:∀x∈o.operands.toList,nB (aS t' x) (aS t x)):kl tb o t'=kl tb o t:=by
 cases o with
 |load ty p=>exact(h p (by simp[Op.operands])).ptr
 |fieldAddr ty x f=>exact(h x (by simp[Op.operands])).ptr
 |buildSlice ty q parts=>
  unfold kl
  simp only
  have key:∀l:List (Nat×Operand),(∀p∈l,qd (aS t' p.2)=qd (aS t p.2))->dq (fun p:Nat×Operand=>qd (aS t' p.2)) l=dq (fun p:Nat×Operand=>qd (aS t p.2)) l:=by
   intro l
   induction l with
   |nil=>exact fun _=>rfl
   |cons x r bA=>
    intro af
    rw[eW,eW,at2,at2,<-eW,<-eW,af x (by simp),bA fun y a6=>af y (by simp[a6])]
  have this:=key parts.toList fun p aw=>(h p.2 (by simp[Op.operands];exact⟨p.1,by simpa using aw⟩)).int
  rw[this]
 |_=>rfl
theorem MB {o:Oper}{t t':List J}(ab:∀x∈o.op.operands.toList,nB (aS t' x) (aS t x)):b8 tb data ids n o t'=b8 tb data ids n o t:=by
 have h:=fun x af=>(ab x af).Yq
 have ao:=UZ (tb:=tb) ab
 have aq:∀l:List Operand,(∀x∈l,(aS t' x).ids=(aS t x).ids)->fY (lmap (aS t') l)=fY (lmap (aS t) l):=by
  intro l
  induction l with
  |nil=>exact fun _=>rfl
  |cons x r bA=>
   intro af
   show fY (aS t' x::lmap (aS t') r)=fY (aS t x::lmap (aS t) r)
   rw[sI,sI,af x (by simp),bA fun y a6=>af y (by simp[a6])]
 unfold b8
 cases bD:o.op with
 |load ty p=>simp only[bD]at h ao⊢;rw[h p (by simp[Op.operands]),ao]
 |store ty p v=>simp only[bD]at h⊢;rw[h p (by simp[Op.operands])]
 |indexAddr ty x i=>simp only[bD]at h⊢;rw[h x (by simp[Op.operands])]
 |slice ty x lo hi cX=>simp only[bD]at h⊢;rw[h x (by simp[Op.operands])]
 |convert abB abC x=>simp only[bD]at h⊢;rw[h x (by simp[Op.operands])]
 |lookup ty m k c=>simp only[bD]at h⊢;rw[h m (by simp[Op.operands])]
 |mapUpdate ty m k v=>simp only[bD]at h⊢;rw[h m (by simp[Op.operands])]
 |call c=>
  simp only[bD]at h ab⊢
  have hm:∀x∈c.args.toList,x∈(Op.call c).operands.toList:=fun x af=>by simp[Op.operands,Call.operands];exact .inr (by simpa using af)
  rw[aq c.args.toList fun x af=>h x (hm x af),VZ c.args.toList fun x af=>ab x (hm x af)]
 |alloc ty=>rfl
 |_=>simp only[bD]at ao⊢;rw[ao]
theorem sR {o:Oper}{t:List J}(h:(b8 tb data ids n o t).ok=true){n':Nat}(t':List J):(b8 tb data ids n' o t').ok=true:=by
 have key:(b8 tb data ids n' o t').ok=(b8 tb data ids n o t).ok:=by
  unfold b8
  cases o.op with
  |call c=>
   simp only
   split<;>first|rfl|(split<;>rfl)
  |buildSlice ty q parts=>
   simp only
   cases (tb ty).lit<;>rfl
  |slice ty x lo hi cX=>
   simp only
   cases (tb ty).cut<;>rfl
  |_=>rfl
 rw[key];exact h
theorem PN {tm:List J}{g:Nat}{b:Bool}(aT:bT .un tm g= .d (.bool b)){y:J}(a6:y= .bt\/y= .bf)(x:Operand):nB (aS (cH tm g y) x) (aS tm x):=by
 cases x with
 |tmp t=>
  show nB (bT .un (cH tm g y) t) (bT .un tm t)
  by_cases e:g=t
  ·subst e
   rw[Ep (OV (by rw[aT];intro h;cases h)),aT]
   exact .inr ⟨a6,b,rfl⟩
  ·rw[Lq e];exact .inl rfl
 |_=>exact .inl rfl
theorem XU {all:List Oper}{o:Oper}{tm t:List J}{m:Bool}(h:res all o tm=some (m,t))(x:Operand):nB (aS t x) (aS tm x):=by
 unfold res at h
 cases aT:o.guard with
 |none=>rw[aT]at h;simp only[asM,asO]at h;rw[h.2];exact .inl rfl
 |some p=>
  obtain⟨j,want⟩:=p
  rw[aT]at h
  simp only at h
  cases a6:la all j with
  |none=>rw[a6]at h;simp only[asM,asO]at h;rw[h.2];exact .inl rfl
  |some g=>
   rw[a6]at h
   simp only at h
   split at h
   ·simp only[asM,asO]at h;rw[h.2];exact .inl rfl
   ·simp only[asM,asO]at h;rw[h.2];exact .inl rfl
   ·simp only[asM,asO]at h;rw[h.2];exact .inl rfl
   ·rename_i aq;simp only[asM,asO]at h;rw[<-h.2];exact PN aq (.inl rfl) x
   ·rename_i aq;simp only[asM,asO]at h;rw[<-h.2];exact PN aq (.inr rfl) x
   ·cases h
theorem Bk {all:List Oper}{o:Oper}{tm t:List J}{m:Bool}(h:res all o tm=some (m,t))(q:Oper):b8 tb data ids n q t=b8 tb data ids n q tm:=MB fun x _=>XU h x
theorem FU {o:Oper}{tm:List J}{d:Option Tmp}{v:J}(h:lb o d=false):b8 tb data ids n o (put tm d v)=b8 tb data ids n o tm:=MB fun _ af=> .inl (w4 h af)
theorem QL {all:List Oper}{a i:Oper}(ox:lX all a i=true)(qU:lX all i a=true)(ct:fl a.dst i.dst=false)(lQ:lb i a.dst=false)(sc:lb a i.dst=false)
 (dz:∀f args own K,bd f args own K->fw (bd f))
 (h0:(∀tm own s v bZ id,ck tb ids a tm own≠ .grow s v bZ id)/\∀tm own p,ck tb ids a tm own≠ .e0 p)
 (li:(∀tm own s v bZ id,ck tb ids i tm own≠ .grow s v bZ id)/\∀tm own p,ck tb ids i tm own≠ .e0 p)
 {tm:List J} {own:aB} {K:List J->aB->Prop}
 (core:∀t,(∀q,b8 tb data ids n q t=b8 tb data ids n q tm)->∀(k:J->J->aB->Prop),e7 bd own (fun v own'=>e7 bd own' (fun cO fK=>k v cO fK) (ck tb ids i t own')) (ck tb ids a t own)->
   e7 bd own (fun cO own'=>e7 bd own' (fun v fK=>k v cO fK) (ck tb ids a t own')) (ck tb ids i t own))
 (h:c6 tb bd ids all [a,i] tm own K):c6 tb bd ids all [i,a] tm own K:=by
 have ci:∀(t:List J) (v:J) (o:aB),ck tb ids i (put t a.dst v) o=ck tb ids i t o:=fun t v o=>zY fun x af=>w4 lQ af
 have I5:∀(t:List J) (v:J) (o:aB),ck tb ids a (put t i.dst v) o=ck tb ids a t o:=fun t v o=>zY fun x af=>w4 sc af
 rw[wR h0.1 h0.2]at h
 cases vY:res all a tm with
 |none=>rw[vY]at h;exact h.elim
 |some p=>
  obtain⟨pP,jn⟩:=p
  rw[vY]at h
  simp only at h
  have an:∀v own',c6 tb bd ids all [i] (put jn a.dst v) own' K↔_:=fun v own'=>wR (tm:=put jn a.dst v) (own:=own') (rest:=[]) (all:=all) (K:=K) li.1 li.2
  have az:∀v,res all i (put jn a.dst v)=(res all i jn).map fun p=>(p.1,put p.2 a.dst v):=fun v=>BS (KW qU)
  have h:rO pP bd own (fun v own'=>match(res all i jn).map fun p=>(p.1,put p.2 a.dst v)with
   |none=>False
   |some (m,dL)=>rO m bd own' (fun v own'=>c6 tb bd ids all [] (put dL i.dst v) own' K) (ck tb ids i dL own')) (ck tb ids a jn own):=by
   have:(fun v own'=>c6 tb bd ids all [i] (put jn a.dst v) own' K)=(fun v own'=>match(res all i jn).map fun p=>(p.1,put p.2 a.dst v)with
    |none=>False
    |some (m,dL)=>rO m bd own' (fun v own'=>c6 tb bd ids all [] (put dL i.dst v) own' K) (ck tb ids i dL own')):=by
    funext v own'
    rw[<-az v]
    exact propext (an v own')
   rw[<-this];exact h
  have aaJ:∀(m:Bool) (r:bH),¬rO m bd own (fun _ _=>False) r:=by
   intro m r af
   cases m with
   |false=>exact af
   |true=>
    cases r with
    |aR s v o=>exact((gr _ _).1 af).2
    |call f args tys=>
     obtain⟨_,_,ak⟩:=(dz _ _ _ _ af).2 _ _ _ af
     exact ak
    |_=>exact af
  cases tU:res all i jn with
  |none=>
   rw[tU]at h
   exact(aaJ _ _ h).elim
  |some q=>
   obtain⟨um,k2⟩:=q
   rw[tU]at h
   simp only[ats]at h
   obtain⟨uo,aU,a_,bF,di⟩:=Xa (tb:=tb) ox qU vY tU
   rw[wR li.1 li.2,aU]
   simp only
   have bK:∀v own',c6 tb bd ids all [a] (put uo i.dst v) own' K↔rO pP bd own' (fun cO own'=>c6 tb bd ids all [] (put (put k2 i.dst v) a.dst cO) own' K) (ck tb ids a (put k2 i.dst v) own'):=fun v own'=>by
    rw[wR h0.1 h0.2,BS (KW ox),a_]
    rfl
   have cm:(fun v own'=>c6 tb bd ids all [a] (put uo i.dst v) own' K)=fun v own'=>rO pP bd own' (fun cO own'=>c6 tb bd ids all [] (put (put k2 a.dst cO) i.dst v) own' K) (ck tb ids a k2 own'):=by
    funext v own'
    refine(propext (bK v own')).trans ?_
    rw[I5]
    congr 1
    funext cO fK
    rw[put_comm ct]
   rw[cm,<-di]
   rw[<-bF]at h
   simp only[ci]at h
   cases pP with
   |false=>exact h
   |true=>
    cases um with
    |false=>exact h
    |true=>
     have aQ:∀q,b8 tb data ids n q k2=b8 tb data ids n q tm:=fun q=>(Bk tU q).trans (Bk vY q)
     exact core k2 aQ (fun v cO fK=>c6 tb bd ids all [] (put (put k2 a.dst v) i.dst cO) fK K) h
theorem xg {all:List Oper}{a i:Oper}{dJ gn:gl}(h:mN tb all a dJ i gn=true):lX all a i=true/\lX all i a=true/\fl a.dst i.dst=false/\lb i a.dst=false/\lb a i.dst=false/\(o7 tb a i=true\/rW dJ gn=true):=by
 simp only[mN,sW,asD,atO,atq]at h
 obtain⟨⟨⟨U,aa⟩,⟨al,aL⟩,bo⟩,bX⟩:=h
 exact⟨U,aa,al,aL,bo,bX⟩
theorem YT {all:List Oper}{a i:Oper}(hj:qh data bd)(dz:∀f args own K,bd f args own K->fw (bd f)){tm:List J}{own:aB}(ar:own.length=n){K:List J->aB->Prop}
 (hi:mN tb all a (b8 tb data ids n a tm) i (b8 tb data ids n i tm)=true)
 (h:c6 tb bd ids all [a,i] tm own K):c6 tb bd ids all [i,a] tm own K:=by
 obtain⟨ox,qU,ct,lQ,sc,ay⟩:=xg hi
 rcases ay with aE|aE
 ·have zh:=aE
  simp only[o7,asD,atq]at zh
  obtain⟨⟨⟨⟨⟨aQ,pH⟩,v8⟩,_⟩,_⟩,_⟩:=zh
  have CC:(eP tb a.op<=1\/eP tb a.op=2)/\(eP tb i.op<=1\/eP tb i.op=2):=by
   unfold pc at aQ
   split at aQ
   ·rename_i U aa;exact⟨.inl (asV U), .inl (asV aa)⟩
   ·simp only[asD]at aQ;exact⟨.inl (by rw[ast aQ.1];decide), .inr (ast aQ.2)⟩
   ·simp only[asD]at aQ;exact⟨.inr (ast aQ.1), .inl (by rw[ast aQ.2];decide)⟩
   ·cases aQ
  have low:∀{o:Oper},(eP tb o.op<=1\/eP tb o.op=2)->n7 o.op=false->(∀tm own s v bZ id,ck tb ids o tm own≠ .grow s v bZ id)/\∀tm own p,ck tb ids o tm own≠ .e0 p:=by
   intro o U aa
   refine⟨fun tm own s v bZ id=> ?_,fun tm own p=> ?_⟩
   ·rcases U with U|U
    ·rcases vl (tb:=tb) (ids:=ids) U aa tm own with h|⟨s,v,h⟩<;>rw[h]<;>simp
    ·rcases tp (tb:=tb) (ids:=ids) U tm own with h|⟨s,v,bZ,h⟩|⟨f,args,tys,h⟩<;>rw[h]<;>simp
   ·rcases U with U|U
    ·rcases vl (tb:=tb) (ids:=ids) U aa tm own with h|⟨s,v,h⟩<;>rw[h]<;>simp
    ·rcases tp (tb:=tb) (ids:=ids) U tm own with h|⟨s,v,bZ,h⟩|⟨f,args,tys,h⟩<;>rw[h]<;>simp
  exact QL (data:=data) (n:=n) ox qU ct lQ sc dz (low CC.1 pH) (low CC.2 v8) (fun t _ k ab=>XS aE dz ab) h
 ·have zh:=aE
  simp only[rW,asD,atq]at zh
  obtain⟨⟨⟨⟨⟨uq,uj⟩,D2⟩,d1⟩,d2⟩,d3⟩:=zh
  have low:∀{o:Oper},(b8 tb data ids n o tm).ok=true->(∀tm own s v bZ id,ck tb ids o tm own≠ .grow s v bZ id)/\∀tm own p,ck tb ids o tm own≠ .e0 p:=fun aH=>
   ⟨fun t own s v bZ id=>(s0 (n:=n) hj _ t (sR aH t)).elim fun _ ⟨_,h⟩=>h.none own s v bZ id,fun t own p=>(s0 (n:=n) hj _ t (sR aH t)).elim fun _ ⟨_,h⟩=>h.R2 own p⟩
  refine QL (data:=data) (n:=n) ox qU ct lQ sc dz (low uq) (low uj) (fun t aA k ab=> ?_) h
  have dJ:=s0 (tb:=tb) (ids:=ids) (n:=n) hj a t (sR uq t)
  have gn:=s0 (tb:=tb) (ids:=ids) (n:=n) hj i t (sR uj t)
  rw[aA]at dJ gn
  exact Xc dz dJ gn D2 (xf.1 d1) (xf.1 d2) (xf.1 d3) ar ab
end
end Go.bG
end
section
namespace Go.bG
theorem Fi {f:J->J}(aQ:f .un= .un)(l:List J)(n:Nat):bT .un (lmap f l) n=f (bT .un l n):=by
 rw[c5,dp,dp,ass,ass,atl]
 cases l[n]? with
 |none=>exact aQ.symm
 |some x=>rfl
theorem V0 {id:Nat}{x:J}{j off:Nat}(h:da id x= .ptr j off):x= .ptr j off/\j≠id:=by
 cases x with
 |ptr i o=>
  simp only[da,eh]at h
  split at h
  ·cases h
  ·rename_i ae
   injection h with U aa
   subst U aa
   refine⟨rfl,fun e=> ?_⟩
   subst e
   simp at ae
 |vec i=>simp only[da,eh]at h;split at h<;>cases h
 |optr i a b=>simp only[da,eh]at h;split at h<;>cases h
 |oat i a b=>simp only[da,eh]at h;split at h<;>cases h
 |mp i=>simp only[da,eh]at h;split at h<;>cases h
 |tail i x=>simp only[da,eh]at h;split at h<;>cases h
 |_=>simp[da,eh]at h
theorem TN {id j off:Nat}(h:j≠id):da id (.ptr j off)= .ptr j off:=by
 simp only[da,eh]
 split
 ·rename_i ae;exact absurd (ast ae) h
 ·rfl
theorem V1 (id:Nat)(v:J):oa (eh id v)=da id (oa v):=by
 cases v with
 |ptr i o=>simp only[oa,da,eh];cases Nat.beq i id<;>rfl
 |vec i=>simp only[oa,da,eh];cases Nat.beq i id<;>rfl
 |optr i a b=>simp only[oa,da,eh];cases Nat.beq i id<;>rfl
 |oat i a b=>simp only[oa,da,eh];cases Nat.beq i id<;>rfl
 |mp i=>simp only[oa,da,eh];cases Nat.beq i id<;>rfl
 |tail i x=>simp only[oa,da,eh];cases Nat.beq i id<;>rfl
 |_=>rfl
theorem V2 (c:Value)(j off:Nat):sy c≠ .ptr j off:=by
 intro h
 unfold sy at h
 split at h
 ·cases h
 ·unfold oB at h
  split at h<;>cases h
section
variable {tb:TypeId->bQ} {bd:FuncId->e3} {data:FuncId->Nat} {ids:List (Tmp×Nat)} {n:Nat}
theorem EE {tm:List J}{j9:Option Tmp}{v:J}{id:Nat}{x:Operand}(af:∀t,j9=some t->x≠ .tmp t){j off:Nat}(h:aS (put (lmap (da id) tm) j9 v) x= .ptr j off):aS tm x= .ptr j off/\j≠id:=by
 rw[GH af]at h
 cases x with
 |tmp t=>
  have h:bT .un (lmap (da id) tm) t= .ptr j off:=h
  rw[Fi rfl]at h
  exact V0 h
 |const c=>exact absurd h (V2 c j off)
 |global g=>cases h
 |func f=>cases h
theorem Uc {id:Nat}{x:J}(h:qd (da id x)=true):da id x=x:=by
 cases x with
 |ptr i o=>simp only[da,eh]at h⊢;cases ae:Nat.beq i id<;>rw[ae]at h<;>first|rfl|cases h
 |vec i=>simp only[da,eh]at h⊢;cases ae:Nat.beq i id<;>rw[ae]at h<;>first|rfl|cases h
 |optr i a b=>simp only[da,eh]at h⊢;cases ae:Nat.beq i id<;>rw[ae]at h<;>first|rfl|cases h
 |oat i a b=>simp only[da,eh]at h⊢;cases ae:Nat.beq i id<;>rw[ae]at h<;>first|rfl|cases h
 |mp i=>simp only[da,eh]at h⊢;cases ae:Nat.beq i id<;>rw[ae]at h<;>first|rfl|cases h
 |tail i x=>simp only[da,eh]at h⊢;cases ae:Nat.beq i id<;>rw[ae]at h<;>first|rfl|cases h
 |d a=>rfl
 |_=>cases h
theorem Ud {tm:List J}{j9:Option Tmp}{v:J}{id:Nat}{x:Operand}(af:∀t,j9=some t->x≠ .tmp t)(h:qd (aS (put (lmap (da id) tm) j9 v) x)=true):aS (put (lmap (da id) tm) j9 v) x=aS tm x:=by
 rw[GH af]at h⊢
 cases x with
 |tmp t=>
  have e:aS (lmap (da id) tm) (.tmp t)=da id (aS tm (.tmp t)):=Fi rfl _ _
  rw[e]at h⊢
  exact Uc h
 |_=>rfl
theorem V3 {i:Oper}{tm:List J}{own:aB}{j9:Option Tmp}{v:J}{id:Nat}{ob:ad}(ak:lb i j9=false)(_:∀l,ad.at own id≠ .cells l)
 (ao:kl tb i.op (put (lmap (da id) tm) j9 v)=true):
 kl tb i.op tm=true/\(ck tb ids i (put (lmap (da id) tm) j9 v) (fN id (cH own id (false,ob)))= .bad\/
  ∃s w,ck tb ids i (put (lmap (da id) tm) j9 v) (fN id (cH own id (false,ob)))= .aR s (da id w) (fN id (cH own id (false,ob)))/\ck tb ids i tm own= .aR s w own):=by
 have af:∀x∈i.op.operands.toList,∀t,j9=some t->x≠ .tmp t:=fun x af t aA zg=>by
  subst aA zg
  simp only[lb]at ak
  rw[EC.2 af]at ak
  cases ak
 cases bD:i.op with
 |load ty p=>
  rw[bD]at ao af
  have aw:=af p (by simp[Op.operands])
  have an:∀(t:List J) (o:aB),ck tb ids i t o=hR (tb ty).ty (aS t p) o:=fun t o=>by
   rw[il (by rw[bD];rfl)];unfold ei;rw[bD]
  have ao:qc (aS (put (lmap (da id) tm) j9 v) p)=true:=ao
  rw[an,an]
  cases aM:aS (put (lmap (da id) tm) j9 v) p with
  |ptr j off=>
   obtain⟨U,aa⟩:=EE aw aM
   refine⟨by show qc (aS tm p)=true;rw[U];rfl, ?_⟩
   rw[U]
   have cg:ad.at (fN id (cH own id (false,ob))) j=(ad.at own j).kill id:=by rw[Gm,ep,gx,asp (by rintro⟨h,_⟩;exact aa h.symm)]
   unfold hR
   simp only
   rw[cg]
   cases aK:ad.at own j with
   |cells l=>
    simp only[ad.kill]
    have aq:bN (lmap (eh id) l)=bN l:=by rw[cf,cf,c5,asy]
    rw[aq]
    cases bV:(tb ty).ty with
    |bS q=>
     cases Nat.ble (off.add (aO.size (.bS q))) (bN l)with
     |false=>exact .inl rfl
     |true=>
      refine .inr ⟨_,oa (bT .un l off), ?_,rfl⟩
      simp only
      rw[<-V1,Fi rfl]
    |struct bM cs=>
     cases Nat.ble (off.add (aO.size (.struct bM cs))) (bN l)with
     |false=>exact .inl rfl
     |true=>
      refine .inr ⟨_, .agg (kp (ko l off) (bN cs)), ?_,rfl⟩
      simp only[da,c5,kI,kH,List.map_take,List.map_drop]
    |arr m e cs=>
     cases Nat.ble (off.add (aO.size (.arr m e cs))) (bN l)with
     |false=>exact .inl rfl
     |true=>
      refine .inr ⟨_, .agg (kp (ko l off) (bN cs)), ?_,rfl⟩
      simp only[da,c5,kI,kH,List.map_take,List.map_drop]
    |no=>exact .inl rfl
   |_=>exact .inl rfl
  |_=>rw[aM]at ao;cases ao
 |fieldAddr ty x f=>
  rw[bD]at ao af
  have aw:=af x (by simp[Op.operands])
  have an:∀(t:List J) (o:aB),ck tb ids i t o=(match rr (tb ty).ty f with
   |false=> .bad
   |true=>match aS t x with
    | .ptr id off=> .aR [] (.ptr id (Nat.add off (eV (tb ty).ty f))) o
    | .optr id i j=> .aR [] (.optr id i (Nat.add j (eV (tb ty).ty f))) o
    | .rptr a i j=> .aR [] (.rptr a i (Nat.add j (eV (tb ty).ty f))) o
    |_=> .bad):=fun t o=>by
   rw[il (by rw[bD];rfl)];unfold ei;rw[bD];rfl
  have ao:qc (aS (put (lmap (da id) tm) j9 v) x)=true:=ao
  rw[an,an]
  cases aM:aS (put (lmap (da id) tm) j9 v) x with
  |ptr j off=>
   obtain⟨U,aa⟩:=EE aw aM
   refine⟨by show qc (aS tm x)=true;rw[U];rfl, ?_⟩
   rw[U]
   cases rr (tb ty).ty f with
   |false=>exact .inl rfl
   |true=>exact .inr ⟨_, .ptr j (off.add (eV (tb ty).ty f)),by rw[TN aa],rfl⟩
  |_=>rw[aM]at ao;cases ao
 |buildSlice ty q parts=>
  rw[bD]at ao af
  unfold kl at ao
  simp only at ao
  cases lF:(tb ty).lit with
  |false=>rw[lF]at ao;cases ao
  |true=>
   rw[lF]at ao
   simp only at ao
   rw[eW,asH]at ao
   have bE:∀p∈parts.toList,aS (put (lmap (da id) tm) j9 v) p.2=aS tm p.2:=fun p aw=>Ud (af p.2 (by simp[Op.operands];exact⟨p.1,by simpa using aw⟩)) (ao p aw)
   have az:lmap (fun p:Nat×Operand=>(p.1,aS (put (lmap (da id) tm) j9 v) p.2)) parts.toList=lmap (fun p:Nat×Operand=>(p.1,aS tm p.2)) parts.toList:=pV fun p aw=>by rw[bE p aw]
   refine⟨?_, ?_⟩
   ·unfold kl
    simp only[lF]
    rw[eW,asH]
    exact fun p aw=>by rw[<-bE p aw];exact ao p aw
   ·rw[il (by rw[bD];simp[o6,lF]),il (by rw[bD];simp[o6,lF])]
    unfold ei
    rw[bD]
    simp only
    rw[az]
    cases (tb ty).ty with
    |bS s=>
     cases s with
     |sints k=>
      simp only[lF,rB]
      split
      ·exact .inr ⟨_,_,rfl,rfl⟩
      ·exact .inl rfl
     |srows z=>
      simp only[lF,rB]
      have aN:hB (fN id (cH own id (false,ob))) z (tb ty).hC q (lmap (fun p=>(p.1,aS tm p.2)) parts.toList)=hB own z (tb ty).hC q (lmap (fun p=>(p.1,aS tm p.2)) parts.toList):=wL _ _ z _ _ 0 q
      rw[aN]
      split
      ·exact .inr ⟨_,_,rfl,rfl⟩
      ·exact .inl rfl
     |_=>exact .inl rfl
    |_=>exact .inl rfl
 |_=>rw[bD]at ao;cases ao
theorem XV {a:Oper}{tm:List J}(aT:(b8 tb data ids n a tm).C5=true):(b8 tb data ids n a tm).ok=false/\eP tb a.op=3/\
 ∃id,∀own,ck tb ids a tm own= .bad\/∃s ob,ck tb ids a tm own= .grow s (.vec id) (cH own id (false,ob)) id/\∀l,ad.at own id≠ .cells l:=by
 unfold b8 at aT⊢
 cases bD:a.op with
 |call c=>
  rw[bD]at aT
  simp only at aT⊢
  have ig:∀own,ck tb ids a tm own=(match c.callee with
   | .builtin b=>j_ tb b c.argTypes.toList (lmap (aS tm) c.args.toList) own
   | .value (.func f)=> .call f (lmap (aS tm) c.args.toList) c.argTypes.toList
   | .value (.tmp u)=>rv (bT .un tm u) (lmap (aS tm) c.args.toList) c.argTypes.toList
   |_=> .bad):=fun own=>by
   rw[il (by rw[bD];rfl)]
   unfold ei
   rw[bD]
   rfl
  cases ay:c.callee with
  |builtin b=>
   rw[ay]at aT ig
   cases b with
   |append=>
    simp only at aT⊢
    refine⟨trivial,by simp only[eP,ay], ?_⟩
    generalize lmap (aS tm) c.args.toList=args at aT ig
    have key:∃id x,args=[.vec id, .d x]:=by
     unfold kh at aT
     split at aT
     ·exact⟨_,_,rfl⟩
     ·exact⟨_,_,rfl⟩
     ·cases aT
    obtain⟨id,x,rfl⟩:=key
    refine⟨id,fun own=> ?_⟩
    rw[ig]
    unfold j_
    simp only
    split
    ·split
     ·unfold rb
      simp only[rJ,kJ]
      split
      ·split
       ·have aH:∀l,ad.at own id≠ .cells l:=fun l e=>by simp_all
        split
        ·exact .inr ⟨_,_,rfl,aH⟩
        ·exact .inl rfl
       ·have aH:∀l,ad.at own id≠ .cells l:=fun l e=>by simp_all
        split
        ·exact .inr ⟨_,_,rfl,aH⟩
        ·exact .inl rfl
       ·exact .inl rfl
      ·exact .inl rfl
     ·exact .inl rfl
    ·exact .inl rfl
   |_=>cases aT
  |value x=>
   rw[ay]at aT
   cases x with
   |func f=>
    simp only at aT
    split at aT<;>cases aT
   |_=>cases aT
  |_=>rw[ay]at aT;cases aT
 |alloc ty=>
  rw[bD]at aT
  simp only at aT
  split at aT
  ·split at aT<;>cases aT
  ·cases aT
 |slice ty x lo hi cX=>
  rw[bD]at aT
  simp only at aT
  split at aT<;>cases aT
 |buildSlice ty q parts=>
  rw[bD]at aT
  simp only at aT
  split at aT
  ·cases aT
  ·split at aT
   ·split at aT<;>cases aT
   ·cases aT
 |_=>rw[bD]at aT;cases aT
end
end Go.bG
end
section
namespace Go.bG
section
variable {tb:TypeId->bQ} {bd:FuncId->e3} {data:FuncId->Nat} {ids:List (Tmp×Nat)} {tab:List Nat}
theorem wN (dz:∀f args own K,bd f args own K->fw (bd f)){all:List Oper}{K K':List J->aB->Prop}(ab:∀tm own,K tm own->K' tm own):
 ∀(l:List Oper) (tm:List J) (own:aB),c6 tb bd ids all l tm own K->c6 tb bd ids all l tm own K'
 |[],tm,own,h=>ab _ _ h
 |o::rest,tm,own,h=>by
  have bA:=fun tm own=>wN dz ab rest tm own (all:=all)
  have run:∀c8:List J,
   (match ck tb ids o c8 own with
     | .bad=>False
     | .aR safe v own'=>gk safe (c6 tb bd ids all rest (put c8 o.dst v) own' K)
     | .grow safe v own' id=>gk safe (c6 tb bd ids all rest (put (lmap (da id) c8) o.dst v) (fN id own') K)
     | .e0 p=>∀b:Bool,p b->c6 tb bd ids all rest (put c8 o.dst (.d (.bool b))) own K
     | .call f args _=>bd f args own fun v own'=>c6 tb bd ids all rest (put c8 o.dst v) own' K)->
   (match ck tb ids o c8 own with
     | .bad=>False
     | .aR safe v own'=>gk safe (c6 tb bd ids all rest (put c8 o.dst v) own' K')
     | .grow safe v own' id=>gk safe (c6 tb bd ids all rest (put (lmap (da id) c8) o.dst v) (fN id own') K')
     | .e0 p=>∀b:Bool,p b->c6 tb bd ids all rest (put c8 o.dst (.d (.bool b))) own K'
     | .call f args _=>bd f args own fun v own'=>c6 tb bd ids all rest (put c8 o.dst v) own' K'):=by
   intro c8 ak
   cases he:ck tb ids o c8 own with
   |bad=>rw[he]at ak;exact ak
   |aR s v bZ=>rw[he]at ak;exact uI (bA _ _) ak
   |grow s v bZ id=>rw[he]at ak;exact uI (bA _ _) ak
   |e0 p=>rw[he]at ak;exact fun b ae=>bA _ _ (ak b ae)
   |call f args tys=>rw[he]at ak;exact(dz _ _ _ _ ak).1 _ _ _ _ (fun r bZ=>bA _ _) ak
  unfold c6 at h⊢
  simp only at h⊢
  split
  ·rename_i aT
   rw[aT]at h
   exact run tm h
  ·rename_i j want aT
   rw[aT]at h
   simp only at h
   split
   ·rename_i a6
    rw[a6]at h
    exact bA _ _ h
   ·rename_i g a6
    rw[a6]at h
    simp only at h
    split
    ·rename_i aq
     rw[aq]at h
     cases want
     ·exact bA _ _ h
     ·exact run _ h
    ·rename_i aq
     rw[aq]at h
     cases want
     ·exact run _ h
     ·exact bA _ _ h
    ·rename_i aq
     rw[aq]at h
     exact bA _ _ h
    ·rename_i b aq
     rw[aq]at h
     refine⟨fun ae=> ?_,fun ae=> ?_⟩
     ·have:=h.1 ae
      cases want
      ·exact bA _ _ this
      ·exact run _ this
     ·have:=h.2 ae
      cases want
      ·exact run _ this
      ·exact bA _ _ this
    ·rename_i U aa al aL
     split at h
     ·rename_i aq;exact absurd aq U
     ·rename_i aq;exact absurd aq aa
     ·rename_i aq;exact absurd aq al
     ·rename_i b aq;exact absurd aq (aL b)
     ·exact h
theorem V_ {o:Oper}{tm:List J}{own:aB}{p:Bool->Prop}(h:ck tb ids o tm own= .e0 p):∃b,p b:=by
 have h:ei tb o tm own= .e0 p:=by
  rcases Et tb ids o tm own with e|⟨t,d,id,_,_,_,e|⟨_,e⟩⟩|⟨t,n,parts,d,id,_,_,_,e|⟨ob,_,e⟩⟩
  ·rw[<-e];exact h
  ·rw[e]at h;cases h
  ·rw[e]at h;cases h
  ·rw[e]at h;cases h
  ·rw[e]at h;cases h
 obtain⟨op,t,x,y,ty,_,h⟩:=PM h
 unfold n5 at h
 split at h
 ·split at h
  ·cases h
  ·cases h
  ·split at h
   ·cases op<;>simp[l4]at h
   ·cases h
 ·split at h<;>cases h
 ·split at h
  ·simp only[bH.e0.injEq]at h;subst h;exact⟨false,fun h=>by cases h⟩
  ·simp only[bH.e0.injEq]at h;subst h;exact⟨true,fun h=>by cases h⟩
  ·cases h
 ·split at h
  ·simp only[bH.e0.injEq]at h;subst h;exact⟨false,fun h=>by cases h⟩
  ·simp only[bH.e0.injEq]at h;subst h;exact⟨true,fun h=>by cases h⟩
  ·cases h
 all_goals first|cases h|(unfold im at h;split at h<;>cases h)
theorem Aj (dz:∀f args own K,bd f args own K->fw (bd f)){all:List Oper}{K:List J->aB->Prop}:∀(l:List Oper) (tm:List J) (own:aB),c6 tb bd ids all l tm own K->∃dL own',K dL own'
 |[],tm,own,h=>⟨_,_,h⟩
 |o::rest,tm,own,h=>by
  have bA:=fun tm own=>Aj dz rest tm own (all:=all) (K:=K)
  have run:∀c8:List J,
   (match ck tb ids o c8 own with
     | .bad=>False
     | .aR safe v own'=>gk safe (c6 tb bd ids all rest (put c8 o.dst v) own' K)
     | .grow safe v own' id=>gk safe (c6 tb bd ids all rest (put (lmap (da id) c8) o.dst v) (fN id own') K)
     | .e0 p=>∀b:Bool,p b->c6 tb bd ids all rest (put c8 o.dst (.d (.bool b))) own K
     | .call f args _=>bd f args own fun v own'=>c6 tb bd ids all rest (put c8 o.dst v) own' K)->∃dL own',K dL own':=by
   intro c8 ak
   cases he:ck tb ids o c8 own with
   |bad=>rw[he]at ak;exact ak.elim
   |aR s v bZ=>rw[he]at ak;exact bA _ _ ((gr _ _).1 ak).2
   |grow s v bZ id=>rw[he]at ak;exact bA _ _ ((gr _ _).1 ak).2
   |e0 p=>
    rw[he]at ak
    obtain⟨b,ae⟩:=V_ he
    exact bA _ _ (ak b ae)
   |call f args tys=>
    rw[he]at ak
    obtain⟨r,bZ,kE⟩:=(dz _ _ _ _ ak).2 _ _ _ ak
    exact bA _ _ kE
  unfold c6 at h
  simp only at h
  split at h
  ·exact run tm h
  ·rename_i j want aT
   split at h
   ·exact bA _ _ h
   ·rename_i g a6
    split at h
    ·cases want
     ·exact bA _ _ h
     ·exact run _ h
    ·cases want
     ·exact run _ h
     ·exact bA _ _ h
    ·exact bA _ _ h
    ·rename_i b aq
     cases b
     ·have:=h.2 rfl
      cases want
      ·exact run _ this
      ·exact bA _ _ this
     ·have:=h.1 rfl
      cases want
      ·exact bA _ _ this
      ·exact run _ this
    ·exact h.elim
theorem LV {all:List Oper}{o:Oper}{r:List Oper}{tm:List J}{own:aB}{K:List J->aB->Prop}:c6 tb bd ids all (o::r) tm own K=c6 tb bd ids all [o] tm own (fun tm own=>c6 tb bd ids all r tm own K):=rfl
theorem ES {all:List Oper}{o:Oper}(aq:(∀tm own s v bZ id,ck tb ids o tm own≠ .grow s v bZ id)/\∀tm own p,ck tb ids o tm own≠ .e0 p)(dz:∀f args own K,bd f args own K->fw (bd f))
 {tm:List J} {own:aB} {K K':List J->aB->Prop} {Q:aB->Prop} (pA:Q own) (aN:∀t k,e7 bd own k (ck tb ids o t own)->e7 bd own (fun v bZ=>Q bZ/\k v bZ) (ck tb ids o t own))
 (ab:∀m t v own,res all o tm=some (m,t)->Q own->K (put t o.dst v) own->K' (put t o.dst v) own) (h:c6 tb bd ids all [o] tm own K):c6 tb bd ids all [o] tm own K':=by
 rw[wR aq.1 aq.2]at h⊢
 cases ak:res all o tm with
 |none=>rw[ak]at h;exact h
 |some p=>
  obtain⟨m,t⟩:=p
  rw[ak]at h
  simp only at h⊢
  cases m with
  |true=>exact VT dz (fun v bZ aM=>ab _ _ v bZ ak aM.1 aM.2) (aN _ _ h)
  |false=>exact ab _ _ .un _ ak pA h
theorem Gr {o:Oper}{n n':Nat}{t t':List J}:(b8 tb data ids n o t).ext=(b8 tb data ids n' o t').ext:=by
 unfold b8
 cases o.op with
 |call c=>
  simp only
  split<;>first|rfl|(split<;>rfl)
 |buildSlice ty q parts=>
  simp only
  cases (tb ty).lit<;>rfl
 |alloc ty=>rfl
 |slice ty x lo hi cX=>
  simp only
  cases (tb ty).cut<;>rfl
 |_=>rfl
theorem Qo {o:Oper}{n n':Nat}{t:List J}(h:(b8 tb data ids n o t).ext=true->n'=n):b8 tb data ids n' o t=b8 tb data ids n o t:=by
 by_cases e:n'=n
 ·rw[e]
 ·have he:(b8 tb data ids n o t).ext=false:=by
   cases af:(b8 tb data ids n o t).ext with
   |false=>rfl
   |true=>exact absurd (h af) e
  unfold b8 at he⊢
  cases bD:o.op with
  |call c=>
   simp only[bD]at he⊢
   cases ay:c.callee with
   |value x=>
    cases x with
    |func f=>
     simp only[ay]at he⊢
     split at he
     ·rename_i aP;simp
     ·cases he
     ·rfl
    |_=>rfl
   |builtin b=>cases b<;>rfl
   |_=>rfl
  |_=>rfl
theorem OY {o:Oper}{n:Nat}{t:List J}(h:(b8 tb data ids n o t).ext=true):eP tb o.op=2/\(b8 tb data ids n o t).call=true:=by
 unfold b8 at h⊢
 cases bD:o.op with
 |call c=>
  simp only[bD]at h⊢
  cases ay:c.callee with
  |value x=>
   cases x with
   |func f=>
    simp only[ay]at h⊢
    split at h
    ·cases h
    ·rename_i aP;simp[eP,ay]
    ·cases h
   |_=>rw[ay]at h;cases h
  |builtin b=>rw[ay]at h;cases b<;>cases h
  |_=>rw[ay]at h;cases h
 |alloc ty=>
  rw[bD]at h
  simp only at h
  split at h
  ·split at h<;>cases h
  ·cases h
 |slice ty x lo hi cX=>
  rw[bD]at h
  simp only at h
  split at h<;>cases h
 |buildSlice ty q parts=>
  rw[bD]at h
  simp only at h
  split at h
  ·cases h
  ·split at h
   ·split at h<;>cases h
   ·cases h
 |_=>rw[bD]at h;cases h
theorem FW {all:List Oper}{a i:Oper}{tm gX:List J}{own:aB}{n ec:Nat}(hj:qh data bd)(hi:mN tb all a (b8 tb data ids n a tm) i (b8 tb data ids ec i gX)=true)
 (t:List J) (k:J->aB->Prop) (h:e7 bd own k (ck tb ids a t own)):e7 bd own (fun v bZ=>((b8 tb data ids ec i gX).ext=true->bZ.length=own.length)/\k v bZ) (ck tb ids a t own):=by
 obtain⟨_,_,_,_,_,ay⟩:=xg hi
 cases af:(b8 tb data ids ec i gX).ext with
 |false=>
  have e:(fun v bZ=>((false=true)->(bZ:aB).length=own.length)/\k v bZ)=k:=by funext v bZ;simp
  rw[e];exact h
 |true=>
  obtain⟨dt,dD⟩:=OY af
  rcases ay with aE|aE
  ·simp only[o7,asD,atq]at aE
   obtain⟨⟨⟨⟨⟨aQ,pH⟩,_⟩,_⟩,_⟩,_⟩:=aE
   have I5:eP tb a.op=0:=by
    unfold pc at aQ
    rw[dt]at aQ
    split at aQ
    ·rename_i _ aa;exact absurd aa (by decide)
    ·simp only[asD]at aQ;exact ast aQ.1
    ·rename_i _ aa;exact absurd aa (by decide)
    ·cases aQ
   rcases tn (tb:=tb) (ids:=ids) I5 pH t own own with⟨ae,_⟩|⟨s,v,aP,_⟩
   ·rw[ae]at h;exact h.elim
   ·rw[aP]at h⊢
    exact uI (fun ab=>⟨fun _=>rfl,ab⟩) h
  ·simp only[rW,asD,atq]at aE
   obtain⟨⟨⟨⟨⟨uq,_⟩,D2⟩,_⟩,_⟩,_⟩:=aE
   obtain⟨B,E,eU⟩:=s0 (tb:=tb) (ids:=ids) (n:=n) hj a t (sR uq t)
   have aaK:(b8 tb data ids n a t).ext=false:=by
    cases a6:(b8 tb data ids n a t).ext with
    |false=>rfl
    |true=>
     rw[Gr (n':=n) (t':=tm)]at a6
     have:=(OY a6).2
     rw[this,dD]at D2
     cases D2
   refine(eU.pull _ _).2 (eU.mono _ _ _ (fun v x aM=>⟨fun _=> ?_,aM⟩) ((eU.pull _ _).1 h))
   rw[eU.len,aaK];rfl
theorem EF {all:List Oper}{K:List J->aB->Prop}(dz:∀f args own K,bd f args own K->fw (bd f)):∀(l:List (Nat×Oper)) (eb xY:List (Nat×Oper×gl)) (tm:List J) (own:aB),(∀x∈xY,x∈eb)->
 ft tb bd data ids all tab eb l tm own K->ft tb bd data ids all tab xY l tm own K
 |[],eb,xY,tm,own,_,h=>h
 |x::rest,eb,xY,tm,own,ao,h=>by
  unfold ft at h⊢
  split at h
  ·exact h.elim
  ·rename_i ay
   have tJ:kx tb all tab x.1 x.2 (b8 tb data ids (bN own) x.2 tm) xY=true:=by
    unfold kx at ay⊢
    rw[eW,asH]at ay⊢
    exact fun y a6=>ay y (ao y a6)
   rw[tJ]
   refine wN dz (fun tm own b2=> ?_) _ _ _ h
   exact EF dz rest _ _ tm own (fun y a6=>by
    rcases asP.1 a6 with rfl|a6
    ·simp
    ·simp[ao y a6]) b2
theorem Lu (a b:Option Tmp):fl a b=fl b a:=by
 cases a<;>cases b<;>try rfl
 rename_i x y
 show Nat.beq x y=Nat.beq y x
 cases h:Nat.beq x y with
 |true=>obtain rfl:=ast h;exact h.symm
 |false=>
  cases kE:Nat.beq y x with
  |false=>rfl
  |true=>obtain rfl:=ast kE;rw[h]at kE;cases kE
theorem U7 (a b:Nat):pc a b=pc b a:=by
 unfold pc
 cases Nat.ble a 1<;>cases Nat.ble b 1<;>simp[Bool.and_comm]
theorem Fm {all:List Oper}{a i:Oper}{dJ gn:gl}(h:mN tb all a dJ i gn=true):mN tb all i gn a dJ=true:=by
 simp only[mN,sW,asD,atO,atq]at h⊢
 obtain⟨⟨⟨U,aa⟩,⟨al,aL⟩,bo⟩,bX⟩:=h
 refine⟨⟨⟨aa,U⟩,⟨by rw[Lu];exact al,bo⟩,aL⟩, ?_⟩
 rcases bX with bX|bX
 ·left
  simp only[o7,asD,atq]at bX⊢
  obtain⟨⟨⟨⟨⟨aU,a_⟩,bF⟩,di⟩,eB⟩,hb⟩:=bX
  exact⟨⟨⟨⟨⟨by rw[U7];exact aU,bF⟩,a_⟩,by rw[Lu];exact di⟩,hb⟩,eB⟩
 ·right
  simp only[rW,asD,atq]at bX⊢
  obtain⟨⟨⟨⟨⟨aU,a_⟩,bF⟩,di⟩,eB⟩,hb⟩:=bX
  refine⟨⟨⟨⟨⟨a_,aU⟩,by rw[Bool.and_comm];exact bF⟩, ?_⟩,hb⟩,eB⟩
  rw[xf]at di⊢
  exact fun x af gJ=>di x gJ af
theorem OZ {all:List Oper}{a i:Oper}{tm gX:List J}{n ec:Nat}(hj:qh data bd)(hi:mN tb all a (b8 tb data ids n a tm) i (b8 tb data ids ec i gX)=true):
 (∀tm own s v bZ id,ck tb ids a tm own≠ .grow s v bZ id)/\∀tm own p,ck tb ids a tm own≠ .e0 p:=by
 obtain⟨_,_,_,_,_,ay⟩:=xg hi
 rcases ay with aE|aE
 ·simp only[o7,asD,atq]at aE
  obtain⟨⟨⟨⟨⟨aQ,pH⟩,_⟩,_⟩,_⟩,_⟩:=aE
  have U:eP tb a.op<=1\/eP tb a.op=2:=by
   unfold pc at aQ
   split at aQ
   ·rename_i U aa;exact .inl (asV U)
   ·simp only[asD]at aQ;exact .inl (by rw[ast aQ.1];decide)
   ·simp only[asD]at aQ;exact .inr (ast aQ.1)
   ·cases aQ
  refine⟨fun tm own s v bZ id=> ?_,fun tm own p=> ?_⟩
  ·rcases U with U|U
   ·rcases vl (tb:=tb) (ids:=ids) U pH tm own with h|⟨s,v,h⟩<;>rw[h]<;>simp
   ·rcases tp (tb:=tb) (ids:=ids) U tm own with h|⟨s,v,bZ,h⟩|⟨f,args,tys,h⟩<;>rw[h]<;>simp
  ·rcases U with U|U
   ·rcases vl (tb:=tb) (ids:=ids) U pH tm own with h|⟨s,v,h⟩<;>rw[h]<;>simp
   ·rcases tp (tb:=tb) (ids:=ids) U tm own with h|⟨s,v,bZ,h⟩|⟨f,args,tys,h⟩<;>rw[h]<;>simp
 ·simp only[rW,asD,atq]at aE
  obtain⟨⟨⟨⟨⟨uq,_⟩,_⟩,_⟩,_⟩,_⟩:=aE
  exact⟨fun t own s v bZ id=>(s0 (n:=n) hj _ t (sR uq t)).elim fun _ ⟨_,h⟩=>h.none own s v bZ id,fun t own p=>(s0 (n:=n) hj _ t (sR uq t)).elim fun _ ⟨_,h⟩=>h.R2 own p⟩
theorem O0 {o:Oper}(h:bare o=true):o.guard=none:=by
 unfold bare at h
 split at h
 ·assumption
 ·cases h
theorem XW {o:Oper}{t:List J}{n:Nat}(h:(b8 tb data ids n o t).soft=true):kl tb o.op t=true:=by
 unfold b8 at h
 cases bD:o.op with
 |call c=>
  rw[bD]at h
  simp only at h
  split at h
  ·cases h
  ·cases h
  ·split at h<;>cases h
  ·cases h
 |alloc ty=>
  rw[bD]at h
  simp only at h
  split at h
  ·split at h<;>cases h
  ·cases h
 |slice ty x lo hi cX=>
  rw[bD]at h
  simp only at h
  split at h<;>cases h
 |buildSlice ty q parts=>
  rw[bD]at h
  simp only at h
  split at h
  ·exact h
  ·split at h
   ·split at h<;>cases h
   ·cases h
 |_=>first|(rw[bD]at h;exact h)|(rw[bD]at h;cases h)
theorem Wa {o:Oper}{t t':List J}{n n':Nat}(ao:kl tb o.op t=true)(gS:kl tb o.op t'=true)(he:∀x∈o.op.operands.toList,(∃i j,aS t' x= .ptr i j)->aS t' x=aS t x):b8 tb data ids n o t=b8 tb data ids n' o t':=by
 unfold b8
 cases bD:o.op with
 |load ty p=>
  rw[bD]at ao gS he
  have U:aS t' p=aS t p:=he p (by simp[Op.operands]) (by
   have:qc (aS t' p)=true:=gS
   cases aM:aS t' p with
   |ptr i j=>exact⟨i,j,rfl⟩
   |_=>rw[aM]at this;cases this)
  simp only[ao,gS,U]
 |fieldAddr ty x f=>rw[bD]at ao gS;simp only[ao,gS]
 |buildSlice ty q parts=>
  rw[bD]at ao gS
  simp only[ao,gS]
 |_=>simp[bD,kl]at ao
theorem Ak {all:List Oper}{o:Oper}(h:o.guard=none){tm:List J}{own:aB}{K:List J->aB->Prop}:c6 tb bd ids all [o] tm own K↔
 (match ck tb ids o tm own with
   | .bad=>False
   | .aR safe v own'=>gk safe (K (put tm o.dst v) own')
   | .grow safe v own' id=>gk safe (K (put (lmap (da id) tm) o.dst v) (fN id own'))
   | .e0 p=>∀b:Bool,p b->K (put tm o.dst (.d (.bool b))) own
   | .call f args _=>bd f args own fun v own'=>K (put tm o.dst v) own'):=by
 unfold c6
 simp only[h]
 exact atd
theorem Xd {id:Nat}{tm:List J}{d:Option Tmp}{v:J}:lmap (da id) (put tm d v)=put (lmap (da id) tm) d (da id v):=by
 cases d with
 |none=>rfl
 |some x=>simp only[put,c5,ep,auf]
theorem YV (dz:∀f args own K,bd f args own K->fw (bd f)){all:List Oper}{a i:Nat×Oper}(bB:Nat.blt a.1 i.1=true)(C9:Nat.blt i.1 a.1=false)
 {C:List (Nat×Oper)} {eb:List (Nat×Oper×gl)} {tm:List J} {own:aB} {K:List J->aB->Prop} (aT:(b8 tb data ids (bN own) a.2 tm).C5=true) (tZ:bit tab i.1 a.1=false)
 (h:ft tb bd data ids all tab eb (a::i::C) tm own K):ft tb bd data ids all tab eb (i::a::C) tm own K:=by
 obtain⟨g1,g2,id,g3⟩:=XV aT
 unfold ft at h
 split at h
 ·exact h.elim
 rename_i pI
 have QM:rl a.2 (b8 tb data ids (bN own) a.2 tm) i.2 {b8 tb data ids (bN own) i.2 tm with soft:=true}=true:=by
  obtain⟨gX,cx,U⟩:=Aj dz _ _ _ h
  unfold ft at U
  split at U
  ·exact U.elim
  ·rename_i ay
   unfold kx at ay
   rw[eW,asH]at ay
   have aw:=ay _ (auk ..)
   unfold rE at aw
   simp only[bB,tZ,Bool.false_or,atO]at aw
   rcases aw with aw|aw
   ·obtain⟨_,_,_,_,_,af⟩:=xg aw
    rcases af with af|af
    ·simp only[o7,asD]at af
     have:=af.1.1.1.1.1
     rw[g2]at this
     unfold pc at this
     revert this
     cases Nat.ble (eP tb i.2.op) 1<;>simp<;>decide
    ·simp only[rW,asD]at af
     rw[g1]at af
     exact absurd af.1.1.1.1.1 atB
   ·simp only[rl,asD]at aw⊢
    exact⟨⟨⟨⟨aT,trivial⟩,aw.1.1.2⟩,aw.1.2⟩,aw.2⟩
 simp only[rl,asD]at QM
 obtain⟨⟨⟨_,ct⟩,R5⟩,mo⟩:=QM
 have Rp:=ct
 simp only[sW,asD,atq]at Rp
 obtain⟨⟨R6,t_⟩,D3⟩:=Rp
 have Eh:=O0 R5
 have wh:=O0 mo
 rw[Ak Eh]at h
 rcases g3 own with ae|⟨s,ob,zi,R1⟩
 ·rw[ae]at h;exact h.elim
 rw[zi]at h
 simp only at h
 rw[gr]at h
 obtain⟨ao,h⟩:=h
 unfold ft at h
 split at h
 ·exact h.elim
 rename_i nL
 have HM:=nL
 unfold kx at HM
 rw[eW,at2,asD]at HM
 obtain⟨aw,xX⟩:=HM
 have QN:(b8 tb data ids (bN (fN id (cH own id (false,ob)))) i.2 (put (lmap (da id) tm) a.2.dst (.vec id))).soft=true:=by
  unfold rE at aw
  simp only[bB,tZ,Bool.false_or,atO]at aw
  rcases aw with aw|aw
  ·obtain⟨_,_,_,_,_,af⟩:=xg aw
   rcases af with af|af
   ·simp only[o7,asD]at af
    have:=af.1.1.1.1.1
    rw[g2]at this
    unfold pc at this
    revert this
    cases Nat.ble (eP tb i.2.op) 1<;>simp<;>decide
   ·simp only[rW,asD]at af
    rw[g1]at af
    exact absurd af.1.1.1.1.1 atB
  ·simp only[rl,asD]at aw
   exact aw.1.1.1.2
 have R7:=XW QN
 obtain⟨aaL,xU⟩:=V3 (ids:=ids) (own:=own) (ob:=ob) t_ R1 R7
 have II:b8 tb data ids (bN own) i.2 tm=b8 tb data ids (bN (fN id (cH own id (false,ob)))) i.2 (put (lmap (da id) tm) a.2.dst (.vec id)):=Wa aaL R7 fun x af ⟨j,off,e⟩=>by
  have gJ:∀t,a.2.dst=some t->x≠ .tmp t:=fun t aA zg=>by
   rw[aA]at t_
   subst zg
   simp only[lb]at t_
   rw[EC.2 af]at t_
   cases t_
  rw[e,(EE gJ e).1]
 rw[Ak wh]at h
 rcases xU with ae|⟨k5,w,jC,qG⟩
 ·rw[ae]at h;exact h.elim
 rw[jC]at h
 simp only at h
 rw[gr]at h
 obtain⟨gS,h⟩:=h
 unfold ft
 have gR:kx tb all tab i.1 i.2 (b8 tb data ids (bN own) i.2 tm) eb=true:=by
  rw[II];unfold kx;rw[eW];exact xX
 simp only[gR]
 rw[Ak wh,qG]
 simp only
 rw[gr]
 refine⟨gS, ?_⟩
 unfold ft
 have ov:b8 tb data ids (bN own) a.2 (put tm i.2.dst w)=b8 tb data ids (bN own) a.2 tm:=FU D3
 have jh:kx tb all tab a.1 a.2 (b8 tb data ids (bN own) a.2 (put tm i.2.dst w)) ((i.1,i.2,b8 tb data ids (bN own) i.2 tm)::eb)=true:=by
  rw[ov]
  unfold kx at pI⊢
  rw[eW]at pI⊢
  rw[at2,asD]
  refine⟨?_,pI⟩
  unfold rE
  simp only[C9,tZ,Bool.false_or]
  rw[atO]
  right
  simp only[rl,asD]
  exact⟨⟨⟨⟨aT,by rw[II];exact QN⟩,ct⟩,R5⟩,mo⟩
 simp only[jh]
 rw[Ak Eh]
 have e:ck tb ids a.2 (put tm i.2.dst w) own= .grow s (.vec id) (cH own id (false,ob)) id:=by
  rw[<-zi]
  exact zY fun x af=>w4 D3 af
 rw[e]
 simp only
 rw[gr]
 refine⟨ao, ?_⟩
 rw[Xd,<-put_comm R6,ov,II]
 refine EF dz _ _ _ _ _ (fun x af=> ?_) h
 simp only[asP]at af⊢
 rcases af with h|h|h
 ·exact .inr (.inl h)
 ·exact .inl h
 ·exact .inr (.inr h)
theorem YW (hj:qh data bd)(dz:∀f args own K,bd f args own K->fw (bd f)){all:List Oper}{a i:Nat×Oper}(bB:a.1<i.1)(tZ:bit tab i.1 a.1=false)
 {C:List (Nat×Oper)} {eb:List (Nat×Oper×gl)} {tm:List J} {own:aB} {K:List J->aB->Prop} (h:ft tb bd data ids all tab eb (a::i::C) tm own K):
 ft tb bd data ids all tab eb (i::a::C) tm own K:=by
 have vy:Nat.blt a.1 i.1=true:=Nat.ble_eq_true_of_le bB
 have C9:Nat.blt i.1 a.1=false:=by
  cases ae:Nat.blt i.1 a.1 with
  |false=>rfl
  |true=>
   have:i.1+1<=a.1:=asV ae
   omega
 cases zi:(b8 tb data ids (bN own) a.2 tm).C5 with
 |true=>exact YV dz vy C9 zi tZ h
 |false=>
 have uc:∀gn,rE tb all tab i.1 i.2 gn (a.1,a.2,b8 tb data ids (bN own) a.2 tm)=mN tb all a.2 (b8 tb data ids (bN own) a.2 tm) i.2 gn:=fun gn=>by
  unfold rE rl;simp only[vy,tZ,zi,Bool.false_or,Bool.false_and,Bool.or_false]
 unfold ft at h
 split at h
 ·exact h.elim
 rename_i pI
 have stat:lX all a.2 i.2=true/\lX all i.2 a.2=true/\sW a.2 i.2=true/\∃(gX:List J) (ec:Nat),mN tb all a.2 (b8 tb data ids (bN own) a.2 tm) i.2 (b8 tb data ids ec i.2 gX)=true:=by
  obtain⟨gX,cx,U⟩:=Aj dz _ _ _ h
  unfold ft at U
  split at U
  ·exact U.elim
  ·rename_i ay
   have aw:rE tb all tab i.1 i.2 (b8 tb data ids (bN cx) i.2 gX) (a.1,a.2,b8 tb data ids (bN own) a.2 tm)=true:=by
    unfold kx at ay
    rw[eW,asH]at ay
    exact ay _ (by simp)
   rw[uc]at aw
   have vL:=aw
   simp only[mN,asD]at vL
   exact⟨vL.1.1.1,vL.1.1.2,vL.1.2,gX,_,aw⟩
 obtain⟨g1,g2,g3,gX,ec,qA⟩:=stat
 have R8:=g3
 simp only[sW,asD,atq]at R8
 obtain⟨⟨R6,t_⟩,D3⟩:=R8
 have h0:=OZ (data:=data) hj qA
 have gn:∀(m:Bool) (t:List J) (v:J) (bZ:aB),res all a.2 tm=some (m,t)->((b8 tb data ids ec i.2 gX).ext=true->bZ.length=own.length)->b8 tb data ids (bN bZ) i.2 (put t a.2.dst v)=b8 tb data ids (bN own) i.2 tm:=fun m t v bZ ak aN=>by
  rw[<-Bk (n:=bN own) ak,<-FU (n:=bN own) (v:=v) t_]
  refine Qo fun he=> ?_
  rw[cf,cf]
  exact aN (by rw[Gr (n':=bN own) (t':=put t a.2.dst v)];exact he)
 have nL:kx tb all tab i.1 i.2 (b8 tb data ids (bN own) i.2 tm) ((a.1,a.2,b8 tb data ids (bN own) a.2 tm)::eb)=true:=by
  cases ay:kx tb all tab i.1 i.2 (b8 tb data ids (bN own) i.2 tm) ((a.1,a.2,b8 tb data ids (bN own) a.2 tm)::eb)with
  |true=>rfl
  |false=>
   exfalso
   have:=ES h0 dz (K':=fun _ _=>False) (fun _=>rfl) (fun t k ab=>FW hj qA t k ab) (fun m t v own' ak aN ab=>by
    unfold ft at ab
    rw[gn m t v own' ak aN,ay]at ab
    exact ab) h
   obtain⟨_,_,aQ⟩:=Aj dz _ _ _ this
   exact aQ
 have DF:=nL
 unfold kx at DF
 rw[eW,at2,asD]at DF
 have DG:mN tb all a.2 (b8 tb data ids (bN own) a.2 tm) i.2 (b8 tb data ids (bN own) i.2 tm)=true:=by rw[<-uc];exact DF.1
 have li:=OZ (data:=data) hj (Fm DG)
 have aa:c6 tb bd ids all [a.2] tm own (fun t1 bn=>c6 tb bd ids all [i.2] t1 bn fun t2 ba=>ft tb bd data ids all tab ((i.1,i.2,b8 tb data ids (bN own) i.2 tm)::(a.1,a.2,b8 tb data ids (bN own) a.2 tm)::eb) C t2 ba K):=by
  refine ES h0 dz (fun _=>rfl) (fun t k ab=>FW hj qA t k ab) (fun m t v own' ak aN ab=> ?_) h
  unfold ft at ab
  rw[gn m t v own' ak aN]at ab
  simp only[nL]at ab
  exact ab
 have al:=YT (K:=fun t2 ba=>ft tb bd data ids all tab ((i.1,i.2,b8 tb data ids (bN own) i.2 tm)::(a.1,a.2,b8 tb data ids (bN own) a.2 tm)::eb) C t2 ba K) hj dz (cf own).symm DG aa
 rw[LV]at al
 unfold ft
 have gR:kx tb all tab i.1 i.2 (b8 tb data ids (bN own) i.2 tm) eb=true:=by
  unfold kx;rw[eW];exact DF.2
 simp only[gR]
 have jh:kx tb all tab a.1 a.2 (b8 tb data ids (bN own) a.2 tm) ((i.1,i.2,b8 tb data ids (bN own) i.2 tm)::eb)=true:=by
  unfold kx at pI⊢
  rw[eW]at pI⊢
  rw[at2,asD]
  refine⟨?_,pI⟩
  unfold rE
  simp only[C9,tZ,Bool.false_or]
  rw[atO]
  exact .inl (Fm DG)
 refine ES li dz (fun _=>rfl) (fun t k ab=>FW hj (Fm DG) t k ab) (fun m t v own' ak aN ab=> ?_) al
 unfold ft
 have dJ:b8 tb data ids (bN own') a.2 (put t i.2.dst v)=b8 tb data ids (bN own) a.2 tm:=by
  rw[<-Bk (n:=bN own) ak,<-FU (n:=bN own) (v:=v) D3]
  refine Qo fun he=> ?_
  rw[cf,cf]
  exact aN (by rw[Gr (n':=bN own) (t':=put t i.2.dst v)];exact he)
 rw[dJ]
 simp only[jh]
 refine wN dz (fun tm own b2=> ?_) _ _ _ ab
 refine EF dz _ _ _ _ _ (fun x af=> ?_) b2
 simp only[asP]at af⊢
 rcases af with h|h|h
 ·exact .inr (.inl h)
 ·exact .inl h
 ·exact .inr (.inr h)
theorem Lv (dz:∀f args own K,bd f args own K->fw (bd f)){all:List Oper}{x:Nat×Oper}{r lV:List (Nat×Oper)}{K K':List J->aB->Prop}
 (ak:∀eb tm own,ft tb bd data ids all tab eb r tm own K->ft tb bd data ids all tab eb lV tm own K') {eb:List (Nat×Oper×gl)} {tm:List J} {own:aB} (h:ft tb bd data ids all tab eb (x::r) tm own K):
 ft tb bd data ids all tab eb (x::lV) tm own K':=by
 unfold ft at h⊢
 split at h
 ·exact h.elim
 ·exact wN dz (fun tm own b2=>ak _ _ _ b2) _ _ _ h
theorem QO (hj:qh data bd)(dz:∀f args own K,bd f args own K->fw (bd f)){all:List Oper}{i:Nat×Oper}{B:List (Nat×Oper)}:∀(A:List (Nat×Oper)),(∀a∈A,a.1<i.1/\bit tab i.1 a.1=false)->
 ∀(eb:List (Nat×Oper×gl)) (tm:List J) (own:aB) (K:List J->aB->Prop),ft tb bd data ids all tab eb (A++i::B) tm own K->ft tb bd data ids all tab eb (i::(A++B)) tm own K
 |[],_,_,_,_,_,h=>h
 |a::A,eU,eb,tm,own,K,h=>by
  have U:ft tb bd data ids all tab eb (a::i::(A++B)) tm own K:=Lv dz (fun eb tm own h=>QO hj dz A (fun x af=>eU x (by simp[af])) eb tm own K h) h
  exact YW hj dz (eU a (by simp)).1 (eU a (by simp)).2 U
theorem Lw (dz:∀f args own K,bd f args own K->fw (bd f)){all:List Oper}{K:List J->aB->Prop}:∀(l:List (Nat×Oper)) (eb:List (Nat×Oper×gl)) (tm:List J) (own:aB),
 ft tb bd data ids all tab eb l tm own K->c6 tb bd ids all (l.map (·.2)) tm own K
 |[],_,_,_,h=>h
 |x::r,eb,tm,own,h=>by
  unfold ft at h
  split at h
  ·exact h.elim
  ·rw[asX,LV]
   exact wN dz (fun tm own b2=>Lw dz r _ tm own b2) _ _ _ h
def QP (ops:Array Oper):Prop:=∀i,(h:i<ops.size)->∀e∈(ops[i]).after.toList,Region.binds .any e=true->e.on<i
def left (n:Nat)(listed:Array Bool):List Nat:=(List.range n).filter fun i=> !listed.getD i true
theorem FX {n:Nat}{listed:Array Bool}{i:Nat}(hi:i<n)(ao:listed.size=n)(ar:listed.getD i true=false):
 ∃A B,left n listed=A++i::B/\left n (listed.setIfInBounds i true)=A++B/\∀a∈A,a<i/\listed.getD a true=false:=by
 have Qp:List.range n=List.range i++i::((List.range (n-i-1)).map (i+1+·)):=by
  rw[show n=i+(1+(n-i-1)) by omega,List.range_add,List.range_add]
  simp[atn]
 have l_:∀j,j≠i->(listed.setIfInBounds i true).getD j true=listed.getD j true:=fun j aK=>by
  simp only[asA,auj]
  rw[asp (atb aK)]
 have YX:(listed.setIfInBounds i true).getD i true=true:=by
  simp only[asA,auj,atj]
  split<;>rfl
 refine⟨(List.range i).filter fun j=> !listed.getD j true,((List.range (n-i-1)).map (i+1+·)).filter fun j=> !listed.getD j true, ?_, ?_,fun a aC=> ?_⟩
 ·unfold left
  rw[Qp,aup,at6]
  rw[asq (by rw[ar];rfl)]
 ·unfold left
  rw[Qp,aup,at6,asp (by rw[YX];simp)]
  congr 1
  ·apply List.filter_congr
   intro x af
   have:x<i:=by simpa using af
   rw[l_ x (by omega)]
  ·apply List.filter_congr
   intro x af
   obtain⟨y,_,rfl⟩:=asL.1 af
   rw[l_ _ (by omega)]
 ·rw[atH]at aC
  exact⟨by simpa using aC.1,by simpa using aC.2⟩
theorem Wb {listed:Array Bool}{a:Nat}(U:listed.getD a false=true)(aa:listed.getD a true=false):False:=by
 rw[asA]at U aa
 by_cases h:a<listed.size
 ·rw[aud h]at U aa
  simp at U aa
  rw[U]at aa;cases aa
 ·rw[Array.getElem?_eq_none (by omega)]at U;cases U
inductive Reach (ops:Array Oper):Nat->Nat->Prop
 |one {i:Nat} {e:Edge} (h:i<ops.size) (he:e∈(ops[i]).after.toList) (ae:Region.binds .any e=true):Reach ops i e.on
 |more {i k:Nat} {e:Edge} (h:i<ops.size) (he:e∈(ops[i]).after.toList) (ae:Region.binds .any e=true) (ak:Reach ops e.on k):Reach ops i k
theorem Ug {ops:Array Oper}{listed:Array Bool}(ji:∀j,(aK:j<ops.size)->listed.getD j false=true->∀e∈(ops[j]).after.toList,Region.binds .any e=true->listed.getD e.on false=true)
 {i k:Nat} (ak:Reach ops i k):(∀h:i<ops.size,∀e∈(ops[i]).after.toList,Region.binds .any e=true->listed.getD e.on false=true)->listed.getD k false=true:=by
 induction ak with
 |one h he ae=>exact fun ak=>ak h _ he ae
 |more h he ae _ bA=>exact fun ak=>bA fun kE cd Ih gT=>ji _ kE (ak h _ he ae) cd Ih gT
theorem XY (tab:List Nat)(n m:Nat):bit tab n m=(bT 0 tab n).testBit m:=by
 unfold bit
 rw[Nat.testBit_eq_decide_div_mod_eq]
 show Nat.beq ((bT 0 tab n>>>m)&&&1) 1=_
 rw[Nat.and_one_is_mod,Nat.shiftRight_eq_div_pow]
 cases h:decide (bT 0 tab n/2^m%2=1)with
 |true=>rw[asC h];rfl
 |false=>
  have h:=asE h
  cases ae:Nat.beq (bT 0 tab n/2^m%2) 1 with
  |false=>rfl
  |true=>exact absurd (ast ae) h
theorem ET (tab:List Nat)(m:Nat):∀l:List Edge,(rD tab l).testBit m=true->∃e∈l,Region.binds .any e=true/\(m=e.on\/(bT 0 tab e.on).testBit m=true)
 |[],h=>by simp[rD]at h
 |e::r,h=>by
  unfold rD at h
  split at h
  ·rename_i ae
   have h:((2^e.on|||bT 0 tab e.on)|||rD tab r).testBit m=true:=h
   rw[Nat.testBit_or,Nat.testBit_or,atO,atO]at h
   rcases h with(h|h)|h
   ·rw[Nat.testBit_two_pow]at h
    exact⟨e,by simp,ae, .inl (by simpa[eq_comm]using h)⟩
   ·exact⟨e,by simp,ae, .inr h⟩
   ·obtain⟨cd,U,aa⟩:=ET tab m r h
    exact⟨cd,by simp[U],aa⟩
  ·obtain⟨cd,U,aa⟩:=ET tab m r h
   exact⟨cd,by simp[U],aa⟩
theorem MF (ops:Array Oper):∀(r:List Oper) (acc:List Nat) (pre:List Oper),ops.toList=pre++r->pre.length=acc.length->(∀n m,(bT 0 acc n).testBit m=true->Reach ops n m)->
 ∀n m,(bT 0 (sX r acc) n).testBit m=true->Reach ops n m
 |[],acc,pre,_,_,h=>h
 |o::r,acc,pre,U,aa,h=>by
  unfold sX
  rw[fu]
  refine MF ops r _ (pre++[o]) (by rw[U];simp) (by simp[aa]) fun n m ae=> ?_
  rw[dp,ass,asS]at ae
  split at ae
  ·exact h n m (by rw[dp,ass];exact ae)
  ·rename_i ar
   cases aP:n-acc.length with
   |succ k=>rw[aP]at ae;simp at ae
   |zero=>
    rw[aP]at ae
    have ae:(rD acc o.after.toList).testBit m=true:=by simpa using ae
    have cV:n=pre.length:=by omega
    have bB:n<ops.size:=by
     rw[<-atu,U];simp;omega
    have aaM:ops[n]=o:=by
     have:ops.toList[n]? =some o:=by rw[U,cV];simp
     simpa[bB]using this
    obtain⟨e,he,pC,hm⟩:=ET acc m _ ae
    rw[<-aaM]at he
    rcases hm with rfl|hm
    ·exact .one bB he pC
    ·exact .more bB he pC (h _ _ hm)
theorem PO (hj:qh data bd)(dz:∀f args own K,bd f args own K->fw (bd f)){ops:Array Oper}(ay:QP ops)(Rq:∀n m,bit tab n m=true->Reach ops n m):∀(fuel t:Nat) (listed:Array Bool) (acc:List Nat),listed.size=ops.size->(left ops.size listed).length<=fuel->
 (∀j,(aK:j<ops.size)->listed.getD j false=true->∀e∈(ops[j]).after.toList,Region.binds .any e=true->listed.getD e.on false=true)->
 ∃c2,Region.linearise.go .any ops fuel t listed acc=acc.reverse++c2/\(∀i∈c2,i<ops.size)/\c2.Perm (left ops.size listed)/\
  ∀(eb:List (Nat×Oper×gl)) (tm:List J) (own:aB) (K:List J->aB->Prop),ft tb bd data ids ops.toList tab eb ((left ops.size listed).map fun i=>(i,ops.toList.getD i default)) tm own K->
   ft tb bd data ids ops.toList tab eb (c2.map fun i=>(i,ops.toList.getD i default)) tm own K
 |0,t,listed,acc,ao,aQ,ji=>by
  have he:left ops.size listed=[]:=atc.1 (by omega)
  refine⟨[],by simp[Region.linearise.go],(fun i h=>by cases h),by rw[he],fun eb tm own K h=> ?_⟩
  rw[he]at h
  exact h
 |fuel+1,t,listed,acc,ao,aQ,ji=>by
  unfold Region.linearise.go
  simp only
  generalize DU:((List.range ops.size).filter fun i=> !listed.getD i true&&((ops[i]?).map (·.after.all fun e=> !Region.binds .any e||listed.getD e.on false)).getD false)=rs
  split
  ·rename_i i hi
   have hl:i∈rs:=by
    obtain⟨U,aa⟩:=atg.1 hi
    exact aa▸atw U
   rw[<-DU,atH,asD]at hl
   obtain⟨bB,kv,s9⟩:=hl
   have bB:i<ops.size:=by simpa using bB
   have kv:listed.getD i true=false:=by simpa using kv
   have s9:∀e∈(ops[i]).after.toList,Region.binds .any e=true->listed.getD e.on false=true:=by
    have U:ops[i]? =some ops[i]:=by simp[bB]
    rw[U]at s9
    simp only[ats,atv]at s9
    rw[<-Array.all_toList,asH]at s9
    intro e he ae
    have:=s9 e he
    rw[ae]at this
    simpa using this
   obtain⟨A,B,an,az,eU⟩:=FX bB ao kv
   obtain⟨aaN,aU,a_,SK,bF⟩:=PO hj dz ay Rq fuel (t/rs.length) (listed.setIfInBounds i true) (i::acc) (by simpa using ao) (by
    rw[az];rw[an]at aQ;simp at aQ⊢;omega) (by
    have YY:∀x,listed.getD x false=true->(listed.setIfInBounds i true).getD x false=true:=fun x af=>by
     simp only[asA,auj]at af⊢
     split
     ·rename_i e
      subst e
      rw[asq (by omega)];rfl
     ·exact af
    intro j aK jY e he ae
    refine YY _ ?_
    by_cases sl:j=i
    ·subst sl;exact s9 e he ae
    ·refine ji j aK ?_ e he ae
     simp only[asA,auj]at jY⊢
     rw[asp (atb sl)]at jY
     exact jY)
   refine⟨i::aaN,by rw[aU];simp,fun j aK=> ?_,by rw[an];exact(List.Perm.cons i (by rw[az]at SK;exact SK)).trans List.perm_middle.symm,fun eb tm own K h=> ?_⟩
   ·rcases asP.1 aK with rfl|aK
    ·exact bB
    ·exact a_ j aK
   ·rw[an,as7,asX]at h
    have l_:∀j,(aK:j<ops.size)->ops.toList.getD j default=ops[j]:=fun j aK=>by simp[ass,aK]
    have aw:=QO (tb:=tb) (ids:=ids) hj dz (all:=ops.toList) (i:=(i,ops.toList.getD i default)) (B:=B.map fun i=>(i,ops.toList.getD i default))
     (A.map fun i=>(i,ops.toList.getD i default)) (fun x af=>by
       obtain⟨a,aC,rfl⟩:=asL.1 af
       obtain⟨DX,jd⟩:=eU a aC
       refine⟨DX, ?_⟩
       simp only
       cases aP:bit tab i a with
       |false=>rfl
       |true=>exact(Wb (Ug ji (Rq _ _ aP) fun _=>s9) jd).elim) eb tm own K h
    rw[asX]
    refine Lv dz (fun eb tm own h=>bF eb tm own K ?_) aw
    rw[az,as7];exact h
  ·rename_i tk
   have Yr:rs=[]:=by
    cases ak:rs with
    |nil=>rfl
    |cons x y=>
     exfalso
     have:t%rs.length<rs.length:=as6 _ (by rw[ak];simp)
     rw[asI this]at tk
     cases tk
   have QQ:left ops.size listed=[]:=by
    cases aq:left ops.size listed with
    |nil=>rfl
    |cons m r=>
     exfalso
     have hm:m∈left ops.size listed:=by rw[aq];simp
     have yR:=hm
     unfold left at yR
     rw[atH]at yR
     have bB:m<ops.size:=by simpa using yR.1
     have kv:listed.getD m true=false:=by simpa using yR.2
     obtain⟨A,B,an,_,eU⟩:=FX bB ao kv
     have tI:A=[]:=by
      cases A with
      |nil=>rfl
      |cons a aj2=>
       exfalso
       rw[aq]at an
       simp only[atP,auc]at an
       have:=(eU a (by simp)).1
       omega
     have XZ:∀a,a<m->listed.getD a false=true:=by
      intro a aC
      have ca:a<listed.size:=by omega
      cases D4:listed.getD a true with
      |true=>
       rw[asA,aud ca]at D4⊢
       simpa using D4
      |false=>
       exfalso
       have hl:a∈left ops.size listed:=by
        unfold left
        rw[atH]
        exact⟨by simp;omega,by rw[D4];rfl⟩
       obtain⟨Se,mu,f1,_,vO⟩:=FX (n:=ops.size) (listed:=listed) (i:=a) (by omega) ao D4
       rw[aq]at f1
       cases Se with
       |nil=>simp only[List.nil_append,auc]at f1;omega
       |cons q aa2=>
        simp only[atP,auc]at f1
        have:=(vO q (by simp)).1
        omega
     have eE:m∈rs:=by
      rw[<-DU,atH,asD]
      refine⟨by simpa using bB,by rw[kv];rfl, ?_⟩
      have U:ops[m]? =some ops[m]:=by simp[bB]
      rw[U]
      simp only[ats,atv]
      rw[<-Array.all_toList,asH]
      intro e he
      cases ae:Region.binds .any e with
      |false=>simp
      |true=>rw[XZ e.on (ay m bB e he ae)];simp
     rw[Yr]at eE
     cases eE
   refine⟨[],by simp,(fun i h=>by cases h),by rw[QQ],fun eb tm own K h=> ?_⟩
   rw[QQ]at h
   exact h
theorem PG (ops:Array Oper):(List.range ops.size).map (fun i=>ops.toList.getD i default)=ops.toList:=by
 apply List.ext_getElem?
 intro i
 by_cases h:i<ops.size
 ·simp[h,ass]
 ·simp[h]
theorem O1 (n:Nat):left n (Array.replicate n false)=List.range n:=by
 unfold left
 rw[List.filter_eq_self]
 intro i hi
 have:i<n:=by simpa using hi
 simp[asA,this]
theorem EU:∀(l:List Oper) (n:Nat),indexed l n=(List.range l.length).map fun i=>(n+i,l.getD i default)
 |[],n=>rfl
 |o::r,n=>by
  show(n,o)::indexed r (Nat.succ n)=_
  rw[EU r,atf,List.range_succ_eq_map,asX,atM]
  congr 1
  apply auC
  intro i _
  simp only[Function.comp,List.getD_cons_succ,asO,and_true]
  omega
theorem KY (d:Tmp)(o:Oper)(r:List Oper):nr d r<=nr d (o::r)/\(o.dst=some d->nr d (o::r)=nr d r+1):=by
 have e:nr d (o::r)=match fl (some d) o.dst with|true=>Nat.succ (nr d r)|false=>nr d r:=rfl
 refine⟨?_,fun h=> ?_⟩
 ·rw[e];split
  ·exact Nat.le_succ _
  ·exact asz _
 ·rw[e,Ai.2 ⟨d,rfl,h⟩]
theorem TP {d:Tmp}{l:List Oper}{j:Nat}{p:Oper}(h:l[j]? =some p)(aw:p.dst=some d):1<=nr d l:=by
 induction l generalizing j with
 |nil=>simp at h
 |cons x l bA=>
  obtain⟨dt,dD⟩:=KY d x l
  cases j with
  |zero=>
   simp only[List.getElem?_cons_zero,asM]at h
   subst h
   rw[dD aw];omega
  |succ j=>
   have:=bA (j:=j) (by simpa using h)
   omega
theorem LW {d:Tmp}(l:List Oper)(i j:Nat)(o p:Oper)(U:l[i]? =some o)(aa:l[j]? =some p)(al:o.dst=some d)(aL:p.dst=some d)(bo:i<j):2<=nr d l:=by
 induction l generalizing i j with
 |nil=>simp at U
 |cons x l bA=>
  obtain⟨dt,dD⟩:=KY d x l
  cases j with
  |zero=>omega
  |succ j=>
   simp only[List.getElem?_cons_succ]at aa
   cases i with
   |zero=>
    simp only[List.getElem?_cons_zero,asM]at U
    subst U
    have:=TP aa aL
    rw[dD al];omega
   |succ i=>
    have:=bA i j (by simpa using U) aa (by omega)
    omega
theorem zZ:∀(l:List Tmp) (n:Nat) (d:Tmp) (id:Nat),eN d (sP l n)=some id->d∈l/\n<=id/\id<n+l.length/\l[id-n]? =some d
 |[],n,d,id,h=>by cases h
 |x::r,n,d,id,h=>by
  unfold sP at h
  unfold eN at h
  split at h
  ·rename_i ae
   obtain rfl:=ast ae
   obtain rfl:=asB h
   simp
  ·obtain⟨U,aa,al,aL⟩:=zZ r (n+1) d id h
   refine⟨by simp[U],by omega,by simp;omega, ?_⟩
   rw[show id-n=(id-(n+1))+1 by omega]
   simpa using aL
theorem drawn {ops:Array Oper}(hj:qh data bd)(dz:∀f args own K,bd f args own K->fw (bd f))(aH:xl tb ops.toList=true)(n:Nat)(de:ids=sP (n2 tb ops.toList) n)(mixed:Bool)(hm:mixed=true)(t:Nat):
 FR ids ops/\(∀i∈Region.schedule mixed ops t,i<ops.size)/\(Region.schedule mixed ops t).Nodup/\∀(tm:List J) (own:aB) (K:List J->aB->Prop),ft tb bd data ids ops.toList (sX ops.toList []) [] (indexed ops.toList 0) tm own K->
  c6 tb bd ids ops.toList ((Region.schedule mixed ops t).map fun i=>ops.toList.getD i default) tm own K:=by
 have ao:Region.schedule mixed ops t=Region.linearise .any ops t:=by
  unfold Region.schedule
  rw[asq (by rw[hm];simp)]
 rw[ao]
 unfold xl at aH
 rw[asD,eW,eW,asH,asH]at aH
 obtain⟨Iy,zd⟩:=aH
 have hw:QP ops:=fun i hi e he ae=>by
  have:=Iy (i,ops[i]) (by
   rw[EU]
   refine asL.2 ⟨i,by simpa using hi, ?_⟩
   simp[ass,hi])
  rw[asH]at this
  have:=this e he
  have gT:Region.binds .any e=true:=ae
  rw[gT]at this
  have:e.on+1<=i:=by simpa[Nat.blt]using this
  omega
 have aK:FR ids ops:=by
  intro i j o p d e id U aa bo bX fi dI
  rw[de]at fi dI
  obtain⟨gD,_,_,g1⟩:=zZ _ _ _ _ fi
  obtain⟨_,_,_,g2⟩:=zZ _ _ _ _ dI
  rw[g1]at g2
  obtain rfl:=asB g2
  have ay:=ast (zd d gD)
  rcases Nat.lt_trichotomy i j with bB|rfl|bB
  ·have:=LW ops.toList i j o p (by simpa using U) (by simpa using aa) bo bX bB
   omega
  ·rfl
  ·have:=LW ops.toList j i p o (by simpa using aa) (by simpa using U) bX bo bB
   omega
 obtain⟨c2,U,aa,aw,al⟩:=PO (tb:=tb) (ids:=ids) (tab:=sX ops.toList []) hj dz hw (fun n m ae=>by
  rw[XY]at ae
  exact MF ops ops.toList [] [] rfl rfl (fun n m h=>by simp[bT]at h) n m ae) ops.size t (Array.replicate ops.size false) [] (by simp) (by rw[O1];simp) (fun j aK jY=>by simp[asA,aK]at jY)
 have:Region.linearise .any ops t=c2:=by unfold Region.linearise;rw[U];rfl
 rw[this]
 rw[O1]at aw al
 refine⟨aK,aa,aw.nodup_iff.2 List.nodup_range,fun tm own K h=> ?_⟩
 have aL:=Lw dz _ _ _ _ (al [] tm own K (by
  rw[EU]at h
  simpa using h))
 rw[atM]at aL
 exact aL
end
end Go.bG
end
section
namespace Go.bG
theorem c_.Al:∀(a b:List b0) (x:c_ a) (y:c_ b),c_.left a b (c_.append a b x y)=x
 |[],_,_,_=>rfl
 |_::cB,b,(x,r),y=>by simp only[c_.append,c_.left];rw[c_.Al cB b r y]
theorem c_.z1:∀(a b:List b0) (x:c_ a) (y:c_ b),c_.right a b (c_.append a b x y)=y
 |[],_,_,_=>rfl
 |_::cB,b,(x,r),y=>by simp only[c_.append,c_.right];rw[c_.z1 cB b r y]
section
variable {N:Nat->Prop} {ρ:List Loc} {own:aB} {w:World}
theorem LX (h:b4 N ρ own w)(s:b0){t:J}(ay:∀p∈(s.qn own t).1,p):
 ∃x:R,s.mk (s.qn own t).2= .d x/\∀u,bz (aI N ρ own) w ρ own t u->Reads (aI N ρ own) w x u:=by
 have no:∀{q:Prop},(∀p∈[False],p)->q:=fun h=>(h False (by simp)).elim
 unfold b0.qn at ay⊢
 split at ay
 ·rename_i k b3 n
  split at ay
  ·rename_i ab;obtain rfl:=iS.1 ab;exact⟨_,rfl,fun u aA=>aA⟩
  ·exact no ay
 ·exact no ay
 ·exact⟨_,rfl,fun u aA=>aA⟩
 ·refine⟨_,rfl,fun u aA=> ?_⟩
  have aA:u= .bool true:=aA
  subst aA;exact .bool true
 ·refine⟨_,rfl,fun u aA=> ?_⟩
  have aA:u= .bool false:=aA
  subst aA;exact .bool false
 ·exact no ay
 ·exact⟨_,rfl,fun u aA=>aA⟩
 ·exact no ay
 ·rename_i k b3 l
  split at ay
  ·rename_i ab;obtain rfl:=iS.1 ab;exact⟨_,rfl,fun u aA=>aA⟩
  ·exact no ay
 ·refine⟨_,rfl,fun u aA=> ?_⟩
  obtain⟨a,rfl⟩:=aA;exact .h4 _ _ _
 ·rename_i k id
  split at ay
  ·rename_i b3 l aH
   simp only at ay
   split at ay
   ·rename_i ab aQ
    obtain rfl:=iS.1 ab
    refine⟨_,rfl,fun u aA=> ?_⟩
    obtain⟨loc,aq,hu,_⟩:=aA
    have:=pU h aq aQ (t:= .bS (.sints k)) (by rw[aH];exact iS.2 rfl)
    rw[aH]at this hu
    rw[hu];exact this
   ·exact no ay
  ·exact no ay
 ·exact no ay
 ·rename_i k b3 l
  split at ay
  ·rename_i ab;obtain rfl:=ast ab;exact⟨_,rfl,fun u aA=>aA⟩
  ·exact no ay
 ·refine⟨_,rfl,fun u aA=> ?_⟩
  obtain⟨a,rfl⟩:=aA;exact .jK _ _ _
 ·rename_i aj id
  split at ay
  ·rename_i hK l aH
   simp only at ay
   split at ay
   ·rename_i ab aQ
    obtain rfl:=ast ab
    refine⟨_,rfl,fun u aA=> ?_⟩
    obtain⟨loc,aq,hu,_⟩:=aA
    have:=pU h aq aQ (t:= .bS (.srows aj)) (by rw[aH];exact ato aj)
    rw[aH]at this hu
    rw[hu];exact this
   ·exact no ay
  ·exact no ay
 ·exact no ay
 ·exact⟨_,rfl,fun u aA=>aA⟩
 ·exact no ay
theorem Em (h:b4 N ρ own w):∀(cs:List b0) (aG:List J) (k:c_ cs->Prop),w0 own cs aG k->
 ∃x,k x/\(ry cs x).length=aG.length/\∀(us:Nat->Value),(∀i,i<aG.length->dE (aI N ρ own) w ρ own (aG.getD i .un) (us i))->
  ∀i,i<aG.length->∃y:R,(ry cs x).getD i .un= .d y/\Reads (aI N ρ own) w y (us i)
 |[],[],k,ab=>⟨(),ab,rfl,fun us _ i hi=>by simp at hi⟩
 |[],_::_,_,ab=>ab.elim
 |_::_,[],_,ab=>ab.elim
 |s::cB,v::aG,k,ab=>by
  simp only[w0]at ab
  rw[gr]at ab
  obtain⟨ay,ab⟩:=ab
  obtain⟨y,U,aa⟩:=LX h s ay
  obtain⟨x,aU,a_,bF⟩:=Em h cB aG _ ab
  refine⟨((s.qn own v).2,x),aU,by simp[ry,a_],fun us ak i hi=> ?_⟩
  cases i with
  |zero=>exact⟨y,by simpa[ry]using U,aa _ (.cM (ak 0 (by simp)))⟩
  |succ i=>
   obtain⟨abD,al,aL⟩:=bF (fun i=>us (i+1)) (fun i hi=>by have:=ak (i+1) (by simpa using hi);simpa using this) i (by simpa using hi)
   exact⟨abD,by simpa[ry]using al,aL⟩
theorem Ev {n:Nat}{t:J}(h:t.nw n=true){id:Nat}(ar:t.kO id):id<n:=by
 cases t with
 |vec j=>obtain rfl:j=id:=ar;have:j+1<=n:=by simpa[J.nw,Nat.blt]using h
         omega
 |ptr j x=>obtain rfl:j=id:=ar;have:j+1<=n:=by simpa[J.nw,Nat.blt]using h
           omega
 |optr j x y=>obtain rfl:j=id:=ar;have:j+1<=n:=by simpa[J.nw,Nat.blt]using h
              omega
 |oat j x y=>obtain rfl:j=id:=ar;have:j+1<=n:=by simpa[J.nw,Nat.blt]using h
             omega
 |mp j=>obtain rfl:j=id:=ar;have:j+1<=n:=by simpa[J.nw,Nat.blt]using h
        omega
 |tail j x=>obtain rfl:j=id:=ar;have:j+1<=n:=by simpa[J.nw,Nat.blt]using h
            omega
 |_=>exact ar.elim
theorem ND {t:J}{id:Nat}(U:∀l,t≠ .agg l)(aa:∀l,t≠ .tup l)(ar:t.names id):t.kO id:=by
 cases t with
 |agg l=>exact absurd rfl (U l)
 |tup l=>exact absurd rfl (aa l)
 |_=>exact ar
theorem Wc {n:Nat}{t:J}(U:∀l,t≠ .agg l):t.under n=t.nw n:=by
 cases t with
 |agg l=>exact absurd rfl (U l)
 |_=>rfl
theorem Wd {t:J}(U:∀l,t≠ .agg l)(aa:∀n r,t≠ .rw n r):t.plain=t.qe:=by
 cases t with
 |agg l=>exact absurd rfl (U l)
 |rw n r=>exact absurd rfl (aa n r)
 |_=>rfl
theorem Uh {n:Nat}{t:J}(h:t.under n=true){id:Nat}(ar:t.names id):id<n:=by
 cases t with
 |agg l=>
  obtain⟨i,hi,ar⟩:=ar
  simp only[J.under]at h
  rw[eW,asH]at h
  have e:l.getD i .un=l[i]:=by simp[ass,hi]
  rw[e]at ar
  exact Ev (h _ (atw hi)) ar
 |tup l=>simp[J.under,J.nw]at h
 |_=>rw[Wc (by simp)]at h;exact Ev h (ND (by simp) (by simp) ar)
theorem z6 {t:J}(h:t.qe=true){id:Nat}(ar:t.kO id):False:=by
 cases t<;>simp only[J.kO]at ar<;>simp[J.qe]at h
theorem LY {t:J}(h:t.plain=true){id:Nat}(ar:t.names id):False:=by
 cases t with
 |agg l=>
  obtain⟨i,hi,ar⟩:=ar
  simp only[J.plain]at h
  rw[eW,asH]at h
  have e:l.getD i .un=l[i]:=by simp[ass,hi]
  rw[e]at ar
  exact z6 (h _ (atw hi)) ar
 |tup l=>simp[J.plain,J.qe]at h
 |rw n r=>exact ar
 |_=>rw[Wd (by simp) (by simp)]at h;exact z6 h (ND (by simp) (by simp) ar)
theorem Fo {v v0:J}(h:v.s6 v0=true):v=v0:=by
 unfold J.s6 at h
 split at h<;>try rfl
 ·rw[ast h]
 ·rw[asD]at h;rw[ast h.1,ast h.2]
 ·rw[asD]at h;rw[ast h.1,ast h.2]
 ·rw[ast h]
 ·rw[ast h]
 ·cases h
theorem Ui {eu:List Loc}{cx:aB}{cz:World}{gX:List J}{a1 a:Act}{tm:List J}(n:Nat)(wr:Tmp->Bool)(h:b4 N ρ own w)(aA:dC (aI N ρ own) w ρ own tm a.tmps)
 (aaO:dC (aI N eu cx) cz eu cx gX a1.tmps) (ey:∀t,wr t=false->a.tmps.getD t undef=a1.tmps.getD t undef):
 ∀(cB:List (Tmp×ui)) (k:c_ (kN cB)->Prop),re n wr own gX cB tm k->
  ∃x,k x/\∀(Z':Nat->Prop) (ρ':List Loc) (own':aB),(∀y u,Reads (aI N ρ own) w y u->Reads Z' w y u)->(∀y u,Reads (aI N eu cx) cz y u->Reads Z' w y u)->
   (∀id,id<n->eg ρ own ρ' own' id)->∀base,dC Z' w ρ' own' base a.tmps->dC Z' w ρ' own' (sY gX cB x base) a.tmps:=by
 intro cB
 induction cB with
 |nil=>intro k ab;exact⟨(),ab,fun Z' ρ' own' _ _ _ base ae=>ae⟩
 |cons p r bA=>
  intro k ab
  obtain⟨t,abE⟩:=p
  have HN:∀{Z':Nat->Prop} {ρ':List Loc} {own':aB} {base:List J} {v:J},dC Z' w ρ' own' base a.tmps->bz Z' w ρ' own' v (a.tmps.getD t undef)->dC Z' w ρ' own' (cH base t v) a.tmps:=by
   intro Z' ρ' own' base v ae aM
   refine⟨by rw[ep];simpa using ae.size,fun i=> ?_⟩
   rw[ep,ef]
   split
   ·rename_i e;rw[<-e.1];exact aM
   ·exact ae.at_ i
  have cg:bz (aI N ρ own) w ρ own (bT .un tm t) (a.tmps.getD t undef):=by rw[dp];exact aA.at_ t
  cases abE with
  |bS s=>
   simp only[re]at ab
   rw[gr]at ab
   obtain⟨ay,ab⟩:=ab
   obtain⟨y,U,aa⟩:=LX h s ay
   have aa:=aa _ cg
   obtain⟨x,aU,a_⟩:=bA _ ab
   refine⟨((s.qn own (bT .un tm t)).2,x),aU,fun Z' ρ' own' ak lQ ao base ae=> ?_⟩
   exact HN (a_ Z' ρ' own' ak lQ ao base ae) (by rw[U];exact .cM (ak _ _ aa))
  |agg cs=>
   simp only[re]at ab
   split at ab
   ·rename_i aG jS
    rw[jS]at cg
    obtain⟨arr,U,aa,al⟩:=cg
    obtain⟨xs,q1,cb,cu⟩:=Em h cs aG _ ab
    have cu:=cu (fun i=>arr.getD i undef) al
    obtain⟨x,aU,a_⟩:=bA _ q1
    refine⟨c_.append cs (kN r) xs x,aU,fun Z' ρ' own' ak lQ ao base ae=> ?_⟩
    simp only[sY,c_.Al,c_.z1]
    refine HN (a_ Z' ρ' own' ak lQ ao base ae) (.gB ⟨arr,U,by rw[aa,cb],fun i hi=> ?_⟩)
    rw[cb]at hi
    obtain⟨y,aL,bo⟩:=cu i hi
    rw[aL];exact ak _ _ bo
   ·exact ab.elim
  |e1=>
   simp only[re]at ab
   split at ab
   ·rename_i zj
    obtain⟨x,aU,a_⟩:=bA _ ab
    refine⟨x,aU,fun Z' ρ' own' ak lQ ao base ae=> ?_⟩
    simp only[sY]
    refine HN (a_ Z' ρ' own' ak lQ ao base ae) ?_
    unfold Qj at zj
    split at zj
    ·cases zj
    ·rename_i hu
     split at zj
     ·rename_i hw aw
      rw[ey t hw]
      have yw:bz (aI N eu cx) cz eu cx (bT .un gX t) (a1.tmps.getD t undef):=by rw[dp];exact aaO.at_ t
      exact yw.mono lQ fun id ar=>(LY aw ar).elim
     ·have:=Fo zj
      rw[<-this]at hu⊢
      exact cg.mono ak fun id ar=>ao id (Uh hu ar)
   ·exact ab.elim
theorem uJ (et:aB):∀(os:List sd) (i:Nat) (x:c_ (jJ os)),(lB et os i x).length=os.length
 |[],_,_=>rfl
 | .e1::r,i,x=>asQ (·+1) (uJ et r (Nat.succ i) x)
 | .ints _::r,i,(_,x)=>asQ (·+1) (uJ et r (Nat.succ i) x)
 | .rows _::r,i,(_,x)=>asQ (·+1) (uJ et r (Nat.succ i) x)
 | .map _ _::r,i,(_,x)=>asQ (·+1) (uJ et r (Nat.succ i) x)
 | .cells cs::r,i,x=>asQ (·+1) (uJ et r (Nat.succ i) (c_.right cs (jJ r) x))
structure qs (n:Nat)(N:Nat->Prop)(ρ:List Loc)(own:aB)(w:World)(i:Nat)(l:aB):Prop where
 Ek:∀m,m<l.length->frozenAt l m=frozenAt own (i+m)
 aj:∀m,m<l.length->(ad.at l m).len=(ad.at own (i+m)).len/\(ad.at l m).ch=(ad.at own (i+m)).ch
 I6:∀m,m<l.length->frozenAt l m=true->ad.at l m=ad.at own (i+m)
 rd:∀m,m<l.length->∀(Z':Nat->Prop) (ρ':List Loc) (own':aB) (loc:Loc),(∀y u,Reads (aI N ρ own) w y u->Reads Z' w y u)->(∀id,id<n->eg ρ own ρ' own' id)->
  hD (aI N ρ own) w ρ own loc (ad.at own (i+m))->hD Z' w ρ' own' loc (ad.at l m)
theorem qs.cons {n:Nat}{i:Nat}{p:Bool×ad}{l:aB}(U:p.1=frozenAt own i)(aL:p.1=true->p.2=ad.at own i)(aa:p.2.len=(ad.at own i).len/\p.2.ch=(ad.at own i).ch)
 (al:∀(Z':Nat->Prop) (ρ':List Loc) (own':aB) (loc:Loc),(∀y u,Reads (aI N ρ own) w y u->Reads Z' w y u)->(∀id,id<n->eg ρ own ρ' own' id)->
   hD (aI N ρ own) w ρ own loc (ad.at own i)->hD Z' w ρ' own' loc p.2) (h:qs n N ρ own w (i+1) l):qs n N ρ own w i (p::l)where
 Ek:=fun m hm=>by
  cases m with
  |zero=>exact U
  |succ m=>rw[show i+(m+1)=i+1+m by omega];exact h.Ek m (by simpa using hm)
 aj:=fun m hm=>by
  cases m with
  |zero=>exact aa
  |succ m=>rw[show i+(m+1)=i+1+m by omega];exact h.aj m (by simpa using hm)
 I6:=fun m hm=>by
  cases m with
  |zero=>exact aL
  |succ m=>rw[show i+(m+1)=i+1+m by omega];exact h.I6 m (by simpa using hm)
 rd:=fun m hm=>by
  cases m with
  |zero=>exact al
  |succ m=>rw[show i+(m+1)=i+1+m by omega];exact h.rd m (by simpa using hm)
theorem We {cx:aB}(n:Nat)(h:b4 N ρ own w):∀(os:List sd) (i:Nat) (k:c_ (jJ os)->Prop),nv n cx os i own k->
 ∃x,k x/\qs n N ρ own w i (lB cx os i x):=by
 intro os
 induction os with
 |nil=>intro i k ab;exact⟨(),ab,⟨fun m hm=>by simp[lB]at hm,fun m hm=>by simp[lB]at hm,fun m hm=>by simp[lB]at hm,fun m hm=>by simp[lB]at hm⟩⟩
 |cons o r bA=>
  intro i k ab
  have b1:∀{f:Bool} {ob:ad},bT (true, .gone) own i=(f,ob)->ad.at own i=ob/\frozenAt own i=f:=fun h=>by simp[ad.at,frozenAt,h]
  cases o with
  |e1=>
   simp only[nv]at ab
   split at ab
   ·rename_i hu
    obtain⟨he,ab⟩:=ab
    obtain⟨x,aU,a_⟩:=bA (i+1) _ ab
    refine⟨x,aU,qs.cons (by rw[<-he];rfl) (fun _=>by rw[<-he];rfl) (by rw[<-he];exact⟨rfl,rfl⟩) (fun Z' ρ' own' loc ak ao aH=> ?_) a_⟩
    rw[<-he]at hu⊢
    refine aH.mono (fun _ _=>rfl) ak (fun l aq zx id mj ar=>ao id ?_)
    have ia:(bT (true,ad.gone) own i).2= .cells l:=aq
    rw[ia]at hu
    simp only[ad.under]at hu
    rw[eW,asH]at hu
    have e:l.getD zx .un=l[zx]:=by simp[ass,mj]
    rw[e]at ar
    exact Ev (hu _ (atw mj)) ar
   ·exact ab.elim
  |ints k7=>
   simp only[nv]at ab
   split at ab
   ·rename_i aU l aq
    split at ab
    ·rename_i mj
     obtain rfl:=iS.1 mj
     obtain⟨x,q1,cb⟩:=bA (i+1) _ ab
     obtain⟨an,az⟩:=b1 aq
     refine⟨(l,x),q1,qs.cons az.symm (fun h=>by cases h) (by rw[an];exact⟨rfl,rfl⟩) (fun Z' ρ' own' loc ak ao aH=> ?_) cb⟩
     rw[an]at aH
     exact aH.mono (fun _ _=>rfl) ak (fun l aq=>by cases aq)
    ·exact ab.elim
   ·exact ab.elim
  |rows oJ=>
   simp only[nv]at ab
   split at ab
   ·rename_i s1 l aq
    split at ab
    ·rename_i mj
     obtain rfl:=ast mj
     obtain⟨x,q1,cb⟩:=bA (i+1) _ ab
     obtain⟨an,az⟩:=b1 aq
     refine⟨(l,x),q1,qs.cons az.symm (fun h=>by cases h) (by rw[an];exact⟨rfl,rfl⟩) (fun Z' ρ' own' loc ak ao aH=> ?_) cb⟩
     rw[an]at aH
     exact aH.mono (fun _ _=>rfl) ak (fun l aq=>by cases aq)
    ·exact ab.elim
   ·exact ab.elim
  |map su oJ=>
   simp only[nv]at ab
   split at ab
   ·rename_i ec s1 l aq
    split at ab
    ·rename_i aaP mj
     obtain rfl:=ast aaP
     obtain rfl:=ast mj
     obtain⟨x,q1,cb⟩:=bA (i+1) _ ab
     obtain⟨an,az⟩:=b1 aq
     refine⟨(l,x),q1,qs.cons az.symm (fun h=>by cases h) (by rw[an];exact⟨rfl,rfl⟩) (fun Z' ρ' own' loc ak ao aH=> ?_) cb⟩
     rw[an]at aH
     exact aH.mono (fun _ _=>rfl) ak (fun l aq=>by cases aq)
    ·exact ab.elim
   ·exact ab.elim
  |cells cs=>
   simp only[nv]at ab
   split at ab
   ·rename_i aG aq
    obtain⟨an,az⟩:=b1 aq
    obtain⟨xs,q1,cb,cu⟩:=Em h cs aG _ ab
    obtain⟨x,aU,a_⟩:=bA (i+1) _ q1
    refine⟨c_.append cs (jJ r) xs x,aU, ?_⟩
    simp only[lB,c_.Al,c_.z1]
    refine qs.cons az.symm (fun h=>by cases h) (by rw[an];exact⟨cb,rfl⟩) (fun Z' ρ' own' loc ak ao aH=> ?_) a_
    rw[an]at aH
    obtain⟨ee,Zp,aaQ,dt,dD,iD,qX,ug⟩:=aH
    refine⟨ee,Zp,aaQ,dt,dD,iD,by rw[cb];exact qX,fun m hm=> ?_⟩
    rw[cb]at hm
    obtain⟨y,d1,d2⟩:=cu _ ug m hm
    rw[d1];exact ak _ _ d2
   ·exact ab.elim
end
end Go.bG
end
section
namespace Go.bG
theorem u5 {α:Type}(ρ:List α)(n:Nat)(d:α)(i:Nat)(l:α)(h:((ρ.take n)++List.replicate (n-ρ.length) d)[i]? =some l):
 i<n/\(ρ[i]? =some l\/(ρ.length<=i/\l=d)):=by
 rw[asS]at h
 split at h
 ·rename_i hi
  simp only[asW]at hi
  rw[ath]at h
  split at h
  ·rename_i ar;exact⟨ar, .inl h⟩
  ·cases h
 ·rename_i hi
  simp only[asW]at hi h
  rw[atN]at h
  split at h
  ·rename_i ar
   refine⟨by omega, .inr ⟨by omega,(asB h).symm⟩⟩
  ·cases h
theorem X0 {α:Type}(ρ:List α)(n:Nat)(d:α)(i:Nat)(l:α)(hi:i<n)(h:ρ[i]? =some l):((ρ.take n)++List.replicate (n-ρ.length) d)[i]? =some l:=by
 obtain⟨U,aa⟩:=atg.1 h
 rw[atp (by simp;omega),ath,asq hi,h]
theorem Xe (Z:Nat->Prop)(w:World)(ρ:List Loc)(own:aB)(n:Nat)(tmps:Array Value)(h:tmps.size=n):dC Z w ρ own (tx .any n) tmps:=by
 refine⟨by rw[Gl];simpa using h,fun t=> ?_⟩
 rw[Gl]
 by_cases aA:t<n
 ·have:(List.replicate n J.any).getD t .un= .any:=by simp[ass,aA]
  rw[this];trivial
 ·have:(List.replicate n J.any).getD t .un= .un:=by simp[ass,aA]
  rw[this,asA,Array.getElem?_eq_none (by omega)]
  rfl
theorem EV {N:Nat->Prop}{eu ρ:List Loc}{fI S:j7}{a1 a:Act}{cz w:World}(wr:Tmp->Bool)(h:Head)(k:c_ h.ps->Prop)
 (gb:eT N eu fI.tm fI.own a1 cz) (ao:eT N ρ S.tm S.own a w) (aQ:Fr eu fI.own cz ρ S.own w) (ey:∀t,wr t=false->a.tmps.getD t undef=a1.tmps.getD t undef)
 (ca:a.tmps.size=a1.tmps.size) (ab:xd wr h fI S k):
 ∃x,k x/\∃ρ',eT N ρ' (qf h fI x).tm (qf h fI x).own a w/\Fr ρ S.own w ρ' (qf h fI x).own w:=by
 unfold xd at ab
 obtain⟨xs,ab,Qq⟩:=Ui (a1:=a1) (a:=a) (bN h.own) wr ao.eJ ao.eD gb.eD ey h.od _ ab
 obtain⟨zE,ab,eZ⟩:=We (bN h.own) ao.eJ h.own 0 _ ab
 have aq:(c_.left (kN h.od) (jJ h.own) (c_.append (kN h.od) (jJ h.own) xs zE))=xs:=c_.Al _ _ _ _
 have ak:(c_.right (kN h.od) (jJ h.own) (c_.append (kN h.od) (jJ h.own) xs zE))=zE:=c_.z1 _ _ _ _
 refine⟨_,ab,ρ.take h.own.length++List.replicate (h.own.length-ρ.length) ⟨none,0,none⟩, ?_⟩
 have hlen:(lB fI.own h.own 0 zE).length=h.own.length:=uJ _ _ _ _
 unfold qf
 simp only[aq,ak]
 generalize lB fI.own h.own 0 zE=own' at eZ hlen⊢
 rw[cf]at Qq eZ
 have lM:∀id,id<h.own.length->eg ρ S.own (ρ.take h.own.length++List.replicate (h.own.length-ρ.length) ⟨none,0,none⟩) own' id:=fun id de loc dg=>by
  refine⟨X0 _ _ _ _ _ de dg, ?_⟩
  have:=eZ.aj id (by omega)
  simpa using this
 have iu:∀b,fU (ρ.take h.own.length++List.replicate (h.own.length-ρ.length) ⟨none,0,none⟩) own' b->fU ρ S.own b:=fun b ⟨i,loc,an,az,bK⟩=>by
  obtain⟨hi,e|⟨_,e⟩⟩:=u5 _ _ _ _ _ an
  ·have:=eZ.Ek i (by omega)
   rw[as0]at this
   exact⟨i,loc,e,az,by rw[<-this];exact bK⟩
  ·rw[e]at az;cases az
 have cr:Fr ρ S.own w (ρ.take h.own.length++List.replicate (h.own.length-ρ.length) ⟨none,0,none⟩) own' w:=
  ⟨rfl,rfl,rfl,asz _,fun _ _ _=>rfl,fun b ae=> .inl (iu b ae)⟩
 have rR:∀y u,Reads (aI N ρ S.own) w y u->Reads (aI N (ρ.take h.own.length++List.replicate (h.own.length-ρ.length) ⟨none,0,none⟩) own') w y u:=fun _ _=>cr.reads
 have Ys:∀y u,Reads (aI N eu fI.own) cz y u->Reads (aI N (ρ.take h.own.length++List.replicate (h.own.length-ρ.length) ⟨none,0,none⟩) own') w y u:=fun _ _=>(aQ.trans cr).reads
 refine⟨⟨?_, ?_,ao.iR⟩,cr⟩
 ·refine{len:=by simp[hlen];omega,fE:=ao.eJ.fE,lt:=fun i loc b an az=> ?_,inj:=fun i j li b9 b an az bK cm s1 s2=> ?_,fr:=fun i loc b an az=> ?_,ob:=fun i loc an=> ?_}
  ·obtain⟨_,e|⟨_,e⟩⟩:=u5 _ _ _ _ _ an
   ·exact ao.eJ.lt i loc b e az
   ·rw[e]at az;cases az
  ·obtain⟨_,e|⟨_,e⟩⟩:=u5 _ _ _ _ _ an
   ·obtain⟨_,cd|⟨_,cd⟩⟩:=u5 _ _ _ _ _ az
    ·have back:∀i,i<own'.length->¬gE own' i->¬gE S.own i:=fun i hi ar ⟨f,n,aj,q⟩=>by
      have SL:frozenAt own' i=true:=by have:=eZ.Ek i hi;rw[as0]at this;rw[this];exact f
      have:=eZ.I6 i hi SL
      rw[as0]at this
      exact ar ⟨SL,n,aj,by rw[this];exact q⟩
     exact ao.eJ.inj i j li b9 b e cd bK cm (back i (by omega) s1) (back j (by omega) s2)
    ·rw[cd]at cm;cases cm
   ·rw[e]at bK;cases bK
  ·obtain⟨_,e|⟨_,e⟩⟩:=u5 _ _ _ _ _ an
   ·exact ao.eJ.fr i loc b e az
   ·rw[e]at az;cases az
  ·obtain⟨hi,e⟩:=u5 _ _ _ _ _ an
   refine eZ.rd i (by omega) _ _ own' loc rR lM ?_
   rw[as0]
   rcases e with e|⟨e,_⟩
   ·exact ao.eJ.ob i loc e
   ·have:ad.at S.own i= .gone:=by
     have aq:=ao.eJ.len
     simp only[ad.at,dp,ass]
     rw[as5 (by omega)]
     rfl
    rw[this];trivial
 ·refine Qq _ _ own' rR Ys lM _ ?_
  rw[cf]
  exact Xe _ _ _ _ _ _ (by rw[ca];exact gb.eD.size)
theorem MG {N:Nat->Prop}{a:Act}{w:World}{ρ:List Loc}{S:j7}(id:Nat)(h:eT N ρ S.tm S.own a w):eT N ρ S.tm (en S.own id) a w/\Fr ρ S.own w ρ (en S.own id) w:=by
 have ct:Step N ρ S.own w ρ (en S.own id) w:=by unfold en;rw[ep];exact Step.shut h.eJ id
 exact⟨⟨ct.rel,h.eD.step ct,h.iR⟩,ct.toFr⟩
theorem AO {N:Nat->Prop}{a:Act}{w:World}:∀(c:List (Tmp×b0)) (S:j7) (ρ:List Loc),eT N ρ S.tm S.own a w->
 eT N ρ (o1 c S).tm (o1 c S).own a w/\Fr ρ S.own w ρ (o1 c S).own w
 |[],S,ρ,h=>⟨h,Fr.refl _ _ _⟩
 |(t,s)::r,S,ρ,h=>by
  unfold o1
  split
  ·rename_i id he
   obtain⟨U,aa⟩:=MG id h
   obtain⟨aU,a_⟩:=AO r ⟨S.tm,en S.own id⟩ ρ U
   exact⟨aU,aa.trans a_⟩
  ·exact AO r S ρ h
theorem uC {N:Nat->Prop}{a:Act}{w:World}:∀(c:List (Tmp×b0)) (S:j7) (ρ:List Loc),eT N ρ S.tm S.own a w->
 ∃ρ',eT N ρ' (lY c S).tm (lY c S).own a w/\Fr ρ S.own w ρ' (lY c S).own w
 |[],S,ρ,h=>⟨ρ,h,Fr.refl _ _ _⟩
 |(t,s)::r,S,ρ,h=>by
  unfold lY
  split
  ·rename_i id he
   obtain⟨U,aa⟩:=MG id h
   obtain⟨ρ',aU,a_⟩:=uC r ⟨S.tm,en S.own id⟩ ρ U
   exact⟨ρ',aU,aa.trans a_⟩
  ·exact uC r S ρ h
  ·rename_i s _ _ he _
   have cg:=h.eD.at_ t
   rw[<-dp,he]at cg
   obtain⟨x,af⟩:=cg
   have key:∀(ob:ad),(ob= .gone\/(∃k,ob= .ints k [])\/∃aj,ob= .rows aj [])->Step N ρ S.own w (ρ++[⟨x,0,none⟩]) (S.own++[(false,ob)]) w:=by
    intro ob aH
    exact Step.nil h.eJ false _ x aH
   have b1:sZ s= .gone\/(∃k,sZ s= .ints k [])\/∃aj,sZ s= .rows aj []:=by
    cases s with
    |sints k=>exact .inr (.inl ⟨k,rfl⟩)
    |srows aj=>exact .inr (.inr ⟨aj,rfl⟩)
    |_=>exact .inl rfl
   have ct:=key _ b1
   have YZ:(sZ s).len=0:=by cases s<;>rfl
   have gS:eT N (ρ++[⟨x,0,none⟩]) (cH S.tm t (.vec (bN S.own))) (dV S.own [(false,sZ s)]) a w:=by
    rw[fu]
    refine⟨ct.rel,⟨by rw[ep];simpa using h.eD.size,fun i=> ?_⟩,h.iR⟩
    rw[ep,ef]
    split
    ·rename_i e
     rw[<-e.1,af]
     refine .cM ⟨⟨x,0,none⟩,by rw[cf,<-h.eJ.len];simp, ?_⟩
     rw[gw,cf,asq rfl,YZ];exact⟨rfl,fun _=>rfl⟩
    ·exact(h.eD.step ct).at_ i
   obtain⟨ρ',aU,a_⟩:=uC r ⟨cH S.tm t (.vec (bN S.own)),dV S.own [(false,sZ s)]⟩ _ gS
   refine⟨ρ',aU,Fr.trans ?_ a_⟩
   rw[fu];exact ct.toFr
  ·exact uC r S ρ h
end Go.bG
end
section
namespace Go.bG
theorem least (p:Nat->Prop):∀n,p n->∃n,p n/\∀k,p k->n<=k:=by
 intro n
 induction n using Nat.strongRecOn with
 |_ n bA=>
  intro ar
  rcases Classical.em (∃k,k<n/\p k)with⟨k,ab,aw⟩|h
  ·exact bA k ab aw
  ·exact⟨n,ar,fun k ab=>Nat.le_of_not_lt fun bB=>h ⟨k,bB,ab⟩⟩
open Classical in
theorem KS {P:Program}{Q:Exit->Act->World->Prop}{a:Act}{w:World}{c:Code}{α:Type}(aD:α->Act->World->Prop)(m:α->Nat)(El:α)(aE:aD El a w)
 (round:∀x a w,aD x a w->c.wp P (Exit.then (fun cI w'=>∃y,aD y cI w'/\m y<m x) Q) a w):(Code.loop c).wp P Q a w:=by
 have hex:∀a w,(∃x,aD x a w)->∃n,(∃x,aD x a w/\m x=n)/\∀k,(∃x,aD x a w/\m x=k)->n<=k:=fun a w ⟨x,af⟩=>least _ _ ⟨x,af,rfl⟩
 let zF:Act->World->Nat:=fun a w=>if h:∃x,aD x a w then Classical.choose (hex a w h)else 0
 have hle:∀y a w,aD y a w->zF a w<=m y:=fun y a w a6=>by
  have h:∃x,aD x a w:=⟨y,a6⟩
  simp only[zF,dif_pos h]
  exact(Classical.choose_spec (hex a w h)).2 _ ⟨y,a6,rfl⟩
 have cg:∀a w,(∃x,aD x a w)->∃x,aD x a w/\m x=zF a w:=fun a w h=>by
  simp only[zF,dif_pos h]
  exact(Classical.choose_spec (hex a w h)).1
 refine wp_loop (fun a w=>∃x,aD x a w) zF ⟨El,aE⟩ fun a w fH=> ?_
 obtain⟨x,af,hm⟩:=cg a w fH
 refine wp_mono (round x a w af) fun e cI w' h=> ?_
 cases e with
 |normal=>
  obtain⟨y,a6,bB⟩:=h
  exact⟨⟨y,a6⟩,hm▸at7 (hle y cI w' a6) bB⟩
 |_=>exact h
def mK.to:mK->Exit
 | .normal=> .normal
 | .exit i=> .exit i
 | .goto l=> .goto l
 | .ret=> .ret
theorem Fp:∀(cB:List b0) (f:c_ cB->Prop),C6 cB f->∀x,f x
 |[],_,h,()=>h
 |_::cB,f,h,(x,r)=>Fp cB (fun r=>f (x,r)) (h x) r
section
variable {P:Program} {N:Nat->Prop}
theorem mO.weaken {ρ eu:List Loc}{own cx:aB}{a a1 cI:Act}{w cz w':World}{wr R9:Tmp->Bool}{K K':List J->aB->Prop}(h:mO N eu cx a1 cz R9 K cI w')
 (aQ:Fr ρ own w eu cx cz) (ao:∀t,wr t=false->R9 t=false/\a1.tmps.getD t undef=a.tmps.getD t undef) (ca:a1.tmps.size=a.tmps.size)
 (ab:∀tm own,K tm own->K' tm own):mO N ρ own a w wr K' cI w':=by
 obtain⟨dL,own',ρ',aU,a_,bF⟩:=h.ex
 exact⟨⟨dL,own',ρ',ab _ _ aU,a_,aQ.trans bF⟩,fun t aA=>(h.same t (ao t aA).1).trans (ao t aA).2,h.aj.trans ca⟩
theorem Nl {ρ:List Loc}{S:j7}{a:Act}{w:World}(ao:eT N ρ S.tm S.own a w)(c:Operand):bz (aI N ρ S.own) w ρ S.own (aS S.tm c) (a.eval c):=dK ao.eD c
structure hT (P:Program)(E:Env):Prop where
 ty:∀t,cE P t (E.tb t)=true
 more:∀t,o2 P E.tb t=true
 oC:∀f args own K,E.bd f args own K->oY P f (E.bd f)
 ok:∀f args own K,E.bd f args own K->fw (E.bd f)
 mixed:P.follows .mixedOrders=true
 data:qh E.kind E.bd
theorem E8 (E:Env)(dj:hT P E)(c:Code):
 ∀(bO:Nat) (S:j7) (K:mK->j7->Prop) (a:Act) (w:World) (ρ:List Loc),ht E c bO S K->eT N ρ S.tm S.own a w->
  c.wp P (fun e cI w'=>∃cd:mK,e=cd.to/\mO N ρ S.own a w (Code.gv c) (fun tm own=>K cd ⟨tm,own⟩) cI w') a w:=by
 obtain⟨bj,D1,dz,abF,ic,nN⟩:=dj
 have self:∀{ρ:List Loc} {S:j7} {a:Act} {w:World} {wr:Tmp->Bool} {K:j7->Prop},eT N ρ S.tm S.own a w->K S->mO N ρ S.own a w wr (fun tm own=>K ⟨tm,own⟩) a w:=
  fun{ρ S a w wr K} ao ab=>⟨⟨S.tm,S.own,ρ,ab,ao,Fr.refl _ _ _⟩,fun _ _=>rfl,rfl⟩
 induction c with
 |skip=>intro bO S K a w ρ h ao;exact wp_skip ⟨.normal,rfl,self ao h⟩
 |label l=>intro bO S K a w ρ h ao;exact wp_label ⟨.normal,rfl,self ao h⟩
 |exit id=>intro bO S K a w ρ h ao;exact wp_exit ⟨.exit id,rfl,self ao h⟩
 |goto l=>intro bO S K a w ρ h ao;exact wp_goto ⟨.goto l,rfl,self ao h⟩
 |ret=>intro bO S K a w ρ h ao;exact wp_ret ⟨.ret,rfl,self ao h⟩
 |region id ops draw=>
  intro bO S K a w ρ h ao
  cases draw with
  |false=>
   have h:c6 E.tb E.bd [] ops.toList ops.toList S.tm S.own (fun tm own=>K .normal ⟨tm,own⟩):=h
   refine wp_region (sD (fun e cI w' b2=> ?_) _ _ _ (E7 bj D1 dz [] ops (fun i j o p d e id _ _ _ _ h=>by cases h) _ (List.range ops.size) (fun i hi=>by simpa using hi) List.nodup_range S.tm S.own a w ρ (fun i _ o d id _ _ h=>by cases h) (by rw[PG];exact h) ao))
   obtain⟨rfl,aw⟩:=b2
   exact⟨.normal,rfl,aw⟩
  |true=>
   have ay:xl E.tb ops.toList=true:=by
    cases af:xl E.tb ops.toList with
    |true=>rfl
    |false=>simp only[ht,af]at h
   have h:ft E.tb E.bd E.kind (sP (n2 E.tb ops.toList) (bN S.own)) ops.toList (sX ops.toList []) [] (indexed ops.toList 0) S.tm (dV S.own (tx (false, .gone) (bN (n2 E.tb ops.toList)))) fun tm own=>K .normal ⟨tm,own⟩:=by
    simp only[ht,ay]at h;exact h
   refine wp_region_draw fun t=> ?_
   obtain⟨DC,hi,ze,ab⟩:=drawn (tb:=E.tb) nN abF ay _ rfl (P.follows .mixedOrders) ic t
   have ct:Step N ρ S.own w ρ S.own {w with drawn:=w.drawn+1}:=Step.drew ao.eJ rfl rfl rfl rfl
   have aaR:=NA (bN (n2 E.tb ops.toList)) _ _ ct.rel
   have x4:=ct.trans aaR
   rw[fu,Gl]at h
   have Y0:yv (sP (n2 E.tb ops.toList) (bN S.own)) ops (Region.schedule (P.follows .mixedOrders) ops t) (ρ++List.replicate (bN (n2 E.tb ops.toList)) o3):=by
    intro i _ o d id _ _ aL
    obtain⟨_,g1,g2,_⟩:=zZ _ _ _ _ aL
    rw[cf]at g1 g2
    have aq:=ao.eJ.len
    rw[atC (by omega),atN,asq (by rw[cf];omega)]
   refine sD (fun e cI w' b2=> ?_) _ _ _ (E7 bj D1 dz _ ops DC _ _ hi ze S.tm _ a {w with drawn:=w.drawn+1} _ Y0 (ab _ _ _ h) ⟨x4.rel,ao.eD.step x4,ao.iR⟩)
   obtain⟨rfl,aw⟩:=b2
   exact⟨.normal,rfl,aw.weaken x4.toFr (fun _ aA=>⟨aA,rfl⟩) rfl fun _ _ h=>h⟩
 |seq x y qN qO=>
  intro bO S K a w ρ h ao
  have lK:∀t,Code.gv (.seq x y) t=false->Code.gv x t=false/\Code.gv y t=false:=fun t aA=>by
   simpa[Code.gv,Bool.or_eq_false_iff]using aA
  unfold ht at h
  split at h
  ·refine wp_seq (wp_mono (qN bO S _ a w ρ h ao) fun e a1 cz b2=> ?_)
   obtain⟨cd,rfl,aw⟩:=b2
   cases cd with
   |normal=>
    obtain⟨gX,cx,eu,aU,a_,bF⟩:=aw.ex
    refine wp_mono (qO bO ⟨gX,cx⟩ K a1 cz eu aU a_) fun e a2 dO b2=> ?_
    obtain⟨cd,rfl,IJ⟩:=b2
    exact⟨cd,rfl,IJ.weaken bF (fun t aA=>⟨(lK t aA).2,aw.same t (lK t aA).1⟩) aw.aj fun _ _ h=>h⟩
   |exit i=>exact⟨.exit i,rfl,aw.weaken (Fr.refl _ _ _) (fun t aA=>⟨(lK t aA).1,rfl⟩) rfl fun _ _ h=>h⟩
   |goto l=>exact⟨.goto l,rfl,aw.weaken (Fr.refl _ _ _) (fun t aA=>⟨(lK t aA).1,rfl⟩) rfl fun _ _ h=>h⟩
   |ret=>exact⟨.ret,rfl,aw.weaken (Fr.refl _ _ _) (fun t aA=>⟨(lK t aA).1,rfl⟩) rfl fun _ _ h=>h⟩
  ·rename_i aP aK
   obtain⟨a8,U,aa⟩:=h
   obtain⟨IK,ev,sj⟩:=uC aP.conv S ρ ao
   refine wp_seq (wp_mono (qN bO _ _ a w IK U ev) fun e a1 cz b2=> ?_)
   obtain⟨cd,rfl,aw⟩:=b2
   cases cd with
   |normal=>
    obtain⟨gX,cx,eu,aU,a_,bF⟩:=aw.ex
    obtain⟨g1,g2⟩:=AO aP.conv ⟨gX,cx⟩ eu a_
    obtain⟨z,bc,fg,k1,qT⟩:=EV (S:=o1 aP.conv ⟨gX,cx⟩) _ aP _ ev g1 (bF.trans g2) aw.same aw.aj aU
    refine wp_mono (qO bO _ K a1 cz fg (Fp _ _ aa z bc) k1) fun e a2 dO b2=> ?_
    obtain⟨cd,rfl,IJ⟩:=b2
    exact⟨cd,rfl,IJ.weaken (sj.trans ((bF.trans g2).trans qT)) (fun t aA=>⟨(lK t aA).2,aw.same t (lK t aA).1⟩) aw.aj fun _ _ h=>h⟩
   |exit i=>exact⟨.exit i,rfl,aw.weaken sj (fun t aA=>⟨(lK t aA).1,rfl⟩) rfl fun _ _ h=>h⟩
   |goto l=>exact⟨.goto l,rfl,aw.weaken sj (fun t aA=>⟨(lK t aA).1,rfl⟩) rfl fun _ _ h=>h⟩
   |ret=>exact⟨.ret,rfl,aw.weaken sj (fun t aA=>⟨(lK t aA).1,rfl⟩) rfl fun _ _ h=>h⟩
 |cond c x y qN qO=>
  intro bO S K a w ρ h ao
  have lK:∀t,Code.gv (.cond c x y) t=false->Code.gv x t=false/\Code.gv y t=false:=fun t aA=>by
   simpa[Code.gv,Bool.or_eq_false_iff]using aA
  have cg:=Nl ao c
  unfold ht at h
  have sz:∀fI,fI.own=S.own->ht E x bO fI K->eT N ρ fI.tm fI.own a w->x.wp P (fun e cI w'=>∃cd:mK,e=cd.to/\mO N ρ S.own a w (Code.gv (.cond c x y)) (fun tm own=>K cd ⟨tm,own⟩) cI w') a w:=fun fI aH h ao=>by
   refine wp_mono (qN bO fI K a w ρ h ao) fun e cI w' b2=> ?_
   obtain⟨cd,rfl,aw⟩:=b2
   exact⟨cd,rfl,aw.weaken (by rw[aH];exact Fr.refl _ _ _) (fun t aA=>⟨(lK t aA).1,rfl⟩) rfl fun _ _ h=>h⟩
  have SM:∀fI,fI.own=S.own->ht E y bO fI K->eT N ρ fI.tm fI.own a w->y.wp P (fun e cI w'=>∃cd:mK,e=cd.to/\mO N ρ S.own a w (Code.gv (.cond c x y)) (fun tm own=>K cd ⟨tm,own⟩) cI w') a w:=fun fI aH h ao=>by
   refine wp_mono (qO bO fI K a w ρ h ao) fun e cI w' b2=> ?_
   obtain⟨cd,rfl,aw⟩:=b2
   exact⟨cd,rfl,aw.weaken (by rw[aH];exact Fr.refl _ _ _) (fun t aA=>⟨(lK t aA).2,rfl⟩) rfl fun _ _ h=>h⟩
  split at h
  ·rename_i he
   rw[he]at cg
   exact wp_cond_true cg (sz S rfl h ao)
  ·rename_i he
   rw[he]at cg
   exact wp_cond_false cg (SM S rfl h ao)
  ·rename_i b he
   rw[he]at cg
   have ae:=lW cg
   split at h
   ·rename_i t
    have gO:=Cx ao t ae
    cases b with
    |true=>exact wp_cond_true ae (sz ⟨cH S.tm t .bt,S.own⟩ rfl (h.1 rfl) gO)
    |false=>exact wp_cond_false ae (SM ⟨cH S.tm t .bf,S.own⟩ rfl (h.2 rfl) gO)
   ·exact h.elim
  ·exact h.elim
 |block id c bA=>
  intro bO S K a w ρ h ao
  unfold ht at h
  refine wp_block (wp_mono (bA id S _ a w ρ h ao) fun e cI w' b2=> ?_)
  obtain⟨cd,rfl,aw⟩:=b2
  cases cd with
  |normal=>exact⟨.normal,rfl,aw⟩
  |goto l=>exact⟨.goto l,rfl,aw⟩
  |ret=>exact⟨.ret,rfl,aw⟩
  |exit i=>
   simp only at aw
   show(if i=id then _ else _)
   split
   ·rename_i hi
    subst hi
    simp only[ato]at aw
    exact⟨.normal,rfl,aw⟩
   ·rename_i hi
    have:Nat.beq i id=false:=by
     cases ae:Nat.beq i id with
     |false=>rfl
     |true=>exact absurd (ast ae) hi
    simp only[this]at aw
    exact⟨.exit i,rfl,aw⟩
 |loop c bA=>
  intro bO S K a w ρ h ao
  unfold ht at h
  simp only at h
  obtain⟨aD,m,aE,U⟩:=h
  obtain⟨IK,ev,sj⟩:=uC (E.loops bO).conv S ρ ao
  obtain⟨El,lH,eu,gb,IB⟩:=EV (fun _=>false) _ _ ev ev (Fr.refl _ _ _) (fun _ _=>rfl) rfl aE
  refine KS (fun x cI w'=>kZ.app _ aD x/\∃ρ',eT N ρ' (qf (E.loops bO) (lY (E.loops bO).conv S) x).tm (qf (E.loops bO) (lY (E.loops bO).conv S) x).own cI w'/\
   Fr IK (lY (E.loops bO).conv S).own w ρ' (qf (E.loops bO) (lY (E.loops bO).conv S) x).own w'/\(∀t,Code.gv c t=false->cI.tmps.getD t undef=a.tmps.getD t undef)/\cI.tmps.size=a.tmps.size)
   (kZ.app _ m) El ⟨lH,eu,gb,IB,fun _ _=>rfl,rfl⟩ ?_
  rintro x a1 cz ⟨fH,fg,k1,qT,lM,ca⟩
  refine wp_mono (bA bO _ _ a1 cz fg (Fp _ _ U x fH) k1) fun e a2 dO b2=> ?_
  obtain⟨cd,rfl,aw⟩:=b2
  have hw:∀t,Code.gv (.loop c) t=false->Code.gv c t=false/\a1.tmps.getD t undef=a.tmps.getD t undef:=fun t aA=>⟨aA,lM t aA⟩
  cases cd with
  |normal=>
   obtain⟨R_,Rr,aaS,aU,a_,bF⟩:=aw.ex
   obtain⟨g1,g2⟩:=AO (E.loops bO).conv ⟨R_,Rr⟩ aaS a_
   obtain⟨y,a6,aaT,aaU,aaV⟩:=EV (S:=o1 (E.loops bO).conv ⟨R_,Rr⟩) (Code.gv c) _ _ ev g1 ((qT.trans bF).trans g2) (fun t aA=>(aw.same t aA).trans (lM t aA)) (aw.aj.trans ca) aU
   exact⟨y,⟨a6.1,aaT,aaU,((qT.trans bF).trans g2).trans aaV,fun t aA=>(aw.same t aA).trans (lM t aA),aw.aj.trans ca⟩,a6.2⟩
  |exit i=>exact⟨.exit i,rfl,aw.weaken (sj.trans qT) hw ca fun _ _ h=>h⟩
  |goto l=>exact⟨.goto l,rfl,aw.weaken (sj.trans qT) hw ca fun _ _ h=>h⟩
  |ret=>exact⟨.ret,rfl,aw.weaken (sj.trans qT) hw ca fun _ _ h=>h⟩
 |scope c bA=>
  intro bO S K a w ρ h ao
  unfold ht at h
  refine wp_scope_straight (wp_mono (bA bO S _ a w ρ h ao) fun e cI w' b2=> ?_)
  obtain⟨cd,rfl,aw⟩:=b2
  cases cd with
  |normal=>exact⟨.normal,rfl,aw⟩
  |exit i=>exact⟨.exit i,rfl,aw⟩
  |ret=>exact⟨.ret,rfl,aw⟩
  |goto l=>
   obtain⟨_,_,_,k,_⟩:=aw.ex
   exact k.elim
 |_=>intro bO S K a w ρ h ao;exact h.elim
end
end Go.bG
end
section
namespace Go.bG
def rp:List aO->J->Bool
 |[_],v=>v.plain
 |_, .tup l=>dq J.plain l
 |_,_=>false
def ti (ts:List aO)(K:J->Prop):J->aB->Prop:=fun r own=>match rp ts (ln own ts r)with|true=>K (ln own ts r)|false=>False
theorem ME {ps:List aO}{T:List J->(J->Prop)->Prop}(h:jA T):fw (gh ps T):=by
 refine⟨fun args own K K' ab bj=> ?_,fun args own K bj=> ?_⟩
 ·unfold gh at bj⊢
  split
  ·rename_i U aa
   rw[U,aa]at bj
   exact h.1 _ _ _ (fun r=>ab r _) bj
  ·rename_i af
   split at bj
   ·rename_i U aa;exact(af U aa).elim
   ·exact bj
 ·unfold gh at bj
  split at bj
  ·obtain⟨r,ak⟩:=h.2 _ _ bj
   exact⟨r,_,ak⟩
  ·exact bj.elim
section
variable {N:Nat->Prop} {ρ:List Loc} {own:aB} {w:World}
def tq (id:Nat):J->Prop
 | .vec i=>i=id
 | .agg l=>∃i,i<l.length/\l.getD i .un= .vec id
 |_=>False
theorem LZ (own:aB)(id i:Nat):ad.at (en own id) i=ad.at own i:=by
 unfold en
 rw[ep,gx]
 split
 ·rename_i e;rw[e.1]
 ·rfl
theorem Am (own:aB)(id i:Nat)(h:i=id\/frozenAt own i=true):frozenAt (en own id) i=true:=by
 unfold en
 rw[ep,hS]
 split
 ·rfl
 ·rename_i e
  rcases h with rfl|h
  ·simp only[true_and,Nat.not_lt]at e
   simp only[frozenAt,dp,ass]
   rw[as5 e];rfl
  ·exact h
theorem KZ (h:b4 N ρ own w)(id:Nat):Step N ρ own w ρ (en own id) w:=by
 unfold en;rw[ep];exact Step.shut h id
theorem Lx:∀(l:List J) (own:aB),b4 N ρ own w->Step N ρ own w ρ (sU own l) w/\(∀i,ad.at (sU own l) i=ad.at own i)/\(∀i,frozenAt own i=true->frozenAt (sU own l) i=true)/\
 ∀j id,j<l.length->l.getD j .un= .vec id->frozenAt (sU own l) id=true
 |[],own,h=>⟨Step.refl h,fun _=>rfl,fun _ h=>h,fun j id aK=>by simp at aK⟩
 |v::aG,own,h=>by
  have aM:Step N ρ own w ρ (kJ own v) w/\(∀i,ad.at (kJ own v) i=ad.at own i)/\(∀i,frozenAt own i=true->frozenAt (kJ own v) i=true)/\∀id,v= .vec id->frozenAt (kJ own v) id=true:=by
   cases v with
   |vec id=>exact⟨KZ h id,LZ own id,fun i hi=>Am own id i (.inr hi),fun lP e=>by cases e;exact Am own id id (.inl rfl)⟩
   |_=>exact⟨Step.refl h,fun _=>rfl,fun _ h=>h,fun id e=>by cases e⟩
  obtain⟨U,aa,al,aL⟩:=aM
  obtain⟨aU,a_,bF,di⟩:=Lx aG (kJ own v) U.rel
  refine⟨U.trans aU,fun i=>(a_ i).trans (aa i),fun i hi=>bF i (al i hi),fun j id aK aM=> ?_⟩
  cases j with
  |zero=>exact bF id (aL id (by simpa using aM))
  |succ j=>exact di j id (by simpa using aK) (by simpa using aM)
theorem Uj (h:b4 N ρ own w)(v:J):Step N ρ own w ρ (freeze own v) w/\(∀i,ad.at (freeze own v) i=ad.at own i)/\(∀i,frozenAt own i=true->frozenAt (freeze own v) i=true)/\
 ∀id,tq id v->frozenAt (freeze own v) id=true:=by
 cases v with
 |vec id=>exact⟨KZ h id,LZ own id,fun i hi=>Am own id i (.inr hi),fun lP e=>by cases e;exact Am own id id (.inl rfl)⟩
 |agg l=>
  obtain⟨U,aa,al,aL⟩:=Lx l own h
  exact⟨U,aa,al,fun id ⟨i,hi,e⟩=>aL i id hi e⟩
 |_=>exact⟨Step.refl h,fun _=>rfl,fun _ h=>h,fun id e=>e.elim⟩
theorem nX:∀(l:List J) (own:aB),b4 N ρ own w->Step N ρ own w ρ (b7 own l) w/\(∀i,ad.at (b7 own l) i=ad.at own i)/\(∀i,frozenAt own i=true->frozenAt (b7 own l) i=true)/\
 ∀j id,j<l.length->tq id (l.getD j .un)->frozenAt (b7 own l) id=true
 |[],own,h=>⟨Step.refl h,fun _=>rfl,fun _ h=>h,fun j id aK=>by simp at aK⟩
 |v::aG,own,h=>by
  obtain⟨U,aa,al,aL⟩:=Uj h v
  obtain⟨aU,a_,bF,di⟩:=nX aG (freeze own v) U.rel
  refine⟨U.trans aU,fun i=>(a_ i).trans (aa i),fun i hi=>bF i (al i hi),fun j id aK aM=> ?_⟩
  cases j with
  |zero=>exact bF id (aL id (by simpa using aM))
  |succ j=>exact di j id (by simpa using aK) (by simpa using aM)
theorem Xf (h:b4 N ρ own w){id:Nat}{loc:Loc}(aq:ρ[id]? =some loc)(aQ:frozenAt own id=true):
 Reads (aI N ρ own) w (ad.at own id).data (.slice loc.a (ad.at own id).len loc.cap):=by
 cases aH:ad.at own id with
 |ints k l=>have:=pU h aq aQ (t:= .bS (.sints k)) (by rw[aH];exact iS.2 rfl);rw[aH]at this;exact this
 |rows aj l=>have:=pU h aq aQ (t:= .bS (.srows aj)) (by rw[aH];exact ato aj);rw[aH]at this;exact this
 |_=>exact .undef _ rfl
theorem L0 (h:b4 N ρ own w){et:aB}(cg:∀i,ad.at own i=ad.at et i)(s:b0){t:J}{u:Value}(aA:dE (aI N ρ own) w ρ own t u)(aQ:∀id,t= .vec id->frozenAt own id=true):
 dE (aI N ρ own) w ρ own (s.norm et t) u:=by
 have vec:∀id,t= .vec id->dE (aI N ρ own) w ρ own (.d (ad.at et id).data) u:=fun id e=>by
  subst e
  obtain⟨loc,aq,hu,_⟩:=aA
  rw[hu,<-cg];exact Xf h aq (aQ id rfl)
 unfold b0.norm
 split
 ·obtain⟨a,rfl⟩:=aA;exact .h4 _ _ _
 ·exact vec _ rfl
 ·obtain⟨a,rfl⟩:=aA;exact .jK _ _ _
 ·exact vec _ rfl
 ·have aA:u= .bool true:=aA
  subst aA;exact .bool true
 ·have aA:u= .bool false:=aA
  subst aA;exact .bool false
 ·exact aA
theorem NF (et:aB):∀(cs:List b0) (aG:List J) (i:Nat),i<aG.length->(h3 et cs aG).getD i .un=aG.getD i .un\/∃s:b0,(h3 et cs aG).getD i .un=s.norm et (aG.getD i .un)
 |[],aG,i,h=>by cases aG<;>exact .inl rfl
 |s::cB,[],i,h=>by simp at h
 |s::cB,v::aG,0,h=> .inr ⟨s,rfl⟩
 |s::cB,v::aG,i+1,h=>by
  have:=NF et cB aG i (by simpa using h)
  simpa[h3]using this
theorem K0 (h:b4 N ρ own w){et:aB}(cg:∀i,ad.at own i=ad.at et i)(cs:List b0){l:List J}{u:Value}(aA:hg (aI N ρ own) w ρ own (.agg l) u)(aQ:∀id,tq id (.agg l)->frozenAt own id=true):
 hg (aI N ρ own) w ρ own (.agg (h3 et cs l)) u:=by
 obtain⟨a,U,aa,al⟩:=aA
 refine⟨a,U,by rw[w3];exact aa,fun i hi=> ?_⟩
 rw[w3]at hi
 rcases NF et cs l i hi with e|⟨s,e⟩
 ·rw[e];exact al i hi
 ·rw[e];exact L0 h cg s (al i hi) fun id de=>aQ id ⟨i,hi,de⟩
theorem MH (h:b4 N ρ own w){et:aB}(cg:∀i,ad.at own i=ad.at et i)(t:aO){v:J}{u:Value}(aA:hg (aI N ρ own) w ρ own v u)(aQ:∀id,tq id v->frozenAt own id=true):
 hg (aI N ρ own) w ρ own (t.norm et v) u:=by
 cases t with
 |bS s=>
  cases v with
  |agg l=>cases s<;>exact aA
  |rw r=>cases s<;>exact aA
  |tup l=>exact aA.elim
  |_=>exact .cM (L0 h cg s aA fun id e=>aQ id (by rw[e];rfl))
 |struct bM cs=>
  cases v with
  |agg l=>exact K0 h cg cs aA aQ
  |_=>exact aA
 |arr n e cs=>
  cases v with
  |agg l=>exact K0 h cg cs aA aQ
  |_=>exact aA
 |no=>cases v<;>exact aA
theorem oN {Z Z':Nat->Prop}{w w':World}{ρ ρ':List Loc}{own own':aB}{v:J}{u:Value}(aw:v.plain=true)(h:hg Z w ρ own v u)(ak:∀x u,Reads Z w x u->Reads Z' w' x u):
 hg Z' w' ρ' own' v u:=h.mono ak fun id ar=>(LY (id:=id) aw (by
  cases v with
  |tup l=>exact h.elim
  |_=>exact ar)).elim
theorem Step.more {w':World}(h:b4 N ρ own w)(U:w'.os=w.os)(aa:w'.tape=w.tape)(al:w'.output=w.output)(ao:w.heap.size<=w'.heap.size)
 (ab:∀b,b<w.heap.size->w'.heap[b]? =w.heap[b]?):Step N ρ own w ρ own w':=by
 have cr:Fr ρ own w ρ own w':=⟨U,aa,al,ao,fun b ae _=>ab b ae,fun b ae=> .inl ae⟩
 exact{cr with rel:=h.se cr h.len (fun _ _ _ _ i _ _=>eg.refl ρ own i) (fun i l aq=> .inl ⟨aq,rfl,id,fun b ae=>ab b (h.lt i l b aq ae)⟩),same:=eg.refl ρ own}
end
theorem uD {tb:TypeId->bQ}{tm:List J}{own:aB}:∀{rvs:List ResultVar},p8 tb tm own rvs=true->ld tb tm own rvs=true/\jG tb tm own rvs=[]
 |[],_=>⟨rfl,rfl⟩
 | .tmp t::r,h=>uD (rvs:=r) h
 | .cell a t::r,h=>by
  unfold p8 at h
  split at h
  ·rename_i id off v own' U aa
   obtain⟨aU,a_⟩:=uD (rvs:=r) h
   refine⟨by unfold ld;rw[aa,U];exact aU, ?_⟩
   show(match hR (tb t).ty (bT .un tm a) own with| .aR s _ _=>dV s (jG tb tm own r)|_=>jG tb tm own r)=[]
   rw[aa];exact a_
  ·cases h
theorem Ab {P:Program}(E:Env)(dj:hT P E){fn:Func}{rvs:List ResultVar}(h:fn.results=rvs.toArray){N:Nat->Prop}{ρ:List Loc}{tm:List J}{own:aB}{a:Act}{w:World}
 (ao:eT N ρ tm own a w) (aT:ld E.tb tm own rvs=true) (pF:∀p∈jG E.tb tm own rvs,p):
 ∃aG:List Value,(results fn a.tmps).run P w= .ok (if rvs.length=1 then aG.getD 0 undef else .tuple aG.toArray) w/\aG.length=rvs.length/\(gz E.tb tm own rvs).length=rvs.length/\
  ∀i,bz (aI N ρ own) w ρ own ((gz E.tb tm own rvs).getD i .un) (aG.getD i undef):=by
 have key:∀g:ResultVar->Sem Value,(∀t,g (.tmp t)=pure (a.tmps.getD t undef))->(∀x t,g (.cell x t)=do loadVar t (<-asAddr (a.tmps.getD x undef)))->
  ∀rvs:List ResultVar,ld E.tb tm own rvs=true->(∀p∈jG E.tb tm own rvs,p)->∃aG:List Value,(rvs.mapM g).run P w= .ok aG w/\aG.length=rvs.length/\(gz E.tb tm own rvs).length=rvs.length/\
   ∀i,bz (aI N ρ own) w ρ own ((gz E.tb tm own rvs).getD i .un) (aG.getD i undef):=by
  intro g g1 g2 rvs
  induction rvs with
  |nil=>exact fun _ _=>⟨[],by simp,rfl,rfl,fun i=>by show bz _ _ _ _ (([]:List J).getD i .un) _;simpa using bz.un⟩
  |cons r rs bA=>
   intro aT pF
   have aP:∃u,(g r).run P w= .ok u w/\∃x,gz E.tb tm own (r::rs)=x::gz E.tb tm own rs/\bz (aI N ρ own) w ρ own x u/\ld E.tb tm own rs=true/\∀p∈jG E.tb tm own rs,p:=by
    cases r with
    |tmp t=>exact⟨_,by rw[g1];rfl,_,rfl,by rw[dp];exact ao.eD.at_ t,aT,pF⟩
    |cell x t=>
     have run:∀s v own',hR (E.tb t).ty (bT .un tm x) own= .aR s v own'->(∃b off,a.tmps.getD x undef= .pointer (some ⟨b,off,none⟩))->ld E.tb tm own rs=true->
      ∃u,(g (.cell x t)).run P w= .ok u w/\∃y,gz E.tb tm own (.cell x t::rs)=y::gz E.tb tm own rs/\bz (aI N ρ own) w ρ own y u/\ld E.tb tm own rs=true/\∀p∈jG E.tb tm own rs,p:=fun s v own' aq ⟨b,off,hu⟩ aT=>by
      have Ip:jG E.tb tm own (.cell x t::rs)=s++jG E.tb tm own rs:=by
       show(match hR (E.tb t).ty (bT .un tm x) own with| .aR s _ _=>dV s (jG E.tb tm own rs)|_=>jG E.tb tm own rs)=_
       rw[aq,<-fu]
      rw[Ip]at pF
      obtain⟨u,_,a_,bF⟩:=LP (dj.ty t) ao.eJ (op:= .tmp x) ao.eD (by rw[show aS tm (.tmp x)=bT .un tm x from rfl];exact aq) (fun p aw=>pF p (List.mem_append_left _ aw))
      refine⟨u, ?_,v, ?_,bF,aT,fun p aw=>pF p (List.mem_append_right _ aw)⟩
      ·rw[g2,hu]
       rw[show a.eval (.tmp x)=a.tmps.getD x undef from rfl,hu]at a_
       simpa[Instr.loadAt,Instr.sureAddr,asAddr]using a_
      ·show(match hR (E.tb t).ty (bT .un tm x) own with| .aR _ v _=>v|_=> .any)::_=_
       rw[aq]
     have oD:=ao.eD.at_ x
     rw[<-dp]at oD
     unfold ld at aT
     split at aT
     ·rename_i id off s v own' af aq
      rw[af]at oD
      obtain⟨loc,b,_,_,_,hu⟩:=oD
      exact run _ _ _ aq ⟨_,_,hu⟩ aT
     ·rename_i id q off s v own' af aq
      rw[af]at oD
      obtain⟨loc,b,_,_,_,hu,_⟩:=oD
      exact run _ _ _ aq ⟨_,_,hu⟩ aT
     ·cases aT
   obtain⟨u,U,x,aa,al,aL,bo⟩:=aP
   obtain⟨aG,i1,i2,i3,i4⟩:=bA aL bo
   refine⟨u::aG, ?_,by simp[i2],by rw[aa];simp[i3],fun i=> ?_⟩
   ·simp[List.mapM_cons,U,i1]
   ·rw[aa]
    cases i with
    |zero=>exact al
    |succ i=>simpa using i4 i
 let g:ResultVar->Sem Value:=fun r=>match r with| .tmp t=>pure (a.tmps.getD t undef)| .cell x t=>do loadVar t (<-asAddr (a.tmps.getD x undef))
 have e:results fn a.tmps=(do let aG<-fn.results.mapM g;pure (if h:aG.size=1 then aG[0]else .tuple aG)):=by
  unfold results
  rfl
 obtain⟨aG,U,aa,al,aL⟩:=key g (fun _=>rfl) (fun _ _=>rfl) rvs aT pF
 refine⟨aG, ?_,aa,al,aL⟩
 rw[e,h,List.mapM_toArray]
 simp only[Sem.run_bind,Sem.run_map,U,Result.andThen_ok]
 match aG,rvs,aa with
 |[],[],_=>rfl
 |[u],[_],_=>rfl
 |_::_::_,_::_::_,_=>
  rw[dif_neg (by simp),asp (by simp)];rfl
theorem ns {α:Type}{f:α->Bool}{l:List α}(h:dq f l=true)(d:α)(i:Nat)(hi:i<l.length):f (l.getD i d)=true:=by
 rw[eW,asH]at h
 have:l.getD i d=l[i]:=by simp[ass,hi]
 rw[this];exact h _ (atw hi)
theorem pZ (own:aB):∀(ts:List aO) (aG:List J),ts.length=aG.length->(aO.dF own ts aG).length=aG.length
 |[],[],_=>rfl
 |[],_::_,h=>by simp at h
 |_::_,[],h=>by simp at h
 |t::ts,v::aG,h=>asQ (·+1) (pZ own ts aG (by simpa using h))
theorem p0 (own:aB):∀(ts:List aO) (aG:List J),ts.length=aG.length->∀i,i<aG.length->∃t:aO,(aO.dF own ts aG).getD i .un=t.norm own (aG.getD i .un)
 |[],[],_,i,hi=>by simp at hi
 |[],_::_,h,_,_=>by simp at h
 |_::_,[],h,_,_=>by simp at h
 |t::ts,v::aG,h,0,_=>⟨t,rfl⟩
 |t::ts,v::aG,h,i+1,hi=>by
  obtain⟨t',e⟩:=p0 own ts aG (by simpa using h) i (by simpa using hi)
  exact⟨t',by simpa[aO.dF]using e⟩
theorem Xg (own:aB)(t:aO)(l:List J):(t.norm own (.tup l))= .tup l:=by
 cases t with
 |bS s=>cases s<;>rfl
 |_=>rfl
theorem oO {N:Nat->Prop}{ρ:List Loc}{own:aB}{w:World}(h:b4 N ρ own w){et:aB}(cg:∀i,ad.at own i=ad.at et i)(t:aO){v:J}{u:Value}(aw:(t.norm et v).plain=true)
 (aA:bz (aI N ρ own) w ρ own v u) (aQ:∀id,tq id v->frozenAt own id=true):hg (aI N ρ own) w ρ own (t.norm et v) u:=by
 refine MH h cg t ?_ aQ
 cases v with
 |tup l=>rw[Xg]at aw;cases aw
 |_=>exact aA
section
variable {P:Program}
theorem wT (E:Env)(dj:hT P E)
 {f:FuncId} {fn:Func} {c:Code} (aQ:P.funcs[f]? =some fn) (ae:fn.body=some c) {rvs:List ResultVar} (ak:fn.results=rvs.toArray)
 {N:Nat->Prop} {ρ:List Loc} {own:aB} {w:World} {args:List J} {vals:Array Value} {K:J->aB->Prop} (h:l0 E fn.ntmps rvs c args own K) (aH:b4 N ρ own w)
 (aq:args.length=vals.size) (aC:∀i,i<args.length->bz (aI N ρ own) w ρ own (args.getD i .un) (vals.getD i undef)):
 Calls P f vals w fun e w'=>∃(rs:List J) (own':aB) (ρ':List Loc) (aG:List Value),e= .returned (if rvs.length=1 then aG.getD 0 undef else .tuple aG.toArray)/\rs.length=rvs.length/\aG.length=rvs.length/\
  K (one rs) own'/\b4 N ρ' own' w'/\Fr ρ own w ρ' own' w'/\∀i,bz (aI N ρ' own') w' ρ' own' (rs.getD i .un) (aG.getD i undef):=by
 refine calls_of_wp aQ ae ?_
 have ao:eT N ρ (pad fn.ntmps args) own {tmps:=vals++Array.replicate (fn.ntmps-vals.size) undef,defers:=[]} w:=by
  refine⟨aH,⟨by rw[rG];simp[aq],fun t=> ?_⟩,rfl⟩
  rw[rG]
  by_cases aA:t<args.length
  ·have an:(args++List.replicate (fn.ntmps-args.length) J.un).getD t .un=args.getD t .un:=by simp[ass,atp aA]
   have az:(vals++Array.replicate (fn.ntmps-vals.size) undef).getD t undef=vals.getD t undef:=by simp[asA,auO (show t<vals.size by omega)]
   rw[an,az];exact aC t aA
  ·have an:(args++List.replicate (fn.ntmps-args.length) J.un).getD t .un= .un:=by
    rw[ass,atC (by omega),atN];split<;>rfl
   have az:(vals++Array.replicate (fn.ntmps-vals.size) undef).getD t undef=undef:=by
    rw[asA,Array.getElem?_append_right (by omega),Array.getElem?_replicate];split<;>rfl
   rw[an,az];exact bz.un
 unfold l0 at h
 refine wp_mono (E8 E dj c _ _ _ _ w ρ h ao) fun e cI w' b2=> ?_
 obtain⟨cd,rfl,aw⟩:=b2
 obtain⟨dL,own',ρ',aU,a_,bF⟩:=aw.ex
 have fin:(match ld E.tb dL own' rvs with|true=>gk (jG E.tb dL own' rvs) (K (one (gz E.tb dL own' rvs)) own')|false=>False)->cI.defers=[]/\∃v,(results fn cI.tmps).run P w'= .ok v w'/\
  ∃(rs:List J) (own':aB) (ρ':List Loc) (aG:List Value),Ending.returned v= .returned (if rvs.length=1 then aG.getD 0 undef else .tuple aG.toArray)/\rs.length=rvs.length/\aG.length=rvs.length/\
  K (one rs) own'/\b4 N ρ' own' w'/\Fr ρ own w ρ' own' w'/\∀i,bz (aI N ρ' own') w' ρ' own' (rs.getD i .un) (aG.getD i undef):=fun ab=>by
  split at ab
  rotate_left
  ·exact ab.elim
  rename_i aT
  rw[gr]at ab
  obtain⟨pF,ab⟩:=ab
  obtain⟨aG,c3,cP,cJ,m8⟩:=Ab E dj ak a_ aT pF
  exact⟨a_.iR,_,c3,_,own',ρ',aG,rfl,cJ,cP,ab,a_.eJ,bF,m8⟩
 cases cd with
 |normal=>exact fin aU
 |ret=>exact fin aU
 |_=>exact aU.elim
end
end Go.bG
end
