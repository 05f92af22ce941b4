/- Helpers for the statements: facts about numbers, fractions and polynomials as lists, and the proofs of the conditions. Condition: none. -/
import Derived.Test.YtmeonjefiioegaaGreatDoorB1
section
open Go Go.bG
namespace I
theorem A5 {p:List bu} (h:dA 1024 p):hI (bP p)=true:=List.all_eq_true.2 fun r ak=>by
 obtain⟨t,aA,rfl⟩:=List.mem_map.1 ak
 have e:dY (fL t)=t.1:=uT (h t aA).1
 rw[e,y2,List.all_eq_true]
 intro x af
 have:=(h t aA).2 x af
 simp;omega
theorem uU {p:List bu} {W:Nat} (h:dc p W) (he:dA 1024 p) (dP:W<=50000):b5 (bP p):=uN h he.len (by omega)
theorem Pp {p q:List bu} {W V:Nat} (h:dc p W) (he:dA 1024 p) (g:dc q V) (ge:dA 1024 q) (dP:W+V+q.length<=50000):qk (bP p) (bP q):=
 ⟨⟨uU h he (by omega),uU g ge (by omega)⟩,W,V,h.rw he.len,g.rw ge.len,by rw[iT];exact dP⟩
theorem Ga {p q:List bu} {W V:Nat} (h:dc p W) (he:dA 1024 p) (g:dc q V) (ge:dA 1024 q) (dP:W*q.length+V*p.length<=50000) (U:W<=50000) (aa:V<=50000):xJ (bP p) (bP q):=
 ⟨⟨uU h he U,uU g ge aa⟩,W,V,h.rw he.len,g.rw ge.len,by rw[iT,iT];exact dP,U,aa⟩
theorem BE {p q:List bu} (h:dA 1024 p) (g:dA 1024 q):ew (bP p) (bP q)=true:=by rw[ew,A5 h,A5 g];rfl
theorem xK {p:List bu} {e:Int} (h:(p.all fun t=>decide (t.1.length=8)&&t.1.all fun x=>decide (0<=x)&&decide (x<=e))=true):dA e p:=fun t aA=>by
 have:=List.all_eq_true.1 h t aA
 rw[Bool.and_eq_true]at this
 refine⟨of_decide_eq_true this.1,fun x af=> ?_⟩
 have:=List.all_eq_true.1 this.2 x af
 simpa using this
theorem A4:bm 1=[1]:=by unfold bm;exact nj
theorem Cl:bg 1=[1]:=by unfold bg;exact nj
theorem F9:bm (-1)=[1]:=by unfold bm;exact nj
theorem F_:bg (-1)=[1]:=by unfold bg;exact nj
theorem ab8 (K:J->Prop) (h:A2.T [] K):Jx K:=by
 obtain⟨_,ab⟩:=h
 unfold Jx
 rw[if_pos (show(0:Int)<=0/\(0:Int)<8 by decide),if_pos (show(0:Int)<=1/\(1:Int)<8 by decide)]
 refine⟨trivial, ?_⟩
 rintro _ rfl _ rfl
 refine⟨trivial, ?_⟩
 rintro _ rfl _ rfl
 have hv:dc [(du.set 0 1,kW)] 2:=⟨1,0,cv.one,Nat.le_refl _,Nat.le_refl _,trivial⟩
 have cz:dc [(du.set 1 1,kW)] 2:=⟨1,0,cv.one,Nat.le_refl _,Nat.le_refl _,trivial⟩
 have bE:dA 1024 [(du.set 0 1,kW)]:=xK (by decide)
 have an:dA 1024 [(du.set 1 1,kW)]:=xK (by decide)
 have ec:nrm ([(du.set 0 1,kW)]++[(du.set 1 1,kW)])=[(du.set 0 1,1),(du.set 1 1,1)]:=by decide+kernel
 have gC:nrm ([(du.set 0 1,kW)]++fT (-1) [(du.set 1 1,kW)])=[(du.set 0 1,1),(du.set 1 1,-1)]:=by decide+kernel
 have zn:nrm (eR [(du.set 0 1,(1:Rat)),(du.set 1 1,1)] [(du.set 0 1,1),(du.set 1 1,-1)])=[(du.set 0 2,1),(du.set 1 2,-1)]:=by decide+kernel
 have m5:nrm [(du.set 0 1,(1:Rat)),(du.set 1 1,1)]=[(du.set 0 1,1),(du.set 1 1,1)]:=by decide+kernel
 have qW:nrm [(du.set 0 1,(1:Rat)),(du.set 1 1,-1)]=[(du.set 0 1,1),(du.set 1 1,-1)]:=by decide+kernel
 have dO:dc [(du.set 0 1,(1:Rat)),(du.set 1 1,1)] 4:=⟨1,2,cv.one,Nat.le_refl _,Nat.le_refl _,1,0,cv.one,Nat.le_refl _,Nat.le_refl _,trivial⟩
 have gZ:dc [(du.set 0 1,(1:Rat)),(du.set 1 1,-1)] 4:=⟨1,2,cv.one,Nat.le_refl _,Nat.le_refl _,1,0,ve,Nat.le_refl _,Nat.le_refl _,trivial⟩
 have az:dA 1024 [(du.set 0 1,(1:Rat)),(du.set 1 1,1)]:=xK (by decide)
 have bK:dA 1024 [(du.set 0 1,(1:Rat)),(du.set 1 1,-1)]:=xK (by decide)
 have v1:=BE bE an
 have v2:=BE az bK
 have a0:=hf bE.len
 have a1:=hf an.len
 have a2:=hf az.len
 have a3:=hf bK.len
 have b2:mX [(du.set 0 1,(1:Rat)),(du.set 1 1,1)] [(du.set 0 1,1),(du.set 1 1,-1)]=false:=by decide+kernel
 refine⟨Pp hv bE cz an (by decide), ?_⟩
 simp only[v1,if_true,a0,a1,ec,gC]
 rintro _ rfl _ rfl
 refine⟨Pp hv bE cz an (by decide), ?_⟩
 rintro _ rfl _ rfl
 refine⟨Ga dO az gZ bK (by decide) (by decide) (by decide), ?_⟩
 simp only[ph,v2,a2,a3,m5,qW,b2,zn,Bool.not_false,Bool.and_true,if_true]
 have we:bP [(du.set 0 2,(1:Rat)),(du.set 1 2,-1)]=qw:=by
  show[dG (du.set 0 2)++[.bool (bh 1), .ints .u32 (bm 1), .ints .u32 (bg 1)],dG (du.set 1 2)++[.bool (bh (-1)), .ints .u32 (bm (-1)), .ints .u32 (bg (-1))]]=_
  rw[A4,Cl,F9,F_];rfl
 rintro x af _ rfl
 refine⟨⟨af.trans we,trivial⟩, ?_⟩
 rintro _ rfl _ rfl
 simpa using ab
def dX (i:Nat) (x:Int):List Int:=du.set i x
theorem s3 (i:Nat) (x:Int):(dX i x).length=8:=by rw[dX,List.length_set];rfl
theorem P1:∀i,i<8->∀k,k<8->mX [(dX i 1024,(1:Rat))] [(dX k 1,1)]=decide (i=k):=by decide+kernel
theorem X9:∀i,i<8->lU [(dX i 1024,(1:Rat))] i=1024:=by decide+kernel
theorem Gb (m:List Int):nrm [(m,(1:Rat))]=[(m,1)]:=by
 unfold nrm ins
 rw[nrm,if_neg (show¬(1:Rat)=0 by decide)]
theorem GW (i:Nat) {x:Int} (aE:0<=x) (U:x<=1024) (c:Rat):dA 1024 [(dX i x,c)]:=fun t aA=>by
 rw[List.mem_singleton.1 aA]
 refine⟨s3 i x,fun y a6=> ?_⟩
 rcases List.mem_or_eq_of_mem_set a6 with a6|rfl
 ·have:y=0:=by
   have:=List.eq_of_mem_replicate (n:=8) (a:=(0:Int)) a6
   exact this
  omega
 ·exact⟨aE,U⟩
theorem Q6 {v:Int} (aE:0<=v) (U:v<256):∃i:Nat,i<8/\IntKind.wrap .i64 (Int.tmod v 8)=(i:Int):=by
 have e:Int.tmod v 8=v%8:=Int.tmod_eq_emod_of_nonneg aE
 refine⟨(v%8).toNat,by omega, ?_⟩
 rw[e,bl (by omega)];omega
theorem Xr (i:Nat) (hi:i<8) (x:Int):(setRow [R.int IntKind.i64 (0:Int),R.int IntKind.i64 (0:Int),R.int IntKind.i64 (0:Int),R.int IntKind.i64 (0:Int),R.int IntKind.i64 (0:Int),R.int IntKind.i64 (0:Int),R.int IntKind.i64 (0:Int),R.int IntKind.i64 (0:Int),R.bool false,R.ints IntKind.u32 [],R.ints IntKind.u32 []] 8 [R.bool (bh 1),R.ints IntKind.u32 (bm 1),R.ints IntKind.u32 (bg 1)]).set i (.int .i64 x)=fL (dX i x,1):=by
 have e:(setRow [R.int IntKind.i64 (0:Int),R.int IntKind.i64 (0:Int),R.int IntKind.i64 (0:Int),R.int IntKind.i64 (0:Int),R.int IntKind.i64 (0:Int),R.int IntKind.i64 (0:Int),R.int IntKind.i64 (0:Int),R.int IntKind.i64 (0:Int),R.bool false,R.ints IntKind.u32 [],R.ints IntKind.u32 []] 8 [R.bool (bh 1),R.ints IntKind.u32 (bm 1),R.ints IntKind.u32 (bg 1)])=d_ du (bh 1) (bm 1) (bg 1):=rfl
 rw[e,F8 u_ hi];rfl
theorem Wx:(IntCast.intCast (1:Int):Rat)=1:=rfl
theorem abR (v:Int) (K:J->Prop) (h:AG.T [.d (.int .u8 v)] K):Jh v K:=by
 obtain⟨⟨iJ,mY⟩,ab⟩:=h
 unfold Jh
 have aP:IntKind.wrap .u8 (Int.tdiv v 8)=v/8:=by
  rw[Int.tdiv_eq_ediv_of_nonneg iJ,qF (by omega)]
 rw[aP]
 obtain⟨i,hi,zm⟩:=Q6 iJ mY
 obtain⟨k,Z2,ua⟩:=Q6 (v:=v/8) (by omega) (by omega)
 rw[zm,ua]
 simp only[Int.toNat_natCast,Wx]
 refine⟨⟨by decide,by decide⟩, ?_⟩
 rintro _ rfl _ rfl _ rfl
 have aa_:=Xr i hi 1024
 have q0:(fL (dX i 1024,1)).length=11:=lh (s3 _ _)
 have wh:(fL (dX i 1024,1)).getD i .undef= .int .i64 1024:=by
  show(d_ (dX i 1024) _ _ _).getD i .undef=_
  rw[QC (s3 _ _) hi,dX,ur (by rw[u_];exact hi)]
 have aba:(fL (dX i 1024,1)).set i (.int .i64 1025)=fL (dX i 1025,1):=by
  show(d_ (dX i 1024) _ _ _).set i _=_
  rw[F8 (s3 _ _) hi,dX,List.set_set];rfl
 have nP:IntKind.wrap .i64 (R.toInt (.int .i64 1024)+1)=1025:=rfl
 simp only[aa_,wh,nP,aba,q0]
 have ci:(0:Int)<=(i:Int)/\(i:Int)<8:=⟨by omega,by omega⟩
 have abb:(0:Int)<=(k:Int)/\(k:Int)<8:=⟨by omega,by omega⟩
 simp only[if_pos ci,if_pos abb]
 have Ec:dc [(dX i 1024,(1:Rat))] 2:=⟨1,0,cv.one,Nat.le_refl _,Nat.le_refl _,trivial⟩
 have abc:dc [(dX i 1,(1:Rat))] 2:=⟨1,0,cv.one,Nat.le_refl _,Nat.le_refl _,trivial⟩
 have abd:dc [(dX k 1,(1:Rat))] 2:=⟨1,0,cv.one,Nat.le_refl _,Nat.le_refl _,trivial⟩
 have nP:dc [(dX i 1025,(1:Rat))] 2:=⟨1,0,cv.one,Nat.le_refl _,Nat.le_refl _,trivial⟩
 have sr:=GW i (x:=1024) (by decide) (by decide) 1
 have ig:=GW i (x:=1) (by decide) (by decide) 1
 have oG:=GW k (x:=1) (by decide) (by decide) 1
 have ss:bP [(dX i 1024,(1:Rat))]=[fL (dX i 1024,1)]:=rfl
 have St:bP [(dX i 1025,(1:Rat))]=[fL (dX i 1025,1)]:=rfl
 have IT:∀t∈[(dX i 1025,(1:Rat))],t.1.length=8:=fun t aA=>by rw[List.mem_singleton.1 aA];exact s3 _ _
 have v5:hI [fL (dX i 1025,1)]=false:=by
  refine E2 (r:=fL (dX i 1025,1)) (x:=1025) (by simp) ?_ (.inr (by decide))
  have e:dY (fL (dX i 1025,(1:Rat)))=dX i 1025:=uT (s3 _ _)
  rw[e,dX]
  exact List.mem_of_getElem? (i:=i) (by rw[List.getElem?_set,if_pos rfl,if_pos (by rw[u_];exact hi)])
 have abe:hI [fL (dX i 1024,1)]=true:=by rw[<-ss];exact A5 sr
 have Su:List.map bs [fL (dX i 1024,1)]=[(dX i 1024,1)]:=by rw[<-ss];exact hf sr.len
 refine⟨by omega,by omega,trivial,trivial, ?_⟩
 rintro _ rfl _ rfl
 have abf:[(du.set i 1,kW)]=[(dX i 1,(1:Rat))]:=rfl
 have abg:[(du.set k 1,kW)]=[(dX k 1,(1:Rat))]:=rfl
 rw[abf,abg]
 have abh:ew [fL (dX i 1024,1)] (bP [(dX i 1,(1:Rat))])=true:=by rw[<-ss];exact BE sr ig
 have Sv:ew [fL (dX i 1024,1)] (bP [(dX k 1,(1:Rat))])=true:=by rw[<-ss];exact BE sr oG
 have abi:=hf ig.len
 have Sw:=hf oG.len
 have k6:=P1 i hi i hi
 have Sx:=P1 i hi k Z2
 have abj:gQ [fL (dX i 1024,1)] i=0:=by rw[gQ,if_pos abe,if_pos ci]
 simp only[ph,abh,Sv,Su,abi,Sw,Gb,k6,Sx,abj,v5,X9 i hi,decide_true,Bool.not_true,Bool.and_false,if_true,Bool.true_and]
 refine⟨by rw[<-ss];exact Ga Ec sr abc ig (show 2*1+2*1<=50000 by decide) (by decide) (by decide), ?_⟩
 rintro _ rfl _ rfl
 refine⟨⟨by rw[<-ss];exact uU Ec sr (by decide),by rw[<-ss];exact(Ec.rw sr.len).mono (by decide)⟩, ?_⟩
 rintro _ rfl _ rfl
 refine⟨by omega,by omega,rfl,by omega,by omega,lh (s3 _ _),⟨by rw[<-St];exact uN nP IT (by decide),by rw[<-St];exact(nP.rw IT).mono (by decide)⟩, ?_⟩
 rintro _ rfl _ rfl
 refine⟨trivial, ?_⟩
 rintro _ rfl _ rfl
 simp only[ph,Sv,Su,Sw,Gb,Sx,Bool.true_and,if_true]
 refine⟨by rw[<-ss];exact Ga Ec sr abd oG (show 2*1+2*1<=50000 by decide) (by decide) (by decide), ?_⟩
 by_cases RN:i=k
 ·subst RN
  rintro _ rfl _ rfl
  simpa using ab
 ·have Z3:¬(i:Int)=(k:Int):=by omega
  rintro _ rfl _ rfl
  have abk:(nrm (eR [(dX i 1024,(1:Rat))] [(dX k 1,1)])).length=1:=by
   have:eR [(dX i 1024,(1:Rat))] [(dX k 1,1)]=[(fx (dX i 1024) (dX k 1),1)]:=by
    show[(fx (dX i 1024) (dX k 1),(1:Rat)*1)]++[]=_
    rw[Rat.mul_one];rfl
   rw[this,Gb];rfl
  simpa[RN,Z3,iT,abk]using ab
end I
end
section
namespace I
open Go Go.bG Go.Sort
theorem Q7 (v:BitVec 64):(0:Int)<=(v.toNat:Int)/\(v.toNat:Int)<18446744073709551616:=by have:=v.isLt;omega
theorem Za (a b:Int):bk .xor .u64 a b=((BitVec.ofInt 64 a^^^BitVec.ofInt 64 b).toNat:Int):=cl (Q7 _)
theorem Zb (a b:Int):bk .and .u64 a b=((BitVec.ofInt 64 a&&&BitVec.ofInt 64 b).toNat:Int):=cl (Q7 _)
theorem Xv (a b:Int):0<=bk .xor .u64 a b/\bk .xor .u64 a b<18446744073709551616:=by
 rw[Za]
 have:=(BitVec.ofInt 64 a^^^BitVec.ofInt 64 b).isLt
 omega
theorem Xw (a:Int) {b:Nat} (ae:b<18446744073709551616):0<=bk .and .u64 a b/\bk .and .u64 a b<=b:=by
 rw[Zb,BitVec.toNat_and]
 have h:(BitVec.ofInt 64 (b:Int)).toNat=b:=by
  rw[BitVec.ofInt_natCast,BitVec.toNat_ofNat];exact Nat.mod_eq_of_lt ae
 rw[h]
 have:= @Nat.and_le_right (BitVec.ofInt 64 a).toNat b
 omega
theorem ace (x:Int) (K:ad->J->Prop) (h:(0<=x/\x<18446744073709551616)/\∀y:Int,(0<=y/\y<18446744073709551616)->K (.cells [.d (.int .u64 y)]) (.d (.int .u64 y))):SP x K:=
 h.2 _ (Xv _ _)
theorem abW (l:Rows) (a b s:Int) (K:ad->J->Prop)
 (h:(cQ l/\0<=a/\a<(l.length:Int)/\0<=b/\b<(l.length:Int)/\0<=s/\s<1000)/\
   K (.cells [.d (.int .i64 (Go.Sort.order2 aX l.toArray a.toNat b.toNat s.toNat).2.2)]) (.tup [.d (.int .i64 (Go.Sort.order2 aX l.toArray a.toNat b.toNat s.toNat).1), .d (.int .i64 (Go.Sort.order2 aX l.toArray a.toNat b.toNat s.toNat).2.1)])):Jm l a b s K:=by
 obtain⟨⟨aq,aC,pz,ae,gT,ao,gS⟩,ab⟩:=h
 obtain⟨A,rfl⟩:=Int.eq_ofNat_of_zero_le aC
 obtain⟨B,rfl⟩:=Int.eq_ofNat_of_zero_le ae
 obtain⟨S,rfl⟩:=Int.eq_ofNat_of_zero_le ao
 simp only[Int.toNat_natCast]at ab
 unfold Jm
 rw[bl (x:=(S:Int)+1) (by omega)]
 simp only[Int.toNat_natCast]
 refine⟨ae,gT,aq.len (by omega),aC,pz,aq.len (by omega),⟨aq.get (by omega),aq.get (by omega)⟩, ?_⟩
 rintro _ rfl
 unfold order2 at ab
 rw[iZ]at ab
 refine⟨fun h=> ?_,fun h=> ?_⟩
 ·rw[h]at ab;exact ab
 ·rw[h]at ab;exact ab
theorem Q8 (l:Array Row) {a b s n:Nat} (aC:a<n) (ae:b<n):(order2 aX l a b s).1<n/\(order2 aX l a b s).2.1<n:=by
 rcases order2_mem aX l a b s with⟨U,aa⟩|⟨U,aa⟩<;>rw[U,aa]<;>exact⟨by omega,by omega⟩
theorem abX (l:Rows) (a b e s:Int) (K:ad->J->Prop)
 (h:(cQ l/\(0<=a/\a<(l.length:Int))/\(0<=b/\b<(l.length:Int))/\(0<=e/\e<(l.length:Int))/\0<=s/\s<900)/\
   K (.cells [.d (.int .i64 (Go.Sort.median aX l.toArray a.toNat b.toNat e.toNat s.toNat).2)]) (.d (.int .i64 (Go.Sort.median aX l.toArray a.toNat b.toNat e.toNat s.toNat).1))):Jn l a b e s K:=by
 obtain⟨⟨aq,⟨aC,pz⟩,⟨ae,gT⟩,⟨he,Ih⟩,ao,gS⟩,ab⟩:=h
 obtain⟨A,rfl⟩:=Int.eq_ofNat_of_zero_le aC
 obtain⟨B,rfl⟩:=Int.eq_ofNat_of_zero_le ae
 obtain⟨E,rfl⟩:=Int.eq_ofNat_of_zero_le he
 obtain⟨S,rfl⟩:=Int.eq_ofNat_of_zero_le ao
 simp only[Int.toNat_natCast]at ab
 unfold median at ab
 unfold Jn
 simp only[Int.toNat_natCast]
 have dt:=order2_count aX l.toArray A B S
 have c3:= @Q8 l.toArray A B S l.length (by omega) (by omega)
 refine⟨⟨aq,aC,pz,ae,gT,ao,by omega⟩, ?_⟩
 rintro _ rfl _ rfl _ rfl
 simp only[Int.toNat_natCast]
 show(cQ l/\0<=(((order2 aX l.toArray A B S).2.1:Nat):Int)/\_)/\_
 have dD:=order2_count aX l.toArray (order2 aX l.toArray A B S).2.1 E (order2 aX l.toArray A B S).2.2
 have cP:= @Q8 l.toArray (order2 aX l.toArray A B S).2.1 E (order2 aX l.toArray A B S).2.2 l.length c3.2 (by omega)
 refine⟨⟨aq,by omega, ?_,he,Ih,by omega, ?_⟩, ?_⟩
 ·exact Int.ofNat_lt.2 c3.2
 ·show(((order2 aX l.toArray A B S).2.2:Nat):Int)<1000
  omega
 rintro _ rfl _ rfl _ rfl
 simp only[Int.toNat_natCast]
 refine⟨⟨aq,by omega,Int.ofNat_lt.2 c3.1,by omega,Int.ofNat_lt.2 cP.1,by omega, ?_⟩, ?_⟩
 ·show(((order2 aX l.toArray (order2 aX l.toArray A B S).2.1 E (order2 aX l.toArray A B S).2.2).2.2:Nat):Int)<1000
  omega
 rintro _ rfl _ rfl _ rfl
 exact ab
theorem abI (l:Rows) (a s:Int) (K:ad->J->Prop)
 (h:(cQ l/\0<a/\a+1<(l.length:Int)/\l.length<1000000000000000/\0<=s/\s<900)/\
   K (.cells [.d (.int .i64 (Go.Sort.medianAdjacent aX l.toArray a.toNat s.toNat).2)]) (.d (.int .i64 (Go.Sort.medianAdjacent aX l.toArray a.toNat s.toNat).1))):I9 l a s K:=by
 obtain⟨⟨aq,aC,pz,ar,ao,gS⟩,ab⟩:=h
 obtain⟨A,rfl⟩:=Int.eq_ofNat_of_zero_le (Int.le_of_lt aC)
 obtain⟨S,rfl⟩:=Int.eq_ofNat_of_zero_le ao
 simp only[Int.toNat_natCast]at ab
 unfold medianAdjacent at ab
 unfold I9
 rw[bl (x:=(A:Int)-1) (by omega),bl (x:=(A:Int)+1) (by omega)]
 rw[show(A:Int)-1=((A-1:Nat):Int) by omega,show(A:Int)+1=((A+1:Nat):Int) by omega]
 simp only[Int.toNat_natCast]
 refine⟨⟨aq,⟨by omega,by omega⟩,⟨by omega,by omega⟩,⟨by omega,by omega⟩,ao,gS⟩, ?_⟩
 rintro _ rfl _ rfl
 exact ab
theorem GX (l:Array Row) {a s n:Nat} (aC:a+1<n):(medianAdjacent aX l a s).1<n:=by
 rcases medianAdjacent_mem aX l a s with h|h|h<;>omega
theorem Yb {K:J->Prop} {p s:Nat} (h:K (.tup [.d (.int .i64 p), .d (.int .i64 (hintCode (hintOf s)))])):
 (decide ((s:Int)=0)=true->K (.tup [.d (.int .i64 p), .d (.int .i64 1)]))/\(decide ((s:Int)=0)=false->
   (decide ((s:Int)=12)=true->K (.tup [.d (.int .i64 p), .d (.int .i64 2)]))/\(decide ((s:Int)=12)=false->K (.tup [.d (.int .i64 p), .d (.int .i64 0)]))):=by
 unfold hintOf at h
 refine⟨fun U=> ?_,fun U=>⟨fun aa=> ?_,fun aa=> ?_⟩⟩<;>simp only[decide_eq_true_eq,decide_eq_false_iff_not]at*
 ·rw[if_pos (by omega)]at h;exact h
 ·rw[if_neg (by omega),if_pos (by omega)]at h;exact h
 ·rw[if_neg (by omega),if_neg (by omega)]at h;exact h
theorem abM (l:Rows) (a b:Int) (K:J->Prop)
 (h:(fe l a b/\a<b)/\K (.tup [.d (.int .i64 (Go.Sort.choosePivot aX l.toArray a.toNat b.toNat).1), .d (.int .i64 (Go.Sort.hintCode (Go.Sort.choosePivot aX l.toArray a.toNat b.toNat).2))])):Jc l a b K:=by
 obtain⟨⟨⟨aq,aC,-,ae,ar⟩,jf⟩,ab⟩:=h
 obtain⟨A,rfl⟩:=Int.eq_ofNat_of_zero_le aC
 obtain⟨B,rfl⟩:=Int.eq_ofNat_of_zero_le (Int.le_trans aC (Int.le_of_lt jf))
 simp only[Int.toNat_natCast]at ab
 rw[choosePivot_eq]at ab
 unfold Jc
 rw[bl (x:=(B:Int)-A) (by omega)]
 have cm:Int.tdiv ((B:Int)-A) 4=(((B-A)/4:Nat):Int):=by
  rw[show(B:Int)-A=((B-A:Nat):Int) by omega];rfl
 rw[cm,bl (x:=(((B-A)/4:Nat):Int)) (by omega),bl (x:=(((B-A)/4:Nat):Int)*1) (by omega),bl (x:=(((B-A)/4:Nat):Int)*2) (by omega),bl (x:=(((B-A)/4:Nat):Int)*3) (by omega)]
 rw[bl (x:=(A:Int)+(((B-A)/4:Nat):Int)*1) (by omega),bl (x:=(A:Int)+(((B-A)/4:Nat):Int)*2) (by omega),bl (x:=(A:Int)+(((B-A)/4:Nat):Int)*3) (by omega)]
 rw[show(A:Int)+(((B-A)/4:Nat):Int)*1=((A+(B-A)/4*1:Nat):Int) by omega,show(A:Int)+(((B-A)/4:Nat):Int)*2=((A+(B-A)/4*2:Nat):Int) by omega,show(A:Int)+(((B-A)/4:Nat):Int)*3=((A+(B-A)/4*3:Nat):Int) by omega]
 have q1:8<=B-A->A<A+(B-A)/4*1/\A+(B-A)/4*3+1<B:=fun h=>by omega
 have cb:A+(B-A)/4*1<=A+(B-A)/4*2:=by omega
 have cu:A+(B-A)/4*2<=A+(B-A)/4*3:=by omega
 refine⟨fun p s=>∃k5:Nat,s=k5/\rawPivot aX l.toArray A B=(p.toNat,k5)/\0<=p, ?_, ?_⟩
 ·generalize m0:A+(B-A)/4*1=i1 at*
  generalize Ii:A+(B-A)/4*2=i2 at*
  generalize RP:A+(B-A)/4*3=i3 at*
  refine⟨fun h=> ?_,fun h=> ?_⟩
  ·have h:=of_decide_eq_true h
   obtain⟨q1,fM⟩:=q1 (by omega)
   refine⟨fun i j k s=>∃pL fk b3 k5:Nat,i=pL/\j=fk/\k=b3/\s=k5/\pL<l.length/\fk<l.length/\b3<l.length/\k5<10/\rawPivot aX l.toArray A B=median aX l.toArray pL fk b3 k5,⟨fun bo=> ?_,fun bo=> ?_⟩, ?_⟩
   ·have bo:=of_decide_eq_true bo
    have dt:=medianAdjacent_count aX l.toArray i1 0
    refine⟨⟨aq,by omega,by omega,ar,by omega,by omega⟩, ?_⟩
    rintro _ rfl _ rfl
    simp only[Int.toNat_natCast]
    have dD:=medianAdjacent_count aX l.toArray i2 (medianAdjacent aX l.toArray i1 0).2
    have iD:=medianAdjacent_count aX l.toArray i3 (medianAdjacent aX l.toArray i2 (medianAdjacent aX l.toArray i1 0).2).2
    refine⟨⟨aq,by omega,by omega,ar,by omega, ?_⟩, ?_⟩
    ·show(((medianAdjacent aX l.toArray i1 0).2:Nat):Int)<900
     omega
    rintro _ rfl _ rfl
    simp only[Int.toNat_natCast]
    refine⟨⟨aq,by omega,by omega,ar,by omega, ?_⟩, ?_⟩
    ·show(((medianAdjacent aX l.toArray i2 (medianAdjacent aX l.toArray i1 0).2).2:Nat):Int)<900
     omega
    rintro _ rfl _ rfl
    refine⟨_,_,_,_,rfl,rfl,rfl,rfl,GX _ (by omega),GX _ (by omega),GX _ (by omega), ?_, ?_⟩
    ·show(medianAdjacent aX l.toArray i3 (medianAdjacent aX l.toArray i2 (medianAdjacent aX l.toArray i1 0).2).2).2<10
     omega
    unfold rawPivot
    rw[m0,Ii,RP,if_pos (by omega),if_pos (by omega)]
   ·have bo:=of_decide_eq_false bo
    refine⟨_,_,_,0,rfl,rfl,rfl,rfl,by omega,by omega,by omega,by omega, ?_⟩
    unfold rawPivot
    rw[m0,Ii,RP,if_pos (by omega),if_neg (by omega)]
   rintro _ _ _ _ ⟨pL,fk,b3,k5,rfl,rfl,rfl,rfl,oI,z2,z3,z4,z5⟩
   refine⟨⟨aq,⟨by omega,by omega⟩,⟨by omega,by omega⟩,⟨by omega,by omega⟩,by omega,by omega⟩, ?_⟩
   rintro _ rfl _ rfl
   simp only[Int.toNat_natCast]
   exact⟨_,rfl,z5,Int.natCast_nonneg _⟩
  ·have h:=of_decide_eq_false h
   refine⟨0,rfl, ?_,by omega⟩
   unfold rawPivot
   rw[if_neg (by omega),Ii,Int.toNat_natCast]
 ·rintro p _ ⟨s,rfl,e,aw⟩
  obtain⟨P,rfl⟩:=Int.eq_ofNat_of_zero_le aw
  rw[e,Int.toNat_natCast]at ab
  exact Yb ab
end I
end
section
namespace I
open Go Go.bG Go.Sort
theorem Xx {l:Rows} {A B i j:Nat} (ae:B<=l.length) (U:A<=i) (aa:i<B) (al:A<=j) (aL:j<B):PermIn A B l.toArray (dk l i j).toArray:=by
 rw[<-ki]
 exact swp_permIn l.toArray A B i j U aa al aL (by simpa using ae)
theorem abJ (l:Rows) (a b:Int) (K:ad->J->Prop) (h:fe l a b/\∀i,CL l a b i->K (.rows 11 i) (.tup [])):I_ l a b K:=by
 obtain⟨⟨aq,aC,jf,ae,ar⟩,ab⟩:=h
 obtain⟨A,rfl⟩:=Int.eq_ofNat_of_zero_le aC
 obtain⟨B,rfl⟩:=Int.eq_ofNat_of_zero_le (Int.le_trans aC jf)
 unfold I_
 rw[bl (x:=(B:Int)-A) (by omega),show(B:Int)-A=((B-A:Nat):Int) by omega]
 refine⟨fun h=> ?_,fun h=>ab l ⟨aq,permIn_refl _ _ _⟩⟩
 have h:=of_decide_eq_true h
 refine⟨by omega, ?_⟩
 rw[Int.toNat_natCast]
 have g_:=WB (n:=B-A) (by omega)
 have j3:=Xu (B-A)
 rintro _ rfl
 generalize 2^cL (B-A)=M at g_ j3
 have cm:Int.tdiv ((B-A:Nat):Int) 4=(((B-A)/4:Nat):Int):=rfl
 rw[cm,bl (x:=(((B-A)/4:Nat):Int)) (by omega),bl (x:=(((B-A)/4:Nat):Int)*2) (by omega),bl (x:=(A:Int)+(((B-A)/4:Nat):Int)*2) (by omega)]
 rw[bl (x:=(A:Int)+(((B-A)/4:Nat):Int)*2-1) (by omega),bl (x:=(A:Int)+(((B-A)/4:Nat):Int)*2+1) (by omega),cl (x:=(M:Int)-1) (by omega),cl (x:=((B-A:Nat):Int)) (by omega)]
 have h8:A<A+(B-A)/4*2:=by omega
 have lO:A+(B-A)/4*2+1<B:=by omega
 rw[show(A:Int)+(((B-A)/4:Nat):Int)*2=((A+(B-A)/4*2:Nat):Int) by omega]
 generalize A+(B-A)/4*2=C at h8 lO
 refine⟨fun v o r=>(A:Int)<=v/\v<=(C:Int)+2/\0<=r/\r<18446744073709551616/\cQ o/\o.length=l.length/\PermIn A B l.toArray o.toArray,fun v _ _=>((C:Int)+2-v).toNat,⟨by omega,by omega,by omega,by omega,aq,rfl,permIn_refl _ _ _⟩, ?_⟩
 rintro v o r ⟨g1,g2,g3,g4,g5,g6,g7⟩
 obtain⟨V,rfl⟩:=Int.eq_ofNat_of_zero_le (a:=v) (by omega)
 refine⟨fun h=> ?_,fun h=>ab o ⟨g5,g7⟩⟩
 have h:=of_decide_eq_true h
 refine⟨⟨g3,g4⟩,fun i hi=> ?_⟩
 have aC:=Xw i (b:=M-1) (by omega)
 rw[show((M-1:Nat):Int)=(M:Int)-1 by omega]at aC
 generalize bk .and .u64 i ((M:Int)-1)=q at aC
 rw[bl (x:=q) (by omega)]
 refine⟨fun cO bZ=>bZ=o/\0<=cO/\cO<((B-A:Nat):Int),⟨fun aa=> ?_,fun aa=> ?_⟩, ?_⟩
 ·have aa:=of_decide_eq_true aa
  rw[bl (x:=q-((B-A:Nat):Int)) (by omega)]
  exact⟨rfl,rfl,by omega,by omega⟩
 ·have aa:=of_decide_eq_false aa
  exact⟨rfl,rfl,by omega,by omega⟩
 rintro cO bZ ⟨rfl,j2,kB⟩
 obtain⟨W,rfl⟩:=Int.eq_ofNat_of_zero_le j2
 rw[bl (x:=(A:Int)+W) (by omega),bl (x:=(V:Int)+1) (by omega),show(A:Int)+W=((A+W:Nat):Int) by omega]
 simp only[Int.toNat_natCast,List.length_set]
 rw[show(bZ.set V (bZ.getD (A+W) [])).set (A+W) (bZ.getD V [])=dk bZ V (A+W)from rfl]
 have cn:V<bZ.length:=by omega
 have cF:A+W<bZ.length:=by omega
 exact⟨by omega,by omega,g5.len cF,by omega,by omega,g5.len cn,by omega,by omega,by omega,by omega,
  ⟨by omega,by omega,hi.1,hi.2,g5.dk cn cF,by simpa using g6,permIn_trans _ _ _ _ _ g7 (Xx (by omega) (by omega) (by omega) (by omega) (by omega))⟩,by omega⟩
theorem Pu {n:Nat} {l o cp:Rows} {A B c9 df P:Nat} {v3:Int} {aD:Int->Int->Int->Bool->Bool->Rows->Prop} {m:Int->Int->Int->Bool->Bool->Rows->Nat} {K:ad->J->Prop}
 (fH:∀v1 v2 v3 w p o,((A:Int)<=v1/\v1<=v2/\v2<=B/\0<=v3/\v3<=64/\cQ o/\o.length=l.length/\Below aX v1.toNat v2.toNat o.toArray/\
   ∀bp:Rows,cQ bp->PermIn v1.toNat v2.toNat o.toArray bp.toArray->SortedIn aX v1.toNat v2.toNat bp.toArray->K (.rows 11 bp) (.tup []))->aD v1 v2 v3 w p o)
 (hm:∀v1 v2 v3 w p o,m v1 v2 v3 w p o=(v2-v1:Int).toNat)
 (eU:A<=c9) (eG:df<=B) (ajk:B<=l.length) (ar:l.length<1000000000000000) (j5:B-A<n+1) (tQ:c9<=P) (tR:P<df) (aM:0<=v3/\v3<=64)
 (al:cQ cp) (hlen:cp.length=l.length) (nG:Below aX c9 df cp.toArray)
 (jM:∀bp:Rows,cQ bp->PermIn c9 df cp.toArray bp.toArray->SortedIn aX c9 df bp.toArray->K (.rows 11 bp) (.tup [])) (w' m6:Bool) (RQ:Int) (k:Nat) (ab:k=m c9 df RQ w' m6 o):
 0<cp.length/\(fe cp c9 df/\(c9:Int)<=P/\(P:Int)<df)/\∀x:Rows,x=(partition aX cp.toArray c9 df P).2.2.toList->∀fG:Int,fG=(partition aX cp.toArray c9 df P).1->∀na:Bool,na=(partition aX cp.toArray c9 df P).2.1->
  (decide (IntKind.wrap .i64 (fG-c9)<IntKind.wrap .i64 ((df:Int)-fG))=true->(fe x c9 fG/\fG-c9<(n:Int)/\(0<=v3/\v3<=64)/\Below aX c9 fG.toNat x.toArray)/\
    ∀i,kQ x c9 fG i->aD (IntKind.wrap .i64 (fG+1)) df v3 (decide (IntKind.wrap .i64 (Int.tdiv (IntKind.wrap .i64 ((df:Int)-c9)) 8)<=IntKind.wrap .i64 (fG-c9))) na i/\
     m (IntKind.wrap .i64 (fG+1)) df v3 (decide (IntKind.wrap .i64 (Int.tdiv (IntKind.wrap .i64 ((df:Int)-c9)) 8)<=IntKind.wrap .i64 (fG-c9))) na i<k)/\
  (decide (IntKind.wrap .i64 (fG-c9)<IntKind.wrap .i64 ((df:Int)-fG))=false->(fe x (IntKind.wrap .i64 (fG+1)) df/\(df:Int)-IntKind.wrap .i64 (fG+1)<(n:Int)/\(0<=v3/\v3<=64)/\Below aX (IntKind.wrap .i64 (fG+1)).toNat df x.toArray)/\
    ∀i,kQ x (IntKind.wrap .i64 (fG+1)) df i->aD c9 fG v3 (decide (IntKind.wrap .i64 (Int.tdiv (IntKind.wrap .i64 ((df:Int)-c9)) 8)<=IntKind.wrap .i64 ((df:Int)-fG))) na i/\
     m c9 fG v3 (decide (IntKind.wrap .i64 (Int.tdiv (IntKind.wrap .i64 ((df:Int)-c9)) 8)<=IntKind.wrap .i64 ((df:Int)-fG))) na i<k):=by
 refine⟨by omega,⟨⟨al,by omega,by omega,by omega,by omega⟩,by omega,by omega⟩, ?_⟩
 obtain⟨dt,dD,iD,qX,ug,Ed,abl⟩:= @round_part Row _ aX p5 (partition_holds aX) cp.toArray (partition aX cp.toArray c9 df P).2.2 c9 df P (partition aX cp.toArray c9 df P).1 (partition aX cp.toArray c9 df P).2.1 tQ tR (by simp;omega) nG rfl
 have IW:=(partition_holds aX p5 cp.toArray c9 df P tQ tR (by simp;omega)).2.2.1
 have wj:=sC al (by omega) IW
 generalize (partition aX cp.toArray c9 df P).2.2=d4 at*
 generalize (partition aX cp.toArray c9 df P).1=zu at*
 have RR:d4.toList.length=l.length:=wj.2.trans hlen
 rintro _ rfl _ rfl na-
 rw[bl (x:=(zu:Int)+1) (by omega),show(zu:Int)+1=((zu+1:Nat):Int) by omega]
 subst ab
 simp only[hm,Int.toNat_natCast]
 refine⟨fun _=>⟨⟨⟨wj.1,by omega,by omega,by omega,by omega⟩,by omega,aM,qX⟩, ?_⟩,fun _=>⟨⟨⟨wj.1,by omega,by omega,by omega,by omega⟩,by omega,aM,ug⟩, ?_⟩⟩
 ·rintro i ⟨⟨i1,i2⟩,i3⟩
  simp only[Int.toNat_natCast]at i2 i3
  obtain⟨aU,a_⟩:=Ed i.toArray i2 i3
  have bF:i.length=l.length:=(show i.length=d4.toList.length by have:=i2.1;simpa using this).trans RR
  refine⟨fH _ _ _ _ _ _ ⟨by omega,by omega,by omega,aM.1,aM.2,i1,bF,aU,fun bp c3 cP cJ=> ?_⟩,by omega⟩
  obtain⟨sv,uh⟩:=a_ bp.toArray cP cJ
  exact jM bp c3 sv uh
 ·rintro i ⟨⟨i1,i2⟩,i3⟩
  simp only[Int.toNat_natCast]at i2 i3
  obtain⟨aU,a_⟩:=abl i.toArray i2 i3
  have bF:i.length=l.length:=(show i.length=d4.toList.length by have:=i2.1;simpa using this).trans RR
  refine⟨fH _ _ _ _ _ _ ⟨by omega,by omega,by omega,aM.1,aM.2,i1,bF,aU,fun bp c3 cP cJ=> ?_⟩,by omega⟩
  obtain⟨sv,uh⟩:=a_ bp.toArray cP cJ
  exact jM bp c3 sv uh
theorem abV (n:Nat) (l:Rows) (a b m:Int) (K:ad->J->Prop)
 (h:(fe l a b/\b-a<((n+1:Nat):Int)/\(0<=m/\m<=64)/\Below aX a.toNat b.toNat l.toArray)/\∀i,kQ l a b i->K (.rows 11 i) (.tup [])):Jl n l a b m K:=by
 obtain⟨⟨⟨aq,aC,jf,ae,ar⟩,DT,hm,eG⟩,ab⟩:=h
 obtain⟨A,rfl⟩:=Int.eq_ofNat_of_zero_le aC
 obtain⟨B,rfl⟩:=Int.eq_ofNat_of_zero_le (Int.le_trans aC jf)
 unfold Jl
 refine⟨fun v1 v2 v3 _ _ o=>(A:Int)<=v1/\v1<=v2/\v2<=B/\0<=v3/\v3<=64/\cQ o/\o.length=l.length/\Below aX v1.toNat v2.toNat o.toArray/\
  ∀bp:Rows,cQ bp->PermIn v1.toNat v2.toNat o.toArray bp.toArray->SortedIn aX v1.toNat v2.toNat bp.toArray->K (.rows 11 bp) (.tup []),fun v1 v2 _ _ _ _=>(v2-v1:Int).toNat,
  ⟨by omega,jf,by omega,hm.1,hm.2,aq,rfl,eG,fun bp U aa al=>ab bp ⟨⟨U,aa⟩,al⟩⟩, ?_⟩
 rintro v1 v2 v3 w p o ⟨q1,cb,cu,fM,dm,hO,gm,nb,wk⟩
 obtain⟨c9,rfl⟩:=Int.eq_ofNat_of_zero_le (a:=v1) (by omega)
 obtain⟨df,rfl⟩:=Int.eq_ofNat_of_zero_le (a:=v2) (by omega)
 have nb:Below aX c9 df o.toArray:=nb
 have wk:∀bp:Rows,cQ bp->PermIn c9 df o.toArray bp.toArray->SortedIn aX c9 df bp.toArray->K (.rows 11 bp) (.tup []):=wk
 simp only[Int.toNat_natCast]
 have eA:df<=o.toArray.size:=by simp;omega
 have ca:∀{x y:Rows},PermIn c9 df x.toArray y.toArray->y.length=x.length:=fun h=>by have:=h.1;simpa using this
 refine⟨fun h=> ?_,fun h=> ?_⟩
 ·refine⟨⟨hO,by omega,by omega,by omega,by omega⟩, ?_⟩
  rintro _ rfl
  obtain⟨an,az⟩:=insertionSort_holds p5 o.toArray c9 df (by omega) eA
  exact wk _ (sC hO (by omega) an).1 an az
 have h:=of_decide_eq_false h
 rw[bl (x:=(df:Int)-c9) (by omega)]at h
 refine⟨fun aE=> ?_,fun aE=> ?_⟩
 ·refine⟨by omega,⟨⟨hO,by omega,by omega,by omega,by omega⟩,by omega⟩, ?_⟩
  rintro _ rfl
  obtain⟨an,az⟩:=heapSort_holds p5 o.toArray c9 df (by omega) eA
  exact wk _ (sC hO (by omega) an).1 an az
 have aE:=of_decide_eq_false aE
 refine⟨fun v bn=>0<=v/\v<=64/\cQ bn/\PermIn c9 df o.toArray bn.toArray,⟨fun _=> ?_,fun _=> ?_⟩, ?_⟩
 ·rw[bl (x:=v3-1) (by omega)]
  exact⟨by omega,⟨hO,by omega,by omega,by omega,by omega⟩,fun i hi=>⟨by omega,by omega,hi.1,hi.2⟩⟩
 ·exact⟨fM,dm,hO,permIn_refl _ _ _⟩
 rintro RQ bn ⟨j2,kB,ds,IX⟩
 have cj:=ca IX
 refine⟨⟨⟨ds,by omega,by omega,by omega,by omega⟩,by omega⟩, ?_⟩
 have ay:=choosePivot_holds aX bn.toArray c9 df (by omega)
 rintro _ rfl nQ-
 show∃a8:Int->Int->Rows->Prop,_
 generalize (choosePivot aX bn.toArray c9 df).1=C at ay
 refine⟨fun gY _ ba=>(c9:Int)<=gY/\gY<df/\cQ ba/\PermIn c9 df o.toArray ba.toArray,⟨fun _=> ?_,fun _=> ?_⟩, ?_⟩
 ·refine⟨by omega,⟨ds,by omega,by omega,by omega,by omega⟩, ?_⟩
  rintro _ rfl
  rw[bl (x:=(df:Int)-1) (by omega),bl (x:=(C:Int)-c9) (by omega),bl (x:=(df:Int)-1-((C:Int)-c9)) (by omega)]
  have an:=reverseRange_holds bn.toArray c9 df (by omega) (by simp;omega)
  exact⟨by omega,by omega,(sC ds (by omega) an).1,permIn_trans _ _ _ _ _ IX an⟩
 ·exact⟨by omega,by omega,ds,IX⟩
 rintro gY nQ ba ⟨oI,z2,z3,z4⟩
 obtain⟨P,rfl⟩:=Int.eq_ofNat_of_zero_le (a:=gY) (by omega)
 have db:=ca z4
 refine⟨fun cp=>cQ cp/\PermIn c9 df o.toArray cp.toArray,⟨fun _=>⟨fun _=>⟨fun _=> ?_,fun _=>⟨z3,z4⟩⟩,fun _=>⟨z3,z4⟩⟩,fun _=>⟨z3,z4⟩⟩, ?_⟩
 ·refine⟨by omega,⟨⟨z3,by omega,by omega,by omega,by omega⟩,by omega⟩, ?_⟩
  rintro _ rfl fG rfl
  obtain⟨an,az⟩:=partialInsertionSort_holds p5 ba.toArray c9 df (by omega) (by simp;omega) (nb.perm eA z4)
  have bK:=permIn_trans _ _ _ _ _ z4 an
  have cm:=(sC z3 (by omega) an).1
  exact⟨fun h=>wk _ cm bK (az h),fun _=>⟨cm,bK⟩⟩
 rintro cp ⟨t1,t2⟩
 have Sl:=ca t2
 have nG:=nb.perm eA t2
 have tQ:c9<=P:=by omega
 have tR:P<df:=by omega
 have jM:∀bp:Rows,cQ bp->PermIn c9 df cp.toArray bp.toArray->SortedIn aX c9 df bp.toArray->K (.rows 11 bp) (.tup []):=fun bp c3 cP cJ=>wk bp c3 (permIn_trans _ _ _ _ _ t2 cP) cJ
 simp only[Int.toNat_natCast]
 refine⟨fun tI=> ?_,fun _=> ?pt⟩
 case pt=>exact Pu (l:=l) (A:=A) (B:=B) (o:=o) (fun _ _ _ _ _ _ h=>h) (fun _ _ _ _ _ _=>rfl) (by omega) (by omega) (by omega) ar (by omega) tQ tR ⟨j2,kB⟩ t1 (by omega) nG jM w p v3 _ rfl
 have tI:=of_decide_eq_true tI
 rw[bl (x:=(c9:Int)-1) (by omega),show(c9:Int)-1=((c9-1:Nat):Int) by omega]
 simp only[Int.toNat_natCast]
 have cn:c9-1<cp.length:=by omega
 have cF:P<cp.length:=by omega
 refine⟨by omega,by omega,t1.len cn,by omega,by omega,t1.len cF,⟨t1.get cn,t1.get cF⟩, ?_⟩
 rintro _ rfl
 refine⟨fun jh=> ?_,fun _=> ?pt2⟩
 case pt2=>exact Pu (l:=l) (A:=A) (B:=B) (o:=o) (fun _ _ _ _ _ _ h=>h) (fun _ _ _ _ _ _=>rfl) (by omega) (by omega) (by omega) ar (by omega) tQ tR ⟨j2,kB⟩ t1 (by omega) nG jM w p v3 _ rfl
 have kv:aX cp.toArray[c9-1]! cp.toArray[P]! =false:=by rw[iZ];simpa using jh
 refine⟨by omega,⟨⟨t1,by omega,by omega,by omega,by omega⟩,by omega,by omega⟩, ?_⟩
 rintro _ rfl _ rfl
 obtain⟨dt,dD,iD,qX,ug⟩:= @round_eq Row _ aX p5 (partitionEqual_holds aX) cp.toArray (partitionEqual aX cp.toArray c9 df P).2 c9 df P (partitionEqual aX cp.toArray c9 df P).1 (by omega) tQ tR (by simp;omega) nG kv rfl
 have Ed:=permIn_all cp.toArray cp.toArray c9 df (fun _=>True) (by simp;omega) (permIn_refl _ _ _) (fun _ _ _=>trivial)
 have iz:∀i,c9<=i->i<df->aX cp.toArray[i]! cp.toArray[P]! =false:=fun i hi dH=>by
  rcases nG with aE|nG
  ·omega
  ·exact p5.ntrans _ _ _ (nG i hi dH) kv
 have IW:=(partitionEqual_holds aX p5 cp.toArray c9 df P tQ tR (by simp;omega) iz).2.2.1
 have wj:=sC t1 (by omega) IW
 generalize (partitionEqual aX cp.toArray c9 df P).2=d4 at*
 generalize (partitionEqual aX cp.toArray c9 df P).1=zu at*
 refine⟨⟨by omega,by omega,by omega,j2,kB,wj.1,wj.2.trans (by omega),qX,fun bp c3 cP cJ=> ?_⟩, ?_⟩
 ·obtain⟨sv,uh⟩:=ug bp.toArray cP cJ
  exact jM bp c3 sv uh
 ·show((df:Int)-zu).toNat<((df:Int)-c9).toNat
  omega
theorem abO (l:Rows) (K:ad->J->Prop) (h:(cQ l/\l.length<1000000000000000)/\∀i,kQ l 0 l.length i->K (.rows 11 i) (.tup [])):Je l K:=by
 obtain⟨⟨aq,ar⟩,ab⟩:=h
 unfold Je
 rw[cl (x:=(l.length:Int)) (by omega)]
 refine⟨by omega, ?_⟩
 rintro _ rfl
 have:=uS (n:=(l.length:Int).toNat) (k:=64) (by omega)
 exact⟨⟨⟨aq,by omega,by omega,by omega,ar⟩,by omega, .inl rfl⟩,ab⟩
end I
end
section
open Go Go.bG
namespace I
def dn.cap (q:dn):List J:=match q.desc with|true=>[.agg [.bt]]|false=>[.agg [.d (.int .i64 8)]]
theorem dn.ly {q:dn} {g:Nat} {c:List J} (h:q.is g c=true):g=q.g/\c=q.cap:=by
 unfold dn.is at h
 unfold dn.cap
 split at h
 ·rename_i U aa;exact⟨Nat.eq_of_beq_eq_true U,by rw[aa]⟩
 ·rename_i U aa;exact⟨Nat.eq_of_beq_eq_true U,by rw[aa]⟩
 ·cases h
theorem ahB (q:dn) {M:J->ad->List J->(ad->J->Prop)->Prop} (H:∀(l:I.Rows) (a b:Int) K,G9.T q (.vec 0) (.rows 11 l) [.d (.int .i64 a), .d (.int .i64 b), .cls q.g q.cap] K->M (.vec 0) (.rows 11 l) [.d (.int .i64 a), .d (.int .i64 b), .cls q.g q.cap] K) (a0:J) (bW:ad) (args:List J) (K:ad->J->Prop) (hyp:G9.T q a0 bW args K):M a0 bW args K:=by
 have e:∃l a b,a0= .vec 0/\bW= .rows 11 l/\args=[.d (.int .i64 a), .d (.int .i64 b), .cls q.g q.cap]:=by
  unfold G9.T eO at hyp
  split at hyp
  ·rename_i he
   simp only at he
   split at he
   ·split at he
    ·rename_i aE U aN
     obtain rfl:=Nat.eq_of_beq_eq_true aE
     obtain rfl:=Nat.eq_of_beq_eq_true U
     obtain⟨rfl,rfl⟩:=dn.ly aN
     exact⟨_,_,_,rfl,rfl,rfl⟩
    ·cases he
   ·cases he
  ·exact hyp.elim
 obtain⟨l,a,b,bE,an,az⟩:=e
 subst bE an az
 exact H l a b K hyp
theorem agr (q:dn) {M:J->ad->List J->(ad->J->Prop)->Prop} (H:∀(l:I.Rows) (vo hi f:Int) K,GQ.T q (.vec 0) (.rows 11 l) [.d (.int .i64 vo), .d (.int .i64 hi), .d (.int .i64 f), .cls q.g q.cap] K->M (.vec 0) (.rows 11 l) [.d (.int .i64 vo), .d (.int .i64 hi), .d (.int .i64 f), .cls q.g q.cap] K) (a0:J) (bW:ad) (args:List J) (K:ad->J->Prop) (hyp:GQ.T q a0 bW args K):M a0 bW args K:=by
 have e:∃l vo hi f,a0= .vec 0/\bW= .rows 11 l/\args=[.d (.int .i64 vo), .d (.int .i64 hi), .d (.int .i64 f), .cls q.g q.cap]:=by
  unfold GQ.T eO at hyp
  split at hyp
  ·rename_i he
   simp only at he
   split at he
   ·split at he
    ·rename_i aE U aN
     obtain rfl:=Nat.eq_of_beq_eq_true aE
     obtain rfl:=Nat.eq_of_beq_eq_true U
     obtain⟨rfl,rfl⟩:=dn.ly aN
     exact⟨_,_,_,_,rfl,rfl,rfl⟩
    ·cases he
   ·cases he
  ·exact hyp.elim
 obtain⟨l,vo,hi,f,bE,an,az⟩:=e
 subst bE an az
 exact H l vo hi f K hyp
theorem ags (q:dn) {M:J->ad->List J->(ad->J->Prop)->Prop} (H:∀(l:I.Rows) (a b:Int) K,GR.T q (.vec 0) (.rows 11 l) [.d (.int .i64 a), .d (.int .i64 b), .cls q.g q.cap] K->M (.vec 0) (.rows 11 l) [.d (.int .i64 a), .d (.int .i64 b), .cls q.g q.cap] K) (a0:J) (bW:ad) (args:List J) (K:ad->J->Prop) (hyp:GR.T q a0 bW args K):M a0 bW args K:=by
 have e:∃l a b,a0= .vec 0/\bW= .rows 11 l/\args=[.d (.int .i64 a), .d (.int .i64 b), .cls q.g q.cap]:=by
  unfold GR.T eO at hyp
  split at hyp
  ·rename_i he
   simp only at he
   split at he
   ·split at he
    ·rename_i aE U aN
     obtain rfl:=Nat.eq_of_beq_eq_true aE
     obtain rfl:=Nat.eq_of_beq_eq_true U
     obtain⟨rfl,rfl⟩:=dn.ly aN
     exact⟨_,_,_,rfl,rfl,rfl⟩
    ·cases he
   ·cases he
  ·exact hyp.elim
 obtain⟨l,a,b,bE,an,az⟩:=e
 subst bE an az
 exact H l a b K hyp
theorem agt (q:dn) {M:J->ad->List J->(ad->J->Prop)->Prop} (H:∀(l:I.Rows) (a b p:Int) K,GS.T q (.vec 0) (.rows 11 l) [.d (.int .i64 a), .d (.int .i64 b), .d (.int .i64 p), .cls q.g q.cap] K->M (.vec 0) (.rows 11 l) [.d (.int .i64 a), .d (.int .i64 b), .d (.int .i64 p), .cls q.g q.cap] K) (a0:J) (bW:ad) (args:List J) (K:ad->J->Prop) (hyp:GS.T q a0 bW args K):M a0 bW args K:=by
 have e:∃l a b p,a0= .vec 0/\bW= .rows 11 l/\args=[.d (.int .i64 a), .d (.int .i64 b), .d (.int .i64 p), .cls q.g q.cap]:=by
  unfold GS.T eO at hyp
  split at hyp
  ·rename_i he
   simp only at he
   split at he
   ·split at he
    ·rename_i aE U aN
     obtain rfl:=Nat.eq_of_beq_eq_true aE
     obtain rfl:=Nat.eq_of_beq_eq_true U
     obtain⟨rfl,rfl⟩:=dn.ly aN
     exact⟨_,_,_,_,rfl,rfl,rfl⟩
    ·cases he
   ·cases he
  ·exact hyp.elim
 obtain⟨l,a,b,p,bE,an,az⟩:=e
 subst bE an az
 exact H l a b p K hyp
theorem aeM (q:dn) {M:J->ad->List J->(ad->J->Prop)->Prop} (H:∀(l:I.Rows) (a b p:Int) K,F2.T q (.vec 0) (.rows 11 l) [.d (.int .i64 a), .d (.int .i64 b), .d (.int .i64 p), .cls q.g q.cap] K->M (.vec 0) (.rows 11 l) [.d (.int .i64 a), .d (.int .i64 b), .d (.int .i64 p), .cls q.g q.cap] K) (a0:J) (bW:ad) (args:List J) (K:ad->J->Prop) (hyp:F2.T q a0 bW args K):M a0 bW args K:=by
 have e:∃l a b p,a0= .vec 0/\bW= .rows 11 l/\args=[.d (.int .i64 a), .d (.int .i64 b), .d (.int .i64 p), .cls q.g q.cap]:=by
  unfold F2.T eO at hyp
  split at hyp
  ·rename_i he
   simp only at he
   split at he
   ·split at he
    ·rename_i aE U aN
     obtain rfl:=Nat.eq_of_beq_eq_true aE
     obtain rfl:=Nat.eq_of_beq_eq_true U
     obtain⟨rfl,rfl⟩:=dn.ly aN
     exact⟨_,_,_,_,rfl,rfl,rfl⟩
    ·cases he
   ·cases he
  ·exact hyp.elim
 obtain⟨l,a,b,p,bE,an,az⟩:=e
 subst bE an az
 exact H l a b p K hyp
theorem aeg (q:dn) {M:J->ad->List J->(ad->J->Prop)->Prop} (H:∀(l:I.Rows) (a b:Int) K,Fw.T q (.vec 0) (.rows 11 l) [.d (.int .i64 a), .d (.int .i64 b), .cls q.g q.cap] K->M (.vec 0) (.rows 11 l) [.d (.int .i64 a), .d (.int .i64 b), .cls q.g q.cap] K) (a0:J) (bW:ad) (args:List J) (K:ad->J->Prop) (hyp:Fw.T q a0 bW args K):M a0 bW args K:=by
 have e:∃l a b,a0= .vec 0/\bW= .rows 11 l/\args=[.d (.int .i64 a), .d (.int .i64 b), .cls q.g q.cap]:=by
  unfold Fw.T eO at hyp
  split at hyp
  ·rename_i he
   simp only at he
   split at he
   ·split at he
    ·rename_i aE U aN
     obtain rfl:=Nat.eq_of_beq_eq_true aE
     obtain rfl:=Nat.eq_of_beq_eq_true U
     obtain⟨rfl,rfl⟩:=dn.ly aN
     exact⟨_,_,_,rfl,rfl,rfl⟩
    ·cases he
   ·cases he
  ·exact hyp.elim
 obtain⟨l,a,b,bE,an,az⟩:=e
 subst bE an az
 exact H l a b K hyp
theorem ahC (q:dn) {M:J->ad->List J->(ad->J->Prop)->Prop} (H:∀(l:I.Rows) (a b:Int) K,G_.T q (.vec 0) (.rows 11 l) [.d (.int .i64 a), .d (.int .i64 b), .cls q.g q.cap] K->M (.vec 0) (.rows 11 l) [.d (.int .i64 a), .d (.int .i64 b), .cls q.g q.cap] K) (a0:J) (bW:ad) (args:List J) (K:ad->J->Prop) (hyp:G_.T q a0 bW args K):M a0 bW args K:=by
 have e:∃l a b,a0= .vec 0/\bW= .rows 11 l/\args=[.d (.int .i64 a), .d (.int .i64 b), .cls q.g q.cap]:=by
  unfold G_.T eO at hyp
  split at hyp
  ·rename_i he
   simp only at he
   split at he
   ·split at he
    ·rename_i aE U aN
     obtain rfl:=Nat.eq_of_beq_eq_true aE
     obtain rfl:=Nat.eq_of_beq_eq_true U
     obtain⟨rfl,rfl⟩:=dn.ly aN
     exact⟨_,_,_,rfl,rfl,rfl⟩
    ·cases he
   ·cases he
  ·exact hyp.elim
 obtain⟨l,a,b,bE,an,az⟩:=e
 subst bE an az
 exact H l a b K hyp
theorem agu (q:dn) {M:J->ad->List J->(ad->J->Prop)->Prop} (H:∀(l:I.Rows) (a b s:Int) K,GU.T q (.ptr 0 0) (.cells [.d (.int .i64 s)]) [.d (.rows 11 l), .d (.int .i64 a), .d (.int .i64 b), .cls q.g q.cap] K->M (.ptr 0 0) (.cells [.d (.int .i64 s)]) [.d (.rows 11 l), .d (.int .i64 a), .d (.int .i64 b), .cls q.g q.cap] K) (a0:J) (bW:ad) (args:List J) (K:ad->J->Prop) (hyp:GU.T q a0 bW args K):M a0 bW args K:=by
 have e:∃l a b s,a0= .ptr 0 0/\bW= .cells [.d (.int .i64 s)]/\args=[.d (.rows 11 l), .d (.int .i64 a), .d (.int .i64 b), .cls q.g q.cap]:=by
  unfold GU.T eO at hyp
  split at hyp
  ·rename_i he
   simp only at he
   split at he
   ·split at he
    ·rename_i aE U aa aN
     obtain rfl:=Nat.eq_of_beq_eq_true aE
     obtain rfl:=Nat.eq_of_beq_eq_true U
     obtain rfl:=Nat.eq_of_beq_eq_true aa
     obtain⟨rfl,rfl⟩:=dn.ly aN
     exact⟨_,_,_,_,rfl,rfl,rfl⟩
    ·cases he
   ·cases he
  ·exact hyp.elim
 obtain⟨l,a,b,s,bE,an,az⟩:=e
 subst bE an az
 exact H l a b s K hyp
theorem ahD (q:dn) {M:J->ad->List J->(ad->J->Prop)->Prop} (H:∀(l:I.Rows) (a b e s:Int) K,Ha.T q (.ptr 0 0) (.cells [.d (.int .i64 s)]) [.d (.rows 11 l), .d (.int .i64 a), .d (.int .i64 b), .d (.int .i64 e), .cls q.g q.cap] K->M (.ptr 0 0) (.cells [.d (.int .i64 s)]) [.d (.rows 11 l), .d (.int .i64 a), .d (.int .i64 b), .d (.int .i64 e), .cls q.g q.cap] K) (a0:J) (bW:ad) (args:List J) (K:ad->J->Prop) (hyp:Ha.T q a0 bW args K):M a0 bW args K:=by
 have e:∃l a b e s,a0= .ptr 0 0/\bW= .cells [.d (.int .i64 s)]/\args=[.d (.rows 11 l), .d (.int .i64 a), .d (.int .i64 b), .d (.int .i64 e), .cls q.g q.cap]:=by
  unfold Ha.T eO at hyp
  split at hyp
  ·rename_i he
   simp only at he
   split at he
   ·split at he
    ·rename_i aE U aa aN
     obtain rfl:=Nat.eq_of_beq_eq_true aE
     obtain rfl:=Nat.eq_of_beq_eq_true U
     obtain rfl:=Nat.eq_of_beq_eq_true aa
     obtain⟨rfl,rfl⟩:=dn.ly aN
     exact⟨_,_,_,_,_,rfl,rfl,rfl⟩
    ·cases he
   ·cases he
  ·exact hyp.elim
 obtain⟨l,a,b,e,s,bE,an,az⟩:=e
 subst bE an az
 exact H l a b e s K hyp
theorem aeN (q:dn) {M:J->ad->List J->(ad->J->Prop)->Prop} (H:∀(l:I.Rows) (a s:Int) K,F3.T q (.ptr 0 0) (.cells [.d (.int .i64 s)]) [.d (.rows 11 l), .d (.int .i64 a), .cls q.g q.cap] K->M (.ptr 0 0) (.cells [.d (.int .i64 s)]) [.d (.rows 11 l), .d (.int .i64 a), .cls q.g q.cap] K) (a0:J) (bW:ad) (args:List J) (K:ad->J->Prop) (hyp:F3.T q a0 bW args K):M a0 bW args K:=by
 have e:∃l a s,a0= .ptr 0 0/\bW= .cells [.d (.int .i64 s)]/\args=[.d (.rows 11 l), .d (.int .i64 a), .cls q.g q.cap]:=by
  unfold F3.T eO at hyp
  split at hyp
  ·rename_i he
   simp only at he
   split at he
   ·split at he
    ·rename_i aE U aa aN
     obtain rfl:=Nat.eq_of_beq_eq_true aE
     obtain rfl:=Nat.eq_of_beq_eq_true U
     obtain rfl:=Nat.eq_of_beq_eq_true aa
     obtain⟨rfl,rfl⟩:=dn.ly aN
     exact⟨_,_,_,rfl,rfl,rfl⟩
    ·cases he
   ·cases he
  ·exact hyp.elim
 obtain⟨l,a,s,bE,an,az⟩:=e
 subst bE an az
 exact H l a s K hyp
theorem afB (q:dn) {M:List J->(J->Prop)->Prop} (H:∀(l:I.Rows) (a b:Int) K,Gx.T q [.d (.rows 11 l), .d (.int .i64 a), .d (.int .i64 b), .cls q.g q.cap] K->M [.d (.rows 11 l), .d (.int .i64 a), .d (.int .i64 b), .cls q.g q.cap] K) (args:List J) (K:J->Prop) (hyp:Gx.T q args K):M args K:=by
 have e:∃l a b,args=[.d (.rows 11 l), .d (.int .i64 a), .d (.int .i64 b), .cls q.g q.cap]:=by
  unfold Gx.T spec at hyp
  split at hyp
  ·rename_i he
   simp only at he
   split at he
   ·split at he
    ·rename_i aE aN
     obtain rfl:=Nat.eq_of_beq_eq_true aE
     obtain⟨rfl,rfl⟩:=dn.ly aN
     exact⟨_,_,_,rfl⟩
    ·cases he
   ·cases he
  ·exact hyp.elim
 obtain⟨l,a,b,bE⟩:=e
 subst bE
 exact H l a b K hyp
theorem afC (q:dn) {M:J->ad->List J->(ad->J->Prop)->Prop} (H:∀(l:I.Rows) (a b:Int) K,B_.T q (.vec 0) (.rows 11 l) [.d (.int .i64 a), .d (.int .i64 b), .cls q.g q.cap] K->M (.vec 0) (.rows 11 l) [.d (.int .i64 a), .d (.int .i64 b), .cls q.g q.cap] K) (a0:J) (bW:ad) (args:List J) (K:ad->J->Prop) (hyp:B_.T q a0 bW args K):M a0 bW args K:=by
 have e:∃l a b,a0= .vec 0/\bW= .rows 11 l/\args=[.d (.int .i64 a), .d (.int .i64 b), .cls q.g q.cap]:=by
  unfold B_.T kL at hyp
  split at hyp
  ·rename_i he
   simp only at he
   split at he
   ·split at he
    ·rename_i aE U aN
     obtain rfl:=Nat.eq_of_beq_eq_true aE
     obtain rfl:=Nat.eq_of_beq_eq_true U
     obtain⟨rfl,rfl⟩:=dn.ly aN
     exact⟨_,_,_,rfl,rfl,rfl⟩
    ·cases he
   ·cases he
  ·exact hyp.elim
 obtain⟨l,a,b,bE,an,az⟩:=e
 subst bE an az
 exact H l a b K hyp
theorem Xq (q:dn) (n:Nat) {M:J->ad->List J->(ad->J->Prop)->Prop} (H:∀(l:I.Rows) (a b m:Int) K,qv.T q n (.vec 0) (.rows 11 l) [.d (.int .i64 a), .d (.int .i64 b), .d (.int .i64 m), .cls q.g q.cap] K->M (.vec 0) (.rows 11 l) [.d (.int .i64 a), .d (.int .i64 b), .d (.int .i64 m), .cls q.g q.cap] K) (a0:J) (bW:ad) (args:List J) (K:ad->J->Prop) (hyp:qv.T q n a0 bW args K):M a0 bW args K:=by
 have e:∃l a b m,a0= .vec 0/\bW= .rows 11 l/\args=[.d (.int .i64 a), .d (.int .i64 b), .d (.int .i64 m), .cls q.g q.cap]:=by
  unfold qv.T kL at hyp
  split at hyp
  ·rename_i he
   simp only at he
   split at he
   ·split at he
    ·rename_i aE U aN
     obtain rfl:=Nat.eq_of_beq_eq_true aE
     obtain rfl:=Nat.eq_of_beq_eq_true U
     obtain⟨rfl,rfl⟩:=dn.ly aN
     exact⟨_,_,_,_,rfl,rfl,rfl⟩
    ·cases he
   ·cases he
  ·exact hyp.elim
 obtain⟨l,a,b,m,bE,an,az⟩:=e
 subst bE an az
 exact H l a b m K hyp
theorem Wv (q:dn) {M:J->ad->List J->(ad->J->Prop)->Prop} (H:∀(l:I.Rows) (a b m:Int) K,vc.T q (.vec 0) (.rows 11 l) [.d (.int .i64 a), .d (.int .i64 b), .d (.int .i64 m), .cls q.g q.cap] K->M (.vec 0) (.rows 11 l) [.d (.int .i64 a), .d (.int .i64 b), .d (.int .i64 m), .cls q.g q.cap] K) (a0:J) (bW:ad) (args:List J) (K:ad->J->Prop) (hyp:vc.T q a0 bW args K):M a0 bW args K:=by
 have e:∃l a b m,a0= .vec 0/\bW= .rows 11 l/\args=[.d (.int .i64 a), .d (.int .i64 b), .d (.int .i64 m), .cls q.g q.cap]:=by
  unfold vc.T kL at hyp
  split at hyp
  ·rename_i he
   simp only at he
   split at he
   ·split at he
    ·rename_i aE U aN
     obtain rfl:=Nat.eq_of_beq_eq_true aE
     obtain rfl:=Nat.eq_of_beq_eq_true U
     obtain⟨rfl,rfl⟩:=dn.ly aN
     exact⟨_,_,_,_,rfl,rfl,rfl⟩
    ·cases he
   ·cases he
  ·exact hyp.elim
 obtain⟨l,a,b,m,bE,an,az⟩:=e
 subst bE an az
 exact H l a b m K hyp
theorem agv (q:dn) {M:J->ad->List J->(ad->J->Prop)->Prop} (H:∀(l:I.Rows) K,CM.T q (.vec 0) (.rows 11 l) [.cls q.g q.cap] K->M (.vec 0) (.rows 11 l) [.cls q.g q.cap] K) (a0:J) (bW:ad) (args:List J) (K:ad->J->Prop) (hyp:CM.T q a0 bW args K):M a0 bW args K:=by
 have e:∃l,a0= .vec 0/\bW= .rows 11 l/\args=[.cls q.g q.cap]:=by
  unfold CM.T kL at hyp
  split at hyp
  ·rename_i he
   simp only at he
   split at he
   ·split at he
    ·rename_i aE U aN
     obtain rfl:=Nat.eq_of_beq_eq_true aE
     obtain rfl:=Nat.eq_of_beq_eq_true U
     obtain⟨rfl,rfl⟩:=dn.ly aN
     exact⟨_,rfl,rfl,rfl⟩
    ·cases he
   ·cases he
  ·exact hyp.elim
 obtain⟨l,bE,an,az⟩:=e
 subst bE an az
 exact H l K hyp
theorem afD {M:List J->(J->Prop)->Prop} (H:∀(x:Int) K,xq.T [.d (.int .u64 x)] K->M [.d (.int .u64 x)] K) (args:List J) (K:J->Prop) (hyp:xq.T args K):M args K:=by
 have e:∃x,args=[.d (.int .u64 x)]:=by
  unfold xq.T spec at hyp
  split at hyp
  ·rename_i he
   simp only at he
   split at he
   ·exact⟨_,rfl⟩
   ·cases he
  ·exact hyp.elim
 obtain⟨x,bE⟩:=e
 subst bE
 exact H x K hyp
theorem ahE {M:List J->(J->Prop)->Prop} (H:∀(x:Int) K,Dk.T [.d (.int .i64 x)] K->M [.d (.int .i64 x)] K) (args:List J) (K:J->Prop) (hyp:Dk.T args K):M args K:=by
 have e:∃x,args=[.d (.int .i64 x)]:=by
  unfold Dk.T spec at hyp
  split at hyp
  ·rename_i he
   simp only at he
   split at he
   ·exact⟨_,rfl⟩
   ·cases he
  ·exact hyp.elim
 obtain⟨x,bE⟩:=e
 subst bE
 exact H x K hyp
theorem ahF {M:J->ad->List J->(ad->J->Prop)->Prop} (H:∀(x:Int) K,Dl.T (.ptr 0 0) (.cells [.d (.int .u64 x)]) [] K->M (.ptr 0 0) (.cells [.d (.int .u64 x)]) [] K) (a0:J) (bW:ad) (args:List J) (K:ad->J->Prop) (hyp:Dl.T a0 bW args K):M a0 bW args K:=by
 have e:∃x,a0= .ptr 0 0/\bW= .cells [.d (.int .u64 x)]/\args=[]:=by
  unfold Dl.T kL at hyp
  split at hyp
  ·rename_i he
   simp only at he
   split at he
   ·split at he
    ·rename_i aE U
     obtain rfl:=Nat.eq_of_beq_eq_true aE
     obtain rfl:=Nat.eq_of_beq_eq_true U
     exact⟨_,rfl,rfl,rfl⟩
    ·cases he
   ·cases he
  ·exact hyp.elim
 obtain⟨x,bE,an,az⟩:=e
 subst bE an az
 exact H x K hyp
theorem agw {M:List J->(J->Prop)->Prop} (H:∀(a b:Int) K,CN.T [.d (.int .i64 a), .d (.int .i64 b)] K->M [.d (.int .i64 a), .d (.int .i64 b)] K) (args:List J) (K:J->Prop) (hyp:CN.T args K):M args K:=by
 have e:∃a b,args=[.d (.int .i64 a), .d (.int .i64 b)]:=by
  unfold CN.T spec at hyp
  split at hyp
  ·rename_i he
   simp only at he
   split at he
   ·exact⟨_,_,rfl⟩
   ·cases he
  ·exact hyp.elim
 obtain⟨a,b,bE⟩:=e
 subst bE
 exact H a b K hyp
theorem afE {M:List J->(J->Prop)->Prop} (H:∀(a:Int) K,Ca.T [.d (.int .i64 a)] K->M [.d (.int .i64 a)] K) (args:List J) (K:J->Prop) (hyp:Ca.T args K):M args K:=by
 have e:∃a,args=[.d (.int .i64 a)]:=by
  unfold Ca.T spec at hyp
  split at hyp
  ·rename_i he
   simp only at he
   split at he
   ·exact⟨_,rfl⟩
   ·cases he
  ·exact hyp.elim
 obtain⟨a,bE⟩:=e
 subst bE
 exact H a K hyp
theorem aeh {M:List J->(J->Prop)->Prop} (H:∀(a b:List Int) K,AW.T [.d (.ints .i64 a), .d (.ints .i64 b)] K->M [.d (.ints .i64 a), .d (.ints .i64 b)] K) (args:List J) (K:J->Prop) (hyp:AW.T args K):M args K:=by
 have e:∃a b,args=[.d (.ints .i64 a), .d (.ints .i64 b)]:=by
  unfold AW.T spec at hyp
  split at hyp
  ·rename_i he
   simp only at he
   split at he
   ·exact⟨_,_,rfl⟩
   ·cases he
  ·exact hyp.elim
 obtain⟨a,b,bE⟩:=e
 subst bE
 exact H a b K hyp
theorem ahG {M:List J->(J->Prop)->Prop} (H:∀(a:List Int) K,Dn.T [.d (.ints .i64 a)] K->M [.d (.ints .i64 a)] K) (args:List J) (K:J->Prop) (hyp:Dn.T args K):M args K:=by
 have e:∃a,args=[.d (.ints .i64 a)]:=by
  unfold Dn.T spec at hyp
  split at hyp
  ·rename_i he
   simp only at he
   split at he
   ·exact⟨_,rfl⟩
   ·cases he
  ·exact hyp.elim
 obtain⟨a,bE⟩:=e
 subst bE
 exact H a K hyp
theorem afF {M:List J->(J->Prop)->Prop} (H:∀(a b:I.Row) K,Cb.T [.rw 8 a, .rw 8 b] K->M [.rw 8 a, .rw 8 b] K) (args:List J) (K:J->Prop) (hyp:Cb.T args K):M args K:=by
 have e:∃a b,args=[.rw 8 a, .rw 8 b]:=by
  unfold Cb.T spec at hyp
  split at hyp
  ·rename_i he
   simp only at he
   split at he
   ·split at he
    ·rename_i aE U
     obtain rfl:=Nat.eq_of_beq_eq_true aE
     obtain rfl:=Nat.eq_of_beq_eq_true U
     exact⟨_,_,rfl⟩
    ·cases he
   ·cases he
  ·exact hyp.elim
 obtain⟨a,b,bE⟩:=e
 subst bE
 exact H a b K hyp
theorem afG {M:List J->(J->Prop)->Prop} (H:∀(r:I.Row) K,Cd.T [.rw 11 r] K->M [.rw 11 r] K) (args:List J) (K:J->Prop) (hyp:Cd.T args K):M args K:=by
 have e:∃r,args=[.rw 11 r]:=by
  unfold Cd.T spec at hyp
  split at hyp
  ·rename_i he
   simp only at he
   split at he
   ·split at he
    ·rename_i aE
     obtain rfl:=Nat.eq_of_beq_eq_true aE
     exact⟨_,rfl⟩
    ·cases he
   ·cases he
  ·exact hyp.elim
 obtain⟨r,bE⟩:=e
 subst bE
 exact H r K hyp
theorem aeO (g:Nat) {M:List J->(J->Prop)->Prop} (H:∀(l:I.Rows) K,xh.T g [.d (.rows 11 l), .fn g] K->M [.d (.rows 11 l), .fn g] K) (args:List J) (K:J->Prop) (hyp:xh.T g args K):M args K:=by
 have e:∃l,args=[.d (.rows 11 l), .fn g]:=by
  unfold xh.T spec at hyp
  split at hyp
  ·rename_i he
   simp only at he
   split at he
   ·split at he
    ·rename_i aE U
     obtain rfl:=Nat.eq_of_beq_eq_true aE
     obtain rfl:=Nat.eq_of_beq_eq_true U
     exact⟨_,rfl⟩
    ·cases he
   ·cases he
  ·exact hyp.elim
 obtain⟨l,bE⟩:=e
 subst bE
 exact H l K hyp
theorem agx (g:Nat) {M:ad->List J->(ad->Prop)->Prop} (H:∀(l:I.Rows) K,xG.T g (.rows 11 l) [.fn g] K->M (.rows 11 l) [.fn g] K) (bW:ad) (args:List J) (K:ad->Prop) (hyp:xG.T g bW args K):M bW args K:=by
 have e:∃l,bW= .rows 11 l/\args=[.fn g]:=by
  unfold xG.T vd at hyp
  split at hyp
  ·rename_i he
   simp only at he
   split at he
   ·split at he
    ·rename_i aE U
     obtain rfl:=Nat.eq_of_beq_eq_true aE
     obtain rfl:=Nat.eq_of_beq_eq_true U
     exact⟨_,rfl,rfl⟩
    ·cases he
   ·cases he
  ·exact hyp.elim
 obtain⟨l,bE,an⟩:=e
 subst bE an
 exact H l K hyp
theorem afH {M:List J->(ad->Prop)->Prop} (H:∀(l:I.Rows) K,Cc.T [.d (.rows 11 l)] K->M [.d (.rows 11 l)] K) (args:List J) (K:ad->Prop) (hyp:Cc.T args K):M args K:=by
 have e:∃l,args=[.d (.rows 11 l)]:=by
  unfold Cc.T lr at hyp
  split at hyp
  ·rename_i he
   simp only at he
   split at he
   ·split at he
    ·rename_i aE
     obtain rfl:=Nat.eq_of_beq_eq_true aE
     exact⟨_,rfl⟩
    ·cases he
   ·cases he
  ·exact hyp.elim
 obtain⟨l,bE⟩:=e
 subst bE
 exact H l K hyp
theorem aei {M:List J->(J->Prop)->Prop} (H:∀(l:I.Rows) K,sK.T [.d (.rows 11 l)] K->M [.d (.rows 11 l)] K) (args:List J) (K:J->Prop) (hyp:sK.T args K):M args K:=by
 have e:∃l,args=[.d (.rows 11 l)]:=by
  unfold sK.T spec at hyp
  split at hyp
  ·rename_i he
   simp only at he
   split at he
   ·split at he
    ·rename_i aE
     obtain rfl:=Nat.eq_of_beq_eq_true aE
     exact⟨_,rfl⟩
    ·cases he
   ·cases he
  ·exact hyp.elim
 obtain⟨l,bE⟩:=e
 subst bE
 exact H l K hyp
theorem agz {M:List J->(J->Prop)->Prop} (H:∀(p q:I.Rows) K,CP.T [.d (.rows 11 p), .d (.rows 11 q)] K->M [.d (.rows 11 p), .d (.rows 11 q)] K) (args:List J) (K:J->Prop) (hyp:CP.T args K):M args K:=by
 have e:∃p q,args=[.d (.rows 11 p), .d (.rows 11 q)]:=by
  unfold CP.T spec at hyp
  split at hyp
  ·rename_i he
   simp only at he
   split at he
   ·split at he
    ·rename_i aE U
     obtain rfl:=Nat.eq_of_beq_eq_true aE
     obtain rfl:=Nat.eq_of_beq_eq_true U
     exact⟨_,_,rfl⟩
    ·cases he
   ·cases he
  ·exact hyp.elim
 obtain⟨p,q,bE⟩:=e
 subst bE
 exact H p q K hyp
theorem aeP {M:List J->(J->Prop)->Prop} (H:∀(p:I.Rows) (s:Bool) (a b:List Int) K,BB.T [.d (.rows 11 p), .agg [.d (.bool s), .d (.ints .u32 a), .d (.ints .u32 b)]] K->M [.d (.rows 11 p), .agg [.d (.bool s), .d (.ints .u32 a), .d (.ints .u32 b)]] K) (args:List J) (K:J->Prop) (hyp:BB.T args K):M args K:=by
 have e:∃p s a b,args=[.d (.rows 11 p), .agg [.d (.bool s), .d (.ints .u32 a), .d (.ints .u32 b)]]:=by
  unfold BB.T spec at hyp
  split at hyp
  ·rename_i he
   simp only at he
   split at he
   ·split at he
    ·rename_i aE
     obtain rfl:=Nat.eq_of_beq_eq_true aE
     exact⟨_,_,_,_,rfl⟩
    ·cases he
   ·cases he
  ·exact hyp.elim
 obtain⟨p,s,a,b,bE⟩:=e
 subst bE
 exact H p s a b K hyp
theorem agA {M:List J->(J->Prop)->Prop} (H:∀(p:I.Rows) K,CQ.T [.d (.rows 11 p)] K->M [.d (.rows 11 p)] K) (args:List J) (K:J->Prop) (hyp:CQ.T args K):M args K:=by
 have e:∃p,args=[.d (.rows 11 p)]:=by
  unfold CQ.T spec at hyp
  split at hyp
  ·rename_i he
   simp only at he
   split at he
   ·split at he
    ·rename_i aE
     obtain rfl:=Nat.eq_of_beq_eq_true aE
     exact⟨_,rfl⟩
    ·cases he
   ·cases he
  ·exact hyp.elim
 obtain⟨p,bE⟩:=e
 subst bE
 exact H p K hyp
theorem agB {M:List J->(J->Prop)->Prop} (H:∀(p q:I.Rows) K,CR.T [.d (.rows 11 p), .d (.rows 11 q)] K->M [.d (.rows 11 p), .d (.rows 11 q)] K) (args:List J) (K:J->Prop) (hyp:CR.T args K):M args K:=by
 have e:∃p q,args=[.d (.rows 11 p), .d (.rows 11 q)]:=by
  unfold CR.T spec at hyp
  split at hyp
  ·rename_i he
   simp only at he
   split at he
   ·split at he
    ·rename_i aE U
     obtain rfl:=Nat.eq_of_beq_eq_true aE
     obtain rfl:=Nat.eq_of_beq_eq_true U
     exact⟨_,_,rfl⟩
    ·cases he
   ·cases he
  ·exact hyp.elim
 obtain⟨p,q,bE⟩:=e
 subst bE
 exact H p q K hyp
theorem agC {M:List J->(J->Prop)->Prop} (H:∀(p q:I.Rows) K,CS.T [.d (.rows 11 p), .d (.rows 11 q)] K->M [.d (.rows 11 p), .d (.rows 11 q)] K) (args:List J) (K:J->Prop) (hyp:CS.T args K):M args K:=by
 have e:∃p q,args=[.d (.rows 11 p), .d (.rows 11 q)]:=by
  unfold CS.T spec at hyp
  split at hyp
  ·rename_i he
   simp only at he
   split at he
   ·split at he
    ·rename_i aE U
     obtain rfl:=Nat.eq_of_beq_eq_true aE
     obtain rfl:=Nat.eq_of_beq_eq_true U
     exact⟨_,_,rfl⟩
    ·cases he
   ·cases he
  ·exact hyp.elim
 obtain⟨p,q,bE⟩:=e
 subst bE
 exact H p q K hyp
theorem agD {M:List J->(J->Prop)->Prop} (H:∀(p:I.Rows) (v:Int) K,CT.T [.d (.rows 11 p), .d (.int .i64 v)] K->M [.d (.rows 11 p), .d (.int .i64 v)] K) (args:List J) (K:J->Prop) (hyp:CT.T args K):M args K:=by
 have e:∃p v,args=[.d (.rows 11 p), .d (.int .i64 v)]:=by
  unfold CT.T spec at hyp
  split at hyp
  ·rename_i he
   simp only at he
   split at he
   ·split at he
    ·rename_i aE
     obtain rfl:=Nat.eq_of_beq_eq_true aE
     exact⟨_,_,rfl⟩
    ·cases he
   ·cases he
  ·exact hyp.elim
 obtain⟨p,v,bE⟩:=e
 subst bE
 exact H p v K hyp
theorem agE {M:List J->(J->Prop)->Prop} (H:∀(p:I.Rows) K,CU.T [.d (.rows 11 p)] K->M [.d (.rows 11 p)] K) (args:List J) (K:J->Prop) (hyp:CU.T args K):M args K:=by
 have e:∃p,args=[.d (.rows 11 p)]:=by
  unfold CU.T spec at hyp
  split at hyp
  ·rename_i he
   simp only at he
   split at he
   ·split at he
    ·rename_i aE
     obtain rfl:=Nat.eq_of_beq_eq_true aE
     exact⟨_,rfl⟩
    ·cases he
   ·cases he
  ·exact hyp.elim
 obtain⟨p,bE⟩:=e
 subst bE
 exact H p K hyp
theorem afJ {M:List J->(J->Prop)->Prop} (H:∀(p:I.Rows) K,u7.T [.d (.rows 11 p)] K->M [.d (.rows 11 p)] K) (args:List J) (K:J->Prop) (hyp:u7.T args K):M args K:=by
 have e:∃p,args=[.d (.rows 11 p)]:=by
  unfold u7.T spec at hyp
  split at hyp
  ·rename_i he
   simp only at he
   split at he
   ·split at he
    ·rename_i aE
     obtain rfl:=Nat.eq_of_beq_eq_true aE
     exact⟨_,rfl⟩
    ·cases he
   ·cases he
  ·exact hyp.elim
 obtain⟨p,bE⟩:=e
 subst bE
 exact H p K hyp
theorem aej {M:List J->(J->Prop)->Prop} (H:∀(p:I.Rows) K,AY.T [.d (.rows 11 p)] K->M [.d (.rows 11 p)] K) (args:List J) (K:J->Prop) (hyp:AY.T args K):M args K:=by
 have e:∃p,args=[.d (.rows 11 p)]:=by
  unfold AY.T spec at hyp
  split at hyp
  ·rename_i he
   simp only at he
   split at he
   ·split at he
    ·rename_i aE
     obtain rfl:=Nat.eq_of_beq_eq_true aE
     exact⟨_,rfl⟩
    ·cases he
   ·cases he
  ·exact hyp.elim
 obtain⟨p,bE⟩:=e
 subst bE
 exact H p K hyp
theorem afK {M:List J->(J->Prop)->Prop} (H:∀(p:I.Rows) K,Cg.T [.d (.rows 11 p)] K->M [.d (.rows 11 p)] K) (args:List J) (K:J->Prop) (hyp:Cg.T args K):M args K:=by
 have e:∃p,args=[.d (.rows 11 p)]:=by
  unfold Cg.T spec at hyp
  split at hyp
  ·rename_i he
   simp only at he
   split at he
   ·split at he
    ·rename_i aE
     obtain rfl:=Nat.eq_of_beq_eq_true aE
     exact⟨_,rfl⟩
    ·cases he
   ·cases he
  ·exact hyp.elim
 obtain⟨p,bE⟩:=e
 subst bE
 exact H p K hyp
theorem agG {M:List J->(J->Prop)->Prop} (H:∀(v:Int) K,CW.T [.d (.int .i64 v)] K->M [.d (.int .i64 v)] K) (args:List J) (K:J->Prop) (hyp:CW.T args K):M args K:=by
 have e:∃v,args=[.d (.int .i64 v)]:=by
  unfold CW.T spec at hyp
  split at hyp
  ·rename_i he
   simp only at he
   split at he
   ·exact⟨_,rfl⟩
   ·cases he
  ·exact hyp.elim
 obtain⟨v,bE⟩:=e
 subst bE
 exact H v K hyp
theorem agH (g:Nat) {M:List J->(J->Prop)->Prop} (H:∀(p q:I.Rows) K,xH.T g [.d (.rows 11 p), .d (.rows 11 q), .fn g] K->M [.d (.rows 11 p), .d (.rows 11 q), .fn g] K) (args:List J) (K:J->Prop) (hyp:xH.T g args K):M args K:=by
 have e:∃p q,args=[.d (.rows 11 p), .d (.rows 11 q), .fn g]:=by
  unfold xH.T spec at hyp
  split at hyp
  ·rename_i he
   simp only at he
   split at he
   ·split at he
    ·rename_i aE U aa
     obtain rfl:=Nat.eq_of_beq_eq_true aE
     obtain rfl:=Nat.eq_of_beq_eq_true U
     obtain rfl:=Nat.eq_of_beq_eq_true aa
     exact⟨_,_,rfl⟩
    ·cases he
   ·cases he
  ·exact hyp.elim
 obtain⟨p,q,bE⟩:=e
 subst bE
 exact H p q K hyp
theorem agI (g:Nat) {M:List J->(J->Prop)->Prop} (H:∀(p q:I.Rows) K,xI.T g [.d (.rows 11 p), .d (.rows 11 q), .fn g] K->M [.d (.rows 11 p), .d (.rows 11 q), .fn g] K) (args:List J) (K:J->Prop) (hyp:xI.T g args K):M args K:=by
 have e:∃p q,args=[.d (.rows 11 p), .d (.rows 11 q), .fn g]:=by
  unfold xI.T spec at hyp
  split at hyp
  ·rename_i he
   simp only at he
   split at he
   ·split at he
    ·rename_i aE U aa
     obtain rfl:=Nat.eq_of_beq_eq_true aE
     obtain rfl:=Nat.eq_of_beq_eq_true U
     obtain rfl:=Nat.eq_of_beq_eq_true aa
     exact⟨_,_,rfl⟩
    ·cases he
   ·cases he
  ·exact hyp.elim
 obtain⟨p,q,bE⟩:=e
 subst bE
 exact H p q K hyp
theorem agJ {M:List J->(J->Prop)->Prop} (H:∀(p q:I.Rows) K,CX.T [.d (.rows 11 p), .d (.rows 11 q)] K->M [.d (.rows 11 p), .d (.rows 11 q)] K) (args:List J) (K:J->Prop) (hyp:CX.T args K):M args K:=by
 have e:∃p q,args=[.d (.rows 11 p), .d (.rows 11 q)]:=by
  unfold CX.T spec at hyp
  split at hyp
  ·rename_i he
   simp only at he
   split at he
   ·split at he
    ·rename_i aE U
     obtain rfl:=Nat.eq_of_beq_eq_true aE
     obtain rfl:=Nat.eq_of_beq_eq_true U
     exact⟨_,_,rfl⟩
    ·cases he
   ·cases he
  ·exact hyp.elim
 obtain⟨p,q,bE⟩:=e
 subst bE
 exact H p q K hyp
theorem agK {M:List J->(J->Prop)->Prop} (H:∀(p q:I.Rows) K,CY.T [.d (.rows 11 p), .d (.rows 11 q)] K->M [.d (.rows 11 p), .d (.rows 11 q)] K) (args:List J) (K:J->Prop) (hyp:CY.T args K):M args K:=by
 have e:∃p q,args=[.d (.rows 11 p), .d (.rows 11 q)]:=by
  unfold CY.T spec at hyp
  split at hyp
  ·rename_i he
   simp only at he
   split at he
   ·split at he
    ·rename_i aE U
     obtain rfl:=Nat.eq_of_beq_eq_true aE
     obtain rfl:=Nat.eq_of_beq_eq_true U
     exact⟨_,_,rfl⟩
    ·cases he
   ·cases he
  ·exact hyp.elim
 obtain⟨p,q,bE⟩:=e
 subst bE
 exact H p q K hyp
theorem agL {M:List J->(J->Prop)->Prop} (H:∀(p:I.Rows) (n:Int) (q:I.Rows) K,CZ.T [.d (.rows 11 p), .d (.int .i64 n), .d (.rows 11 q)] K->M [.d (.rows 11 p), .d (.int .i64 n), .d (.rows 11 q)] K) (args:List J) (K:J->Prop) (hyp:CZ.T args K):M args K:=by
 have e:∃p n q,args=[.d (.rows 11 p), .d (.int .i64 n), .d (.rows 11 q)]:=by
  unfold CZ.T spec at hyp
  split at hyp
  ·rename_i he
   simp only at he
   split at he
   ·split at he
    ·rename_i aE U
     obtain rfl:=Nat.eq_of_beq_eq_true aE
     obtain rfl:=Nat.eq_of_beq_eq_true U
     exact⟨_,_,_,rfl⟩
    ·cases he
   ·cases he
  ·exact hyp.elim
 obtain⟨p,n,q,bE⟩:=e
 subst bE
 exact H p n q K hyp
theorem agM {M:List J->(J->Prop)->Prop} (H:∀(p q:I.Rows) K,C0.T [.d (.rows 11 p), .d (.rows 11 q)] K->M [.d (.rows 11 p), .d (.rows 11 q)] K) (args:List J) (K:J->Prop) (hyp:C0.T args K):M args K:=by
 have e:∃p q,args=[.d (.rows 11 p), .d (.rows 11 q)]:=by
  unfold C0.T spec at hyp
  split at hyp
  ·rename_i he
   simp only at he
   split at he
   ·split at he
    ·rename_i aE U
     obtain rfl:=Nat.eq_of_beq_eq_true aE
     obtain rfl:=Nat.eq_of_beq_eq_true U
     exact⟨_,_,rfl⟩
    ·cases he
   ·cases he
  ·exact hyp.elim
 obtain⟨p,q,bE⟩:=e
 subst bE
 exact H p q K hyp
theorem afL {M:List J->(J->Prop)->Prop} (H:∀(p:I.Rows) (v:Int) K,Ch.T [.d (.rows 11 p), .d (.int .i64 v)] K->M [.d (.rows 11 p), .d (.int .i64 v)] K) (args:List J) (K:J->Prop) (hyp:Ch.T args K):M args K:=by
 have e:∃p v,args=[.d (.rows 11 p), .d (.int .i64 v)]:=by
  unfold Ch.T spec at hyp
  split at hyp
  ·rename_i he
   simp only at he
   split at he
   ·split at he
    ·rename_i aE
     obtain rfl:=Nat.eq_of_beq_eq_true aE
     exact⟨_,_,rfl⟩
    ·cases he
   ·cases he
  ·exact hyp.elim
 obtain⟨p,v,bE⟩:=e
 subst bE
 exact H p v K hyp
theorem agN {M:List J->(J->Prop)->Prop} (H:∀(p:I.Rows) (v:Int) K,C1.T [.d (.rows 11 p), .d (.int .i64 v)] K->M [.d (.rows 11 p), .d (.int .i64 v)] K) (args:List J) (K:J->Prop) (hyp:C1.T args K):M args K:=by
 have e:∃p v,args=[.d (.rows 11 p), .d (.int .i64 v)]:=by
  unfold C1.T spec at hyp
  split at hyp
  ·rename_i he
   simp only at he
   split at he
   ·split at he
    ·rename_i aE
     obtain rfl:=Nat.eq_of_beq_eq_true aE
     exact⟨_,_,rfl⟩
    ·cases he
   ·cases he
  ·exact hyp.elim
 obtain⟨p,v,bE⟩:=e
 subst bE
 exact H p v K hyp
theorem Us {M:List J->(J->Prop)->Prop} (H:∀(p:I.Rows) K,BC.T [.d (.rows 11 p)] K->M [.d (.rows 11 p)] K) (args:List J) (K:J->Prop) (hyp:BC.T args K):M args K:=by
 have e:∃p,args=[.d (.rows 11 p)]:=by
  unfold BC.T spec at hyp
  split at hyp
  ·rename_i he
   simp only at he
   split at he
   ·split at he
    ·rename_i aE
     obtain rfl:=Nat.eq_of_beq_eq_true aE
     exact⟨_,rfl⟩
    ·cases he
   ·cases he
  ·exact hyp.elim
 obtain⟨p,bE⟩:=e
 subst bE
 exact H p K hyp
theorem TU {M:List J->(J->Prop)->Prop} (H:∀(p:I.Rows) K,AZ.T [.d (.rows 11 p)] K->M [.d (.rows 11 p)] K) (args:List J) (K:J->Prop) (hyp:AZ.T args K):M args K:=by
 have e:∃p,args=[.d (.rows 11 p)]:=by
  unfold AZ.T spec at hyp
  split at hyp
  ·rename_i he
   simp only at he
   split at he
   ·split at he
    ·rename_i aE
     obtain rfl:=Nat.eq_of_beq_eq_true aE
     exact⟨_,rfl⟩
    ·cases he
   ·cases he
  ·exact hyp.elim
 obtain⟨p,bE⟩:=e
 subst bE
 exact H p K hyp
theorem Vh {M:List J->(J->Prop)->Prop} (H:∀(s:Bool) (a b:List Int) K,Cj.T [.agg [.d (.bool s), .d (.ints .u32 a), .d (.ints .u32 b)]] K->M [.agg [.d (.bool s), .d (.ints .u32 a), .d (.ints .u32 b)]] K) (args:List J) (K:J->Prop) (hyp:Cj.T args K):M args K:=by
 have e:∃s a b,args=[.agg [.d (.bool s), .d (.ints .u32 a), .d (.ints .u32 b)]]:=by
  unfold Cj.T spec at hyp
  split at hyp
  ·rename_i he
   simp only at he
   split at he
   ·exact⟨_,_,_,rfl⟩
   ·cases he
  ·exact hyp.elim
 obtain⟨s,a,b,bE⟩:=e
 subst bE
 exact H s a b K hyp
theorem Ww {M:List J->(J->Prop)->Prop} (H:∀(n:Int) K,C3.T [.d (.int .i64 n)] K->M [.d (.int .i64 n)] K) (args:List J) (K:J->Prop) (hyp:C3.T args K):M args K:=by
 have e:∃n,args=[.d (.int .i64 n)]:=by
  unfold C3.T spec at hyp
  split at hyp
  ·rename_i he
   simp only at he
   split at he
   ·exact⟨_,rfl⟩
   ·cases he
  ·exact hyp.elim
 obtain⟨n,bE⟩:=e
 subst bE
 exact H n K hyp
theorem Ut {M:List J->(J->Prop)->Prop} (H:∀(s:Bool) (a b:List Int) (t:Bool) (c d:List Int) K,BD.T [.agg [.d (.bool s), .d (.ints .u32 a), .d (.ints .u32 b)], .agg [.d (.bool t), .d (.ints .u32 c), .d (.ints .u32 d)]] K->M [.agg [.d (.bool s), .d (.ints .u32 a), .d (.ints .u32 b)], .agg [.d (.bool t), .d (.ints .u32 c), .d (.ints .u32 d)]] K) (args:List J) (K:J->Prop) (hyp:BD.T args K):M args K:=by
 have e:∃s a b t c d,args=[.agg [.d (.bool s), .d (.ints .u32 a), .d (.ints .u32 b)], .agg [.d (.bool t), .d (.ints .u32 c), .d (.ints .u32 d)]]:=by
  unfold BD.T spec at hyp
  split at hyp
  ·rename_i he
   simp only at he
   split at he
   ·exact⟨_,_,_,_,_,_,rfl⟩
   ·cases he
  ·exact hyp.elim
 obtain⟨s,a,b,t,c,d,bE⟩:=e
 subst bE
 exact H s a b t c d K hyp
theorem aek {M:List J->(J->Prop)->Prop} (H:∀K,A2.T [] K->M [] K) (args:List J) (K:J->Prop) (hyp:A2.T args K):M args K:=by
 have e:args=[]:=by
  unfold A2.T spec at hyp
  split at hyp
  ·rename_i he
   simp only at he
   split at he
   ·exact rfl
   ·cases he
  ·exact hyp.elim
 have bE:=e
 subst bE
 exact H K hyp
theorem adV {M:List J->(J->Prop)->Prop} (H:∀(v:Int) K,AG.T [.d (.int .u8 v)] K->M [.d (.int .u8 v)] K) (args:List J) (K:J->Prop) (hyp:AG.T args K):M args K:=by
 have e:∃v,args=[.d (.int .u8 v)]:=by
  unfold AG.T spec at hyp
  split at hyp
  ·rename_i he
   simp only at he
   split at he
   ·exact⟨_,rfl⟩
   ·cases he
  ·exact hyp.elim
 obtain⟨v,bE⟩:=e
 subst bE
 exact H v K hyp
theorem A3 {l:Rows} {a b:Int} (h:fe l a b):∃o,kQ l a b o:=by
 obtain⟨U,aa,al,aL,bo⟩:=h
 obtain⟨an,az⟩:=Go.Sort.insertionSort_holds p5 l.toArray a.toNat b.toNat (by omega) (by simp;omega)
 exact⟨(Go.Sort.insertionSort aX l.toArray a.toNat b.toNat).toList,⟨(sC U (by omega) an).1,by simpa using an⟩,by simpa using az⟩
theorem agP (q:dn):jB (B_.T q):=wY _ fun a o args p bp f g h aw=>by
 split at h
 ·split at h
  ·simp only[Option.some.injEq,Prod.mk.injEq]at h
   obtain⟨rfl,rfl,rfl,rfl⟩:=h
   obtain⟨o,U,aa⟩:=A3 aw
   exact⟨o,U⟩
  ·cases h
 ·cases h
theorem ait (q:dn) (n:Nat):jB (qv.T q n):=wY _ fun a o args p bp f g h aw=>by
 split at h
 ·split at h
  ·simp only[Option.some.injEq,Prod.mk.injEq]at h
   obtain⟨rfl,rfl,rfl,rfl⟩:=h
   exact A3 aw.1
  ·cases h
 ·cases h
theorem ahH (q:dn):jB (vc.T q):=wY _ fun a o args p bp f g h aw=>by
 split at h
 ·split at h
  ·simp only[Option.some.injEq,Prod.mk.injEq]at h
   obtain⟨rfl,rfl,rfl,rfl⟩:=h
   exact A3 aw.1
  ·cases h
 ·cases h
theorem ahI (q:dn):jB (CM.T q):=wY _ fun a o args p bp f g h aw=>by
 split at h
 ·split at h
  ·simp only[Option.some.injEq,Prod.mk.injEq]at h
   obtain⟨rfl,rfl,rfl,rfl⟩:=h
   exact A3 ⟨aw.1,Int.le_refl _,by omega,by omega,aw.2⟩
  ·cases h
 ·cases h
theorem aiu:jB Dl.T:=wY _ fun a o args p bp f g h aw=>by
 split at h
 ·split at h
  ·simp only[Option.some.injEq,Prod.mk.injEq]at h
   obtain⟨rfl,rfl,rfl,rfl⟩:=h
   exact⟨0,by decide,by decide⟩
  ·cases h
 ·cases h
theorem agQ (g:Nat) {M:List J->(J->Prop)->Prop} (H:∀(a b:Row) K,pf.T ⟨g,true⟩ [.agg [.d (.bool true)], .rw 11 a, .rw 11 b] K->M [.agg [.d (.bool true)], .rw 11 a, .rw 11 b] K) (args:List J) (K:J->Prop) (hyp:pf.T ⟨g,true⟩ args K):M args K:=by
 have e:∃a b,args=[.agg [.d (.bool true)], .rw 11 a, .rw 11 b]:=by
  unfold pf.T spec at hyp
  split at hyp
  ·rename_i he
   simp only at he
   split at he
   ·split at he
    ·rename_i aE U _
     obtain rfl:=Nat.eq_of_beq_eq_true aE
     obtain rfl:=Nat.eq_of_beq_eq_true U
     exact⟨_,_,rfl⟩
    ·rename_i al;cases al
    ·cases he
   ·cases he
  ·exact hyp.elim
 obtain⟨a,b,rfl⟩:=e
 exact H a b K hyp
theorem agR (g:Nat) {M:List J->(J->Prop)->Prop} (H:∀(a b:Row) K,pf.T ⟨g,false⟩ [.agg [.d (.int .i64 8)], .rw 11 a, .rw 11 b] K->M [.agg [.d (.int .i64 8)], .rw 11 a, .rw 11 b] K) (args:List J) (K:J->Prop) (hyp:pf.T ⟨g,false⟩ args K):M args K:=by
 have e:∃a b,args=[.agg [.d (.int .i64 8)], .rw 11 a, .rw 11 b]:=by
  unfold pf.T spec at hyp
  split at hyp
  ·rename_i he
   simp only at he
   split at he
   ·split at he
    ·rename_i al;cases al
    ·rename_i aE U _
     obtain rfl:=Nat.eq_of_beq_eq_true aE
     obtain rfl:=Nat.eq_of_beq_eq_true U
     exact⟨_,_,rfl⟩
    ·cases he
   ·cases he
  ·exact hyp.elim
 obtain⟨a,b,rfl⟩:=e
 exact H a b K hyp
theorem aiv {P:Program} {f:FuncId} {ps:List aO} {T zs:List J->(J->Prop)->Prop} (h:e6 P f (gh ps T)) (bj:∀args K,zs args K->T args K):e6 P f (gh ps zs):=by
 refine⟨h.1,fun N ρ own w args vals K ay=>h.2 N ρ own w args vals K ?_⟩
 unfold gh at ay⊢
 split
 ·rename_i U aa
  rw[U,aa]at ay
  exact bj _ _ ay
 ·rename_i ar
  split at ay
  ·rename_i U aa;exact(ar U aa).elim
  ·exact ay
theorem agS {P:Program} {f:FuncId} {m:Nat} {ps:List aO} {T:Nat->J->ad->List J->(ad->J->Prop)->Prop} {zs:J->ad->List J->(ad->J->Prop)->Prop} (h:∀n,e6 P f (kb m ps (T n)))
 (bj:∀a o args K,zs a o args K->∃n,T n a o args K):e6 P f (kb m ps zs):=by
 refine⟨(h 0).1,fun N ρ own w args vals K ay=> ?_⟩
 have ar:∃n,kb m ps (T n) args own K:=by
  unfold kb at ay
  split at ay
  rotate_left
  ·exact ay.elim
  rename_i ae
  unfold n1 at ay
  split at ay
  ·exact ay.elim
  ·rename_i a0 rest aC
   split at ay
   ·exact ay.elim
   ·rename_i id de
    split at ay
    rotate_left
    ·exact ay.elim
    rename_i U aa al aL
    obtain⟨n,ar⟩:=bj _ _ _ _ ay
    refine⟨n, ?_⟩
    unfold kb
    rw[ae]
    show n1 ps (T n) (xr m args) own K
    unfold n1
    rw[aC]
    simp only[de,U,aa,al,aL]
    exact ar
 obtain⟨n,ar⟩:=ar
 exact(h n).2 N ρ own w args vals K ar
theorem agT {P:Program} {f:FuncId} {m:Nat} {ps:List aO} (q:dn) (aQ:∃fn,P.funcs[f]? =some fn/\fn.body.isNone=false/\(fn.name== "runtime.NumGoroutine")=false):e6 P f (kb m ps (qv.T q 0)):=by
 refine⟨aQ,fun N ρ own w args vals K ay=> ?_⟩
 exfalso
 unfold kb at ay
 split at ay
 rotate_left
 ·exact ay
 unfold n1 at ay
 split at ay
 ·exact ay
 split at ay
 ·exact ay
 split at ay
 rotate_left
 ·exact ay
 refine Xq q 0 (M:=fun _ _ _ _=>False) (fun l a b m K h=> ?_) _ _ _ _ ay
 have h:(fe l a b/\b-a<((0:Nat):Int)/\(0<=m/\m<=64)/\Go.Sort.Below aX a.toNat b.toNat l.toArray)/\True:=by
  unfold qv.T kL at h
  simp only[Nat.beq_refl]at h
  split at h
  ·rename_i he
   split at he
   ·simp only[Option.some.injEq,Prod.mk.injEq]at he
    obtain⟨rfl,_⟩:=he
    exact⟨h.1,True.intro⟩
   ·cases he
  ·exact h.elim
 have U:=h.1.1.2.2.1
 have aa:=h.1.2.1
 omega
theorem ahJ (q:dn) (a0:J) (bW:ad) (args:List J) (K:ad->J->Prop) (hyp:vc.T q a0 bW args K):∃n,qv.T q n a0 bW args K:=by
 refine Wv q (M:=fun a0 bW args K=>∃n,qv.T q n a0 bW args K) (fun l a b m K h=> ?_) a0 bW args K hyp
 refine⟨(b-a).toNat+1, ?_⟩
 unfold vc.T kL at h
 unfold qv.T kL
 simp only[Nat.beq_refl]at h⊢
 split at h
 ·rename_i he
  split at he
  ·rename_i al
   simp only[Option.some.injEq,Prod.mk.injEq]at he
   obtain⟨rfl,rfl,rfl,rfl⟩:=he
   exact⟨⟨h.1.1,by omega,h.1.2⟩,h.2⟩
  ·cases he
 ·exact h.elim
def yb:List bu:=[(dX 0 2,1),(dX 1 2,-1)]
theorem Po:bP yb=qw:=by
 show[dG (dX 0 2)++[.bool (bh 1), .ints .u32 (bm 1), .ints .u32 (bg 1)],dG (dX 1 2)++[.bool (bh (-1)), .ints .u32 (bm (-1)), .ints .u32 (bg (-1))]]=_
 rw[A4,Cl,F9,F_];rfl
theorem Cm:dA 1024 yb:=xK (by decide+kernel)
theorem P0:dc yb 4:=⟨1,2,cv.one,Nat.le_refl _,Nat.le_refl _,1,0,ve,Nat.le_refl _,Nat.le_refl _,trivial⟩
theorem X8:ag false [1] [1]=1:=by
 have:=h2 1
 rwa [A4,Cl]at this
theorem YF:ag true [1] [1]=-1:=by
 have:=h2 (-1)
 rwa [F9,F_]at this
theorem Cn:av 1000000 [1]:=⟨.mk (by decide) .nil,by decide⟩
theorem QD:aF [1]:=⟨.mk (by decide) .nil,by decide⟩
theorem aiw (args:List J) (K:J->Prop) (hyp:BC.T args K):u7.T args K:=by
 refine Us (M:=u7.T) (fun p K h=> ?_) args K hyp
 obtain⟨rfl,ab⟩:=h
 rw[<-Po]
 refine⟨uU P0 Cm (by decide), ?_⟩
 rw[A5 Cm];exact ab
theorem ahK (args:List J) (K:J->Prop) (hyp:AZ.T args K):sK.T args K:=by
 refine TU (M:=sK.T) (fun p K h=> ?_) args K hyp
 obtain⟨rfl,ab⟩:=h
 rw[<-Po]at ab⊢
 refine⟨wX P0 (Cm.nR (by decide)) (by decide), ?_⟩
 rw[hf Cm.len,show nrm yb=yb by decide+kernel];exact ab
theorem aiM (args:List J) (K:J->Prop) (hyp:Cj.T args K):va.T args K:=by
 refine Vh (M:=va.T) (fun s a b K h=> ?_) args K hyp
 obtain⟨⟨rfl,rfl⟩,ab⟩:=h
 refine⟨⟨QD,QD⟩, ?_⟩
 cases s
 ·rw[X8];exact ab
 ·rw[YF];exact ab
theorem aiV (args:List J) (K:J->Prop) (hyp:C3.T args K):td.T args K:=by
 refine Ww (M:=td.T) (fun n K h=> ?_) args K hyp
 obtain⟨rfl,ab⟩:=h
 refine⟨⟨by decide,by decide⟩, ?_⟩
 show K (.agg [.d (.bool (bh 1)), .d (.ints .u32 (bm 1)), .d (.ints .u32 (bg 1))])
 rw[A4,Cl];exact ab
theorem aix (args:List J) (K:J->Prop) (hyp:BD.T args K):sT.T args K:=by
 refine Ut (M:=sT.T) (fun s a b t c d K h=> ?_) args K hyp
 obtain⟨⟨⟨rfl,rfl⟩,rfl,rfl,rfl,rfl⟩,ab⟩:=h
 refine⟨⟨Cn,Cn,Cn,Cn⟩, ?_⟩
 rw[decide_eq_true rfl];exact ab
theorem ahL (args:List J) (K:J->Prop) (hyp:u9.T args K):args=[.d (.int .i64 2)]/\u9.T [.d (.int .i64 2)] K:=by
 have e:∃n,args=[.d (.int .i64 n)]:=by
  unfold u9.T spec at hyp
  split at hyp
  ·rename_i he
   simp only at he
   split at he
   ·exact⟨_,rfl⟩
   ·cases he
  ·exact hyp.elim
 obtain⟨n,rfl⟩:=e
 obtain⟨rfl,ab⟩:=hyp
 exact⟨rfl,rfl,ab⟩
theorem afN (args:List J) (K:J->Prop) (hyp:A0.T args K):args=[.d (.int .i64 2), .d (.int .i64 10)]/\A0.T [.d (.int .i64 2), .d (.int .i64 10)] K:=by
 have e:∃n b,args=[.d (.int .i64 n), .d (.int .i64 b)]:=by
  unfold A0.T spec at hyp
  split at hyp
  ·rename_i he
   simp only at he
   split at he
   ·exact⟨_,_,rfl⟩
   ·cases he
  ·exact hyp.elim
 obtain⟨n,b,rfl⟩:=e
 obtain⟨⟨rfl,rfl⟩,ab⟩:=hyp
 exact⟨rfl,⟨rfl,rfl⟩,ab⟩
theorem ahM (args:List J) (K:J->Prop) (hyp:Ck.T args K):∃x s,args=[.d (.rows 1 [[.str x]]), .d (.str s)]/\Ck.T [.d (.rows 1 [[.str x]]), .d (.str s)] K:=by
 have e:∃x s,args=[.d (.rows 1 [[.str x]]), .d (.str s)]:=by
  unfold Ck.T spec at hyp
  split at hyp
  ·rename_i he
   simp only at he
   split at he
   ·split at he
    ·rename_i aE
     obtain rfl:=Nat.eq_of_beq_eq_true aE
     exact⟨_,_,rfl⟩
    ·cases he
   ·cases he
  ·exact hyp.elim
 obtain⟨x,s,rfl⟩:=e
 exact⟨x,s,rfl,hyp⟩
theorem afO (args:List J) (K:J->Prop) (hyp:A1.T args K):args=[.d (.rows 11 qw), .d (.rows 1 Dp)]/\A1.T [.d (.rows 11 qw), .d (.rows 1 Dp)] K:=by
 have e:∃p n,args=[.d (.rows 11 p), .d (.rows 1 n)]:=by
  unfold A1.T spec at hyp
  split at hyp
  ·rename_i he
   simp only at he
   split at he
   ·split at he
    ·rename_i aE U
     obtain rfl:=Nat.eq_of_beq_eq_true aE
     obtain rfl:=Nat.eq_of_beq_eq_true U
     exact⟨_,_,rfl⟩
    ·cases he
   ·cases he
  ·exact hyp.elim
 obtain⟨p,n,rfl⟩:=e
 obtain⟨⟨rfl,rfl⟩,ab⟩:=hyp
 exact⟨rfl,⟨rfl,rfl⟩,ab⟩
end I
end
