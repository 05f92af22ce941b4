/- Helpers for the statements: facts about numbers, fractions and polynomials as lists, and the proofs of the conditions. Condition: none. -/
import Derived.Test.YtmeonjefiioegaaGreatDoorB0
section
namespace I
open Go Go.bG Go.Sort
def dk (l:List Row)(i j:Nat):List Row:=(l.set i (l.getD j [])).set j (l.getD i [])
theorem uX (l:List Row)(j:Nat):l.toArray[j]! =l.getD j []:=by
 simp[ass]
 cases h:l[j]? <;>simp[h];rfl
theorem ki (l:List Row)(i j:Nat):swp l.toArray i j=(dk l i j).toArray:=by
 unfold swp dk
 rw[uX,uX]
 simp
theorem rA (l:List Row)(i j:Nat):(dk l i j).length=l.length:=by simp[dk]
theorem cQ.get {l:List Row}(h:cQ l){i:Nat}(hi:i<l.length):dZ (l.getD i []):=by
 rw[ass,asI hi];exact h _ (atw hi)
theorem dZ.len {r:Row}(h:dZ r):r.length=11:=by
 obtain⟨_,_,_,_,_,_,_,_,_,_,_,rfl⟩:=h;rfl
theorem cQ.len {l:List Row}(h:cQ l){i:Nat}(hi:i<l.length):(l.getD i []).length=11:=(h.get hi).len
theorem cQ.set {l:List Row}(h:cQ l){i:Nat}{r:Row}(ak:dZ r):cQ (l.set i r):=fun x af=>by
 rcases auI af with af|rfl
 ·exact h x af
 ·exact ak
theorem cQ.dk {l:List Row}(h:cQ l){i j:Nat}(hi:i<l.length)(aK:j<l.length):cQ (dk l i j):=(h.set (h.get aK)).set (h.get hi)
theorem lk (l:List Row)(i j:Nat):aX l.toArray[i]! l.toArray[j]! =decide (fX (l.getD i []) (l.getD j [])<0):=by
 rw[uX,uX];rfl
theorem WC {A j:Nat}{l:List Row}(U:A<j+1)(aa:fX (l.getD (j+1) []) (l.getD j [])<0):insInner aX A (j+1) l.toArray=insInner aX A j (dk l (j+1) j).toArray:=by
 rw[insInner,lk,at0 aa,<-ki]
 simp;omega
theorem N9 {A j:Nat}{l:List Row}(h:j<=A\/¬fX (l.getD j []) (l.getD (j-1) [])<0):insInner aX A j l.toArray=l.toArray:=by
 cases j with
 |zero=>rfl
 |succ j=>
  rw[insInner,lk]
  rcases h with h|h
  ·rw[asp];simp;omega
  ·rw[asp];simp at h;simp[h]
theorem abK (l:List Row)(a b:Int)(K:ad->J->Prop)(h:fe l a b/\K (.rows 11 (insertionSort aX l.toArray a.toNat b.toNat).toList) (.tup [])):Ja l a b K:=by
 obtain⟨⟨aq,aC,jf,ae,ar⟩,ab⟩:=h
 obtain⟨A,rfl⟩:=asx aC
 obtain⟨B,rfl⟩:=asx (atJ aC jf)
 simp only[asu]at ab
 unfold Ja
 rw[bl (x:=(A:Int)+1) (by omega)]
 refine⟨fun v o=>(A:Int)+1<=v/\v<=B+1/\cQ o/\o.length=l.length/\insOuter aX A B v.toNat o.toArray=insertionSort aX l.toArray A B,fun v _=>(B+1-v:Int).toNat,⟨by omega,by omega,aq,rfl,rfl⟩, ?_⟩
 rintro v o ⟨U,aa,al,aL,bo⟩
 obtain⟨V,rfl⟩:=asx (a:=v) (by omega)
 refine⟨fun h=> ?_,fun h=> ?_⟩
 ·have h:=asC h
  refine⟨fun j bZ=>(A:Int)<=j/\j<=V/\cQ bZ/\bZ.length=l.length/\insInner aX A j.toNat bZ.toArray=insInner aX A V o.toArray,fun j _=>j.toNat,⟨by omega,by omega,al,aL,rfl⟩, ?_⟩
  rintro j bZ ⟨g1,g2,g3,g4,g5⟩
  obtain⟨a8,rfl⟩:=asx (a:=j) (by omega)
  have fin:insInner aX A a8 bZ.toArray=bZ.toArray->(A:Int)+1<=IntKind.wrap .i64 ((V:Int)+1)/\IntKind.wrap .i64 ((V:Int)+1)<=B+1/\cQ bZ/\bZ.length=l.length/\insOuter aX A B (IntKind.wrap .i64 ((V:Int)+1)).toNat bZ.toArray=insertionSort aX l.toArray A B:=fun e=>by
   rw[bl (x:=(V:Int)+1) (by omega)]
   refine⟨by omega,by omega,g3,g4, ?_⟩
   rw[show((V:Int)+1).toNat=V+1 by omega,<-bo,asu]
   conv=>rhs;rw[insOuter]
   rw[asq (by omega),<-g5,asu,e]
  have dec:(B+1-IntKind.wrap .i64 ((V:Int)+1):Int).toNat<(B+1-(V:Int)).toNat:=by rw[bl (x:=(V:Int)+1) (by omega)];omega
  refine⟨fun aK=> ?_,fun aK=> ?_⟩
  ·have aK:=asC aK
   rw[bl (x:=(a8:Int)-1) (by omega)]
   obtain⟨fk,rfl⟩:∃fk,a8=fk+1:=⟨a8-1,by omega⟩
   rw[show((fk+1:Nat):Int)-1=(fk:Int) by omega]
   simp only[asu,asJ]at g5⊢
   have cn:fk+1<bZ.length:=by omega
   have cF:fk<bZ.length:=by omega
   refine⟨by omega,by omega,g3.len cn,by omega,by omega,g3.len cF,⟨g3.get cn,g3.get cF⟩, ?_⟩
   rintro _ rfl
   refine⟨fun ay=> ?_,fun ay=> ?_⟩
   ·have ay:=asC ay
    refine⟨by omega,by omega,g3.len cF,by omega,by omega,g3.len cn,by omega,by omega,by omega,by omega,⟨by omega,by omega,g3.dk cn cF,g4, ?_⟩,by omega⟩
    rw[<-g5,WC (by omega) ay];rfl
   ·have ay:=asE ay
    exact⟨fin (N9 (.inr ay)),dec⟩
  ·have aK:=asE aK
   exact⟨fin (N9 (.inl (by omega))),dec⟩
 ·have h:=asE h
  rw[<-bo,insOuter,asp (by rw[asu];omega)]at ab
  exact ab
def Child (hi f r:Nat)(l:List Row)(c:Nat):Prop:=
 (c=2*r+2/\2*r+2<hi/\fX (l.getD (f+(2*r+1)) []) (l.getD (f+(2*r+1)+1) [])<0)\/
 (c=2*r+1/\2*r+1<hi/\¬(2*r+2<hi/\fX (l.getD (f+(2*r+1)) []) (l.getD (f+(2*r+1)+1) [])<0))
theorem E3 {hi f r:Nat}{d:Array Row}(h:hi<=2*r+1):siftDown aX hi f r d=d:=by
 rw[siftDown,dif_pos h]
theorem M5 {hi f r c:Nat}{l:List Row}(ay:Child hi f r l c)(h:¬fX (l.getD (f+r) []) (l.getD (f+c) [])<0):siftDown aX hi f r l.toArray=l.toArray:=by
 rcases ay with⟨rfl,U,aa⟩|⟨rfl,U,aa⟩
 ·rw[siftDown,dif_neg (by omega),lk,lk,lk,asq (by simp;exact⟨U,aa⟩),asq (by simp at h;simp[h])]
 ·rw[siftDown,dif_neg (by omega),lk,lk,lk,asp (by simpa using aa),asq (by simp at h;simp[h])]
theorem Pv {hi f r c:Nat}{l:List Row}(ay:Child hi f r l c)(h:fX (l.getD (f+r) []) (l.getD (f+c) [])<0):siftDown aX hi f r l.toArray=siftDown aX hi f c (dk l (f+r) (f+c)).toArray:=by
 rcases ay with⟨rfl,U,aa⟩|⟨rfl,U,aa⟩
 ·rw[siftDown,dif_neg (by omega),lk,lk,lk,asq (by simp;exact⟨U,aa⟩),asp (by simpa using h),dif_pos U,ki]
 ·rw[siftDown,dif_neg (by omega),lk,lk,lk,asp (by simpa using aa),asp (by simpa using h),ki]
theorem abT (l:List Row)(lo hi f:Int)(K:ad->J->Prop)(h:(cQ l/\0<=lo/\lo<=(l.length:Int)/\0<=hi/\0<=f/\f+hi<=(l.length:Int)/\l.length<1000000000000000)/\K (.rows 11 (siftDown aX hi.toNat f.toNat lo.toNat l.toArray).toList) (.tup [])):Jj l lo hi f K:=by
 obtain⟨⟨aq,aE,U,aa,al,aL,ar⟩,ab⟩:=h
 obtain⟨bp,rfl⟩:=asx aE
 obtain⟨H,rfl⟩:=asx aa
 obtain⟨F,rfl⟩:=asx al
 simp only[asu]at ab
 unfold Jj
 refine⟨fun v o=>0<=v/\v<=(l.length:Int)/\cQ o/\o.length=l.length/\siftDown aX H F v.toNat o.toArray=siftDown aX H F bp l.toArray,fun v _=>(H-v:Int).toNat,⟨by omega,by omega,aq,rfl,rfl⟩, ?_⟩
 rintro v o ⟨g1,g2,g3,g4,g5⟩
 obtain⟨V,rfl⟩:=asx g1
 simp only[asu]at g5
 have cz:IntKind.wrap .i64 ((2:Int)*(V:Int))=((2*V:Nat):Int):=by rw[bl (by omega)];omega
 have dO:IntKind.wrap .i64 (((2*V:Nat):Int)+1)=((2*V+1:Nat):Int):=by rw[bl (by omega)];omega
 have gZ:IntKind.wrap .i64 (((2*V+1:Nat):Int)+1)=((2*V+2:Nat):Int):=by rw[bl (by omega)];omega
 have oF:IntKind.wrap .i64 ((F:Int)+((2*V+1:Nat):Int))=((F+(2*V+1):Nat):Int):=by rw[bl (by omega)];omega
 have nP:IntKind.wrap .i64 (((F+(2*V+1):Nat):Int)+1)=((F+(2*V+1)+1:Nat):Int):=by rw[bl (by omega)];omega
 have IQ:IntKind.wrap .i64 ((F:Int)+(V:Int))=((F+V:Nat):Int):=by rw[bl (by omega)];omega
 simp only[cz,dO,gZ,oF,nP,IQ,asu]
 refine⟨fun h=> ?_,fun h=> ?_⟩
 ·have h:=asC h
  rw[<-g5,E3 (by omega)]at ab
  exact ab
 ·have h:=asE h
  have bW:F+V<o.length:=by omega
  refine⟨fun c bn=>bn=o/\0<=c/\Child H F V o c.toNat,⟨fun aa=> ?_,fun aa=> ?_⟩, ?_⟩
  ·have aa:=asC aa
   have cn:F+(2*V+1)<o.length:=by omega
   have cF:F+(2*V+1)+1<o.length:=by omega
   refine⟨by omega,by omega,g3.len cn,by omega,by omega,g3.len cF,⟨g3.get cn,g3.get cF⟩, ?_⟩
   rintro _ rfl
   refine⟨fun al=> ?_,fun al=> ?_⟩
   ·have al:=asC al
    exact⟨rfl,by omega, .inl ⟨by omega,by omega,al⟩⟩
   ·have al:=asE al
    exact⟨rfl,by omega, .inr ⟨by omega,by omega,fun h=>al h.2⟩⟩
  ·have aa:=asE aa
   exact⟨rfl,by omega, .inr ⟨by omega,by omega,fun h=>aa (by omega)⟩⟩
  ·rintro c bn ⟨rfl,sq,ay⟩
   obtain⟨C,rfl⟩:=asx sq
   simp only[asu]at ay
   have m4:C<H/\V<C:=by rcases ay with⟨rfl,_,_⟩|⟨rfl,_,_⟩<;>omega
   have IS:IntKind.wrap .i64 ((F:Int)+(C:Int))=((F+C:Nat):Int):=by rw[bl (by omega)];omega
   simp only[IS,asu,asJ]
   have hN:F+C<bn.length:=by omega
   refine⟨by omega,by omega,g3.len bW,by omega,by omega,g3.len hN,⟨g3.get bW,g3.get hN⟩, ?_⟩
   rintro _ rfl
   refine⟨fun al=> ?_,fun al=> ?_⟩
   ·have al:¬(fX (bn.getD (F+V) []) (bn.getD (F+C) [])<0):=by simpa using al
    rw[<-g5,M5 ay al]at ab
    exact ab
   ·have al:fX (bn.getD (F+V) []) (bn.getD (F+C) [])<0:=by simpa using al
    refine⟨by omega,by omega,g3.len hN,by omega,by omega,g3.len bW,by omega,by omega,by omega,by omega,⟨by omega,by omega,g3.dk bW hN,g4, ?_⟩,by omega⟩
    rw[<-g5,Pv ay al];rfl
theorem WD {d:Array Row}{n i j:Nat}(h:d.size=n/\cQ d.toList)(hi:i<n)(aK:j<n):(swp d i j).size=n/\cQ (swp d i j).toList:=by
 obtain⟨l⟩:=d
 rw[ki]
 have U:l.length=n:=by simpa using h.1
 have aa:cQ l:=h.2
 exact⟨by simpa[rA]using U,cQ.dk aa (by omega) (by omega)⟩
theorem Vl (hi f n:Nat)(ao:f+hi<=n):∀(m root:Nat) (d:Array Row),hi-root<=m->(d.size=n/\cQ d.toList)->(siftDown aX hi f root d).size=n/\cQ (siftDown aX hi f root d).toList:=by
 intro m
 induction m with
 |zero=>intro root d h aP;rw[E3 (by omega)];exact aP
 |succ m bA=>
  intro root d h aP
  obtain⟨l⟩:=d
  by_cases U:hi<=2*root+1
  ·rw[E3 U];exact aP
  ·obtain⟨c,ay⟩:∃c,Child hi f root l c:=by
    by_cases aa:2*root+2<hi/\fX (l.getD (f+(2*root+1)) []) (l.getD (f+(2*root+1)+1) [])<0
    ·exact⟨_, .inl ⟨rfl,aa.1,aa.2⟩⟩
    ·exact⟨_, .inr ⟨rfl,by omega,aa⟩⟩
   have ji:c<hi/\root<c:=by rcases ay with⟨rfl,_,_⟩|⟨rfl,_,_⟩<;>omega
   by_cases al:fX (l.getD (f+root) []) (l.getD (f+c) [])<0
   ·rw[Pv ay al,<-ki]
    exact bA c _ (by omega) (WD aP (by omega) (by omega))
   ·rw[M5 ay al];exact aP
theorem M6 {hi f root:Nat}{l:List Row}(ao:f+hi<=l.length)(h:cQ l):(siftDown aX hi f root l.toArray).toList.length=l.length/\cQ (siftDown aX hi f root l.toArray).toList:=by
 have:=Vl hi f l.length ao (hi-root) root l.toArray (asz _) ⟨by simp,h⟩
 exact⟨by simpa using this.1,this.2⟩
theorem abU (l:List Row)(a b:Int)(K:ad->J->Prop)(h:(fe l a b/\a<b)/\K (.rows 11 (heapSort aX l.toArray a.toNat b.toNat).toList) (.tup [])):Jk l a b K:=by
 obtain⟨⟨⟨aq,aC,jf,ae,ar⟩,bB⟩,ab⟩:=h
 obtain⟨A,rfl⟩:=asx aC
 obtain⟨B,rfl⟩:=asx (atJ aC jf)
 obtain⟨H,rfl⟩:∃H,B=A+H:=⟨B-A,by omega⟩
 simp only[asu]at ab
 unfold Jk
 have cz:IntKind.wrap .i64 (((A+H:Nat):Int)-(A:Int))=(H:Int):=by rw[bl (by omega)];omega
 have dO:IntKind.wrap .i64 ((H:Int)-1)=(H:Int)-1:=bl (by omega)
 have gZ:IntKind.wrap .i64 (Int.tdiv ((H:Int)-1) 2)=(((H-1)/2:Nat):Int):=by
  have:(H:Int)-1=((H-1:Nat):Int):=by omega
  have az:Int.tdiv ((H-1:Nat):Int) 2=(((H-1)/2:Nat):Int):=(Int.ofNat_tdiv (H-1) 2).symm
  rw[this,az,bl (by omega)]
 simp only[cz,dO,gZ,asu]
 refine⟨fun o=>cQ o/\o.length=l.length/\heapPop aX A H o.toArray=heapSort aX l.toArray A (A+H),⟨fun v o=>-1<=v/\v<=H/\cQ o/\o.length=l.length/\heapBuild aX H A (v+1).toNat o.toArray=heapBuild aX H A ((H-1)/2+1) l.toArray,fun v _=>(v+1).toNat,⟨by omega,by omega,aq,rfl, ?_⟩, ?_⟩, ?_⟩
 ·rw[show((((H-1)/2:Nat):Int)+1).toNat=(H-1)/2+1 by omega]
 ·rintro v o ⟨g1,g2,g3,g4,g5⟩
  refine⟨fun h=> ?_,fun h=> ?_⟩
  ·have h:=asC h
   obtain⟨V,rfl⟩:=asx h
   rw[bl (x:=(V:Int)-1) (by omega)]
   obtain⟨aU,a_⟩:=M6 (hi:=H) (f:=A) (root:=V) (l:=o) (by omega) g3
   refine⟨by omega,⟨g3,by omega,by omega,by omega,by omega,by omega,by omega⟩,⟨by omega,by omega,a_,by rw[<-g4];exact aU, ?_⟩, ?_⟩
   ·rw[<-g5,show((V:Int)+1).toNat=V+1 by omega,show((V:Int)-1+1).toNat=V by omega]
    rfl
   ·show((V:Int)-1+1).toNat<((V:Int)+1).toNat;omega
  ·have h:=asE h
   refine⟨g3,g4, ?_⟩
   unfold heapSort
   rw[show A+H-A=H by omega,<-g5,show(v+1).toNat=0 by omega];rfl
 ·rintro o ⟨g1,g2,g3⟩
  refine⟨fun v bZ=>-1<=v/\v<H/\cQ bZ/\bZ.length=l.length/\heapPop aX A (v+1).toNat bZ.toArray=heapSort aX l.toArray A (A+H),fun v _=>(v+1).toNat,⟨by omega,by omega,g1,g2,by rw[show((H:Int)-1+1).toNat=H by omega];exact g3⟩, ?_⟩
  rintro v bZ ⟨q1,cb,cu,fM,dm⟩
  refine⟨fun h=> ?_,fun h=> ?_⟩
  ·have h:=asC h
   obtain⟨V,rfl⟩:=asx h
   have oF:IntKind.wrap .i64 ((A:Int)+(V:Int))=((A+V:Nat):Int):=by rw[bl (by omega)];omega
   have cn:A<bZ.length:=by omega
   have cF:A+V<bZ.length:=by omega
   have hO:=cu.dk cn cF
   have gm:(dk bZ A (A+V)).length=l.length:=by rw[rA];exact fM
   obtain⟨aU,a_⟩:=M6 (hi:=V) (f:=A) (root:=0) (l:=dk bZ A (A+V)) (by omega) hO
   simp only[oF,asu]
   rw[bl (x:=(V:Int)-1) (by omega),show(bZ.set A (bZ.getD (A+V) [])).set (A+V) (bZ.getD A [])=dk bZ A (A+V)from rfl]
   refine⟨by omega,by omega,cu.len cF,by omega,by omega,cu.len cn,by omega,by omega,by omega,by simp;omega,by omega,⟨hO,by omega,by omega,by omega,by omega,by omega,by omega⟩,⟨by omega,by omega,a_,by rw[<-gm];exact aU, ?_⟩, ?_⟩
   ·rw[<-dm,show((V:Int)+1).toNat=V+1 by omega,show((V:Int)-1+1).toNat=V by omega,heapPop,ki]
   ·show((V:Int)-1+1).toNat<((V:Int)+1).toNat;omega
  ·have h:=asE h
   rw[<-dm,show(v+1).toNat=0 by omega]at ab
   exact ab
theorem WE {i j:Nat}{o:List Row}(h:i<j):reverseLoop i j o.toArray=reverseLoop (i+1) (j-1) (dk o i j).toArray:=by
 rw[reverseLoop,asq h,ki]
theorem WG {i j:Nat}{d:Array Row}(h:¬i<j):reverseLoop i j d=d:=by rw[reverseLoop,asp h]
theorem abL (l:List Row)(a b:Int)(K:ad->J->Prop)(h:fe l a b/\K (.rows 11 (reverseRange l.toArray a.toNat b.toNat).toList) (.tup [])):Jb l a b K:=by
 obtain⟨⟨aq,aC,jf,ae,ar⟩,ab⟩:=h
 obtain⟨A,rfl⟩:=asx aC
 obtain⟨B,rfl⟩:=asx (atJ aC jf)
 simp only[asu]at ab
 unfold Jb
 rw[bl (x:=(B:Int)-1) (by omega)]
 refine⟨fun i j o=>0<=i/\i<=(l.length:Int)/\-1<=j/\j<(l.length:Int)/\cQ o/\o.length=l.length/\(if i<j then reverseLoop i.toNat j.toNat o.toArray else o.toArray)=reverseRange l.toArray A B,fun i j _=>(j-i).toNat,⟨by omega,by omega,by omega,by omega,aq,rfl, ?_⟩, ?_⟩
 ·unfold reverseRange
  split
  ·rw[show((B:Int)-1).toNat=B-1 by omega,asu]
  ·rw[reverseLoop,asp (by omega)]
 ·rintro i j o ⟨g1,g2,g3,g4,g5,g6,g7⟩
  refine⟨fun h=> ?_,fun h=> ?_⟩
  ·have h:=asC h
   obtain⟨aD,rfl⟩:=asx g1
   obtain⟨a8,rfl⟩:=asx (a:=j) (by omega)
   rw[bl (x:=(aD:Int)+1) (by omega),bl (x:=(a8:Int)-1) (by omega)]
   simp only[asu,asJ]at g7⊢
   have cn:aD<o.length:=by omega
   have cF:a8<o.length:=by omega
   rw[show(o.set aD (o.getD a8 [])).set a8 (o.getD aD [])=dk o aD a8 from rfl]
   refine⟨by omega,by omega,g5.len cF,by omega,by omega,g5.len cn,by omega,by omega,by omega,by omega,⟨by omega,by omega,by omega,by omega,g5.dk cn cF,g6, ?_⟩,by omega⟩
   rw[<-g7,asq h,WE (i:=aD) (j:=a8) (o:=o) (by omega),show((aD:Int)+1).toNat=aD+1 by omega,show((a8:Int)-1).toNat=a8-1 by omega]
   split
   ·rfl
   ·rw[WG (by omega)]
  ·have h:=asE h
   rw[<-g7,asp h]at ab
   exact ab
end I
end
section
namespace I
open Go Go.bG Go.Sort
theorem Gf {p:Row->Bool}{d:Array Row}{j i:Nat}(h:i<=j)(aw:p d[i]! =true):scanUp p d j i=scanUp p d j (i+1):=by
 rw[scanUp,asq (by simp[h,aw])]
theorem uV {p:Row->Bool}{d:Array Row}{j i:Nat}(h:j<i\/p d[i]! =false):scanUp p d j i=i:=by
 rw[scanUp,asp]
 rcases h with h|h
 ·simp;omega
 ·simp[h]
theorem Gg {p:Row->Bool}{d:Array Row}{i j:Nat}(h:i<=j+1)(aw:p d[j+1]! =true):scanDown p d i (j+1)=scanDown p d i j:=by
 rw[scanDown,asq (by simp[h,aw])]
theorem uW {p:Row->Bool}{d:Array Row}{i j:Nat}(hi:1<=i)(h:j<i\/p d[j]! =false):scanDown p d i j=j:=by
 cases j with
 |zero=>rfl
 |succ j=>
  rw[scanDown,asp]
  rcases h with h|h
  ·simp;omega
  ·simp[h]
theorem iZ (o:List Row)(i a:Nat):aX o.toArray[i]! o.toArray[a]! =decide (fX (o.getD i []) (o.getD a [])<0):=lk o i a
theorem Uv {l:List Row}{A B Q aD a8:Nat}(U:scanUp (fun x=>aX x (dk l A Q).toArray[A]!) (dk l A Q).toArray (B-1) (A+1)=aD)(aa:scanDown (fun x=> !aX x (dk l A Q).toArray[A]!) (dk l A Q).toArray aD (B-1)=a8)(h:aD>a8):
 partition aX l.toArray A B Q=(a8,true,(dk (dk l A Q) a8 A).toArray):=by
 unfold partition
 simp only[ki,U,aa,asq h]
theorem Vk {l:List Row}{A B Q aD a8:Nat}(U:scanUp (fun x=>aX x (dk l A Q).toArray[A]!) (dk l A Q).toArray (B-1) (A+1)=aD)(aa:scanDown (fun x=> !aX x (dk l A Q).toArray[A]!) (dk l A Q).toArray aD (B-1)=a8)(h:¬aD>a8):
 partition aX l.toArray A B Q=((partLoop aX A (aD+1) (a8-1) (dk (dk l A Q) aD a8).toArray).1,false,swp (partLoop aX A (aD+1) (a8-1) (dk (dk l A Q) aD a8).toArray).2 (partLoop aX A (aD+1) (a8-1) (dk (dk l A Q) aD a8).toArray).1 A):=by
 unfold partition
 simp only[ki,U,aa,asp h]
theorem Uw {a i j i2 dW:Nat}{d:Array Row}(U:scanUp (fun x=>aX x d[a]!) d j i=i2)(aa:scanDown (fun x=> !aX x d[a]!) d i2 j=dW)(h:i2>dW):partLoop aX a i j d=(dW,d):=by
 rw[partLoop]
 simp only[U,aa,asq h]
theorem Wy {a i j i2 dW:Nat}{l:List Row}(U:scanUp (fun x=>aX x l.toArray[a]!) l.toArray j i=i2)(aa:scanDown (fun x=> !aX x l.toArray[a]!) l.toArray i2 j=dW)(h:¬i2>dW)(g:dW-1+1-(i2+1)<j+1-i):
 partLoop aX a i j l.toArray=partLoop aX a (i2+1) (dW-1) (dk l i2 dW).toArray:=by
 rw[partLoop]
 simp only[U,aa,asp h,dif_pos g,ki]
theorem abS (l:List Row)(a b p:Int)(K:ad->J->Prop)(h:(fe l a b/\a<=p/\p<b)/\K (.rows 11 (partition aX l.toArray a.toNat b.toNat p.toNat).2.2.toList) (.tup [.d (.int .i64 (partition aX l.toArray a.toNat b.toNat p.toNat).1), .d (.bool (partition aX l.toArray a.toNat b.toNat p.toNat).2.1)])):Ji l a b p K:=by
 obtain⟨⟨⟨aq,aC,jf,ae,ar⟩,Ig,qK⟩,ab⟩:=h
 obtain⟨A,rfl⟩:=asx aC
 obtain⟨B,rfl⟩:=asx (atJ aC jf)
 obtain⟨Q,rfl⟩:=asx (atJ aC Ig)
 simp only[asu]at ab
 unfold Ji
 have uf:A<l.length:=by omega
 have zt:Q<l.length:=by omega
 rw[bl (x:=(A:Int)+1) (by omega),bl (x:=(B:Int)-1) (by omega)]
 simp only[asu,asJ]
 rw[show(l.set A (l.getD Q [])).set Q (l.getD A [])=dk l A Q from rfl]
 have eK:=aq.dk uf zt
 have ec:(dk l A Q).length=l.length:=rA _ _ _
 have ay:= @Uv l A B Q
 have aw:= @Vk l A B Q
 generalize dk l A Q=cj at eK ec ay aw
 refine⟨by omega,by omega,aq.len zt,by omega,by omega,aq.len uf,by omega,by omega,by omega,by omega, ?_⟩
 refine⟨fun i o=>o=cj/\(A:Int)+1<=i/\i<=B/\scanUp (fun x=>aX x cj.toArray[A]!) cj.toArray (B-1) (A+1)=i.toNat,⟨fun i o=>o=cj/\(A:Int)+1<=i/\i<=B/\scanUp (fun x=>aX x cj.toArray[A]!) cj.toArray (B-1) (A+1)=scanUp (fun x=>aX x cj.toArray[A]!) cj.toArray (B-1) i.toNat,fun i _=>(B-i:Int).toNat,⟨rfl,by omega,by omega, ?_⟩, ?_⟩, ?_⟩
 ·rw[show((A:Int)+1).toNat=A+1 by omega]
 ·rintro i o ⟨rfl,g1,g2,g3⟩
  obtain⟨aD,rfl⟩:=asx (a:=i) (by omega)
  simp only[asu]at g3⊢
  refine⟨fun h=> ?_,fun h=> ?_⟩
  ·have h:=asC h
   have cn:aD<o.length:=by omega
   have cF:A<o.length:=by omega
   rw[bl (x:=(aD:Int)+1) (by omega)]
   refine⟨by omega,by omega,eK.len cn,by omega,by omega,eK.len cF,⟨eK.get cn,eK.get cF⟩, ?_⟩
   rintro _ rfl
   refine⟨fun aa=>⟨⟨trivial,by omega,by omega, ?_⟩,by omega⟩,fun aa=>⟨trivial,by omega,by omega, ?_⟩⟩
   ·rw[g3,Gf (by omega) (by rw[iZ];exact aa),show((aD:Int)+1).toNat=aD+1 by omega]
   ·rw[g3,uV (.inr (by rw[iZ];exact aa))]
  ·have h:=asE h
   exact⟨trivial,by omega,by omega,by rw[g3,uV (.inl (by omega))]⟩
 rintro i o ⟨rfl,g1,g2,g3⟩
 obtain⟨aD,rfl⟩:=asx (a:=i) (by omega)
 simp only[asu]at g3⊢
 refine⟨fun j bZ=>bZ=o/\(A:Int)<=j/\j<B/\scanDown (fun x=> !aX x o.toArray[A]!) o.toArray aD (B-1)=j.toNat,⟨fun j bZ=>bZ=o/\(A:Int)<=j/\j<B/\scanDown (fun x=> !aX x o.toArray[A]!) o.toArray aD (B-1)=scanDown (fun x=> !aX x o.toArray[A]!) o.toArray aD j.toNat,fun j _=>j.toNat,⟨rfl,by omega,by omega, ?_⟩, ?_⟩, ?_⟩
 ·rw[show((B:Int)-1).toNat=B-1 by omega]
 ·rintro j bZ ⟨rfl,aU,a_,bF⟩
  obtain⟨a8,rfl⟩:=asx (a:=j) (by omega)
  simp only[asu]at bF⊢
  refine⟨fun h=> ?_,fun h=> ?_⟩
  ·have h:=asC h
   have cn:a8<bZ.length:=by omega
   have cF:A<bZ.length:=by omega
   rw[bl (x:=(a8:Int)-1) (by omega)]
   obtain⟨fk,rfl⟩:∃fk,a8=fk+1:=⟨a8-1,by omega⟩
   refine⟨by omega,by omega,eK.len cn,by omega,by omega,eK.len cF,⟨eK.get cn,eK.get cF⟩, ?_⟩
   rintro _ rfl
   refine⟨fun aa=>⟨⟨trivial,by omega,by omega, ?_⟩,by omega⟩,fun aa=>⟨trivial,by omega,by omega, ?_⟩⟩
   ·rw[bF,Gg (by omega) (by rw[iZ];exact aa),show(((fk+1:Nat):Int)-1).toNat=fk by omega]
   ·rw[bF,uW (by omega) (.inr (by rw[iZ];exact aa))]
  ·have h:=asE h
   exact⟨trivial,by omega,by omega,by rw[bF,uW (by omega) (.inl (by omega))]⟩
 rintro j bZ ⟨rfl,aU,a_,bF⟩
 obtain⟨a8,rfl⟩:=asx (a:=j) (by omega)
 simp only[asu]at bF⊢
 have RO:A<bZ.length:=by omega
 have wi:a8<bZ.length:=by omega
 refine⟨fun h=> ?_,fun h=> ?_⟩
 ·have h:=asC h
  rw[ay g3 bF (by omega)]at ab
  exact⟨by omega,by omega,eK.len RO,by omega,by omega,eK.len wi,by omega,by omega,by omega,by omega,ab⟩
 ·have h:=asE h
  rw[aw g3 bF (by omega)]at ab
  have IV:aD<bZ.length:=by omega
  rw[bl (x:=(aD:Int)+1) (by omega),bl (x:=(a8:Int)-1) (by omega),show(bZ.set aD (bZ.getD a8 [])).set a8 (bZ.getD aD [])=dk bZ aD a8 from rfl]
  have hJ:=eK.dk IV wi
  have gC:(dk bZ aD a8).length=l.length:=by rw[rA];exact ec
  clear ay aw g3 bF
  generalize dk bZ aD a8=db at hJ gC ab
  refine⟨by omega,by omega,eK.len wi,by omega,by omega,eK.len IV,by omega,by omega,by omega,by omega, ?_⟩
  clear eK RO wi IV ec
  generalize dT:partLoop aX A (aD+1) (a8-1) db.toArray=bp at ab
  refine⟨fun j o=>(A:Int)<=j/\j<B/\cQ o/\o.length=l.length/\bp=(j.toNat,o.toArray),⟨fun i j o=>(A:Int)+1<=i/\i<=j+2/\(A:Int)<=j/\j<B/\cQ o/\o.length=l.length/\partLoop aX A i.toNat j.toNat o.toArray=bp,fun i j _=>(j+2-i:Int).toNat,⟨by omega,by omega,by omega,by omega,hJ,gC, ?_⟩, ?_⟩, ?_⟩
  ·rw[show((aD:Int)+1).toNat=aD+1 by omega,show((a8:Int)-1).toNat=a8-1 by omega];exact dT
  ·rintro i j o ⟨q1,cb,cu,fM,dm,hO,gm⟩
   obtain⟨oH,rfl⟩:=asx (a:=i) (by omega)
   obtain⟨hz,rfl⟩:=asx (a:=j) (by omega)
   simp only[asu]at gm⊢
   have cF:A<o.length:=by omega
   refine⟨fun i2 ba=>ba=o/\(oH:Int)<=i2/\i2<=(hz:Int)+2/\scanUp (fun x=>aX x o.toArray[A]!) o.toArray hz oH=i2.toNat,⟨fun i2 ba=>ba=o/\(oH:Int)<=i2/\i2<=(hz:Int)+2/\scanUp (fun x=>aX x o.toArray[A]!) o.toArray hz oH=scanUp (fun x=>aX x o.toArray[A]!) o.toArray hz i2.toNat,fun i2 _=>((hz:Int)+2-i2).toNat,⟨rfl,by omega,by omega,by rw[asu]⟩, ?_⟩, ?_⟩
   ·rintro i2 ba ⟨rfl,j2,kB,ds⟩
    obtain⟨cK,rfl⟩:=asx (a:=i2) (by omega)
    simp only[asu]at ds⊢
    refine⟨fun h=> ?_,fun h=> ?_⟩
    ·have h:=asC h
     have cn:cK<ba.length:=by omega
     rw[bl (x:=(cK:Int)+1) (by omega)]
     refine⟨by omega,by omega,dm.len cn,by omega,by omega,dm.len cF,⟨dm.get cn,dm.get cF⟩, ?_⟩
     rintro _ rfl
     refine⟨fun aa=>⟨⟨trivial,by omega,by omega, ?_⟩,by omega⟩,fun aa=>⟨trivial,by omega,by omega, ?_⟩⟩
     ·rw[ds,Gf (by omega) (by rw[iZ];exact aa),show((cK:Int)+1).toNat=cK+1 by omega]
     ·rw[ds,uV (.inr (by rw[iZ];exact aa))]
    ·have h:=asE h
     exact⟨trivial,by omega,by omega,by rw[ds,uV (.inl (by omega))]⟩
   rintro i2 ba ⟨rfl,j2,kB,ds⟩
   obtain⟨cK,rfl⟩:=asx (a:=i2) (by omega)
   simp only[asu]at ds⊢
   refine⟨fun dW cp=>cp=ba/\(A:Int)<=dW/\dW<=hz/\scanDown (fun x=> !aX x ba.toArray[A]!) ba.toArray cK hz=dW.toNat,⟨fun dW cp=>cp=ba/\(A:Int)<=dW/\dW<=hz/\scanDown (fun x=> !aX x ba.toArray[A]!) ba.toArray cK hz=scanDown (fun x=> !aX x ba.toArray[A]!) ba.toArray cK dW.toNat,fun dW _=>dW.toNat,⟨rfl,by omega,by omega,by rw[asu]⟩, ?_⟩, ?_⟩
   ·rintro dW cp ⟨rfl,aU,a_,bF⟩
    obtain⟨hq,rfl⟩:=asx (a:=dW) (by omega)
    simp only[asu]at bF⊢
    refine⟨fun h=> ?_,fun h=> ?_⟩
    ·have h:=asC h
     have cn:hq<cp.length:=by omega
     rw[bl (x:=(hq:Int)-1) (by omega)]
     obtain⟨fk,rfl⟩:∃fk,hq=fk+1:=⟨hq-1,by omega⟩
     refine⟨by omega,by omega,dm.len cn,by omega,by omega,dm.len cF,⟨dm.get cn,dm.get cF⟩, ?_⟩
     rintro _ rfl
     refine⟨fun aa=>⟨⟨trivial,by omega,by omega, ?_⟩,by omega⟩,fun aa=>⟨trivial,by omega,by omega, ?_⟩⟩
     ·rw[bF,Gg (by omega) (by rw[iZ];exact aa),show(((fk+1:Nat):Int)-1).toNat=fk by omega]
     ·rw[bF,uW (by omega) (.inr (by rw[iZ];exact aa))]
    ·have h:=asE h
     exact⟨trivial,by omega,by omega,by rw[bF,uW (by omega) (.inl (by omega))]⟩
   rintro dW cp ⟨rfl,aU,a_,bF⟩
   obtain⟨hq,rfl⟩:=asx (a:=dW) (by omega)
   simp only[asu]at bF⊢
   have y4:hq<cp.length:=by omega
   refine⟨fun h=> ?_,fun h=> ?_⟩
   ·have h:=asC h
    exact⟨by omega,by omega,dm,hO,by rw[<-gm,Uw ds bF (by omega)]⟩
   ·have h:=asE h
    have y5:cK<cp.length:=by omega
    rw[bl (x:=(cK:Int)+1) (by omega),bl (x:=(hq:Int)-1) (by omega),show(cp.set cK (cp.getD hq [])).set hq (cp.getD cK [])=dk cp cK hq from rfl]
    refine⟨by omega,by omega,dm.len y4,by omega,by omega,dm.len y5,by omega,by omega,by omega,by omega,⟨by omega,by omega,by omega,by omega,dm.dk y5 y4,by rw[rA];exact hO, ?_⟩,by show((hq:Int)-1+2-(cK+1)).toNat<((hz:Int)+2-oH).toNat;omega⟩
    rw[<-gm,Wy ds bF (by omega) (by omega),show((cK:Int)+1).toNat=cK+1 by omega,show((hq:Int)-1).toNat=hq-1 by omega]
  ·rintro j o ⟨q1,cb,cu,fM,rfl⟩
   obtain⟨hz,rfl⟩:=asx (a:=j) (by omega)
   simp only[asu]at ab⊢
   have uf:A<o.length:=by omega
   have wi:hz<o.length:=by omega
   rw[ki]at ab
   exact⟨by omega,by omega,cu.len uf,by omega,by omega,cu.len wi,by omega,by omega,by omega,by omega,ab⟩
theorem Ux {a i j i2 dW:Nat}{d:Array Row}(U:scanUp (fun x=> !aX d[a]! x) d j i=i2)(aa:scanDown (fun x=>aX d[a]! x) d i2 j=dW)(h:i2>dW):partEqLoop aX a i j d=(i2,d):=by
 rw[partEqLoop]
 simp only[U,aa,asq h]
theorem Wz {a i j i2 dW:Nat}{l:List Row}(U:scanUp (fun x=> !aX l.toArray[a]! x) l.toArray j i=i2)(aa:scanDown (fun x=>aX l.toArray[a]! x) l.toArray i2 j=dW)(h:¬i2>dW)(g:dW-1+1-(i2+1)<j+1-i):
 partEqLoop aX a i j l.toArray=partEqLoop aX a (i2+1) (dW-1) (dk l i2 dW).toArray:=by
 rw[partEqLoop]
 simp only[U,aa,asp h,dif_pos g,ki]
theorem abH (l:List Row)(a b p:Int)(K:ad->J->Prop)(h:(fe l a b/\a<=p/\p<b)/\K (.rows 11 (partitionEqual aX l.toArray a.toNat b.toNat p.toNat).2.toList) (.d (.int .i64 (partitionEqual aX l.toArray a.toNat b.toNat p.toNat).1))):I8 l a b p K:=by
 obtain⟨⟨⟨aq,aC,jf,ae,ar⟩,Ig,qK⟩,ab⟩:=h
 obtain⟨A,rfl⟩:=asx aC
 obtain⟨B,rfl⟩:=asx (atJ aC jf)
 obtain⟨Q,rfl⟩:=asx (atJ aC Ig)
 simp only[asu]at ab
 unfold I8
 have uf:A<l.length:=by omega
 have zt:Q<l.length:=by omega
 rw[bl (x:=(A:Int)+1) (by omega),bl (x:=(B:Int)-1) (by omega)]
 simp only[asu,asJ]
 rw[show(l.set A (l.getD Q [])).set Q (l.getD A [])=dk l A Q from rfl]
 have eK:=aq.dk uf zt
 have ec:(dk l A Q).length=l.length:=rA _ _ _
 unfold partitionEqual at ab
 rw[ki]at ab
 generalize dk l A Q=cj at eK ec ab
 refine⟨by omega,by omega,aq.len zt,by omega,by omega,aq.len uf,by omega,by omega,by omega,by omega, ?_⟩
 generalize dT:partEqLoop aX A (A+1) (B-1) cj.toArray=bp at ab
 refine⟨fun i o=>bp=(i.toNat,o.toArray)/\0<=i,⟨fun i j o=>(A:Int)+1<=i/\i<=j+2/\(A:Int)<=j/\j<B/\cQ o/\o.length=l.length/\partEqLoop aX A i.toNat j.toNat o.toArray=bp,fun i j _=>(j+2-i:Int).toNat,⟨by omega,by omega,by omega,by omega,eK,ec, ?_⟩, ?_⟩, ?_⟩
 ·rw[show((A:Int)+1).toNat=A+1 by omega,show((B:Int)-1).toNat=B-1 by omega];exact dT
 ·rintro i j o ⟨q1,cb,cu,fM,dm,hO,gm⟩
  obtain⟨oH,rfl⟩:=asx (a:=i) (by omega)
  obtain⟨hz,rfl⟩:=asx (a:=j) (by omega)
  simp only[asu]at gm⊢
  have cF:A<o.length:=by omega
  refine⟨fun i2 ba=>ba=o/\(oH:Int)<=i2/\i2<=(hz:Int)+2/\scanUp (fun x=> !aX o.toArray[A]! x) o.toArray hz oH=i2.toNat,⟨fun i2 ba=>ba=o/\(oH:Int)<=i2/\i2<=(hz:Int)+2/\scanUp (fun x=> !aX o.toArray[A]! x) o.toArray hz oH=scanUp (fun x=> !aX o.toArray[A]! x) o.toArray hz i2.toNat,fun i2 _=>((hz:Int)+2-i2).toNat,⟨rfl,by omega,by omega,by rw[asu]⟩, ?_⟩, ?_⟩
  ·rintro i2 ba ⟨rfl,j2,kB,ds⟩
   obtain⟨cK,rfl⟩:=asx (a:=i2) (by omega)
   simp only[asu]at ds⊢
   refine⟨fun h=> ?_,fun h=> ?_⟩
   ·have h:=asC h
    have cn:cK<ba.length:=by omega
    rw[bl (x:=(cK:Int)+1) (by omega)]
    refine⟨by omega,by omega,dm.len cF,by omega,by omega,dm.len cn,⟨dm.get cF,dm.get cn⟩, ?_⟩
    rintro _ rfl
    refine⟨fun aa=>⟨⟨trivial,by omega,by omega, ?_⟩,by omega⟩,fun aa=>⟨trivial,by omega,by omega, ?_⟩⟩
    ·rw[ds,Gf (by omega) (by rw[iZ];exact aa),show((cK:Int)+1).toNat=cK+1 by omega]
    ·rw[ds,uV (.inr (by rw[iZ];exact aa))]
   ·have h:=asE h
    exact⟨trivial,by omega,by omega,by rw[ds,uV (.inl (by omega))]⟩
  rintro i2 ba ⟨rfl,j2,kB,ds⟩
  obtain⟨cK,rfl⟩:=asx (a:=i2) (by omega)
  simp only[asu]at ds⊢
  refine⟨fun dW cp=>cp=ba/\(A:Int)<=dW/\dW<=hz/\scanDown (fun x=>aX ba.toArray[A]! x) ba.toArray cK hz=dW.toNat,⟨fun dW cp=>cp=ba/\(A:Int)<=dW/\dW<=hz/\scanDown (fun x=>aX ba.toArray[A]! x) ba.toArray cK hz=scanDown (fun x=>aX ba.toArray[A]! x) ba.toArray cK dW.toNat,fun dW _=>dW.toNat,⟨rfl,by omega,by omega,by rw[asu]⟩, ?_⟩, ?_⟩
  ·rintro dW cp ⟨rfl,aU,a_,bF⟩
   obtain⟨hq,rfl⟩:=asx (a:=dW) (by omega)
   simp only[asu]at bF⊢
   refine⟨fun h=> ?_,fun h=> ?_⟩
   ·have h:=asC h
    have cn:hq<cp.length:=by omega
    rw[bl (x:=(hq:Int)-1) (by omega)]
    obtain⟨fk,rfl⟩:∃fk,hq=fk+1:=⟨hq-1,by omega⟩
    refine⟨by omega,by omega,dm.len cF,by omega,by omega,dm.len cn,⟨dm.get cF,dm.get cn⟩, ?_⟩
    rintro _ rfl
    refine⟨fun aa=>⟨⟨trivial,by omega,by omega, ?_⟩,by omega⟩,fun aa=>⟨trivial,by omega,by omega, ?_⟩⟩
    ·rw[bF,Gg (by omega) (by rw[iZ];exact aa),show(((fk+1:Nat):Int)-1).toNat=fk by omega]
    ·rw[bF,uW (by omega) (.inr (by rw[iZ];exact aa))]
   ·have h:=asE h
    exact⟨trivial,by omega,by omega,by rw[bF,uW (by omega) (.inl (by omega))]⟩
  rintro dW cp ⟨rfl,aU,a_,bF⟩
  obtain⟨hq,rfl⟩:=asx (a:=dW) (by omega)
  simp only[asu]at bF⊢
  have y4:hq<cp.length:=by omega
  refine⟨fun h=> ?_,fun h=> ?_⟩
  ·have h:=asC h
   exact⟨by rw[<-gm,Ux ds bF (by omega)],by omega⟩
  ·have h:=asE h
   have y5:cK<cp.length:=by omega
   rw[bl (x:=(cK:Int)+1) (by omega),bl (x:=(hq:Int)-1) (by omega),show(cp.set cK (cp.getD hq [])).set hq (cp.getD cK [])=dk cp cK hq from rfl]
   refine⟨by omega,by omega,dm.len y4,by omega,by omega,dm.len y5,by omega,by omega,by omega,by omega,⟨by omega,by omega,by omega,by omega,dm.dk y5 y4,by rw[rA];exact hO, ?_⟩,by show((hq:Int)-1+2-(cK+1)).toNat<((hz:Int)+2-oH).toNat;omega⟩
   rw[<-gm,Wz ds bF (by omega) (by omega),show((cK:Int)+1).toNat=cK+1 by omega,show((hq:Int)-1).toNat=hq-1 by omega]
 ·rintro j o ⟨rfl,aK⟩
  obtain⟨hz,rfl⟩:=asx aK
  exact ab
end I
end
section
namespace I
open Go Go.bG Go.Sort
theorem Xs {d:Array Row}{b i:Nat}(h:i<b)(aw:aX d[i]! d[i-1]! =false):scanSorted aX d b i=scanSorted aX d b (i+1):=by
 rw[scanSorted,asq (by simp[h,aw])]
theorem Pr {d:Array Row}{b i:Nat}(h:b<=i\/aX d[i]! d[i-1]! =true):scanSorted aX d b i=i:=by
 rw[scanSorted,asp]
 rcases h with h|h
 ·simp;omega
 ·simp[h]
theorem Ya {a b s i:Nat}{d:Array Row}(h:scanSorted aX d b i=b):partialIns aX a b (s+1) i d=(d,true):=by
 rw[partialIns];simp only[h,atj]
theorem WA {a b s i j:Nat}{d:Array Row}(h:scanSorted aX d b i=j)(aK:j≠b)(ao:b-a<50):partialIns aX a b (s+1) i d=(d,false):=by
 rw[partialIns];simp only[h,asp aK,asq ao]
theorem YH {a b s i j:Nat}{d:Array Row}(h:scanSorted aX d b i=j)(aK:j≠b)(ao:¬b-a<50){d2 d3:Array Row}
 (aa:(if j-a>=2 then shiftDown aX (j-1) (swp d j (j-1))else swp d j (j-1))=d2)
 (al:(if b-j>=2 then shiftUp aX b (j+1) d2 else d2)=d3):partialIns aX a b (s+1) i d=partialIns aX a b s j d3:=by
 rw[partialIns];simp only[h,asp aK,asp ao,aa,al]
theorem Ps {j:Nat}{d:Array Row}(h:j=0\/aX d[j]! d[j-1]! =false):shiftDown aX j d=d:=by
 cases j with
 |zero=>rfl
 |succ j=>
  rcases h with h|h
  ·cases h
  ·rw[shiftDown,asq];simpa using h
theorem YI {j:Nat}{l:List Row}(h:aX l.toArray[j+1]! l.toArray[j]! =true):shiftDown aX (j+1) l.toArray=shiftDown aX j (dk l (j+1) j).toArray:=by
 rw[shiftDown,asp (by rw[h];simp),ki]
theorem Pt {b j:Nat}{d:Array Row}(h:b<=j\/aX d[j]! d[j-1]! =false):shiftUp aX b j d=d:=by
 rw[shiftUp]
 split
 ·rcases h with h|h
  ·omega
  ·rw[asq];simpa using h
 ·rfl
theorem YJ {b j:Nat}{l:List Row}(ae:j<b)(h:aX l.toArray[j]! l.toArray[j-1]! =true):shiftUp aX b j l.toArray=shiftUp aX b (j+1) (dk l j (j-1)).toArray:=by
 rw[shiftUp,asq ae,asp (by rw[h];simp),ki]
theorem abG (l:List Row)(a b:Int)(K:ad->J->Prop)(h:(fe l a b/\a<b)/\K (.rows 11 (partialInsertionSort aX l.toArray a.toNat b.toNat).1.toList) (.d (.bool (partialInsertionSort aX l.toArray a.toNat b.toNat).2))):I7 l a b K:=by
 obtain⟨⟨⟨aq,aC,-,ae,ar⟩,jf⟩,ab⟩:=h
 obtain⟨A,rfl⟩:=asx aC
 obtain⟨B,rfl⟩:=asx (atJ aC (Int.le_of_lt jf))
 simp only[asu]at ab
 unfold partialInsertionSort at ab
 unfold I7
 rw[bl (x:=(A:Int)+1) (by omega),bl (x:=(B:Int)-A) (by omega)]
 generalize dT:partialIns aX A B 5 (A+1) l.toArray=bp at ab
 refine⟨fun o=>bp=(o.toArray,false),⟨fun i s o=>(A:Int)+1<=i/\i<=B/\0<=s/\s<=5/\cQ o/\o.length=l.length/\partialIns aX A B (5-s:Int).toNat i.toNat o.toArray=bp,fun _ s _=>(5-s:Int).toNat,⟨by omega,by omega,by omega,by omega,aq,rfl, ?_⟩, ?_⟩, ?_⟩
 ·rw[show((A:Int)+1).toNat=A+1 by omega];exact dT
 ·rintro i s o ⟨q1,cb,cu,fM,dm,hO,gm⟩
  obtain⟨aD,rfl⟩:=asx (a:=i) (by omega)
  obtain⟨S,rfl⟩:=asx cu
  simp only[asu]at gm⊢
  refine⟨fun h=> ?_,fun h=> ?_⟩
  case refine_2=>
   have h:=asE h
   rw[show(5-(S:Int)).toNat=0 by omega]at gm
   exact gm.symm
  have h:=asC h
  obtain⟨T,bj⟩:∃T,(5-(S:Int)).toNat=T+1:=⟨(5-(S:Int)).toNat-1,by omega⟩
  rw[bj]at gm
  rw[bl (x:=(S:Int)+1) (by omega)]
  refine⟨fun i2 ba=>ba=o/\(aD:Int)<=i2/\i2<=B/\scanSorted aX o.toArray B aD=i2.toNat,⟨fun i2 ba=>ba=o/\(aD:Int)<=i2/\i2<=B/\scanSorted aX o.toArray B aD=scanSorted aX o.toArray B i2.toNat,fun i2 _=>((B:Int)-i2).toNat,⟨rfl,by omega,by omega,by rw[asu]⟩, ?_⟩, ?_⟩
  ·rintro i2 ba ⟨rfl,j2,kB,ds⟩
   obtain⟨cK,rfl⟩:=asx (a:=i2) (by omega)
   simp only[asu]at ds⊢
   refine⟨fun h=> ?_,fun h=> ?_⟩
   ·have h:=asC h
    have cn:cK<ba.length:=by omega
    have cF:cK-1<ba.length:=by omega
    rw[bl (x:=(cK:Int)+1) (by omega),bl (x:=(cK:Int)-1) (by omega),show((cK:Int)-1).toNat=cK-1 by omega]
    refine⟨by omega,by omega,dm.len cn,by omega,by omega,dm.len cF,⟨dm.get cn,dm.get cF⟩, ?_⟩
    rintro _ rfl
    refine⟨fun aa=>⟨⟨trivial,by omega,by omega, ?_⟩,by omega⟩,fun aa=>⟨trivial,by omega,by omega, ?_⟩⟩
    ·rw[ds,Xs (by omega) (by rw[iZ];simpa using aa),show((cK:Int)+1).toNat=cK+1 by omega]
    ·rw[ds,Pr (.inr (by rw[iZ];simpa using aa))]
   ·have h:=asE h
    exact⟨trivial,by omega,by omega,by rw[ds,Pr (.inl (by omega))]⟩
  rintro i2 ba ⟨rfl,j2,kB,ds⟩
  obtain⟨cK,rfl⟩:=asx (a:=i2) (by omega)
  simp only[asu]at ds⊢
  refine⟨fun h=> ?_,fun h=> ?_⟩
  ·have h:=asC h
   have h:cK=B:=by omega
   subst h
   rw[Ya ds]at gm
   rw[<-gm]at ab;exact ab
  have h:=asE h
  have cV:cK≠B:=fun e=>h (by rw[e])
  refine⟨fun h=> ?_,fun h=> ?_⟩
  ·have h:=asC h
   rw[WA ds cV (by omega)]at gm
   rw[<-gm]at ab;exact ab
  have ajj:=asE h
  have cn:cK<ba.length:=by omega
  have cF:cK-1<ba.length:=by omega
  rw[bl (x:=(cK:Int)+1) (by omega),bl (x:=(cK:Int)-1) (by omega),bl (x:=(cK:Int)-A) (by omega),bl (x:=(B:Int)-cK) (by omega),show((cK:Int)-1).toNat=cK-1 by omega]
  simp only[asJ]
  rw[show(ba.set cK (ba.getD (cK-1) [])).set (cK-1) (ba.getD cK [])=dk ba cK (cK-1)from rfl]
  refine⟨by omega,by omega,dm.len cF,by omega,by omega,dm.len cn,by omega,by omega,by omega,by omega, ?_⟩
  have eK:=dm.dk cn cF
  have ec:(dk ba cK (cK-1)).length=l.length:=by rw[rA];exact hO
  have nH:=fun d2 d3=> @YH A B T aD cK ba.toArray ds cV (by omega) d2 d3
  rw[ki]at nH
  generalize dk ba cK (cK-1)=cj at eK ec nH
  clear ds cn cF
  refine⟨fun o=>cQ o/\o.length=l.length/\(if cK-A>=2 then shiftDown aX (cK-1) cj.toArray else cj.toArray)=o.toArray,⟨fun h=> ?_,fun h=> ?_⟩, ?_⟩
  ·have h:=asC h
   rw[asq (show cK-A>=2 by omega)]
   refine⟨fun j o=>0<=j/\j<cK/\cQ o/\o.length=l.length/\shiftDown aX (cK-1) cj.toArray=shiftDown aX j.toNat o.toArray,fun j _=>j.toNat,⟨by omega,by omega,eK,ec,by rw[show((cK:Int)-1).toNat=cK-1 by omega]⟩, ?_⟩
   rintro j o ⟨g1,g2,g3,g4,g5⟩
   obtain⟨a8,rfl⟩:=asx g1
   simp only[asu,asJ]at g5⊢
   refine⟨fun h=> ?_,fun h=> ?_⟩
   ·have h:=asC h
    obtain⟨fk,rfl⟩:∃fk,a8=fk+1:=⟨a8-1,by omega⟩
    rw[bl (x:=((fk+1:Nat):Int)-1) (by omega),show((fk+1:Nat):Int)-1=(fk:Int) by omega,asu]
    have cn:fk+1<o.length:=by omega
    have cF:fk<o.length:=by omega
    refine⟨by omega,by omega,g3.len cn,by omega,by omega,g3.len cF,⟨g3.get cn,g3.get cF⟩, ?_⟩
    rintro _ rfl
    refine⟨fun aa=>⟨g3,g4, ?_⟩,fun aa=>⟨by omega,by omega,g3.len cF,by omega,by omega,g3.len cn,by omega,by omega,by omega,by omega,⟨by omega,by omega,g3.dk cn cF,by simpa using g4, ?_⟩,by omega⟩⟩
    ·rw[g5,Ps (.inr (by rw[iZ];simpa using aa))]
    ·rw[g5,YI (by rw[iZ];simpa using aa)];rfl
   ·have h:=asE h
    exact⟨g3,g4,by rw[g5,Ps (.inl (by omega))]⟩
  ·have h:=asE h
   rw[asp (show ¬cK-A>=2 by omega)]
   exact⟨eK,ec,rfl⟩
  rintro db ⟨hJ,gC,az⟩
  replace nH:=fun d3=>nH _ d3 az
  refine⟨fun h=> ?_,fun h=> ?_⟩
  ·have h:=asC h
   rw[asq (show B-cK>=2 by omega)]at nH
   refine⟨fun j o=>(cK:Int)+1<=j/\j<=B/\cQ o/\o.length=l.length/\shiftUp aX B (cK+1) db.toArray=shiftUp aX B j.toNat o.toArray,fun j _=>((B:Int)-j).toNat,⟨by omega,by omega,hJ,gC,by rw[show((cK:Int)+1).toNat=cK+1 by omega]⟩, ?_⟩
   rintro j o ⟨g1,g2,g3,g4,g5⟩
   obtain⟨a8,rfl⟩:=asx (a:=j) (by omega)
   simp only[asu,asJ]at g5⊢
   have fin:shiftUp aX B a8 o.toArray=o.toArray->((A:Int)+1<=cK/\(cK:Int)<=B/\(0:Int)<=(S:Int)+1/\(S:Int)+1<=5/\cQ o/\o.length=l.length/\partialIns aX A B (5-((S:Int)+1)).toNat cK o.toArray=bp)/\(5-((S:Int)+1)).toNat<(5-(S:Int)).toNat:=fun e=>by
    refine⟨⟨by omega,by omega,by omega,by omega,g3,g4, ?_⟩,by omega⟩
    rw[<-gm,nH _ (g5.trans e),show(5-((S:Int)+1)).toNat=T by omega]
   refine⟨fun h=> ?_,fun h=> ?_⟩
   ·have h:=asC h
    have cn:a8<o.length:=by omega
    have cF:a8-1<o.length:=by omega
    rw[bl (x:=(a8:Int)+1) (by omega),bl (x:=(a8:Int)-1) (by omega),show((a8:Int)-1).toNat=a8-1 by omega]
    refine⟨by omega,by omega,g3.len cn,by omega,by omega,g3.len cF,⟨g3.get cn,g3.get cF⟩, ?_⟩
    rintro _ rfl
    refine⟨fun aa=>fin (Pt (.inr (by rw[iZ];simpa using aa))),fun aa=>⟨by omega,by omega,g3.len cF,by omega,by omega,g3.len cn,by omega,by omega,by omega,by omega,⟨by omega,by omega,g3.dk cn cF,by simpa using g4, ?_⟩,by omega⟩⟩
    rw[g5,YJ (by omega) (by rw[iZ];simpa using aa),show((a8:Int)+1).toNat=a8+1 by omega];rfl
   ·have h:=asE h
    exact fin (Pt (.inl (by omega)))
  ·have h:=asE h
   rw[asp (show ¬B-cK>=2 by omega)]at nH
   refine⟨⟨by omega,by omega,by omega,by omega,hJ,gC, ?_⟩,by omega⟩
   rw[<-gm,nH _ rfl,show(5-((S:Int)+1)).toNat=T by omega]
 ·rintro o rfl
  exact ab
end I
end
section
namespace I
open Go Go.bG Go.Sort
theorem AH:∀x y:List Int,dR y x=-dR x y
 |[],[]=>rfl
 |[],_::_=>rfl
 |_::_,[]=>rfl
 |a::x,b::y=>by
  have bA:=AH x y
  unfold dR
  by_cases h:b<a
  ·rw[asq h,asp (show ¬a<b by omega),asq h]
  ·rw[asp h]
   by_cases aa:a<b
   ·rw[asq aa,asq aa];rfl
   ·rw[asp aa,asp aa,asp h];exact bA
theorem Gh:∀x y z:List Int,dR x y<=0->dR y z<=0->dR x z<=0
 |[],_,[]=>fun _ _=>Int.le_refl _
 |[],_,_::_=>fun _ _=>by simp[dR]
 |a::x,[],_=>fun h=>by simp[dR]at h
 |a::x,b::y,[]=>fun _ h=>by simp[dR]at h
 |a::x,b::y,c::z=>fun U aa=>by
  have bA:=Gh x y z
  unfold dR at U aa⊢
  by_cases an:a<b
  ·by_cases az:b<c
   ·rw[asq (by omega)];decide
   ·rw[asp az]at aa
    by_cases bK:c<b
    ·rw[asq bK]at aa;cases aa
    ·rw[asq (by omega)];decide
  ·rw[asp an]at U
   by_cases bK:b<a
   ·rw[asq bK]at U;cases U
   ·rw[asp bK]at U
    have:a=b:=by omega
    subst this
    by_cases cm:a<c
    ·rw[asq cm];decide
    ·rw[asp cm]at aa⊢
     by_cases eL:c<a
     ·rw[asq eL]at aa;cases aa
     ·rw[asp eL]at aa⊢;exact bA U aa
theorem Xt (a b:Row):aX a b=true↔0<dR (dY a) (dY b):=by
 unfold aX fX
 rw[asw];omega
theorem P2 (a b:Row):aX a b=false↔dR (dY a) (dY b)<=0:=by
 unfold aX fX
 rw[asv];omega
theorem p5:SWO aX where
 irrefl x:=by
  rw[P2]
  have:=AH (dY x) (dY x);omega
 trans x y z U aa:=by
  rw[Xt]at U aa⊢
  refine Int.not_le.1 fun h=> ?_
  have al:=AH (dY y) (dY z)
  have:=Gh (dY x) (dY z) (dY y) h (by omega)
  omega
 ntrans x y z U aa:=by
  rw[P2]at U aa⊢
  exact Gh _ _ _ U aa
theorem sC {l:Rows}{d:Array Row}{a b:Nat}(aq:cQ l)(ae:b<=l.length)(aw:PermIn a b l.toArray d):cQ d.toList/\d.toList.length=l.length:=by
 have ao:d.size=l.length:=by rw[aw.1];simp
 refine⟨fun r ak=> ?_,by simpa using ao⟩
 obtain⟨i,hi,rfl⟩:=auM ak
 have dH:i<d.size:=by simpa using hi
 have e:d.toList[i]=d[i]! :=by simp[dH]
 rw[e]
 by_cases h:a<=i/\i<b
 ·refine permIn_all l.toArray d a b dZ (by simpa using ae) aw (fun j U aa=> ?_) i h.1 h.2
  rw[uX];exact aq.get (by omega)
 ·rw[aw.2.1 i (by omega),uX];exact aq.get (by omega)
theorem adW (x:Int)(K:J->Prop)(h:xq.T [.d (.int .u64 x)] K):KN x K:=by
 obtain⟨af,ab⟩:=h
 obtain⟨n,rfl⟩:∃n:Nat,x=n:=⟨x.toNat,by omega⟩
 rw[asu]at ab
 unfold KN
 refine⟨fun v s=>∃m k:Nat,v=m/\s=k/\m<4294967296/\k<=32/\cL n=cL m+k,⟨fun h=> ?_,fun h=> ?_⟩, ?_⟩
 ·simp only[asw]at h
  have:=w_ (n:=n) (k:=32) (by omega)
  refine⟨n/4294967296,32, ?_,rfl,by omega,by omega,this⟩
  rw[as_ _ (by omega)];omega
 ·simp only[asv]at h
  exact⟨n,0,rfl,rfl,by omega,by omega,rfl⟩
 rintro v s ⟨m,k,rfl,rfl,hm,Df,he⟩
 refine⟨fun v s=>∃m k:Nat,v=m/\s=k/\m<65536/\k<=48/\cL n=cL m+k,⟨fun h=> ?_,fun h=> ?_⟩, ?_⟩
 ·simp only[asw]at h
  have:=w_ (n:=m) (k:=16) (by omega)
  rw[bl (x:=(k:Int)+16) (by omega)]
  refine⟨m/65536,k+16, ?_,by omega,by omega,by omega,by rw[he,this];show cL (m/65536)+16+k=_;omega⟩
  rw[as_ _ (by omega)];omega
 ·simp only[asv]at h
  exact⟨m,k,rfl,rfl,by omega,by omega,he⟩
 clear hm Df he
 rintro v s ⟨m,k,rfl,rfl,hm,aiW,he⟩
 have fin:∀(q c:Nat),q<256->c<=56->cL n=cL q+c->K (.d (.int .i64 (IntKind.wrap .i64 ((c:Int)+IntKind.wrap .i64 (tab.getD q 0))))):=fun q c aN ay e=>by
  have ae:=uS (n:=q) (k:=8) (by omega)
  rw[O_ q aN,bl (x:=(cL q:Int)) (by omega),bl (by omega)]
  rw[show(c:Int)+(cL q:Int)=((cL n:Nat):Int) by omega]
  exact ab
 refine⟨fun h=> ?_,fun h=> ?_⟩
 ·simp only[asw]at h
  have aP:IntKind.wrap .u8 (Int.fdiv (m:Int) 256)=((m/256:Nat):Int):=by
   rw[as_ _ (by omega),qF (by omega)];omega
  rw[aP,bl (x:=(k:Int)+8) (by omega),asu]
  have:=w_ (n:=m) (k:=8) (by omega)
  exact⟨by omega,by omega,fin (m/256) (k+8) (by omega) (by omega) (by rw[he,this];show cL (m/256)+8+k=_;omega)⟩
 ·simp only[asv]at h
  rw[qF (x:=(m:Int)) (by omega),asu]
  exact⟨by omega,by omega,fin m k (by omega) (by omega) he⟩
theorem aeR (x:Int)(K:J->Prop)(h:xq.T [.d (.int .u64 x)] K):TV x K:=by
 obtain⟨af,ab⟩:=h
 refine⟨af, ?_⟩
 rintro _ rfl
 exact ab
theorem Xu (n:Nat):n<2^cL n:=by
 by_cases h:n=0
 ·subst h;exact atk _
 ·exact(uy h).2.1
theorem WB {n:Nat}(h:0<n):2^cL n<=2*n:=by
 obtain⟨cn,_,hN⟩:=uy (n:=n) (by omega)
 obtain⟨k,ab⟩:∃k,cL n=k+1:=⟨cL n-1,by omega⟩
 rw[ab]at cn⊢
 rw[asU]
 simp at cn;omega
theorem acz (x:Int)(K:J->Prop)(h:Dk.T [.d (.int .i64 x)] K):JV x K:=by
 obtain⟨af,ab⟩:=h
 unfold JV
 rw[cl (x:=x) (by omega)]
 refine⟨by omega, ?_⟩
 rintro _ rfl
 refine⟨by omega, ?_⟩
 have U:=uS (n:=x.toNat) (k:=62) (by omega)
 have aa:(2:Nat)^cL x.toNat<=2^62:=as9 (by decide) U
 rw[show(2:Nat)^62=4611686018427387904 from rfl]at aa
 rw[asu,auJ (by omega),Int.one_mul]
 have e:((2:Int)^cL x.toNat)=((2^cL x.toNat:Nat):Int):=by simp
 rw[e]
 generalize 2^cL x.toNat=q at aa ab
 rw[cl (by omega)]
 exact ab
end I
end
section
namespace I
open Go Go.bG
theorem Gc:∀x y:List Int,dR x y=0↔x=y
 |[],[]=>by simp[dR]
 |[],_::_=>by simp[dR]
 |_::_,[]=>by simp[dR]
 |a::x,b::y=>by
  have bA:=Gc x y
  unfold dR
  by_cases h:a<b
  ·rw[asq h]
   exact⟨fun e=>by simp at e,fun e=>by injection e;omega⟩
  ·rw[asp h]
   by_cases aa:b<a
   ·rw[asq aa]
    exact⟨fun e=>by simp at e,fun e=>by injection e;omega⟩
   ·rw[asp aa,bA,show a=b by omega]
    simp
theorem N5:∀x y:List Int,dR x y=-1\/dR x y=0\/dR x y=1
 |[],[]=> .inr (.inl rfl)
 |[],_::_=> .inl rfl
 |_::_,[]=> .inr (.inr rfl)
 |a::x,b::y=>by
  have bA:=N5 x y
  unfold dR
  by_cases h:a<b
  ·rw[asq h];exact .inl rfl
  ·rw[asp h]
   by_cases aa:b<a
   ·rw[asq aa];exact .inr (.inr rfl)
   ·rw[asp aa];exact bA
theorem EH:∀x y z:List Int,dR x y=1->dR y z=1->dR x z=1
 |[],[],_=>fun h=>by simp[dR]at h
 |[],_::_,_=>fun h=>by simp[dR]at h
 |_::_,_,[]=>fun _ _=>rfl
 |a::x,[],_::_=>fun _ h=>by simp[dR]at h
 |a::x,b::y,c::z=>fun U aa=>by
  have bA:=EH x y z
  unfold dR at U aa⊢
  by_cases an:a<b
  ·rw[asq an]at U;simp at U
  ·rw[asp an]at U
   by_cases az:b<c
   ·rw[asq az]at aa;simp at aa
   ·rw[asp az]at aa
    rw[asp (by omega)]
    by_cases bK:c<a
    ·rw[asq bK]
    ·rw[asp bK]
     rw[asp (by omega)]at U aa
     exact bA U aa
abbrev m_ (x y:List Int):Prop:=dR x y=1
theorem Vi (x:List Int):¬m_ x x:=fun h=>by
 have:=(Gc x x).2 rfl
 unfold m_ at h;omega
theorem YG {x y:List Int}(h:m_ x y):x≠y:=fun e=>Vi y (e▸h)
theorem FC {x y:List Int}(h:x≠y):m_ x y\/m_ y x:=by
 have U:=N5 x y
 have aa:=AH x y
 have al:dR x y≠0:=fun e=>h ((Gc x y).1 e)
 unfold m_;omega
def mZ (p:List bu):Prop:=p.Pairwise (fun t u=>m_ t.1 u.1)/\∀t∈p,t.2≠0
theorem mZ.tail {t:bu}{p:List bu}(h:mZ (t::p)):mZ p:=⟨(aub.1 h.1).2,fun u hu=>h.2 u (by simp[hu])⟩
theorem Gd {t u:bu}:∀{p:List bu},u∈ins t p->u.1=t.1\/∃v∈p,v.1=u.1
 |[],h=>by
  unfold ins at h
  split at h
  ·simp at h
  ·simp at h;exact .inl (by rw[h])
 |x::p,h=>by
  unfold ins at h
  split at h
  ·split at h
   ·exact .inr ⟨u,by simp[h],rfl⟩
   ·rcases asP.1 h with rfl|h
    ·exact .inr ⟨x,by simp,rfl⟩
    ·exact .inr ⟨u,by simp[h],rfl⟩
  ·split at h
   ·split at h
    ·exact .inr ⟨u,h,rfl⟩
    ·rcases asP.1 h with rfl|h
     ·exact .inl rfl
     ·exact .inr ⟨u,h,rfl⟩
   ·rcases asP.1 h with rfl|h
    ·exact .inr ⟨u,by simp,rfl⟩
    ·rcases Gd h with h|⟨v,aM,e⟩
     ·exact .inl h
     ·exact .inr ⟨v,by simp[aM],e⟩
theorem Pq (t:bu):∀{p:List bu},mZ p->mZ (ins t p)
 |[],_=>by
  unfold ins
  split
  ·exact⟨List.Pairwise.nil,fun u hu=>absurd hu atW⟩
  ·rename_i h
   exact⟨List.pairwise_singleton _ _,fun _ hu=>by rw[atr.1 hu];exact h⟩
 |x::p,h=>by
  have bA:=Pq t h.tail
  obtain⟨U,aa⟩:=aub.1 h.1
  unfold ins
  split
  ·split
   ·exact h.tail
   ·rename_i e ne
    exact⟨aub.2 ⟨U,aa⟩,fun u hu=>by
     rcases asP.1 hu with rfl|hu
     ·exact ne
     ·exact h.2 u (by simp[hu])⟩
  ·rename_i ne
   split
   ·rename_i g
    split
    ·exact h
    ·rename_i su
     refine⟨aub.2 ⟨fun u hu=> ?_,h.1⟩,fun u hu=> ?_⟩
     ·rcases asP.1 hu with rfl|hu
      ·exact g
      ·exact EH _ _ _ g (U u hu)
     ·rcases asP.1 hu with rfl|hu
      ·exact su
      ·exact h.2 u hu
   ·rename_i g
    have ue:m_ x.1 t.1:=(FC ne).resolve_left g
    refine⟨aub.2 ⟨fun u hu=> ?_,bA.1⟩,fun u hu=> ?_⟩
    ·rcases Gd hu with e|⟨v,aM,e⟩
     ·rw[e];exact ue
     ·rw[<-e];exact U v aM
    ·rcases asP.1 hu with rfl|hu
     ·exact h.2 _ (by simp)
     ·exact bA.2 u hu
theorem BF:∀p:List bu,mZ (nrm p)
 |[]=>⟨List.Pairwise.nil,fun u hu=>absurd hu atW⟩
 |t::p=>Pq t (BF p)
def dw (f:List Int->Rat):List bu->Rat
 |[]=>0
 |t::p=>t.2*f t.1+dw f p
theorem A6 (f:List Int->Rat):∀p q:List bu,dw f (p++q)=dw f p+dw f q
 |[],q=>by rw[List.nil_append,dw,aty]
 |t::p,q=>by rw[atP,dw,dw,A6 f p q,atz]
theorem N6 (f:List Int->Rat)(t:bu):∀p:List bu,dw f (ins t p)=t.2*f t.1+dw f p
 |[]=>by
  unfold ins
  split
  ·rename_i h;rw[h,Rat.zero_mul,aty]
  ·rfl
 |x::p=>by
  have bA:=N6 f t p
  unfold ins
  split
  ·rename_i e
   split
   ·rename_i aE
    rw[dw,e,<-atz,<-Rat.add_mul,Rat.add_comm t.2,aE,Rat.zero_mul,aty]
   ·rw[dw,dw,e,Rat.add_mul,<-atz,Rat.add_comm (x.2*f x.1)]
  ·split
   ·split
    ·rename_i aE;rw[aE,Rat.zero_mul,aty]
    ·rfl
   ·rw[dw,dw,bA,<-atz,<-atz,Rat.add_comm (x.2*f x.1)]
theorem A7 (f:List Int->Rat):∀p:List bu,dw f (nrm p)=dw f p
 |[]=>rfl
 |t::p=>by rw[nrm,N6,A7 f p,dw]
def dl (m:List Int):List Int->Rat:=fun x=>if x=m then 1 else 0
theorem kc (m:List Int):∀p:List bu,cG p m=dw (dl m) p
 |[]=>rfl
 |t::p=>by
  rw[cG,dw,kc m p]
  unfold dl
  split
  ·rw[Rat.mul_one]
  ·rw[Rat.mul_zero]
theorem n0 (p:List bu)(m:List Int):cG (nrm p) m=cG p m:=by rw[kc,kc,A7]
theorem sN (p q:List bu)(m:List Int):cG (p++q) m=cG p m+cG q m:=by rw[kc,kc,kc,A6]
theorem Ge {x:List Int}:∀{p:List bu},(∀t∈p,m_ x t.1)->cG p x=0
 |[],_=>rfl
 |t::p,h=>by
  rw[cG,asp fun e=>YG (h t (by simp)) e.symm,Ge fun u hu=>h u (by simp[hu]),aty]
theorem wZ {t:bu}{p:List bu}(h:mZ (t::p)):cG (t::p) t.1=t.2:=by
 rw[cG,asq rfl,Ge (aub.1 h.1).1,atV]
theorem Mg:∀{p q:List bu},mZ p->mZ q->(∀m,cG p m=cG q m)->p=q
 |[],[],_,_,_=>rfl
 |[],u::q,_,aN,h=>by
  have:=h u.1
  rw[wZ aN]at this
  exact absurd this.symm (aN.2 u (by simp))
 |t::p,[],aw,_,h=>by
  have:=h t.1
  rw[wZ aw]at this
  exact absurd this (aw.2 t (by simp))
 |t::p,u::q,aw,aN,h=>by
  have up:∀{t u:bu} {p q:List bu},mZ (t::p)->mZ (u::q)->(∀m,cG (t::p) m=cG (u::q) m)->¬m_ t.1 u.1:=fun{t u p q} aw aN h g=>by
   have U:=h t.1
   rw[wZ aw,Ge (fun v aM=>by
    rcases asP.1 aM with rfl|aM
    ·exact g
    ·exact EH _ _ _ g ((aub.1 aN.1).1 v aM))]at U
   exact aw.2 t (by simp) U
  have an:t.1=u.1:=Classical.byContradiction fun ne=>(FC ne).elim (up aw aN h) (up aN aw fun m=>(h m).symm)
  have az:t.2=u.2:=by
   have:=h t.1
   rw[wZ aw]at this
   rw[this,an,wZ aN]
  have e:t=u:=Prod.ext an az
  subst e
  have:p=q:=Mg aw.tail aN.tail fun m=>by
   have:=h m
   rw[cG,cG]at this
   exact(Rat.add_left_cancel _ this)
  rw[this]
theorem GA {p q:List bu}(aN:mZ q)(h:∀m,cG q m=cG p m):q=nrm p:=Mg aN (BF p) fun m=>by rw[h,n0]
theorem sH {p q:List bu}(h:∀m,cG p m=cG q m):nrm p=nrm q:=GA (BF p) fun m=>by rw[n0,h]
theorem Mh {p q:List bu}(h:∀m,cG p m=cG q m)(f:List Int->Rat):dw f p=dw f q:=by
 rw[<-A7 f p,<-A7 f q,sH h]
theorem N7 (f:List Int->Rat)(c:Rat):∀p:List bu,dw (fun x=>c*f x) p=c*dw f p
 |[]=>by rw[dw,dw,Rat.mul_zero]
 |t::p=>by rw[dw,dw,N7 f c p,Rat.mul_add,<-aui,<-aui,Rat.mul_comm t.2 c]
theorem FD (f g:List Int->Rat):∀p:List bu,dw (fun x=>f x+g x) p=dw f p+dw g p
 |[]=>by rw[dw,dw,dw,atV]
 |t::p=>by
  rw[dw,dw,dw,FD f g p,Rat.mul_add,atz,atz,<-atz (t.2*g t.1),Rat.add_comm (t.2*g t.1),atz]
theorem MZ:∀p:List bu,dw (fun _=>0) p=0
 |[]=>rfl
 |t::p=>by rw[dw,MZ p,Rat.mul_zero,atV]
theorem M0 (g:List Int->List Int->Rat):∀p q:List bu,dw (fun a=>dw (fun b=>g a b) q) p=dw (fun b=>dw (fun a=>g a b) p) q
 |[],q=>by rw[dw];exact(MZ q).symm
 |t::p,q=>by
  rw[dw,M0 g p q]
  have:(fun b=>dw (fun a=>g a b) (t::p))=fun b=>t.2*g t.1 b+dw (fun a=>g a b) p:=rfl
  rw[this,FD,N7]
def jt (s:bu)(q:List bu):List bu:=q.map fun t=>(fx s.1 t.1,s.2*t.2)
def eR:List bu->List bu->List bu
 |[],_=>[]
 |s::p,q=>jt s q++eR p q
theorem M1 (f:List Int->Rat)(s:bu):∀q:List bu,dw f (jt s q)=s.2*dw (fun b=>f (fx s.1 b)) q
 |[]=>by rw[dw,Rat.mul_zero];rfl
 |t::q=>by
  have bA:=M1 f s q
  show s.2*t.2*f (fx s.1 t.1)+dw f (jt s q)=_
  rw[bA,dw,Rat.mul_add,aui]
theorem nk (f:List Int->Rat):∀p q:List bu,dw f (eR p q)=dw (fun a=>dw (fun b=>f (fx a b)) q) p
 |[],q=>rfl
 |s::p,q=>by rw[eR,A6,M1,nk f p q,dw]
theorem M3:∀a b:List Int,fx a b=fx b a
 |[],[]=>rfl
 |[],_::_=>rfl
 |_::_,[]=>rfl
 |a::x,b::y=>by rw[fx,fx,Int.add_comm,M3 x y]
theorem afP (p q:List bu)(m:List Int):cG (eR p q) m=cG (eR q p) m:=by
 rw[kc,kc,nk,nk,M0]
 congr 1;funext b;congr 1;funext a;rw[M3]
theorem Uu {p m6 q iC:List bu}(U:∀m,cG p m=cG m6 m)(aa:∀m,cG q m=cG iC m)(m:List Int):cG (eR p q) m=cG (eR m6 iC) m:=by
 rw[kc,kc,nk,nk,Mh U]
 congr 1;funext a;rw[Mh aa]
def fT (c:Rat)(p:List bu):List bu:=p.map fun t=>(t.1,t.2*c)
theorem Mj (f:List Int->Rat)(c:Rat):∀p:List bu,dw f (fT c p)=c*dw f p
 |[]=>by rw[dw,Rat.mul_zero];rfl
 |t::p=>by
  show t.2*c*f t.1+dw f (fT c p)=_
  rw[Mj f c p,dw,Rat.mul_add,Rat.mul_comm t.2 c,aui]
theorem At (c:Rat)(p:List bu)(m:List Int):cG (fT c p) m=c*cG p m:=by rw[kc,kc,Mj]
def h5:List bu->bu->List bu
 |[],t=>[t]
 |u::p,t=>if u.1=t.1 then(u.1,u.2+t.2)::p else u::h5 p t
theorem E0 {t:bu}:∀{p:List bu},(∀u∈p,u.1≠t.1)->h5 p t=p++[t]
 |[],_=>rfl
 |u::p,h=>by rw[h5,asp (h u (by simp)),E0 fun v aM=>h v (by simp[aM])];rfl
theorem Pj {t:bu}:∀{p:List bu} {j:Nat} {u:bu},(p.map Prod.fst).Nodup->p[j]? =some u->u.1=t.1->h5 p t=p.set j (u.1,u.2+t.2)
 |[],j,u,_,h,_=>by simp at h
 |x::p,0,u,_,h,e=>by
  obtain rfl:x=u:=by simpa using h
  rw[h5,asq e];rfl
 |x::p,j+1,u,aP,h,e=>by
  have h:p[j]? =some u:=by simpa using h
  simp only[asX,List.nodup_cons]at aP
  have af:x.1≠t.1:=fun ex=>aP.1 (asL.2 ⟨u,atG h,by rw[e,ex]⟩)
  rw[h5,asp af,Pj aP.2 h e];rfl
theorem M4 (t:bu)(m:List Int):∀p:List bu,cG (h5 p t) m=cG p m+(if t.1=m then t.2 else 0)
 |[]=>by rw[h5,cG,cG,cG,atV,aty]
 |u::p=>by
  have bA:=M4 t m p
  rw[h5]
  split
  ·rename_i e
   rw[cG,cG]
   simp only
   rw[e]
   split
   ·rw[atz,Rat.add_comm t.2,<-atz]
   ·rw[atV]
  ·rw[cG,cG,bA,atz]
theorem N8 (t:bu):∀p:List bu,(h5 p t).map Prod.fst=p.map Prod.fst/\t.1∈p.map Prod.fst\/(h5 p t).map Prod.fst=p.map Prod.fst++[t.1]/\t.1∉p.map Prod.fst
 |[]=> .inr ⟨rfl,by simp⟩
 |u::p=>by
  rw[h5]
  split
  ·rename_i e;exact .inl ⟨rfl,by simp[e]⟩
  ·rename_i ne
   rcases N8 t p with⟨U,aa⟩|⟨U,aa⟩
   ·refine .inl ⟨by rw[asX,asX,U], ?_⟩
    rw[asX];exact at3 _ aa
   ·refine .inr ⟨by rw[asX,asX,U];rfl, ?_⟩
    rw[asX]
    intro hm
    rcases asP.1 hm with e|hm
    ·exact ne e.symm
    ·exact aa hm
theorem Md {t:bu}{p:List bu}(h:(p.map Prod.fst).Nodup):((h5 p t).map Prod.fst).Nodup:=by
 rcases N8 t p with⟨U,_⟩|⟨U,aa⟩
 ·rw[U];exact h
 ·rw[U,List.nodup_append]
  exact⟨h,by simp,fun a aC b ae=>by
   rw[atr.1 ae]
   rintro rfl;exact aa aC⟩
theorem Vj {p q:List bu}(h:p.Perm q)(m:List Int):cG p m=cG q m:=by
 induction h with
 |nil=>rfl
 |cons x _ bA=>rw[cG,cG,bA]
 |swap x y l=>rw[cG,cG,cG,cG,<-atz,<-atz,Rat.add_comm (if y.1=m then y.2 else 0)]
 |trans _ _ Z4 Z5=>rw[Z4,Z5]
theorem Ew (m:List Int):∀p:List bu,cG (p.filter fun t=> !decide (t.2=0)) m=cG p m
 |[]=>rfl
 |t::p=>by
  rw[at6]
  split
  ·rw[cG,cG,Ew m p]
  ·rename_i h
   have aE:t.2=0:=by simpa using h
   rw[cG,Ew m p,aE]
   split<;>rw[aty]
theorem Uq {p acc q:List bu}(ay:∀m,cG acc m=cG p m)(aP:(acc.map Prod.fst).Nodup)(aw:q.Perm (acc.filter fun t=> !decide (t.2=0)))(ao:q.Pairwise fun t u=>¬m_ u.1 t.1):q=nrm p:=by
 refine GA ⟨?_,fun t aA=> ?_⟩ fun m=>by rw[Vj aw,Ew,ay]
 ·have ar:(q.map Prod.fst).Nodup:=by
   rw[(aw.map Prod.fst).nodup_iff]
   exact aP.sublist ((List.filter_sublist).map _)
  have qJ:q.Pairwise fun t u=>t.1≠u.1:=List.pairwise_map.1 ar
  exact(ao.and qJ).imp fun⟨U,aa⟩=>(FC aa).resolve_right U
 ·have:=aw.mem_iff.1 aA
  rw[atH]at this
  simpa using this.2
theorem Me (m:List Int):∀(p acc:List bu),cG (p.foldl h5 acc) m=cG acc m+cG p m
 |[],acc=>by rw[List.foldl_nil,cG,atV]
 |t::p,acc=>by rw[List.foldl_cons,Me m p,M4,cG,atz]
end I
end
section
open Go Go.bG
namespace I
def K1:List Int->List Int->Int->(ad->J->Prop)->Prop:=
 fun u v j K=>0<=IntKind.i64.wrap (j+↑v.length)/\IntKind.i64.wrap (j+↑v.length)<↑u.length/\0<=IntKind.i64.wrap (IntKind.i64.wrap (j+↑v.length)-1)/\IntKind.i64.wrap (IntKind.i64.wrap (j+↑v.length)-1)<↑u.length
 /\0<=IntKind.i64.wrap (↑v.length-1)/\IntKind.i64.wrap (↑v.length-1)<↑v.length/\¬IntKind.u64.wrap (v.getD (IntKind.i64.wrap (↑v.length-1)).toNat 0)=0/\0<=IntKind.i64.wrap (↑v.length-1)
 /\IntKind.i64.wrap (↑v.length-1)<↑v.length/\¬IntKind.u64.wrap (v.getD (IntKind.i64.wrap (↑v.length-1)).toNat 0)=0/\∃(a8:Int->Prop),(∃(aD:Int->Int->Prop),∃(m:Int->Int->Nat),((false,ad.ints .u32 u)=(false,ad.ints .u32 u)
 /\aD (IntKind.u64.wrap ((bk BinOp.or .u64 (IntKind.u64.wrap (IntKind.u64.wrap (u.getD (IntKind.i64.wrap (j+↑v.length)).toNat 0)*4294967296)) (IntKind.u64.wrap (u.getD (IntKind.i64.wrap (IntKind.i64.wrap (j+↑v.length)-1)).toNat 0))).tdiv (IntKind.u64.wrap (v.getD (IntKind.i64.wrap (↑v.length-1)).toNat 0)))) ((bk BinOp.or .u64 (IntKind.u64.wrap (IntKind.u64.wrap (u.getD (IntKind.i64.wrap (j+↑v.length)).toNat 0)*4294967296)) (IntKind.u64.wrap (u.getD (IntKind.i64.wrap (IntKind.i64.wrap (j+↑v.length)-1)).toNat 0))).tmod (IntKind.u64.wrap (v.getD (IntKind.i64.wrap (↑v.length-1)).toNat 0))))
 /\∀(v9 v10:Int),aD v9 v10->(decide (4294967296<=v9)=true->0<=IntKind.i64.wrap (↑v.length-1)/\IntKind.i64.wrap (↑v.length-1)<↑v.length/\(decide (4294967296<=IntKind.u64.wrap (v10+IntKind.u64.wrap (v.getD (IntKind.i64.wrap (↑v.length-1)).toNat 0)))=true
 ->(false,ad.ints .u32 u)=(false,ad.ints .u32 u)/\a8 (IntKind.u64.wrap (v9-1)))/\(decide (4294967296<=IntKind.u64.wrap (v10+IntKind.u64.wrap (v.getD (IntKind.i64.wrap (↑v.length-1)).toNat 0)))=false
 ->(false,ad.ints .u32 u)=(false,ad.ints .u32 u)/\aD (IntKind.u64.wrap (v9-1)) (IntKind.u64.wrap (v10+IntKind.u64.wrap (v.getD (IntKind.i64.wrap (↑v.length-1)).toNat 0)))/\m (IntKind.u64.wrap (v9-1)) (IntKind.u64.wrap (v10+IntKind.u64.wrap (v.getD (IntKind.i64.wrap (↑v.length-1)).toNat 0)))<m v9 v10))
 /\(decide (4294967296<=v9)=false->(decide (v10<4294967296)=true->0<=IntKind.i64.wrap (↑v.length-2)/\IntKind.i64.wrap (↑v.length-2)<↑v.length/\0<=IntKind.i64.wrap (IntKind.i64.wrap (j+↑v.length)-2)
 /\IntKind.i64.wrap (IntKind.i64.wrap (j+↑v.length)-2)<↑u.length/\(decide (bk BinOp.or .u64 (IntKind.u64.wrap (v10*4294967296)) (IntKind.u64.wrap (u.getD (IntKind.i64.wrap (IntKind.i64.wrap (j+↑v.length)-2)).toNat 0))<IntKind.u64.wrap (v9*IntKind.u64.wrap (v.getD (IntKind.i64.wrap (↑v.length-2)).toNat 0)))=true
 ->0<=IntKind.i64.wrap (↑v.length-1)/\IntKind.i64.wrap (↑v.length-1)<↑v.length/\(decide (4294967296<=IntKind.u64.wrap (v10+IntKind.u64.wrap (v.getD (IntKind.i64.wrap (↑v.length-1)).toNat 0)))=true
 ->(false,ad.ints .u32 u)=(false,ad.ints .u32 u)/\a8 (IntKind.u64.wrap (v9-1)))/\(decide (4294967296<=IntKind.u64.wrap (v10+IntKind.u64.wrap (v.getD (IntKind.i64.wrap (↑v.length-1)).toNat 0)))=false
 ->(false,ad.ints .u32 u)=(false,ad.ints .u32 u)/\aD (IntKind.u64.wrap (v9-1)) (IntKind.u64.wrap (v10+IntKind.u64.wrap (v.getD (IntKind.i64.wrap (↑v.length-1)).toNat 0)))/\m (IntKind.u64.wrap (v9-1)) (IntKind.u64.wrap (v10+IntKind.u64.wrap (v.getD (IntKind.i64.wrap (↑v.length-1)).toNat 0)))<m v9 v10))
 /\(decide (bk BinOp.or .u64 (IntKind.u64.wrap (v10*4294967296)) (IntKind.u64.wrap (u.getD (IntKind.i64.wrap (IntKind.i64.wrap (j+↑v.length)-2)).toNat 0))<IntKind.u64.wrap (v9*IntKind.u64.wrap (v.getD (IntKind.i64.wrap (↑v.length-2)).toNat 0)))=false
 ->(false,ad.ints .u32 u)=(false,ad.ints .u32 u)/\a8 v9))/\(decide (v10<4294967296)=false->(false,ad.ints .u32 u)=(false,ad.ints .u32 u)/\a8 v9)))/\∀(v9:Int),a8 v9->∃(aD:Int->Int
 ->Int->List Int->Prop),∃(m:Int->Int->Int->List Int->Nat),aD 0 0 0 u/\∀(v11 v12 bR:Int) (ai:List Int),aD v11 v12 bR ai->(decide (bR<=↑v.length)=true->∃(a8:Int->Prop),((decide (bR<↑v.length)=true
 ->0<=bR/\bR<↑v.length/\(false,ad.ints .u32 ai)=(false,ad.ints .u32 ai)/\a8 (IntKind.u64.wrap (v12+IntKind.u64.wrap (v9*IntKind.u64.wrap (v.getD bR.toNat 0)))))/\(decide (bR<↑v.length)=false
 ->(false,ad.ints .u32 ai)=(false,ad.ints .u32 ai)/\a8 v12))/\∀(cR:Int),a8 cR->0<=IntKind.i64.wrap (j+bR)/\IntKind.i64.wrap (j+bR)<↑ai.length/\∃(a8:Int->Int->Prop),((decide (IntKind.u64.wrap (ai.getD (IntKind.i64.wrap (j+bR)).toNat 0)<IntKind.u64.wrap (bk BinOp.and .u64 cR 4294967295+v11))=true
 ->(false,ad.ints .u32 ai)=(false,ad.ints .u32 ai)/\a8 1 (IntKind.u64.wrap (IntKind.u64.wrap (ai.getD (IntKind.i64.wrap (j+bR)).toNat 0)+4294967296)))/\(decide (IntKind.u64.wrap (ai.getD (IntKind.i64.wrap (j+bR)).toNat 0)<IntKind.u64.wrap (bk BinOp.and .u64 cR 4294967295+v11))=false
 ->(false,ad.ints .u32 ai)=(false,ad.ints .u32 ai)/\a8 0 (IntKind.u64.wrap (ai.getD (IntKind.i64.wrap (j+bR)).toNat 0))))/\∀(iv mm:Int),a8 iv mm->0<=IntKind.i64.wrap (j+bR)/\IntKind.i64.wrap (j+bR)<↑ai.length
 /\aD iv (cR.fdiv 4294967296) (IntKind.i64.wrap (bR+1)) (ai.set (IntKind.i64.wrap (j+bR)).toNat (IntKind.u32.wrap (IntKind.u64.wrap (mm-IntKind.u64.wrap (bk BinOp.and .u64 cR 4294967295+v11)))))
 /\m iv (cR.fdiv 4294967296) (IntKind.i64.wrap (bR+1)) (ai.set (IntKind.i64.wrap (j+bR)).toNat (IntKind.u32.wrap (IntKind.u64.wrap (mm-IntKind.u64.wrap (bk BinOp.and .u64 cR 4294967295+v11)))))<m v11 v12 bR ai)
 /\(decide (bR<=↑v.length)=false->(decide (v11=0)=true->K (ad.ints .u32 ai) (J.d (R.int .u32 (IntKind.u32.wrap v9))))/\(decide (v11=0)=false->∃(aD:Int->Int->List Int->Prop),∃(m:Int
 ->Int->List Int->Nat),aD 0 0 ai/\∀(v12 e2:Int) (ai:List Int),aD v12 e2 ai->(decide (e2<=↑v.length)=true->0<=IntKind.i64.wrap (j+e2)/\IntKind.i64.wrap (j+e2)<↑ai.length/\∃(a8:Int
 ->Prop),((decide (e2<↑v.length)=true->0<=e2/\e2<↑v.length/\(false,ad.ints .u32 ai)=(false,ad.ints .u32 ai)/\a8 (IntKind.u64.wrap (IntKind.u64.wrap (IntKind.u64.wrap (ai.getD (IntKind.i64.wrap (j+e2)).toNat 0)+v12)+IntKind.u64.wrap (v.getD e2.toNat 0))))
 /\(decide (e2<↑v.length)=false->(false,ad.ints .u32 ai)=(false,ad.ints .u32 ai)/\a8 (IntKind.u64.wrap (IntKind.u64.wrap (ai.getD (IntKind.i64.wrap (j+e2)).toNat 0)+v12))))/\∀(eF:Int),a8 eF
 ->0<=IntKind.i64.wrap (j+e2)/\IntKind.i64.wrap (j+e2)<↑ai.length/\aD (eF.fdiv 4294967296) (IntKind.i64.wrap (e2+1)) (ai.set (IntKind.i64.wrap (j+e2)).toNat (IntKind.u32.wrap eF))/\m (eF.fdiv 4294967296) (IntKind.i64.wrap (e2+1)) (ai.set (IntKind.i64.wrap (j+e2)).toNat (IntKind.u32.wrap eF))<m v12 e2 ai)
 /\(decide (e2<=↑v.length)=false->K (ad.ints .u32 ai) (J.d (R.int .u32 (IntKind.u32.wrap (IntKind.u64.wrap (v9-1))))))))
end I
end
section
open Go Go.bG
namespace I
theorem Wh {v2 fF w G V c1 l D:Nat}(al:v2+c1*(G*V)=fF+w)(aa:v2<w)(nD:fF=l+c1*D)(yC:G*V<=D+V):
 1<=G/\fF<c1*(G*V)/\c1*((G-1)*V)<=fF/\c1*(G*V)=c1*((G-1)*V)+c1*V/\(G-1)*V<=D:=by
 have hL:1<=G:=by
  rcases at1 G with aE|aE
  ·rw[aE,atL,as3]at al;omega
  ·exact aE
 have aL:G*V=(G-1)*V+V:=by rw[<-Nat.succ_mul];congr 1;omega
 have bo:c1*(G*V)=c1*((G-1)*V)+c1*V:=by rw[aL,asG]
 have bX:(G-1)*V<=D:=by omega
 refine⟨hL,by omega, ?_,bo,bX⟩
 have:=as1 c1 bX
 omega
theorem Wi {v2 v3 fF w C G V c1:Nat}(aC:v3+w*C=v2+c1*V)(al:v2+c1*(G*V)=fF+w)(bo:c1*(G*V)=c1*((G-1)*V)+c1*V)(bX:c1*((G-1)*V)<=fF)(fi:fF<c1*(G*V))(aM:v3<w)(hw:c1*V<=w):
 v3+c1*((G-1)*V)=fF:=by
 rcases Nat.lt_or_ge C 1 with h|h
 ·obtain rfl:C=0:=by omega
  rw[as3]at aC;omega
 ·rcases Nat.lt_or_ge C 2 with aa|aa
  ·obtain rfl:C=1:=by omega
   rw[asY]at aC;omega
  ·have:=as1 w aa
   omega
theorem PR {v:List Int}{i:Nat}(h:v.length<=i):lm v i=0:=by unfold lm;rw[w7 h];rfl
set_option maxHeartbeats 1000000 in
theorem ad4 (u v:List Int)(j:Int)(K:ad->J->Prop)(h:AF.T (.vec 0) (.ints .u32 u) [.d (.ints .u32 v), .d (.int .i64 j)] K):K1 u v j K:=by
 obtain⟨⟨iI,pv,mS,vA,Ru,om,bB⟩,ab⟩:=h
 obtain⟨j,rfl⟩:∃i:Nat,j=i:=⟨j.toNat,by omega⟩
 simp only[asu]at Ru bB ab
 have x2:=iI.2
 have Y1:=pv.2
 have hu:=iI.1
 have nE:=pv.1
 obtain⟨n,kt⟩:∃n,v.length=n:=⟨_,rfl⟩
 rw[kt]at mS Ru om Y1
 have rZ:val v<4294967296^n:=kt▸gN nE
 have fin:∀(cy:List Int) (Q:Nat),aZ cy->cy.length=u.length->val cy+4294967296^j*(Q*val v)=val u->Q*val v<=dx u j->dx u j<(Q+1)*val v->Q<4294967296->K (.ints .u32 cy) (.d (.int .u32 (IntKind.wrap .u32 (Q:Int)))):=fun cy Q U aa al aL bo bX=>by
  have aN:val u/4294967296^j/val v=Q:=by rw[Gu hu];exact Nat.div_eq_of_lt_le aL bo
  rw[aN]at ab
  have iX:val u-4294967296^j*(Q*val v)=val cy:=by omega
  rw[iX,<-aa,FZ _ U rfl]at ab
  rw[gF (by omega)];exact ab
 unfold K1
 rw[kt]
 have cm:IntKind.wrap .i64 ((n:Int)-1)=((n-1:Nat):Int):=by rw[bl (by omega)];omega
 have eL:IntKind.wrap .i64 ((n:Int)-2)=((n-2:Nat):Int):=by rw[bl (by omega)];omega
 have jl:IntKind.wrap .i64 ((j:Int)+(n:Int))=((j+n:Nat):Int):=by rw[bl (by omega)];omega
 have jZ:IntKind.wrap .i64 (((j+n:Nat):Int)-1)=((j+n-1:Nat):Int):=by rw[bl (by omega)];omega
 have nO:IntKind.wrap .i64 (((j+n:Nat):Int)-2)=((j+n-2:Nat):Int):=by rw[bl (by omega)];omega
 simp only[cm,eL,jl,jZ,nO,asu]
 obtain⟨p,lv,k3,aP⟩:=O4 (j:=j) hu nE kt mS rfl om bB
 simp only[hE hu,hE nE,GK (eX hu (j+n)) (eX hu (j+n-1))]
 have DI:IntKind.wrap .u64 ((lm v (n-1):Nat):Int)=((lm v (n-1):Nat):Int):=cl (by have:=aP.r0;omega)
 have DJ:IntKind.wrap .u64 ((lm v (n-2):Nat):Int)=((lm v (n-2):Nat):Int):=cl (by have:=aP.ao;omega)
 simp only[DI,DJ]
 obtain⟨F,yD⟩:∃F,lm u (j+n)*4294967296+lm u (j+n-1)=F:=⟨_,rfl⟩
 rw[yD]at aP
 simp only[yD]
 obtain⟨D,yE⟩:∃D,dx u j=D:=⟨_,rfl⟩
 rw[yE]at aP fin
 obtain⟨t,qB⟩:∃t,lm v (n-1)=t:=⟨_,rfl⟩
 obtain⟨s,mg⟩:∃s,lm v (n-2)=s:=⟨_,rfl⟩
 obtain⟨ib,x3⟩:∃s,lm u (j+n-2)=s:=⟨_,rfl⟩
 rw[qB,mg,x3]at aP
 simp only[qB,mg,x3]
 obtain⟨fj,oo,qC,r1,aA,r0,ao,tG,vB,Sa⟩:=aP
 have IL:Int.tdiv (F:Int) (t:Int)=((F/t:Nat):Int):=by rw[auP (by omega),aug]
 have IM:Int.tmod (F:Int) (t:Int)=((F%t:Nat):Int):=by rw[aus (by omega),aut]
 simp only[IL,IM]
 have Zt:F<18446744073709551616:=by omega
 have HP:F/t<=F:=auL _ _
 have Zu:F%t<t:=as6 _ aA
 have zk:∀qV:Nat,qV<=F->IntKind.wrap .u64 (qV:Int)=(qV:Int):=fun qV h=>cl (by omega)
 simp only[zk _ HP]
 refine⟨by omega,by omega,by omega,by omega,by omega,by omega,by omega,by omega,by omega,by omega,fun g=>∃G:Nat,g=G/\G<4294967296/\D<(G+1)*val v/\G*val v<=D+val v, ?_, ?_⟩
 ·refine⟨fun g r=>∃G bp:Nat,g=G/\r=bp/\t*G+bp=F/\bp<4294967296/\D<(G+1)*val v,fun g r=>g.toNat,⟨by first|rfl|trivial,F/t,F%t,rfl,rfl,at4 F t,by omega, ?_⟩, ?_⟩
  ·rw[oo,fj]
   exact(NH (lv:=lv) (s:=s) rfl rfl aA r1 tG).1
  rintro g r ⟨G,bp,rfl,rfl,yF,dT,qD⟩
  have Zv:G<=F:=by
   have:1*G<=t*G:=asF _ aA
   omega
  have HQ:IntKind.wrap .u64 ((bp:Int)+(t:Int))=((bp+t:Nat):Int):=by rw[cl (by omega)];omega
  simp only[HQ]
  refine⟨fun hL=>⟨by omega,by omega, ?_⟩,fun hL=>⟨fun Rv=>⟨by omega,by omega,by omega,by omega, ?_⟩,fun Rv=> ?_⟩⟩
  ·simp only[asw]at hL
   have js:D<G*val v:=asR vB (asF _ (by omega))
   have HR:1<=G:=by
    rcases at1 G with aE|aE
    ·rw[aE,atL]at js;omega
    ·exact aE
   have oE:IntKind.wrap .u64 ((G:Int)-1)=((G-1:Nat):Int):=by rw[cl (by omega)];omega
   have oe:t*(G-1)+(bp+t)=F:=by
    have:t*G=t*(G-1)+t:=by rw[<-Nat.mul_succ];exact asQ (t*·) (show G=(G-1)+1 by omega)
    omega
   have og:D<(G-1+1)*val v:=by rw[show G-1+1=G by omega];exact js
   simp only[oE]
   refine⟨fun ak=>⟨by first|rfl|trivial,G-1,rfl, ?_,og, ?_⟩,fun ak=>⟨by first|rfl|trivial,⟨G-1,bp+t,rfl,rfl,oe, ?_,og⟩, ?_⟩⟩
   ·simp only[asw]at ak
    refine atI (a:=t) ?_
    omega
   ·simp only[asw]at ak
    have kY:G-1<4294967296:=by
     refine atI (a:=t) ?_
     omega
    have gR:(G-1)*s<=(bp+t)*4294967296+ib:=by
     have U:(G-1)*s<=4294967296*4294967296:=atS (by omega) (by omega)
     have aa:4294967296*4294967296<=(bp+t)*4294967296:=asF _ (by omega)
     omega
    rw[oo,fj]
    exact uK oe aA qC kY gR
   ·simp only[asv]at ak
    omega
   ·show((G-1:Nat):Int).toNat<(G:Int).toNat
    omega
  ·simp only[asv]at hL
   have IN:IntKind.wrap .u64 ((G:Int)*(s:Int))=((G*s:Nat):Int):=by
    have:G*s<=4294967295*4294967295:=atS (by omega) (by omega)
    rw[<-atE,cl ⟨atm _,by omega⟩]
   have IP:=Gv (h:=bp) (l:=ib) dT tG
   simp only[IN,IP]
   refine⟨fun ay=>⟨by omega,by omega, ?_⟩,fun ay=>⟨by first|rfl|trivial,G,rfl,by omega,qD, ?_⟩⟩
   ·simp only[asw,atT]at ay
    have js:D<G*val v:=by rw[oo,fj];exact NI yF r1 ay
    have HR:1<=G:=by
     rcases at1 G with aE|aE
     ·rw[aE,atL]at js;omega
     ·exact aE
    have oE:IntKind.wrap .u64 ((G:Int)-1)=((G-1:Nat):Int):=by rw[cl (by omega)];omega
    have oe:t*(G-1)+(bp+t)=F:=by
     have:t*G=t*(G-1)+t:=by rw[<-Nat.mul_succ];exact asQ (t*·) (show G=(G-1)+1 by omega)
     omega
    have og:D<(G-1+1)*val v:=by rw[show G-1+1=G by omega];exact js
    simp only[oE]
    refine⟨fun ak=>⟨by first|rfl|trivial,G-1,rfl, ?_,og, ?_⟩,fun ak=>⟨by first|rfl|trivial,⟨G-1,bp+t,rfl,rfl,oe, ?_,og⟩, ?_⟩⟩
    ·simp only[asw]at ak
     refine atI (a:=t) ?_
     omega
    ·simp only[asw]at ak
     have kY:G-1<4294967296:=by
      refine atI (a:=t) ?_
      omega
     have gR:(G-1)*s<=(bp+t)*4294967296+ib:=by
      have U:(G-1)*s<=4294967296*4294967296:=atS (by omega) (by omega)
      have aa:4294967296*4294967296<=(bp+t)*4294967296:=asF _ (by omega)
      omega
     rw[oo,fj]
     exact uK oe aA qC kY gR
    ·simp only[asv]at ak
     omega
    ·show((G-1:Nat):Int).toNat<(G:Int).toNat
     omega
   ·simp only[asv,atT]at ay
    rw[oo,fj]
    exact uK yF aA qC (by omega) (by omega)
  ·simp only[asv]at Rv
   omega
 ·rintro g ⟨G,rfl,r2,qD,yC⟩
  obtain⟨l,nD,aq⟩:∃l,val u=l+4294967296^j*D/\l<4294967296^j:=⟨cW u j,by rw[<-yE];exact kP u j,o_ hu j⟩
  have Zw:4294967296^j*val v<=4294967296^(j+(n+1)):=by
   rw[ate]
   exact as1 _ (asZ (Nat.le_of_lt rZ) (as9 (by decide) (by omega)))
  have bc:∀p,j+n<p->u.getD p 0=0:=fun p aw=>by
   refine O5 hu (m:=j+n+1) ?_ p (by omega)
   rw[show j+n+1=j+1+n by omega,ate]
   exact asR bB (as1 _ (Nat.le_of_lt rZ))
  refine⟨fun zl c i cy=>aZ cy/\cy.length=u.length/\∃C B i0:Nat,zl=B/\c=C/\i=i0/\i0<=n+1/\B<=1/\C<4294967296/\(n<i0->C=0)/\val cy+4294967296^j*(G*cW v i0)=val u+4294967296^(j+i0)*(C+B)/\∀p,j+n<p->cy.getD p 0=0,
   fun _ _ i _=>n+1-i.toNat,⟨hu,rfl,0,0,0,rfl,rfl,rfl,by omega,by omega,by omega,fun _=>rfl,by rw[hr,as3,as3,as3],bc⟩, ?_⟩
  rintro zl c i cy ⟨iI,akd,C,B,i,rfl,rfl,rfl,eE,eG,m4,Zx,iX,cS⟩
  refine⟨fun h=> ?_,fun h=> ?_⟩
  ·simp only[asw]at h
   have zm:IntKind.wrap .i64 ((j:Int)+(i:Int))=((j+i:Nat):Int):=by rw[bl (by omega)];omega
   have yG:IntKind.wrap .i64 ((i:Int)+1)=((i+1:Nat):Int):=by rw[bl (by omega)];omega
   simp only[zm,yG,asu,hE iI]
   have nF:=eX nE i
   have CK:=eX iI (j+i)
   have vC:¬i<n->lm v i=0:=fun h=>PR (by omega)
   obtain⟨d,jR⟩:∃d,lm v i=d:=⟨_,rfl⟩
   obtain⟨ez,lI⟩:∃d,lm cy (j+i)=d:=⟨_,rfl⟩
   rw[jR]at nF vC
   rw[lI]at CK
   simp only[jR,lI]
   obtain⟨t1,lo,sk,st,mu,G3,DK,h8,t2,ct,x4,r3,nG,t4⟩:=MM (g:=G) (d:=d) (c:=C) (b:=B) (u:=ez) r2 nF m4 eG CK
   have Zy:=O6 r2 nF
   have cz:IntKind.wrap .u64 (d:Int)=(d:Int):=cl (by omega)
   have dO:IntKind.wrap .u64 ((G:Int)*(d:Int))=((G*d:Nat):Int):=by rw[<-atE,cl ⟨atm _,by omega⟩]
   have gZ:IntKind.wrap .u64 ((C:Int)+((G*d:Nat):Int))=((C+G*d:Nat):Int):=by rw[<-auB,cl ⟨atm _,by omega⟩]
   simp only[cz,dO,gZ]
   refine⟨fun x=>x=((C+G*d:Nat):Int),⟨fun U=> ?_,fun U=> ?_⟩, ?_⟩
   ·simp only[asw]at U
    exact⟨by omega,U,by first|rfl|trivial,rfl⟩
   ·simp only[asv]at U
    refine⟨by first|rfl|trivial, ?_⟩
    rw[vC (by omega),as3,asN]
   rintro x rfl
   have oF:=PS t1
   rw[G3]at oF
   have nP:((C+G*d:Nat):Int).fdiv 4294967296=(sk:Int):=by
    have e:∀q:Nat,(q:Int).fdiv 4294967296=((q/4294967296:Nat):Int):=fun q=>by rw[as_ _ (by omega)];omega
    rw[e,DK]
   have IQ:IntKind.wrap .u64 ((lo:Int)+(B:Int))=((lo+B:Nat):Int):=by rw[cl (by omega)];omega
   have IS:IntKind.wrap .u64 (ez:Int)=(ez:Int):=cl (by omega)
   have aaZ:IntKind.wrap .u64 ((ez:Int)+4294967296)=((ez+4294967296:Nat):Int):=by rw[cl (by omega)];omega
   simp only[oF,nP,IQ,IS,aaZ]
   refine⟨by omega,by omega,fun b x=>b=(mu:Int)/\IntKind.wrap .u32 (IntKind.wrap .u64 (x-((lo+B:Nat):Int)))=(st:Int),⟨fun aa=>⟨by first|rfl|trivial, ?_, ?_⟩,fun aa=>⟨by first|rfl|trivial, ?_, ?_⟩⟩, ?_⟩
   ·simp only[asw,atT]at aa
    rw[asq (by omega)]at r3;exact r3
   ·simp only[asw,atT]at aa
    rw[cl (by omega),jH];omega
   ·simp only[asv,atT]at aa
    rw[asp (by omega)]at r3;exact r3
   ·simp only[asv,atT]at aa
    rw[cl (by omega),jH];omega
   rintro b x ⟨rfl,af⟩
   simp only[af]
   have jS:=lf cy (j+i) (st:Int) (by omega)
   rw[show(cy.getD (j+i) 0).toNat=ez from lI,asu]at jS
   have ku:cW v (i+1)=cW v i+4294967296^i*d:=by rw[fc,show(v.getD i 0).toNat=d from jR]
   have jM:=O7 jS iX t4
   refine⟨by omega,by omega,⟨iI.set _ ⟨by omega,by omega⟩,by rw[asJ];exact akd,sk,mu,i+1,rfl,rfl,rfl,by omega,nG,t2,fun hi=> ?_, ?_,fun p aw=> ?_⟩,by show n+1-((i+1:Nat):Int).toNat<n+1-(i:Int).toNat;omega⟩
   ·rw[vC (by omega),as3,asN]at DK
    omega
   ·have mT:4294967296^j*(G*cW v (i+1))=4294967296^j*(G*cW v i)+4294967296^(j+i)*(G*d):=by
     rw[ku,asG,asG,ate,att G,as4]
    have pw:4294967296^(j+(i+1))*(sk+mu)=4294967296^(j+i)*(4294967296*(sk+mu)):=by
     rw[<-atn,asU,as4]
    rw[mT,pw];exact jM
   ·rw[ef,asp (by omega)];exact cS p aw
  ·simp only[asv]at h
   obtain rfl:i=n+1:=by omega
   have yH:=Zx (by omega)
   subst yH
   rw[gi v (by omega),as0]at iX
   have lJ:val cy<4294967296^(j+(n+1)):=B7 iI fun p aw=>cS p (by omega)
   refine⟨fun ae=> ?_,fun ae=> ?_⟩
   ·simp only[asw]at ae
    obtain rfl:B=0:=by omega
    rw[as3,asN]at iX
    refine fin cy G iI akd iX ?_ qD r2
    refine Nat.le_of_lt_succ (atI (a:=4294967296^j) ?_)
    rw[Nat.mul_succ]
    omega
   ·simp only[asv]at ae
    obtain rfl:B=1:=by omega
    rw[asY]at iX
    obtain⟨g1,g7,g6,g5,g4⟩:=Wh iX lJ nD yC
    have oE:IntKind.wrap .u64 ((G:Int)-1)=((G-1:Nat):Int):=by rw[cl (by omega)];omega
    simp only[oE]
    refine⟨fun c i3 ds=>aZ ds/\ds.length=u.length/\∃gM i0:Nat,c=gM/\i3=i0/\i0<=n+1/\gM<=1/\val ds+4294967296^(j+i0)*gM=val cy+4294967296^j*cW v i0/\∀p,j+n<p->ds.getD p 0=0,fun _ i3 _=>n+1-i3.toNat,
     ⟨iI,akd,0,0,rfl,rfl,by omega,by omega,by rw[hr,as3,as3],cS⟩, ?_⟩
    rintro c i3 ds ⟨mh,x5,gM,i3,rfl,rfl,Zz,Rw,ta,yI⟩
    refine⟨fun al=> ?_,fun al=> ?_⟩
    ·simp only[asw]at al
     have sl:IntKind.wrap .i64 ((j:Int)+(i3:Int))=((j+i3:Nat):Int):=by rw[bl (by omega)];omega
     have HS:IntKind.wrap .i64 ((i3:Int)+1)=((i3+1:Nat):Int):=by rw[bl (by omega)];omega
     simp only[sl,HS,asu,hE mh]
     have nF:=eX nE i3
     have CK:=eX mh (j+i3)
     have vC:¬i3<n->lm v i3=0:=fun h=>PR (by omega)
     obtain⟨d,jR⟩:∃d,lm v i3=d:=⟨_,rfl⟩
     obtain⟨ez,lI⟩:∃d,lm ds (j+i3)=d:=⟨_,rfl⟩
     rw[jR]at nF vC
     rw[lI]at CK
     simp only[jR,lI]
     have hv:IntKind.wrap .u64 (IntKind.wrap .u64 (ez:Int)+(gM:Int))=((ez+gM:Nat):Int):=by rw[cl (x:=(ez:Int)) (by omega),cl (by omega)];omega
     have cz:IntKind.wrap .u64 (((ez+gM:Nat):Int)+IntKind.wrap .u64 (d:Int))=((ez+gM+d:Nat):Int):=by rw[cl (x:=(d:Int)) (by omega),cl (by omega)];omega
     simp only[hv,cz]
     refine⟨by omega,by omega,fun x=>x=((ez+gM+d:Nat):Int),⟨fun U=> ?_,fun U=> ?_⟩, ?_⟩
     ·simp only[asw]at U
      exact⟨by omega,U,by first|rfl|trivial,rfl⟩
     ·simp only[asv]at U
      refine⟨by first|rfl|trivial, ?_⟩
      rw[vC (by omega),asN]
     rintro x rfl
     obtain⟨S,k4⟩:∃S,ez+gM+d=S:=⟨_,rfl⟩
     simp only[k4]
     have dO:IntKind.wrap .u32 (S:Int)=((S%4294967296:Nat):Int):=by rw[jH];omega
     have gZ:Int.fdiv (S:Int) 4294967296=((S/4294967296:Nat):Int):=by rw[as_ _ (by omega)];omega
     simp only[dO,gZ]
     have x6:=lf ds (j+i3) ((S%4294967296:Nat):Int) (by omega)
     rw[show(ds.getD (j+i3) 0).toNat=ez from lI,asu]at x6
     have ku:cW v (i3+1)=cW v i3+4294967296^i3*d:=by rw[fc,show(v.getD i3 0).toNat=d from jR]
     have jM:=O8 (T:=S/4294967296) (d:=d) x6 ta (by omega)
     refine⟨by omega,by omega,⟨mh.set _ ⟨by omega,by omega⟩,by rw[asJ];exact x5,S/4294967296,i3+1,rfl,rfl,by omega,by omega, ?_,fun p aw=> ?_⟩,by show n+1-((i3+1:Nat):Int).toNat<n+1-(i3:Int).toNat;omega⟩
     ·have mT:4294967296^j*cW v (i3+1)=4294967296^j*cW v i3+4294967296^(j+i3)*d:=by
       rw[ku,asG,ate,as4]
      have pw:4294967296^(j+(i3+1))*(S/4294967296)=4294967296^(j+i3)*(4294967296*(S/4294967296)):=by
       rw[<-atn,asU,as4]
      rw[mT,pw];exact jM
     ·rw[ef,asp (by omega)];exact yI p aw
    ·simp only[asv]at al
     obtain rfl:i3=n+1:=by omega
     rw[gi v (by omega)]at ta
     have HT:val ds<4294967296^(j+(n+1)):=B7 mh fun p aw=>yI p (by omega)
     have x7:=Wi ta iX g5 g6 g7 HT Zw
     refine fin ds (G-1) mh x5 x7 g4 ?_ (by omega)
     rw[show G-1+1=G by omega]
     refine atI (a:=4294967296^j) ?_
     omega
end I
end
section
open Go Go.bG
namespace I
def Kp:List Int->List Int->(J->Prop)->Prop:=
 fun a b K=>aF a/\∀x,x=ah (val a)->aF b/\∀au,au=ah (val b)->(decide (↑au.length=(0:Int))=true->K (J.tup [J.d (R.ints .u32 []),J.d (R.ints .u32 []),J.d (R.int .i64 (3:Int))]))
 /\(decide (↑au.length=(0:Int))=false->(aF x/\aF au)/\∀ax,ax=cmp (val x) (val au)->(decide (ax<(0:Int))=true->K (J.tup [J.d (R.ints .u32 []),J.d (R.ints .u32 x),J.d (R.int .i64 (0:Int))]))
 /\(decide (ax<(0:Int))=false->(decide (↑au.length=(1:Int))=true->(0:Int)<=(0:Int)/\(0:Int)<↑au.length/\(aF x/\L (au.getD (0:Nat) (0:Int))/\(0:Int)<au.getD (0:Nat) (0:Int))
 /\∀aJ,aJ=ah (val x/(au.getD (0:Nat) (0:Int)).toNat)->∀bb,bb=↑(val x%(au.getD (0:Nat) (0:Int)).toNat)->aF [bb]/\∀x,x=ah (val [bb])->K (J.tup [J.d (R.ints .u32 aJ),J.d (R.ints .u32 x),J.d (R.int .i64 (0:Int))]))
 /\(decide (↑au.length=(1:Int))=false->∃(aD:Int->Prop),∃(m:Int->Nat),((true,ad.ints .u32 x)=(true,ad.ints .u32 x)/\(true,ad.ints .u32 au)=(true,ad.ints .u32 au)/\aD (0:Int))
 /\∀(v9:Int),aD v9->(0:Int)<=IntKind.i64.wrap (↑au.length-(1:Int))/\IntKind.i64.wrap (↑au.length-(1:Int))<↑au.length/\(0:Int)<=IntKind.u64.wrap v9/\(decide (IntKind.u32.wrap (au.getD (IntKind.i64.wrap (↑au.length-(1:Int))).toNat (0:Int)*(2:Int)^min (IntKind.u64.wrap v9).toNat (32:Nat))<(2147483648:Int))=true
 ->(true,ad.ints .u32 x)=(true,ad.ints .u32 x)/\(true,ad.ints .u32 au)=(true,ad.ints .u32 au)/\aD (IntKind.i64.wrap (v9+(1:Int)))/\m (IntKind.i64.wrap (v9+(1:Int)))<m v9)/\(decide (IntKind.u32.wrap (au.getD (IntKind.i64.wrap (↑au.length-(1:Int))).toNat (0:Int)*(2:Int)^min (IntKind.u64.wrap v9).toNat (32:Nat))<(2147483648:Int))=false
 ->(aF x/\(0:Int)<=v9/\v9<(32:Int))/\∀aJ,aJ=jL (val x*(2:Nat)^v9.toNat) (x.length+(1:Nat))->(aF au/\(0:Int)<=v9/\v9<(32:Int))/\∀bb,bb=jL (val au*(2:Nat)^v9.toNat) (au.length+(1:Nat))
 ->aF bb/\∀bJ,bJ=ah (val bb)->(0:Int)<=IntKind.i64.wrap (IntKind.i64.wrap (↑x.length-↑au.length)+(1:Int))/\IntKind.i64.wrap (IntKind.i64.wrap (↑x.length-↑au.length)+(1:Int))<=IntKind.i64.wrap (IntKind.i64.wrap (↑x.length-↑au.length)+(1:Int))
 /\IntKind.i64.wrap (IntKind.i64.wrap (↑x.length-↑au.length)+(1:Int))*(4:Int)<=(281474976710656:Int)/\∃(aD:List Int->Int->List Int->List Int->Prop),∃(m:List Int->Int->List Int
 ->List Int->Nat),((true,ad.ints .u32 x)=(true,ad.ints .u32 x)/\(true,ad.ints .u32 au)=(true,ad.ints .u32 au)/\(true,ad.ints .u32 bb)=(true,ad.ints .u32 bb)/\(true,ad.ints .u32 bJ)=(true,ad.ints .u32 bJ)
 /\aD bJ (IntKind.i64.wrap (↑(List.replicate (IntKind.i64.wrap (IntKind.i64.wrap (↑x.length-↑au.length)+(1:Int))).toNat (0:Int)).length-(1:Int))) aJ (List.replicate (IntKind.i64.wrap (IntKind.i64.wrap (↑x.length-↑au.length)+(1:Int))).toNat (0:Int)))
 /\∀(v11:List Int) (bR:Int) (ba fq:List Int),aD v11 bR ba fq->(decide ((0:Int)<=bR)=true->(0:Nat)<ba.length/\(aF ba/\aF v11/\(2:Nat)<=v11.length/\(0:Int)<=bR/\bR.toNat+v11.length<ba.length
 /\(2147483648:Nat)*(4294967296:Nat)^(v11.length-(1:Nat))<=val v11/\val ba<(4294967296:Nat)^(bR.toNat+(1:Nat))*val v11)/\(0:Int)<=bR/\bR<↑fq.length/\(true,ad.ints .u32 x)=(true,ad.ints .u32 x)
 /\(true,ad.ints .u32 au)=(true,ad.ints .u32 au)/\(true,ad.ints .u32 bb)=(true,ad.ints .u32 bb)/\(true,ad.ints .u32 bJ)=(true,ad.ints .u32 bJ)/\aD v11 (IntKind.i64.wrap (bR-(1:Int))) (jL (val ba-(4294967296:Nat)^bR.toNat*(val ba/(4294967296:Nat)^bR.toNat/val v11*val v11)) ba.length) (fq.set bR.toNat ↑(val ba/(4294967296:Nat)^bR.toNat/val v11))
 /\m v11 (IntKind.i64.wrap (bR-(1:Int))) (jL (val ba-(4294967296:Nat)^bR.toNat*(val ba/(4294967296:Nat)^bR.toNat/val v11*val v11)) ba.length) (fq.set bR.toNat ↑(val ba/(4294967296:Nat)^bR.toNat/val v11))<m v11 bR ba fq)
 /\(decide ((0:Int)<=bR)=false->aF fq/\∀x,x=ah (val fq)->(aF ba/\(0:Int)<=v9/\v9<(32:Int))/\∀aY,aY=ah (val ba/(2:Nat)^v9.toNat)->K (J.tup [J.d (R.ints .u32 x),J.d (R.ints .u32 aY),J.d (R.int .i64 (0:Int))]))))))
def Ly:List Int->List Int->(J->Prop)->Prop:=
 fun a b K=>aF a/\∀x,x=ah (val a)->aF b/\∀au,au=ah (val b)->∃(aD:List Int->List Int->Prop),∃(m:List Int->List Int->Nat),((true,ad.ints .u32 x)=(true,ad.ints .u32 x)
 /\(true,ad.ints .u32 au)=(true,ad.ints .u32 au)/\aD x au)/\∀(v0 v1:List Int),aD v0 v1->(decide ((0:Int)<↑v1.length)=true->(aZ v0/\v0.length<=(90000000:Nat)/\aZ v1/\v1.length<=(90000000:Nat))
 /\∀ax,(ax=if val v1=(0:Nat)then[]else ah (val v0/val v1))->∀aJ,(aJ=if val v1=(0:Nat)then[]else ah (val v0%val v1))->∀bb,(bb=if val v1=(0:Nat)then(3:Int)else(0:Int))
 ->(true,ad.ints .u32 x)=(true,ad.ints .u32 x)/\(true,ad.ints .u32 au)=(true,ad.ints .u32 au)/\aD v1 aJ/\m v1 aJ<m v0 v1)/\(decide ((0:Int)<↑v1.length)=false->K (J.d (R.ints .u32 v0)))
end I
end
section
open Go Go.bG
namespace I
theorem Wj {fF l c1 D V Q:Nat}(nD:fF=c1*D+l)(aq:l<c1)(kz:D/V=Q)(fj:0<V):c1*(Q*V)<=fF/\fF-c1*(Q*V)<c1*V:=by
 have U:=at4 D V
 rw[kz]at U
 have aa:=as6 D fj
 have al:c1*D=c1*(Q*V)+c1*(D%V):=by rw[<-asG,asT Q V,U]
 have aL:=as1 c1 (show D%V+1<=V from aa)
 rw[asG,asY]at aL
 omega
set_option maxHeartbeats 1000000 in
theorem adm (a b:List Int)(K:J->Prop)(h:Ap.T [.d (.ints .u32 a), .d (.ints .u32 b)] K):Kp a b K:=by
 obtain⟨⟨aC,fm,ae,lG⟩,ab⟩:=h
 have vD:aF a:=⟨aC,by omega⟩
 have vE:aF b:=⟨ae,by omega⟩
 have yJ:=hQ vD
 have Rx:=hQ vE
 unfold Kp
 refine⟨vD, ?_⟩
 rintro x af
 refine⟨vE, ?_⟩
 rintro y a6
 have dJ:aF x:=af▸⟨dN _,by omega⟩
 have iB:aF y:=a6▸⟨dN _,by omega⟩
 have HU:val x=val a:=by rw[af,cq]
 have HV:val y=val b:=by rw[a6,cq]
 have tH:x.length<=90000000:=by rw[af];omega
 have yK:y.length<=90000000:=by rw[a6];omega
 have ZA:Norm y:=a6▸Ao _
 have qA:ah (val x)=x:=by rw[HU,af]
 rw[<-HU,<-HV]at ab
 clear af yJ Rx vD vE aC ae fm lG
 have Ry:y.length=0↔val y=0:=⟨fun h=>by rw[atc.1 h];rfl,fun h=>by
  have e:y=[]:=by rw[a6,<-HV,h,gg]
  rw[e];rfl⟩
 clear a6 HU HV a b
 refine⟨fun h=> ?_,fun h=>⟨⟨dJ,iB⟩, ?_⟩⟩
 ·simp only[asw]at h
  have aE:val y=0:=Ry.1 (by omega)
  simp only[aE,atj]at ab;exact ab
 rintro c rfl
 simp only[asv]at h
 have aE:val y≠0:=fun e=>h (by rw[Ry.2 e];rfl)
 simp only[asp aE]at ab
 refine⟨fun U=> ?_,fun U=>⟨fun aa=> ?_,fun aa=> ?_⟩⟩
 ·simp only[asw]at U
  have bB:val x<val y:=by
   unfold cmp at U
   split at U
   ·assumption
   ·split at U<;>omega
  rw[at5 bB,ati bB,gg,qA]at ab;exact ab
 ·simp only[asw]at aa
  have eG:(y.getD 0 0).toNat=val y:=by
   have:=gi y (i:=1) (by omega)
   rw[fc,hr,aua,atx,as0]at this
   exact this
  have yL:=iB.1 0
  rw[eG]
  have hm:val x%val y<val y:=as6 _ (by omega)
  refine⟨by omega,by omega,⟨dJ,yL,by omega⟩, ?_⟩
  rintro q rfl r rfl
  refine⟨qu (by omega), ?_⟩
  rintro t rfl
  have aM:val [((val x%val y:Nat):Int)]=val x%val y:=by simp only[val,as3,asN,asu]
  rw[aM];exact ab
 ·simp only[asv]at U aa
  have iz:val y<=val x:=by
   unfold cmp at U
   split at U
   ·exact absurd (by decide) U
   ·omega
  have dr:2<=y.length:=by omega
  obtain⟨ec,gC,zn,m5,qW⟩:=NJ iB.1 ZA dr
  have an:IntKind.wrap .i64 ((Nat.cast:Nat->Int) y.length-1)=((y.length-1:Nat):Int):=by rw[bl (by omega)];omega
  simp only[an,asu,hE iB.1]
  have HW:=eX iB.1 (y.length-1)
  obtain⟨t,qB⟩:∃t,lm y (y.length-1)=t:=⟨_,rfl⟩
  rw[qB]at ec gC zn m5 qW HW
  simp only[qB]
  obtain⟨ZB,Rz,_⟩:=uy (n:=t) (by omega)
  refine⟨fun i=>∃k:Nat,i=k/\k<=32-cL t,fun i=>32-i.toNat,⟨by first|rfl|trivial,by first|rfl|trivial,0,rfl,by omega⟩, ?_⟩
  rintro i ⟨k,rfl,HX⟩
  have ua:IntKind.wrap .u64 (k:Int)=(k:Int):=cl (by omega)
  have ZC:IntKind.wrap .i64 ((k:Int)+1)=((k+1:Nat):Int):=by rw[bl (by omega)];omega
  have g_:(2:Int)^k=((2^k:Nat):Int):=by simp
  have aiI:t*2^k<4294967296:=by
   have al:t*2^k<2^cL t*2^k:=auy Rz (atk k)
   rw[<-ate]at al
   have aL:=as9 (show 0<2 by decide) (show cL t+k<=32 by omega)
   have px:(2:Nat)^32=4294967296:=rfl
   omega
  have zk:IntKind.wrap .u32 ((t:Int)*(2:Int)^k)=((t*2^k:Nat):Int):=by
   rw[g_,<-atE,gF ⟨atm _,by omega⟩]
  simp only[ua,ZC,asu,show min k 32=k by omega,zk]
  have HY:(2:Nat)^31=2147483648:=rfl
  refine⟨by omega,by omega,by omega,fun al=> ?_,fun al=> ?_⟩
  ·simp only[asw]at al
   have vF:k≠32-cL t:=by
    rintro rfl
    have aL:=asF (2^(32-cL t)) ZB
    rw[<-ate,show cL t-1+(32-cL t)=31 by omega,HY]at aL
    omega
   exact⟨by first|rfl|trivial,by first|rfl|trivial,⟨k+1,rfl,by omega⟩,by show 32-((k+1:Nat):Int).toNat<32-(k:Int).toNat;omega⟩
  ·simp only[asv]at al
   have r4:32-cL t=k:=by
    rcases Nat.lt_or_ge k (32-cL t)with aL|aL
    ·exfalso
     have bo:t*2^k<2^cL t*2^k:=auy Rz (atk k)
     rw[<-ate]at bo
     have bX:=as9 (show 0<2 by decide) (show cL t+k<=31 by omega)
     omega
    ·omega
   rw[r4]at m5 qW
   have Df:k<32:=by omega
   have Y2:2^k<=2147483648:=by
    have:=as9 (show 0<2 by decide) (show k<=31 by omega)
    omega
   have GL:4294967296^(y.length-1)<=val y:=by
    have U:=kP y (y.length-1)
    rw[lu]at U
    have aa:=as1 (4294967296^(y.length-1)) (show 1<=lm y (y.length-1)+4294967296*dx y (y.length-1+1) by omega)
    omega
   have hlen:y.length<=x.length:=by
    have U:=gN dJ.1
    have aa:4294967296^(y.length-1)<4294967296^x.length:=by omega
    have:=(Nat.pow_lt_pow_iff_right (by decide:1<4294967296)).1 aa
    omega
   refine⟨⟨dJ,by omega,by omega⟩, ?_⟩
   rintro hM r5
   refine⟨⟨iB,by omega,by omega⟩, ?_⟩
   rintro v0 iJ
   have vm:val v0=val y*2^k:=by
    rw[iJ]
    refine w8 _ _ (asR m5 (as9 (by decide) (by omega)))
   have rT:val hM=val x*2^k:=by
    rw[r5]
    refine w8 _ _ ?_
    rw[asU]
    exact Nat.mul_lt_mul'' (gN dJ.1) (by omega)
   have G4:aZ hM:=r5▸w9 _ _
   have Dg:aZ v0:=iJ▸w9 _ _
   have QV:hM.length=x.length+1:=by rw[r5,uL]
   have QW:v0.length=y.length+1:=by rw[iJ,uL]
   refine⟨⟨Dg,by omega⟩, ?_⟩
   rintro v aM
   have mi:val v=val y*2^k:=by rw[aM,cq,vm]
   have nE:aZ v:=aM▸dN _
   have kt:v.length=y.length:=by
    rw[aM,vm]
    refine Nat.le_antisymm (eH.2 m5) ?_
    refine Nat.le_of_not_lt fun af=> ?_
    have U:=eH.1 (show(ah (val y*2^k)).length<=y.length-1 by omega)
    have aa:1*4294967296^(y.length-1)<=2147483648*4294967296^(y.length-1):=asF _ (by decide)
    omega
   have jC:val x/val y=val hM/val v:=by rw[rT,mi,Nat.mul_div_mul_right _ _ (atk k)]
   have hH:(val x%val y)*2^k=val hM%val v:=by rw[rT,mi,Nat.mul_mod_mul_right]
   have om:2147483648*4294967296^(y.length-1)<=val v:=by rw[mi];exact qW
   have rZ:val v<4294967296^y.length:=by rw[mi];exact m5
   have r6:0<val v:=by rw[mi];exact Nat.mul_pos (by omega) (atk k)
   have zo:val hM<4294967296^(x.length+1-y.length)*val v:=by
    rw[rT]
    have U:val x*2^k<4294967296^x.length*2147483648:=asR (auy (gN dJ.1) (atk k)) (as1 _ Y2)
    have aa:=as1 (4294967296^(x.length+1-y.length)) om
    rw[att,<-ate,show x.length+1-y.length+(y.length-1)=x.length by omega,asT 2147483648]at aa
    exact asR U aa
   obtain⟨m,hm⟩:∃m,x.length+1-y.length=m:=⟨_,rfl⟩
   obtain⟨n,ar⟩:∃n,y.length=n:=⟨_,rfl⟩
   have HZ:1<=m:=by omega
   rw[hm]at zo
   rw[ar]at om rZ kt dr hlen yK⊢
   have hx:IntKind.wrap .i64 (IntKind.wrap .i64 ((Nat.cast:Nat->Int) x.length-(n:Int))+1)=(m:Int):=by
    rw[bl (x:=(Nat.cast:Nat->Int) x.length-(n:Int)) (by omega),bl (by omega)];omega
   rw[hx]
   simp only[asu,List.length_replicate]
   refine⟨by omega,by omega,by omega,fun cO j u q=>cO=v/\-1<=j/\j<m/\aZ u/\u.length=m+n/\aZ q/\q.length=m/\val hM=val q*val v+val u/\val u<4294967296^(j+1).toNat*val v/\∀p:Nat,(p:Int)<=j->q.getD p 0=0,
    fun cO j u q=>(j+1).toNat,⟨by first|rfl|trivial,by first|rfl|trivial,by first|rfl|trivial,by first|rfl|trivial, ?_⟩, ?_⟩
   ·rw[bl (by omega)]
    refine⟨rfl,by omega,by omega,G4,by omega,aZ.mI _,by simp,by rw[uE,atL,as0], ?_,fun p _=>by simp[ass,atN];split<;>rfl⟩
    rw[show((m:Int)-1+1).toNat=m by omega];exact zo
   rintro cO j u q ⟨rfl,vA,jT,hu,mU,aN,vG,heq,bB,yM⟩
   refine⟨fun aK=> ?_,fun aK=> ?_⟩
   ·simp only[asw]at aK
    obtain⟨j,rfl⟩:∃i:Nat,j=i:=⟨j.toNat,by omega⟩
    rw[show((j:Int)+1).toNat=j+1 by omega]at bB
    simp only[asu]
    have c1:IntKind.wrap .i64 ((j:Int)-1)=(j:Int)-1:=bl (by omega)
    rw[c1]
    obtain⟨D,nN⟩:∃D,val u/4294967296^j=D:=⟨_,rfl⟩
    obtain⟨Q,kz⟩:∃Q,D/val cO=Q:=⟨_,rfl⟩
    simp only[nN,kz]
    have nD:val u=4294967296^j*D+val u%4294967296^j:=by rw[<-nN,at4]
    obtain⟨f1,f2⟩:=Wj nD (as6 _ (Nat.pow_pos (by decide))) kz r6
    have aiZ:Q<4294967296:=by
     rw[<-kz,<-nN]
     refine aue (aue ?_)
     rw[asU,as4]at bB
     rw[asT (val cO)]
     exact bB
    have QX:val (jL (val u-4294967296^j*(Q*val cO)) u.length)=val u-4294967296^j*(Q*val cO):=
     w8 _ _ (at7 (Nat.sub_le _ _) (gN hu))
    have vH:=yM j (by omega)
    have yN:=lf q j (Q:Int) (by omega)
    rw[vH,show Int.toNat 0=0 from rfl,as3,asN,asu]at yN
    refine⟨by omega,⟨⟨hu,by omega⟩,⟨nE,by omega⟩,by omega,by omega,by omega,by rw[kt];exact om,bB⟩,by omega,by omega,by first|rfl|trivial,by first|rfl|trivial,by first|rfl|trivial,by first|rfl|trivial,
     ⟨by first|rfl|trivial,by omega,by omega,w9 _ _,by rw[uL];exact mU,aN.set _ ⟨by omega,by omega⟩,by rw[asJ];exact vG, ?_, ?_,fun p aw=> ?_⟩, ?_⟩
    ·rw[yN,QX,heq,asK,as4];omega
    ·rw[QX,show((j:Int)-1+1).toNat=j by omega];exact f2
    ·rw[ef,asp (by omega)];exact yM p (by omega)
    ·show((j:Int)-1+1).toNat<((j:Int)+1).toNat
     omega
   ·simp only[asv]at aK
    obtain rfl:j=-1:=by omega
    rw[show((-1:Int)+1).toNat=0 from rfl,aua,atx]at bB
    have yO:val hM/val cO=val q:=by
     rw[heq,asT,Nat.mul_add_div (by omega),at5 bB,asN]
    have vI:val hM%val cO=val u:=by
     rw[heq,asT,aun,ati bB]
    have dT:val u/2^k=val x%val y:=by rw[<-vI,<-hH,Nat.mul_div_cancel _ (atk k)]
    refine⟨⟨aN,by omega⟩, ?_⟩
    rintro r rfl
    refine⟨⟨⟨hu,by omega⟩,by omega,by omega⟩, ?_⟩
    rintro s rfl
    rw[dT,<-yO,<-jC];exact ab
theorem aew (a b:List Int)(K:J->Prop)(h:Bs.T [.d (.ints .u32 a), .d (.ints .u32 b)] K):Ly a b K:=by
 obtain⟨⟨aC,fm,ae,lG⟩,ab⟩:=h
 have vD:aF a:=⟨aC,by omega⟩
 have vE:aF b:=⟨ae,by omega⟩
 have yJ:=hQ vD
 have Rx:=hQ vE
 unfold Ly
 obtain⟨G,hL⟩:∃G,Nat.gcd (val a) (val b)=G:=⟨_,rfl⟩
 rw[hL]at ab
 refine⟨vD, ?_⟩
 rintro x rfl
 refine⟨vE, ?_⟩
 rintro y rfl
 refine⟨fun u v=>∃A B:Nat,u=ah A/\v=ah B/\Nat.gcd A B=G/\(ah A).length<=90000000/\(ah B).length<=90000000,fun u v=>val v,⟨by first|rfl|trivial,by first|rfl|trivial,val a,val b,rfl,rfl,hL,by omega,by omega⟩, ?_⟩
 rintro u v ⟨A,B,rfl,rfl,qE,eU,eG⟩
 simp only[cq]
 refine⟨fun h=>⟨⟨dN _,eU,dN _,eG⟩, ?_⟩,fun h=> ?_⟩
 ·simp only[asw]at h
  have oq:B≠0:=fun e=>by
   subst e
   rw[gg]at h;simp at h
  have bB:A%B<B:=as6 _ (by omega)
  rintro q rfl r rfl e rfl
  rw[asp oq]
  refine⟨by first|rfl|trivial,by first|rfl|trivial,⟨B,A%B,rfl,rfl,by rw[AU];exact qE,eG, ?_⟩,by rw[cq];exact bB⟩
  refine asZ (eH.2 ?_) eG
  exact Nat.lt_trans bB (eH.1 (asz _))
 ·simp only[asv]at h
  have oq:B=0:=o4 (by omega)
  subst oq
  rw[Nat.gcd_zero_right]at qE
  rw[qE];exact ab
end I
end
section
open Go Go.bG
namespace I
end I
end
section
open Go Go.bG
namespace I
end I
end
section
namespace I
open Go Go.bG
theorem ra (s:Bool)(n:Nat):(cA s n).natAbs=n:=by unfold cA;split<;>omega
theorem Px (s:Bool):cA s 0=0:=by unfold cA;split<;>rfl
theorem P3 (s:Bool)(n m:Nat):cA s n+cA s m=cA s (n+m):=by unfold cA;split<;>omega
theorem p6 (n:Int):cA (decide (n<0)) n.natAbs=n:=by
 unfold cA
 by_cases h:n<0
 ·simp only[h,decide_true,atj];omega
 ·simp only[h,decide_false,atF,if_false];omega
theorem Co (s t:Bool)(n m:Nat):cA s n*cA t m=cA (s !=t) (n*m):=by
 unfold cA
 cases s<;>cases t<;>simp[atE,Int.neg_mul,Int.mul_neg]
theorem AI {s t:Bool}{n m:Nat}(h:s≠t)(hm:m<=n):cA s n+cA t m=cA s (n-m):=by
 unfold cA;cases s<;>cases t<;>simp at h⊢<;>omega
theorem P4 {s:Bool}{n d:Nat}(aP:d≠0):(mkRat (cA s n) d).num.natAbs=n/Nat.gcd n d:=by
 rw[Rat.num_mkRat,asp aP,ra,Nat.gcd_comm,Int.natAbs_ediv_of_dvd,ra]
 ·rfl
 ·rw[<-Int.dvd_natAbs,ra]
  exact Int.natCast_dvd_natCast.2 (Nat.gcd_dvd_left n d)
theorem P5 {s:Bool}{n d:Nat}(aP:d≠0):(mkRat (cA s n) d).den=d/Nat.gcd n d:=by
 rw[Rat.den_mkRat,asp aP,ra,Nat.gcd_comm]
theorem Yc {s:Bool}{n d:Nat}(aP:d≠0):bh (mkRat (cA s n) d)=(s&&decide (n≠0)):=by
 unfold bh
 rw[Rat.num_mkRat,asp aP,ra]
 have aT:0<d.gcd n:=Nat.gcd_pos_of_pos_left _ (by omega)
 cases s with
 |false=>
  have:¬cA false n/(d.gcd n:Int)<0:=by
   have:0<=cA false n/(d.gcd n:Int):=Int.ediv_nonneg (by unfold cA;simp) (by omega)
   omega
  simp[this]
 |true=>
  by_cases aE:n=0
  ·subst aE;simp[Px]
  ·have:cA true n/(d.gcd n:Int)<0:=Int.ediv_neg_of_neg_of_pos (by unfold cA;simp;omega) (by omega)
   simp[this,aE]
theorem P6 {s:Bool}{a b:List Int}(h:val b≠0):bm (ag s a b)=ah (val a/Nat.gcd (val a) (val b)):=by unfold bm ag;rw[P4 h]
theorem P7 {s:Bool}{a b:List Int}(h:val b≠0):bg (ag s a b)=ah (val b/Nat.gcd (val a) (val b)):=by unfold bg ag;rw[P5 h]
theorem P8 {s:Bool}{a b:List Int}(h:val b≠0):bh (ag s a b)=(s&&decide (val a≠0)):=Yc h
theorem Gi {s:Bool}{a b:List Int}(h:val b=0):ag s a b=0:=by unfold ag;rw[h,Rat.mkRat_zero]
theorem FA {s:Bool}{a b:List Int}(h:val a=0):ag s a b=0:=by unfold ag;rw[h,Px,Rat.zero_mkRat]
theorem QE:bh 0=false:=rfl
theorem nj:ah 1=[1]:=by
 rw[q_ (by decide),show 1/4294967296=0 by decide,gg];rfl
theorem QF:bm 0=[]:=by unfold bm;exact gg
theorem QG:bg 0=[1]:=by unfold bg;exact nj
theorem val_one:val [1]=1:=by rw[<-nj,cq]
theorem h2 (r:Rat):ag (bh r) (bm r) (bg r)=r:=by
 unfold ag bh bm bg
 rw[cq,cq,p6,Rat.mkRat_self]
theorem WH (r:Rat):aZ (bm r):=dN _
theorem WI (r:Rat):aZ (bg r):=dN _
theorem ke (r:Rat):val (bm r)=r.num.natAbs:=cq _
theorem jr (r:Rat):val (bg r)=r.den:=cq _
theorem mG (r:Rat):val (bg r)≠0:=by rw[jr];exact r.den_nz
theorem FE (r:Rat):bg r=[1]↔r.den=1:=by rw[<-nj];exact EY
theorem FF (r:Rat):bm r=[]↔r=0:=by
 unfold bm
 rw[nY,Int.natAbs_eq_zero,Rat.num_eq_zero]
theorem av.b5 {k:Nat}{a:List Int}(h:av k a)(ab:k<=100000000:=by decide):aF a:=⟨h.1,by have:=h.2;omega⟩
theorem av.mono {k j:Nat}{a:List Int}(h:av k a)(ab:k<=j):av j a:=⟨h.1,by have:=h.2;omega⟩
def cv (k:Nat)(r:Rat):Prop:=r.num.natAbs<4294967296^k/\r.den<4294967296^k
theorem cv.num {k:Nat}{r:Rat}(h:cv k r):av k (bm r):=⟨WH r,eH.2 h.1⟩
theorem cv.den {k:Nat}{r:Rat}(h:cv k r):av k (bg r):=⟨WI r,eH.2 h.2⟩
theorem cv.mono {k j:Nat}{r:Rat}(h:cv k r)(ab:k<=j):cv j r:=⟨asR h.1 (as9 (by decide) ab),asR h.2 (as9 (by decide) ab)⟩
theorem cv.mk {k:Nat}{n:Int}{d:Nat}(U:n.natAbs<4294967296^k)(aa:d<4294967296^k)(ab:1<=k:=by omega):cv k (mkRat n d):=by
 by_cases aP:d=0
 ·subst aP
  rw[Rat.mkRat_zero]
  have:(4294967296:Nat)^1<=4294967296^k:=as9 (by decide) ab
  exact⟨by show 0<_;omega,by show 1<_;omega⟩
 ·rw[show n=cA (decide (n<0)) n.natAbs from(p6 n).symm]
  exact⟨by rw[P4 aP];exact at7 (auL _ _) U,by rw[P5 aP];exact at7 (auL _ _) aa⟩
theorem av.val {k:Nat}{a:List Int}(h:av k a):val a<4294967296^k:=asR (gN h.1) (as9 (by decide) h.2)
theorem cv.of {k:Nat}{s:Bool}{a b:List Int}(aC:av k a)(ae:av k b)(ab:1<=k:=by omega):cv k (ag s a b):= .mk (by rw[ra];exact aC.val) ae.val ab
theorem cv.neg {k:Nat}{r:Rat}(h:cv k r):cv k (-r):=⟨by rw[Rat.neg_num,Int.natAbs_neg];exact h.1,h.2⟩
theorem q8 {k j:Nat}{x y:Nat}(af:x<4294967296^k)(a6:y<4294967296^j):x*y<4294967296^(k+j):=by
 rw[ate];exact Nat.mul_lt_mul'' af a6
theorem cv.mul {k j:Nat}{r q:Rat}(h:cv k r)(g:cv j q)(ab:1<=k+j:=by omega):cv (k+j) (r*q):=by
 rw[Rat.mul_def']
 exact .mk (by rw[Int.natAbs_mul];exact q8 h.1 g.1) (q8 h.2 g.2) ab
theorem cv.add {k j:Nat}{r q:Rat}(h:cv k r)(g:cv j q):cv (k+j+1) (r+q):=by
 rw[Rat.add_def']
 refine .mk ?_ ?_
 ·have U:=q8 h.1 g.2
  have aa:=q8 g.1 h.2
  rw[Nat.add_comm j k]at aa
  have al:=Int.natAbs_add_le (r.num*q.den) (q.num*r.den)
  rw[Int.natAbs_mul,Int.natAbs_mul]at al
  have an:(q.den:Int).natAbs=q.den:=rfl
  have az:(r.den:Int).natAbs=r.den:=rfl
  rw[an,az]at al
  rw[asU]
  generalize (4294967296:Nat)^(k+j)=W at*
  omega
 ·have U:=q8 h.2 g.2
  rw[asU]
  generalize (4294967296:Nat)^(k+j)=W at*
  omega
theorem cv.sub {k j:Nat}{r q:Rat}(h:cv k r)(g:cv j q):cv (k+j+1) (r-q):=by rw[Rat.sub_eq_add_neg];exact h.add g.neg
theorem cv.zero:cv 1 0:=⟨by decide,by decide⟩
theorem cv.one:cv 1 1:=⟨by decide,by decide⟩
theorem cv.pow {k:Nat}{r:Rat}(h:cv k r)(ab:1<=k:=by omega):∀n,cv (k*n+1) (r^n)
 |0=>by rw[Rat.pow_zero];exact cv.one.mono (by omega)
 |n+1=>by
  rw[Rat.pow_succ]
  exact((cv.pow h ab n).mul h).mono (by rw[Nat.mul_succ];omega)
theorem A8 (r:Rat):bh r=true↔r<0:=by
 unfold bh
 rw[as8,Rat.lt_iff]
 simp
theorem sM {r:Rat}:dh r=0↔r=0:=by
 unfold dh
 split
 ·simp_all
 ·split<;>simp_all
end I
end
section
open Go Go.bG
namespace I
def LH:Bool->List Int->List Int->(J->Prop)->Prop:=
 fun s a b K=>aF a/\∀x,x=ah (val a)->aF b/\∀au,au=ah (val b)->(decide (↑x.length=(0:Int))=true->K (J.agg [J.d (R.bool false),J.d (R.ints .u32 []),J.d (R.ints .u32 [(1:Int)])]))
 /\(decide (↑x.length=(0:Int))=false->(aF x/\aF au)/\∀ax,ax=ah ((val x).gcd (val au))->((!decide (↑ax.length=(1:Int)))=true->(aF x/\aF ax)/\∀aJ,(aJ=if val ax=(0:Nat)then[]else ah (val x/val ax))
 ->∀bb,(bb=if val ax=(0:Nat)then[]else ah (val x%val ax))->∀x,(x=if val ax=(0:Nat)then(3:Int)else(0:Int))->(aF au/\aF ax)/\∀x,(x=if val ax=(0:Nat)then[]else ah (val au/val ax))
 ->∀bJ,(bJ=if val ax=(0:Nat)then[]else ah (val au%val ax))->∀aY,(aY=if val ax=(0:Nat)then(3:Int)else(0:Int))->K (J.agg [J.d (R.bool s),J.d (R.ints .u32 aJ),J.d (R.ints .u32 x)]))
 /\((!decide (↑ax.length=(1:Int)))=false->(0:Int)<=(0:Int)/\(0:Int)<↑ax.length/\((!decide (ax.getD (0:Nat) (0:Int)=(1:Int)))=true->(aF x/\aF ax)/\∀aJ,(aJ=if val ax=(0:Nat)then[]else ah (val x/val ax))
 ->∀bb,(bb=if val ax=(0:Nat)then[]else ah (val x%val ax))->∀x,(x=if val ax=(0:Nat)then(3:Int)else(0:Int))->(aF au/\aF ax)/\∀x,(x=if val ax=(0:Nat)then[]else ah (val au/val ax))
 ->∀bJ,(bJ=if val ax=(0:Nat)then[]else ah (val au%val ax))->∀aY,(aY=if val ax=(0:Nat)then(3:Int)else(0:Int))->K (J.agg [J.d (R.bool s),J.d (R.ints .u32 aJ),J.d (R.ints .u32 x)]))
 /\((!decide (ax.getD (0:Nat) (0:Int)=(1:Int)))=false->K (J.agg [J.d (R.bool s),J.d (R.ints .u32 x),J.d (R.ints .u32 au)]))))
def LI:List Int->(J->Prop)->Prop:=
 fun a K=>(aF a/\aF [])/\∀x,x=cmp (val a) 0->K (J.d (R.bool (decide (x=0))))
def LJ:Bool->List Int->List Int->(J->Prop)->Prop:=
 fun s a b K=>aF b/\∀x,x=decide (val b=0)->(x=true->(aF []/\aF [1]/\¬1=0)/\∀x,x=bh (ag false [] [1])->∀au,au=bm (ag false [] [1])->∀ax,ax=bg (ag false [] [1])
 ->K (J.agg [J.d (R.bool x),J.d (R.ints .u32 au),J.d (R.ints .u32 ax)]))/\(x=false->(aF a/\aF b/\¬val b=0)/\∀x,x=bh (ag s a b)->∀au,au=bm (ag s a b)->∀ax,ax=bg (ag s a b)
 ->K (J.agg [J.d (R.bool x),J.d (R.ints .u32 au),J.d (R.ints .u32 ax)]))
def Oc:List Int->(J->Prop)->Prop:=
 fun a K=>(decide (↑a.length=(1:Int))=true->(0:Int)<=(0:Int)/\(0:Int)<↑a.length/\K (J.d (R.bool (decide (a.getD (0:Nat) (0:Int)=(1:Int))))))/\(decide (↑a.length=(1:Int))=false
 ->K (J.d (R.bool false)))
def SQ:Bool->List Int->List Int->(J->Prop)->Prop:=
 fun s a b K=>K (J.agg [J.d (R.bool s),J.d (R.ints .u32 a),J.d (R.ints .u32 b)])
def M9:Bool->List Int->List Int->(J->Prop)->Prop:=
 fun s a b K=>(aF a/\aF b)/\∀x,x=bh (ag s a b)->∀au,au=bm (ag s a b)->∀ax,ax=bg (ag s a b)->True/\∀aJ,aJ=x->∀x,x=au->∀bb,bb=ax->K (J.agg [J.d (R.bool aJ),J.d (R.ints .u32 x),J.d (R.ints .u32 bb)])
def KA:Int->(J->Prop)->Prop:=
 fun n K=>∃(a8:Int->Prop),((decide (n<0)=true->a8 (IntKind.u64.wrap (0-IntKind.u64.wrap n)))/\(decide (n<0)=false->a8 (IntKind.u64.wrap n)))/\∀(v4:Int),a8 v4->aF [IntKind.u32.wrap v4,IntKind.u32.wrap (v4.fdiv 4294967296)]
 /\∀x,x=ah (val [IntKind.u32.wrap v4,IntKind.u32.wrap (v4.fdiv 4294967296)])->K (J.tup [J.d (R.bool (decide (n<0))),J.d (R.ints .u32 x)])
def Od:Int->(J->Prop)->Prop:=
 fun n K=>i64 n/\∀x,x=decide (n<0)->∀au,au=ah n.natAbs->(aF au/\aF [1]/\¬1=0)/\∀ax,ax=bh (ag x au [1])->∀aJ,aJ=bm (ag x au [1])->∀bb,bb=bg (ag x au [1])
 ->True/\∀x,x=ax->∀bJ,bJ=aJ->∀aY,aY=bb->K (J.agg [J.d (R.bool x),J.d (R.ints .u32 bJ),J.d (R.ints .u32 aY)])
def K_:Bool->List Int->Bool->List Int->List Int->(J->Prop)->Prop:=
 fun s a t b d K=>((s==t)=true->(aF a/\aF b)/\∀x,x=ah (val a+val b)->(aF x/\aF d/\¬val d=(0:Nat))/\∀au,au=bh (ag s x d)->∀ax,ax=bm (ag s x d)->∀aJ,aJ=bg (ag s x d)
 ->K (J.agg [J.d (R.bool au),J.d (R.ints .u32 ax),J.d (R.ints .u32 aJ)]))/\((s==t)=false->∃(a8:Bool->List Int->List Int->Prop),((aF a/\aF b)/\∀x,x=cmp (val a) (val b)->(decide (x<(0:Int))=true
 ->(false,ad.cells [J.d (R.bool false),J.emp,J.emp])=(false,ad.cells [J.d (R.bool false),J.emp,J.emp])/\a8 t b a)/\(decide (x<(0:Int))=false->(false,ad.cells [J.d (R.bool false),J.emp,J.emp])=(false,ad.cells [J.d (R.bool false),J.emp,J.emp])
 /\a8 s a b))/\∀(v0:Bool) (v1 v3:List Int),a8 v0 v1 v3->(aF v1/\aF v3)/\∀x,(x=if val v1<val v3 then[]else ah (val v1-val v3))->∀au,(au=if val v1<val v3 then(1:Int)else(0:Int))
 ->(aF x/\aF d/\¬val d=(0:Nat))/\∀ax,ax=bh (ag v0 x d)->∀aJ,aJ=bm (ag v0 x d)->∀bb,bb=bg (ag v0 x d)->K (J.agg [J.d (R.bool ax),J.d (R.ints .u32 aJ),J.d (R.ints .u32 bb)]))
def Og:Bool->List Int->List Int->Bool->List Int->List Int->(J->Prop)->Prop:=
 fun s a b t c d K=>(aF a/\aF b)/\∀x,x=bh (ag s a b)->∀au,au=bm (ag s a b)->∀ax,ax=bg (ag s a b)->(aF c/\aF d)/\∀aJ,aJ=bh (ag t c d)->∀bb,bb=bm (ag t c d)
 ->∀bJ,bJ=bg (ag t c d)->True/\∀aY,aY=decide (ax=[1])->(aY=true->True/\∀aW,aW=decide (bJ=[1])->(aW=true->(av 50000000 au/\av 50000000 bb/\aF ax/\¬val ax=0)
 /\∀a7,a7=bh (mkRat (cA x (val au)+cA aJ (val bb)) (val ax))->∀bU,bU=bm (mkRat (cA x (val au)+cA aJ (val bb)) (val ax))->∀b_,b_=bg (mkRat (cA x (val au)+cA aJ (val bb)) (val ax))
 ->True/\∀x,x=a7->∀bL,bL=bU->∀br,br=b_->K (J.agg [J.d (R.bool x),J.d (R.ints .u32 bL),J.d (R.ints .u32 br)]))/\(aW=false->(aF au/\aF bJ)/\∀a7,a7=ah (val au*val bJ)
 ->(aF bb/\aF ax)/\∀bU,bU=ah (val bb*val ax)->(aF ax/\aF bJ)/\∀b_,b_=ah (val ax*val bJ)->(av 50000000 a7/\av 50000000 bU/\aF b_/\¬val b_=0)/\∀bL,bL=bh (mkRat (cA x (val a7)+cA aJ (val bU)) (val b_))
 ->∀br,br=bm (mkRat (cA x (val a7)+cA aJ (val bU)) (val b_))->∀bC,bC=bg (mkRat (cA x (val a7)+cA aJ (val bU)) (val b_))->True/\∀x,x=bL->∀dQ,dQ=br->∀eY,eY=bC
 ->K (J.agg [J.d (R.bool x),J.d (R.ints .u32 dQ),J.d (R.ints .u32 eY)])))/\(aY=false->(aF au/\aF bJ)/\∀aW,aW=ah (val au*val bJ)->(aF bb/\aF ax)/\∀a7,a7=ah (val bb*val ax)
 ->(aF ax/\aF bJ)/\∀bU,bU=ah (val ax*val bJ)->(av 50000000 aW/\av 50000000 a7/\aF bU/\¬val bU=0)/\∀b_,b_=bh (mkRat (cA x (val aW)+cA aJ (val a7)) (val bU))
 ->∀bL,bL=bm (mkRat (cA x (val aW)+cA aJ (val a7)) (val bU))->∀br,br=bg (mkRat (cA x (val aW)+cA aJ (val a7)) (val bU))->True/\∀x,x=b_->∀bC,bC=bL->∀dQ,dQ=br
 ->K (J.agg [J.d (R.bool x),J.d (R.ints .u32 bC),J.d (R.ints .u32 dQ)]))
def Oi:Bool->List Int->List Int->(J->Prop)->Prop:=
 fun s a b K=>(aF a/\aF b)/\∀x,x=bh (ag s a b)->∀au,au=bm (ag s a b)->∀ax,ax=bg (ag s a b)->((!x)=true->True/\∀x,x=decide ((0:Int)<↑au.length)->∀aJ,aJ=au
 ->∀bb,bb=ax->K (J.agg [J.d (R.bool x),J.d (R.ints .u32 aJ),J.d (R.ints .u32 bb)]))/\((!x)=false->True/\∀x,x=false->∀aJ,aJ=au->∀bb,bb=ax->K (J.agg [J.d (R.bool x),J.d (R.ints .u32 aJ),J.d (R.ints .u32 bb)]))
def Oj:Bool->List Int->List Int->Bool->List Int->List Int->(J->Prop)->Prop:=
 fun s a b t c d K=>(av 1000000 c/\av 1000000 d)/\∀x,x=bh (-ag t c d)->∀au,au=bm (-ag t c d)->∀ax,ax=bg (-ag t c d)->(av 1000000 a/\av 1000000 b/\av 1000000 au/\av 1000000 ax)
 /\∀aJ,aJ=bh (ag s a b+ag x au ax)->∀bb,bb=bm (ag s a b+ag x au ax)->∀bJ,bJ=bg (ag s a b+ag x au ax)->K (J.agg [J.d (R.bool aJ),J.d (R.ints .u32 bb),J.d (R.ints .u32 bJ)])
def Ol:Bool->List Int->List Int->Bool->List Int->List Int->(J->Prop)->Prop:=
 fun s a b t c d K=>(aF a/\aF b)/\∀x,x=bh (ag s a b)->∀au,au=bm (ag s a b)->∀ax,ax=bg (ag s a b)->(aF c/\aF d)/\∀aJ,aJ=bh (ag t c d)->∀bb,bb=bm (ag t c d)
 ->∀bJ,bJ=bg (ag t c d)->(aF au/\aF bb)/\∀aY,aY=ah (val au*val bb)->(aF ax/\aF bJ)/\∀aW,aW=ah (val ax*val bJ)->(aF aY/\aF aW/\¬val aW=0)/\∀a7,a7=bh (ag (!x==aJ) aY aW)
 ->∀bU,bU=bm (ag (!x==aJ) aY aW)->∀b_,b_=bg (ag (!x==aJ) aY aW)->True/\∀x,x=a7->∀bL,bL=bU->∀br,br=b_->K (J.agg [J.d (R.bool x),J.d (R.ints .u32 bL),J.d (R.ints .u32 br)])
def Na:Bool->List Int->List Int->(J->Prop)->Prop:=
 fun s a b K=>(aF a/\aF b)/\∀x,x=bh (ag s a b)->∀au,au=bm (ag s a b)->∀ax,ax=bg (ag s a b)->(decide (↑au.length=(0:Int))=true->K (J.d (R.int .i64 0)))/\(decide (↑au.length=(0:Int))=false
 ->(x=true->K (J.d (R.int .i64 (-1))))/\(x=false->K (J.d (R.int .i64 1))))
def Oo:Bool->List Int->List Int->Bool->List Int->List Int->(J->Prop)->Prop:=
 fun s a b t c d K=>(av 1000000 a/\av 1000000 b/\av 1000000 c/\av 1000000 d)/\∀x,x=bh (ag s a b-ag t c d)->∀au,au=bm (ag s a b-ag t c d)->∀ax,ax=bg (ag s a b-ag t c d)
 ->(aF au/\aF ax)/\∀aJ,aJ=dh (ag x au ax)->K (J.d (R.int .i64 aJ))
def Mk:Bool->List Int->List Int->Bool->List Int->List Int->(J->Prop)->Prop:=
 fun s a b t c d K=>(av 1000000 a/\av 1000000 b/\av 1000000 c/\av 1000000 d)/\∀x,x=dh (ag s a b-ag t c d)->K (J.d (R.bool (decide (x=0))))
def LK:Bool->List Int->List Int->(J->Prop)->Prop:=
 fun s a b K=>(aF a/\aF b)/\∀x,x=bh (ag s a b)->∀au,au=bm (ag s a b)->∀ax,ax=bg (ag s a b)->aF au/\∀aJ,aJ=dec (val au)->∃(a8:List Int->Prop),((x=true->(1:Int)+↑aJ.length<=(9223372036854775807:Int)
 /\(false,ad.cells [J.d (R.bool s),J.d (R.ints .u32 a),J.d (R.ints .u32 b)])=(false,ad.cells [J.d (R.bool s),J.d (R.ints .u32 a),J.d (R.ints .u32 b)])/\(false,ad.cells [J.d (R.bool x),J.d (R.ints .u32 au),J.d (R.ints .u32 ax)])=(false,ad.cells [J.d (R.bool x),J.d (R.ints .u32 au),J.d (R.ints .u32 ax)])
 /\a8 ([(45:Int)]++aJ))/\(x=false->(false,ad.cells [J.d (R.bool s),J.d (R.ints .u32 a),J.d (R.ints .u32 b)])=(false,ad.cells [J.d (R.bool s),J.d (R.ints .u32 a),J.d (R.ints .u32 b)])
 /\(false,ad.cells [J.d (R.bool x),J.d (R.ints .u32 au),J.d (R.ints .u32 ax)])=(false,ad.cells [J.d (R.bool x),J.d (R.ints .u32 au),J.d (R.ints .u32 ax)])/\a8 aJ))/\∀(v4:List Int),a8 v4
 ->True/\∀x,x=decide (ax=[(1:Int)])->((!x)=true->aF ax/\∀x,x=dec (val ax)->(1:Int)+↑x.length<=(9223372036854775807:Int)/\↑v4.length+↑([(47:Int)]++x).length<=(9223372036854775807:Int)
 /\K (J.d (R.str (v4++([(47:Int)]++x)))))/\((!x)=false->K (J.d (R.str v4)))
end I
end
section
open Go Go.bG
namespace I
theorem tw {a:List Int}:decide (((a.length:Nat):Int)=0)=true↔a=[]:=by
 rw[as8]
 constructor
 ·intro h;exact atc.1 (by omega)
 ·rintro rfl;rfl
theorem uH {a:List Int}(h:aF a):aF (ah (val a)):=⟨dN _,asZ (hQ h) h.2⟩
theorem mC {k n:Nat}(h:n<4294967296^k):av k (ah n):=⟨dN _,eH.2 h⟩
theorem Uy {n:Nat}:ah n=[1]↔n=1:=by rw[<-nj];exact EY
theorem gcd_le_right {a b:Nat}(h:b≠0):Nat.gcd a b<=b:=Nat.le_of_dvd (aur h) (Nat.gcd_dvd_right a b)
theorem E5 {n:Nat}{b:List Int}(ae:aF b)(h:n<=val b):aF (ah n):=⟨dN _,asZ (eH.2 (at7 h (gN ae.1))) ae.2⟩
theorem XB {n:Nat}:(ah n).length=1/\(ah n).getD 0 0=1↔n=1:=by
 constructor
 ·rintro⟨U,aa⟩
  rw[<-Uy]
  match ah n,U,aa with
  |[x],_,aa=>simp at aa;rw[aa]
 ·rintro rfl
  rw[nj];simp
theorem YK {s:Bool}{a b:List Int}(h:val b≠0)(aE:val a≠0):bh (ag s a b)=s:=by rw[P8 h];simp[aE]
theorem ae2 (s:Bool)(a b:List Int)(K:J->Prop)(h:BG.T [.d (.bool s), .d (.ints .u32 a), .d (.ints .u32 b)] K):LH s a b K:=by
 obtain⟨⟨aC,ae,iK⟩,ab⟩:=h
 unfold LH
 refine⟨aC, ?_⟩
 rintro _ rfl
 refine⟨ae, ?_⟩
 rintro _ rfl
 refine⟨fun h=> ?_,fun h=> ?_⟩
 ·have aE:val a=0:=nY.1 (tw.1 h)
  rw[FA aE,QE,QF,QG]at ab
  exact ab
 ·have aE:val a≠0:=fun e=>by
   rw[tw.2 (nY.2 e)]at h;cases h
  have aT:Nat.gcd (val a) (val b)≠0:=fun e=>iK (Nat.gcd_eq_zero_iff.1 e).2
  rw[YK iK aE,P6 iK,P7 iK]at ab
  refine⟨⟨uH aC,uH ae⟩, ?_⟩
  rintro _ rfl
  simp only[cq]
  have mv:aF (ah (Nat.gcd (val a) (val b))):=E5 ae (gcd_le_right iK)
  refine⟨fun _=>⟨⟨uH aC,mv⟩, ?_⟩,fun U=>⟨by omega, ?_,fun _=>⟨⟨uH aC,mv⟩, ?_⟩,fun aa=> ?_⟩⟩
  ·rintro _ rfl _ rfl _ rfl
   refine⟨⟨uH ae,mv⟩, ?_⟩
   rintro _ rfl _ rfl _ rfl
   rw[asp aT,asp aT];exact ab
  ·have:(((ah (Nat.gcd (val a) (val b))).length:Nat):Int)=1:=by simpa using U
   omega
  ·rintro _ rfl _ rfl _ rfl
   refine⟨⟨uH ae,mv⟩, ?_⟩
   rintro _ rfl _ rfl _ rfl
   rw[asp aT,asp aT];exact ab
  ·have bE:(((ah (Nat.gcd (val a) (val b))).length:Nat):Int)=1:=by simpa using U
   have an:(ah (Nat.gcd (val a) (val b))).length=1:=by omega
   have az:(ah (Nat.gcd (val a) (val b))).getD 0 0=1:=by simpa using aa
   have e:=XB.1 ⟨an,az⟩
   rw[e,Nat.div_one,Nat.div_one]at ab
   exact ab
theorem WO {n:Nat}:(decide (cmp n 0=0))=decide (n=0):=by
 unfold cmp
 by_cases h:n=0
 ·subst h;rfl
 ·simp[h]
theorem xk:aF []:=⟨.nil,by simp⟩
theorem BM:aF [1]:=⟨.mk (by decide) .nil,by simp⟩
theorem ae3 (a:List Int)(K:J->Prop)(h:BH.T [.d (.ints .u32 a)] K):LI a K:=by
 obtain⟨aC,ab⟩:=h
 unfold LI
 refine⟨⟨aC,xk⟩, ?_⟩
 rintro _ rfl
 rw[WO];exact ab
theorem ae4 (s:Bool)(a b:List Int)(K:J->Prop)(h:xj.T [cJ s a b] K):LJ s a b K:=by
 obtain⟨⟨aC,ae⟩,ab⟩:=h
 unfold LJ
 refine⟨ae, ?_⟩
 rintro _ rfl
 refine⟨fun aE=>⟨⟨xk,BM,by decide⟩, ?_⟩,fun aE=>⟨⟨aC,ae,by simpa using aE⟩, ?_⟩⟩
 ·rintro _ rfl _ rfl _ rfl
  have aE:val b=0:=by simpa using aE
  rw[Gi aE]at ab
  rw[FA (a:=[]) rfl];exact ab
 ·rintro _ rfl _ rfl _ rfl
  exact ab
theorem ahR (a:List Int)(K:J->Prop)(h:Dr.T [.d (.ints .u32 a)] K):Oc a K:=by
 obtain⟨_,ab⟩:=h
 unfold Oc
 refine⟨fun h=> ?_,fun h=> ?_⟩
 ·have U:a.length=1:=by
   have:=asC h;omega
  refine⟨by omega,by omega, ?_⟩
  match a,U with
  |[x],_=>
   have e:decide ([x]=[1])=decide (([x]:List Int).getD 0 0=1):=by simp
   rw[e]at ab;exact ab
 ·have U:a≠[1]:=by
   rintro rfl;simp at h
  have e:decide (a=[1])=false:=by simpa using U
  rw[e]at ab;exact ab
theorem acG (s:Bool)(a b:List Int)(K:J->Prop)(h:Dq.T [cJ s a b] K):SQ s a b K:=h.2
theorem ag6 (s:Bool)(a b:List Int)(K:J->Prop)(h:xj.T [cJ s a b] K):M9 s a b K:=by
 obtain⟨aw,ab⟩:=h
 unfold M9
 refine⟨aw, ?_⟩
 rintro _ rfl _ rfl _ rfl
 refine⟨trivial, ?_⟩
 rintro _ rfl _ rfl _ rfl
 exact ab
theorem Q_ (n:Int)(h:i64 n):IntKind.wrap .u64 n=if n<0 then n+18446744073709551616 else n:=by
 unfold i64 at h
 have e:IntKind.wrap .u64 n=n%18446744073709551616:=rfl
 rw[e]
 split<;>omega
theorem adD (n:Int)(K:J->Prop)(h:Au.T [.d (.int .i64 n)] K):KA n K:=by
 obtain⟨ar,ab⟩:=h
 unfold KA
 have qJ:=ar
 unfold i64 at qJ
 refine⟨fun v=>v=(n.natAbs:Int),⟨fun h=> ?_,fun h=> ?_⟩, ?_⟩
 ·have h:=asC h
  rw[Q_ n ar,asq h]
  have e:IntKind.wrap .u64 (0-(n+18446744073709551616))=(0-(n+18446744073709551616))%18446744073709551616:=rfl
  rw[e];omega
 ·have h:=asE h
  rw[Q_ n ar,asp h];omega
 ·rintro v rfl
  have an:IntKind.wrap .u32 (n.natAbs:Int)=(n.natAbs:Int)%4294967296:=rfl
  have az:IntKind.wrap .u32 (Int.fdiv (n.natAbs:Int) 4294967296)=(Int.fdiv (n.natAbs:Int) 4294967296)%4294967296:=rfl
  have bK:Int.fdiv (n.natAbs:Int) 4294967296=(n.natAbs:Int)/4294967296:=as_ _ (by decide)
  rw[an,az,bK]
  refine⟨⟨.mk ⟨by omega,by omega⟩ (.mk ⟨by omega,by omega⟩ .nil),by simp⟩, ?_⟩
  rintro _ rfl
  have aS:val [(n.natAbs:Int)%4294967296,(n.natAbs:Int)/4294967296%4294967296]=n.natAbs:=by
   simp only[val];omega
  rw[aS];exact ab
theorem Yh (n:Int):ag (decide (n<0)) (ah n.natAbs) [1]=(n:Rat):=by
 unfold ag
 rw[cq,val_one,p6,Rat.mkRat_one]
theorem Gj {n:Int}(h:i64 n):aF (ah n.natAbs):=by
 unfold i64 at h
 exact⟨dN _,asZ ((eH (k:=2)).2 (by omega)) (by decide)⟩
theorem ahS (n:Int)(K:J->Prop)(h:td.T [.d (.int .i64 n)] K):Od n K:=by
 obtain⟨ar,ab⟩:=h
 unfold Od
 refine⟨ar, ?_⟩
 rintro _ rfl _ rfl
 refine⟨⟨Gj ar,BM,by decide⟩, ?_⟩
 rw[Yh]
 rintro _ rfl _ rfl _ rfl
 refine⟨trivial, ?_⟩
 rintro _ rfl _ rfl _ rfl
 exact ab
theorem E4 (n d:Int)(aP:d≠0):mkRat (cA (decide (n<0) !=decide (d<0)) n.natAbs) d.natAbs=Rat.divInt n d:=by
 rw[<-Rat.divInt_ofNat]
 rw[Rat.divInt_eq_divInt_iff (by omega) aP]
 unfold cA
 by_cases U:n<0<;>by_cases aa:d<0
 ·rw[show((n.natAbs:Nat):Int)=-n by omega,show((d.natAbs:Nat):Int)=-d by omega]
  simp[U,aa,Int.neg_mul,Int.mul_neg]
 ·rw[show((n.natAbs:Nat):Int)=-n by omega,show((d.natAbs:Nat):Int)=d by omega]
  simp[U,aa]
 ·rw[show((n.natAbs:Nat):Int)=n by omega,show((d.natAbs:Nat):Int)=-d by omega]
  simp[U,aa,Int.neg_mul,Int.mul_neg]
 ·rw[show((n.natAbs:Nat):Int)=n by omega,show((d.natAbs:Nat):Int)=d by omega]
  simp[U,aa]
theorem Qb {k:Nat}{x y:Nat}(af:x<4294967296^k)(a6:y<4294967296^k):x+y<4294967296^(k+1):=by
 rw[asU]
 generalize (4294967296:Nat)^k=W at*
 omega
theorem XC {a b:Nat}:decide (cmp a b<0)=decide (a<b):=by
 unfold cmp
 by_cases h:a<b
 ·simp[h]
 ·by_cases aa:a=b
  ·simp[aa]
  ·simp[h,aa]
theorem aeu (s:Bool)(a:List Int)(t:Bool)(b d:List Int)(K:J->Prop)(h:A9.T [.d (.bool s), .d (.ints .u32 a), .d (.bool t), .d (.ints .u32 b), .d (.ints .u32 d)] K):K_ s a t b d K:=by
 obtain⟨⟨aC,ae,aP,qG⟩,ab⟩:=h
 unfold K_
 have ov:aF a:=aC.b5
 have y7:aF b:=ae.b5
 refine⟨fun h=>⟨⟨ov,y7⟩, ?_⟩,fun h=>⟨fun v0 v1 v3=>v0=(if val a<val b then t else s)/\v1=(if val a<val b then b else a)/\v3=(if val a<val b then a else b),⟨⟨ov,y7⟩, ?_⟩, ?_⟩⟩
 ·obtain rfl:s=t:=by simpa using h
  rintro _ rfl
  refine⟨⟨(mC (Qb aC.val ae.val)).b5,aP,qG⟩, ?_⟩
  rw[P3]at ab
  unfold ag
  rw[cq]
  rintro _ rfl _ rfl _ rfl
  exact ab
 ·rintro _ rfl
  rw[XC]
  refine⟨fun h=>⟨rfl, ?_⟩,fun h=>⟨rfl, ?_⟩⟩
  ·have h:=asC h
   simp[asq h]
  ·have h:=asE h
   simp[asp h]
 ·have ct:s≠t:=by intro e;subst e;simp at h
  rintro _ _ _ ⟨rfl,rfl,rfl⟩
  by_cases bB:val a<val b
  ·simp only[asq bB]
   refine⟨⟨y7,ov⟩, ?_⟩
   rw[asp (by omega),asp (by omega)]
   rintro _ rfl _ rfl
   refine⟨⟨E5 y7 (Nat.sub_le _ _),aP,qG⟩, ?_⟩
   rw[Int.add_comm,AI (atb ct) (Nat.le_of_lt bB)]at ab
   unfold ag
   rw[cq]
   rintro _ rfl _ rfl _ rfl
   exact ab
  ·simp only[asp bB]
   refine⟨⟨ov,y7⟩, ?_⟩
   rintro _ rfl _ rfl
   refine⟨⟨E5 ov (Nat.sub_le _ _),aP,qG⟩, ?_⟩
   rw[AI ct (by omega)]at ab
   unfold ag
   rw[cq]
   rintro _ rfl _ rfl _ rfl
   exact ab
theorem fv {k:Nat}{s:Bool}{a b:List Int}(aC:av k a)(ae:av k b)(ab:1<=k:=by decide):cv k (ag s a b):= .of aC ae ab
theorem FH (r q:Rat):mkRat (cA (bh r) (val (bm r)*val (bg q))+cA (bh q) (val (bm q)*val (bg r))) (val (bg r)*val (bg q))=r+q:=by
 rw[ke,jr,ke,jr,Rat.add_def']
 have e:∀(x:Rat) (n:Nat),cA (bh x) (x.num.natAbs*n)=x.num*n:=fun x n=>by
  have h:=Co (bh x) false x.num.natAbs n
  have aa:cA (bh x) x.num.natAbs=x.num:=p6 x.num
  rw[aa]at h
  have al:cA false n=(n:Int):=rfl
  rw[al,Bool.bne_false]at h
  exact h.symm
 rw[e,e]
theorem Vo {r q:Rat}(ak:r.den=1)(aN:q.den=1):mkRat (cA (bh r) (val (bm r))+cA (bh q) (val (bm q))) (val (bg r))=r+q:=by
 have h:=FH r q
 rw[jr,jr,ak,aN]at h
 rw[jr,ak]
 simpa using h
theorem Of (r q:Rat):ag (bh r !=bh q) (ah (val (bm r)*val (bm q))) (ah (val (bg r)*val (bg q)))=r*q:=by
 unfold ag
 rw[cq,cq,<-Co,ke,ke,jr,jr,Rat.mul_def']
 have U:cA (bh r) r.num.natAbs=r.num:=p6 r.num
 have aa:cA (bh q) q.num.natAbs=q.num:=p6 q.num
 rw[U,aa]
theorem l3 {k j:Nat}{a b:List Int}(aC:av k a)(ae:av j b):av (k+j) (ah (val a*val b)):=mC (q8 aC.val ae.val)
theorem ahU (s:Bool)(a b:List Int)(t:Bool)(c d:List Int)(K:J->Prop)(h:xM.T [cJ s a b,cJ t c d] K):Og s a b t c d K:=by
 obtain⟨⟨aC,ae,ay,aP⟩,ab⟩:=h
 unfold Og
 have ak:=fv (s:=s) aC ae
 have aN:=fv (s:=t) ay aP
 refine⟨⟨aC.b5,ae.b5⟩, ?_⟩
 generalize ag s a b=r at*
 rintro _ rfl _ rfl _ rfl
 refine⟨⟨ay.b5,aP.b5⟩, ?_⟩
 generalize ag t c d=q at*
 rintro _ rfl _ rfl _ rfl
 have gD:=l3 ak.num aN.den
 have ha:=l3 aN.num ak.den
 have jE:=l3 ak.den aN.den
 have jj:(aF (bm r)/\aF (bg q))/\∀x,x=ah (val (bm r)*val (bg q))->(aF (bm q)/\aF (bg r))/\∀y,y=ah (val (bm q)*val (bg r))->(aF (bg r)/\aF (bg q))/\∀z,z=ah (val (bg r)*val (bg q))->
  (av 50000000 x/\av 50000000 y/\aF z/\¬val z=0)/\mkRat (cA (bh r) (val x)+cA (bh q) (val y)) (val z)=r+q:=by
  refine⟨⟨ak.num.b5,aN.den.b5⟩, ?_⟩
  rintro _ rfl
  refine⟨⟨aN.num.b5,ak.den.b5⟩, ?_⟩
  rintro _ rfl
  refine⟨⟨ak.den.b5,aN.den.b5⟩, ?_⟩
  rintro _ rfl
  refine⟨⟨gD.mono (by decide),ha.mono (by decide),jE.b5, ?_⟩, ?_⟩
  ·rw[cq];exact Nat.mul_ne_zero (mG r) (mG q)
  ·rw[cq,cq,cq];exact FH r q
 refine⟨trivial, ?_⟩
 rintro _ rfl
 refine⟨fun U=>⟨trivial, ?_⟩,fun U=> ?_⟩
 ·have U:=asC U
  rintro _ rfl
  refine⟨fun aa=> ?_,fun aa=> ?_⟩
  ·have aa:=asC aa
   refine⟨⟨ak.num.mono (by decide),aN.num.mono (by decide),ak.den.b5,mG r⟩, ?_⟩
   rw[Vo ((FE r).1 U) ((FE q).1 aa)]
   rintro _ rfl _ rfl _ rfl
   refine⟨trivial, ?_⟩
   rintro _ rfl _ rfl _ rfl
   exact ab
  ·obtain⟨g_,cn⟩:=jj
   refine⟨g_,fun x af=> ?_⟩
   obtain⟨j3,cF⟩:=cn x af
   refine⟨j3,fun y a6=> ?_⟩
   obtain⟨sw,hN⟩:=cF y a6
   refine⟨sw,fun z bc=> ?_⟩
   obtain⟨wm,q3⟩:=hN z bc
   refine⟨wm, ?_⟩
   rw[q3]
   rintro _ rfl _ rfl _ rfl
   refine⟨trivial, ?_⟩
   rintro _ rfl _ rfl _ rfl
   exact ab
 ·obtain⟨g_,cn⟩:=jj
  refine⟨g_,fun x af=> ?_⟩
  obtain⟨j3,cF⟩:=cn x af
  refine⟨j3,fun y a6=> ?_⟩
  obtain⟨sw,hN⟩:=cF y a6
  refine⟨sw,fun z bc=> ?_⟩
  obtain⟨wm,q3⟩:=hN z bc
  refine⟨wm, ?_⟩
  rw[q3]
  rintro _ rfl _ rfl _ rfl
  refine⟨trivial, ?_⟩
  rintro _ rfl _ rfl _ rfl
  exact ab
theorem neg_num (r:Rat):bm (-r)=bm r:=by unfold bm;rw[Rat.neg_num,Int.natAbs_neg]
theorem neg_den (r:Rat):bg (-r)=bg r:=rfl
theorem Oh (r:Rat):bh (-r)=(!bh r&&decide (0<((bm r).length:Int))):=by
 have h:0<((bm r).length:Int)↔r≠0:=by
  rw[Ne,<-FF r]
  constructor
  ·intro h e;rw[e]at h;simp at h
  ·intro h
   have:(bm r).length≠0:=fun e=>h (atc.1 e)
   omega
 unfold bh
 rw[Rat.neg_num]
 have aE:r=0↔r.num=0:=Rat.num_eq_zero.symm
 by_cases U:r.num<0
 ·simp[U];omega
 ·by_cases aa:r.num=0
  ·have:¬0<((bm r).length:Int):=fun b2=>(h.1 b2) (aE.2 aa)
   rw[atQ this]
   simp[aa]
  ·have:0<((bm r).length:Int):=h.2 fun e=>aa (aE.1 e)
   rw[at0 this]
   simp[U];omega
theorem ahV (s:Bool)(a b:List Int)(K:J->Prop)(h:xN.T [cJ s a b] K):Oi s a b K:=by
 obtain⟨⟨aC,ae⟩,ab⟩:=h
 unfold Oi
 refine⟨⟨aC.b5,ae.b5⟩, ?_⟩
 rw[neg_num,neg_den,Oh]at ab
 generalize ag s a b=r at*
 rintro _ rfl _ rfl _ rfl
 refine⟨fun h=>⟨trivial, ?_⟩,fun h=>⟨trivial, ?_⟩⟩
 ·rintro _ rfl _ rfl _ rfl
  rw[h,Bool.true_and]at ab;exact ab
 ·rintro _ rfl _ rfl _ rfl
  rw[h,Bool.false_and]at ab;exact ab
theorem ahW (s:Bool)(a b:List Int)(t:Bool)(c d:List Int)(K:J->Prop)(h:xO.T [cJ s a b,cJ t c d] K):Oj s a b t c d K:=by
 obtain⟨⟨aC,ae,ay,aP⟩,ab⟩:=h
 unfold Oj
 refine⟨⟨ay,aP⟩, ?_⟩
 have aN:=(fv (s:=t) ay aP).neg
 rw[Rat.sub_eq_add_neg]at ab
 generalize ag t c d=q at*
 rintro _ rfl _ rfl _ rfl
 refine⟨⟨aC,ae,aN.num,aN.den⟩, ?_⟩
 rw[h2]
 rintro _ rfl _ rfl _ rfl
 exact ab
theorem ahX (s:Bool)(a b:List Int)(t:Bool)(c d:List Int)(K:J->Prop)(h:xP.T [cJ s a b,cJ t c d] K):Ol s a b t c d K:=by
 obtain⟨⟨aC,ae,ay,aP⟩,ab⟩:=h
 unfold Ol
 have ak:=fv (s:=s) aC ae
 have aN:=fv (s:=t) ay aP
 refine⟨⟨aC.b5,ae.b5⟩, ?_⟩
 generalize ag s a b=r at*
 rintro _ rfl _ rfl _ rfl
 refine⟨⟨ay.b5,aP.b5⟩, ?_⟩
 generalize ag t c d=q at*
 rintro _ rfl _ rfl _ rfl
 refine⟨⟨ak.num.b5,aN.num.b5⟩, ?_⟩
 rintro _ rfl
 refine⟨⟨ak.den.b5,aN.den.b5⟩, ?_⟩
 rintro _ rfl
 refine⟨⟨(l3 ak.num aN.num).b5,(l3 ak.den aN.den).b5,by rw[cq];exact Nat.mul_ne_zero (mG r) (mG q)⟩, ?_⟩
 rw[show(!bh r==bh q)=(bh r !=bh q)from rfl,Of]
 rintro _ rfl _ rfl _ rfl
 refine⟨trivial, ?_⟩
 rintro _ rfl _ rfl _ rfl
 exact ab
theorem Cu (r:Rat):hc r=decide ((((bm r).length:Nat):Int)=0):=by
 unfold hc
 have h:r=0↔(((bm r).length:Nat):Int)=0:=by
  rw[<-FF r]
  constructor
  ·intro h;rw[h];rfl
  ·intro h;exact atc.1 (by omega)
 exact auu.2 h
theorem ag8 (s:Bool)(a b:List Int)(K:J->Prop)(h:va.T [cJ s a b] K):Na s a b K:=by
 obtain⟨⟨aC,ae⟩,ab⟩:=h
 unfold Na
 refine⟨⟨aC,ae⟩, ?_⟩
 generalize ag s a b=r at*
 rintro _ rfl _ rfl _ rfl
 rw[<-Cu]
 unfold dh at ab
 refine⟨fun h=> ?_,fun h=>⟨fun U=> ?_,fun U=> ?_⟩⟩
 ·rw[asq (asC h)]at ab;exact ab
 ·rw[asp (asE h),asq ((A8 r).1 U)]at ab;exact ab
 ·rw[asp (asE h),asp (fun e=>by rw[(A8 r).2 e]at U;cases U)]at ab;exact ab
theorem ahZ (s:Bool)(a b:List Int)(t:Bool)(c d:List Int)(K:J->Prop)(h:xR.T [cJ s a b,cJ t c d] K):Oo s a b t c d K:=by
 obtain⟨⟨aC,ae,ay,aP⟩,ab⟩:=h
 unfold Oo
 refine⟨⟨aC,ae,ay,aP⟩, ?_⟩
 have ao:=(fv (s:=s) aC ae).sub (fv (s:=t) ay aP)
 generalize ag s a b-ag t c d=r at*
 rintro _ rfl _ rfl _ rfl
 refine⟨⟨ao.num.b5,ao.den.b5⟩, ?_⟩
 rw[h2]
 rintro _ rfl
 exact ab
theorem afZ (s:Bool)(a b:List Int)(t:Bool)(c d:List Int)(K:J->Prop)(h:sT.T [cJ s a b,cJ t c d] K):Mk s a b t c d K:=by
 obtain⟨aw,ab⟩:=h
 unfold Mk
 refine⟨aw, ?_⟩
 rintro _ rfl
 have e:decide (dh (ag s a b-ag t c d)=0)=decide (ag s a b=ag t c d):=auu.2 (by rw[sM];grind)
 rw[e];exact ab
theorem Ot {k:Nat}{a:List Int}(h:av k a):(dec (val a)).length<=10*k+1:=by
 have:=Bw h.1
 have aa:=h.2
 unfold dec
 split
 ·simp
 ·rw[List.length_reverse];omega
theorem Bf {r:Rat}{k:Nat}(h:cv k r):(dec r.num.natAbs).length<=10*k+1/\(dec r.den).length<=10*k+1:=by
 have U:=Ot h.num
 have aa:=Ot h.den
 rw[ke]at U
 rw[jr]at aa
 exact⟨U,aa⟩
theorem ae5 (s:Bool)(a b:List Int)(K:J->Prop)(h:xa.T [cJ s a b] K):LK s a b K:=by
 obtain⟨⟨aC,ae⟩,ab⟩:=h
 unfold LK
 have ak:=fv (s:=s) aC ae
 refine⟨⟨aC.b5,ae.b5⟩, ?_⟩
 generalize ag s a b=r at*
 obtain⟨cj,db⟩:=Bf ak
 rintro _ rfl _ rfl _ rfl
 refine⟨ak.num.b5, ?_⟩
 rintro _ rfl
 rw[ke,jr]
 refine⟨fun v=>v=(if bh r then[45]else[])++dec r.num.natAbs,⟨fun h=>⟨by omega,rfl,rfl,by rw[h];rfl⟩,fun h=>⟨rfl,rfl,by rw[h];rfl⟩⟩, ?_⟩
 rintro _ rfl
 refine⟨trivial, ?_⟩
 rintro _ rfl
 have aP:decide (bg r=[1])=decide (r.den=1):=auu.2 (FE r)
 rw[aP]
 unfold ff at ab
 refine⟨fun h=>⟨ak.den.b5, ?_⟩,fun h=> ?_⟩
 ·have h:r.den≠1:=by simpa using h
  rintro _ rfl
  rw[asp h]at ab
  refine⟨by omega, ?_,ab⟩
  simp only[as2,atf,List.length_nil]
  have:(if bh r then[45]else[]:List Int).length<=1:=by split<;>simp
  omega
 ·have h:r.den=1:=by simpa using h
  rw[asq h,auv]at ab
  exact ab
end I
end
section
open Go Go.bG
namespace I
def LM:Bool->List Int->List Int->(J->Prop)->Prop:=
 fun s a b K=>(aZ a/\a.length<=(90000000:Nat)/\aZ b/\b.length<=(90000000:Nat))/\∀x,x=ah ((val a).gcd (val b))->(aZ a/\a.length<=(90000000:Nat)/\aZ x/\x.length<=(90000000:Nat))
 /\∀au,(au=if val x=(0:Nat)then[]else ah (val a/val x))->∀ax,(ax=if val x=(0:Nat)then[]else ah (val a%val x))->∀aJ,(aJ=if val x=(0:Nat)then(3:Int)else(0:Int))
 ->(aZ b/\b.length<=(90000000:Nat)/\aZ x/\x.length<=(90000000:Nat))/\∀bb,(bb=if val x=(0:Nat)then[]else ah (val b/val x))->∀bJ,(bJ=if val x=(0:Nat)then[]else ah (val b%val x))
 ->∀aY,(aY=if val x=(0:Nat)then(3:Int)else(0:Int))->(s=true->K (J.agg [J.d (R.bool (decide ((0:Int)<↑au.length))),J.d (R.ints .u32 au),J.d (R.ints .u32 bb)]))/\(s=false
 ->K (J.agg [J.d (R.bool false),J.d (R.ints .u32 au),J.d (R.ints .u32 bb)]))
def Ou:Int->(J->Prop)->Prop:=
 fun n K=>(decide ((0:Int)<=n)=true->((-9223372036854775808:Int)<=n/\n<(9223372036854775808:Int))/\∀x,(x=if n<(0:Int)then[]else ah n.toNat)->∀au,(au=if n<(0:Int)then(1:Int)else(0:Int))
 ->K (J.agg [J.d (R.bool false),J.d (R.ints .u32 x),J.d (R.ints .u32 [(1:Int)])]))/\(decide ((0:Int)<=n)=false->((-9223372036854775808:Int)<=IntKind.i64.wrap ((0:Int)-IntKind.i64.wrap (n+(1:Int)))
 /\IntKind.i64.wrap ((0:Int)-IntKind.i64.wrap (n+(1:Int)))<(9223372036854775808:Int))/\∀x,(x=if IntKind.i64.wrap ((0:Int)-IntKind.i64.wrap (n+(1:Int)))<(0:Int)then[]else ah (IntKind.i64.wrap ((0:Int)-IntKind.i64.wrap (n+(1:Int)))).toNat)
 ->∀au,(au=if IntKind.i64.wrap ((0:Int)-IntKind.i64.wrap (n+(1:Int)))<(0:Int)then(1:Int)else(0:Int))->(aZ x/\aZ [(1:Int)]/\x.length<=(90000000:Nat)/\(1:Nat)<=(90000000:Nat))
 /\∀ax,ax=ah (val x+(1:Nat))->K (J.agg [J.d (R.bool true),J.d (R.ints .u32 ax),J.d (R.ints .u32 [(1:Int)])]))
def Ov:Int->Int->(J->Prop)->Prop:=
 fun n d K=>(decide (d=0)=true->K (J.tup [J.agg [J.d (R.bool false),J.d (R.ints .u32 []),J.d (R.ints .u32 [])],J.d (R.int .i64 3)]))/\(decide (d=0)=false->i64 n/\∀x,x=bh (IntCast.intCast n)
 ->∀au,au=bm (IntCast.intCast n)->∀ax,ax=bg (IntCast.intCast n)->i64 d/\∀aJ,aJ=bh (IntCast.intCast d)->∀bb,bb=bm (IntCast.intCast d)->∀bJ,bJ=bg (IntCast.intCast d)
 ->(av 90000000 au/\av 90000000 bb/\¬val bb=0)/\∀aY,aY=bh (ag (!x==aJ) au bb)->∀aW,aW=bm (ag (!x==aJ) au bb)->∀a7,a7=bg (ag (!x==aJ) au bb)->K (J.tup [J.agg [J.d (R.bool aY),J.d (R.ints .u32 aW),J.d (R.ints .u32 a7)],J.d (R.int .i64 0)]))
def Ni:Bool->List Int->List Int->Bool->List Int->List Int->(J->Prop)->Prop:=
 fun s a b t c d K=>((s==t)=true->(a.length<=1000000000/\c.length<=1000000000)/\∀x,x=decide (a=c)->(x=true->(b.length<=1000000000/\d.length<=1000000000)/\∀x,x=decide (b=d)
 ->K (J.d (R.bool x)))/\(x=false->K (J.d (R.bool false))))/\((s==t)=false->K (J.d (R.bool false)))
end I
end
section
open Go Go.bG
namespace I
theorem Tr (n:Nat):decide (0<((ah n).length:Int))=decide (n≠0):=by
 refine auu.2 ?_
 rw[Ne,<-nY]
 constructor
 ·intro h e;rw[e]at h;simp at h
 ·intro h
  have:(ah n).length≠0:=fun e=>h (atc.1 e)
  omega
theorem UA {a b:Nat}(ae:b≠0):decide (a/Nat.gcd a b≠0)=decide (a≠0):=by
 refine auu.2 ?_
 have aT:0<Nat.gcd a b:=Nat.gcd_pos_of_pos_right _ (by omega)
 constructor
 ·rintro h rfl;simp at h
 ·intro h e
  have:=Nat.div_mul_cancel (Nat.gcd_dvd_left a b)
  rw[e]at this;omega
theorem WR {k n:Nat}{b:List Int}(ae:av k b)(h:n<=val b):av k (ah n):=mC (at7 h ae.val)
theorem ae7 (s:Bool)(a b:List Int)(K:J->Prop)(h:BK.T [.d (.bool s), .d (.ints .u32 a), .d (.ints .u32 b)] K):LM s a b K:=by
 obtain⟨⟨aC,ae,iK⟩,ab⟩:=h
 unfold LM
 refine⟨⟨aC.1,aC.2,ae.1,ae.2⟩, ?_⟩
 have aT:Nat.gcd (val a) (val b)≠0:=fun e=>iK (Nat.gcd_eq_zero_iff.1 e).2
 rintro _ rfl
 have mv:av 90000000 (ah (Nat.gcd (val a) (val b))):=WR ae (gcd_le_right iK)
 refine⟨⟨aC.1,aC.2,mv.1,mv.2⟩, ?_⟩
 simp only[cq,asp aT]
 rintro _ rfl _ rfl _ rfl
 refine⟨⟨ae.1,ae.2,mv.1,mv.2⟩, ?_⟩
 rintro _ rfl _ rfl _ rfl
 rw[P6 iK,P7 iK,P8 iK]at ab
 refine⟨fun h=> ?_,fun h=> ?_⟩
 ·rw[Tr,UA iK]
  rw[h,Bool.true_and]at ab;exact ab
 ·rw[h,Bool.false_and]at ab;exact ab
theorem E6 (n:Int):bh (n:Rat)=decide (n<0)/\bm (n:Rat)=ah n.natAbs/\bg (n:Rat)=[1]:=by
 refine⟨rfl,rfl, ?_⟩
 exact nj
theorem ah1 (n:Int)(K:J->Prop)(h:td.T [.d (.int .i64 n)] K):Ou n K:=by
 obtain⟨ar,ab⟩:=h
 obtain⟨an,az,bK⟩:=E6 n
 rw[an,az,bK]at ab
 unfold Ou
 unfold i64 at ar
 refine⟨fun h=>⟨ar, ?_⟩,fun h=> ?_⟩
 ·have h:=asC h
  rw[asp (by omega),asp (by omega),show n.toNat=n.natAbs by omega]
  rintro _ rfl _ rfl
  rw[atQ (by omega)]at ab
  exact ab
 ·have h:=asE h
  have cz:IntKind.wrap .i64 (n+1)=n+1:=bl (by omega)
  rw[cz]
  have dO:IntKind.wrap .i64 (0-(n+1))=0-(n+1):=bl (by omega)
  rw[dO,asp (by omega),asp (by omega)]
  refine⟨by omega, ?_⟩
  rintro _ rfl _ rfl
  have ao:av 2 (ah (0-(n+1)).toNat):=mC (by omega)
  refine⟨⟨ao.1,BM.1,asZ ao.2 (by decide),by decide⟩, ?_⟩
  rw[cq,show(0-(n+1)).toNat+1=n.natAbs by omega]
  rintro _ rfl
  rw[at0 (by omega)]at ab
  exact ab
theorem Qd {n:Int}(h:i64 n):av 2 (ah n.natAbs):=by
 unfold i64 at h
 exact mC (by omega)
theorem ah2 (n d:Int)(K:J->Prop)(h:xL.T [.d (.int .i64 n), .d (.int .i64 d)] K):Ov n d K:=by
 obtain⟨⟨ar,aP⟩,ab⟩:=h
 unfold Ov
 unfold er ej ek at ab
 refine⟨fun h=> ?_,fun h=>⟨ar, ?_⟩⟩
 ·obtain rfl:=asC h
  exact ab
 ·have aE:=asE h
  obtain⟨a1,a2,a3⟩:=E6 n
  obtain⟨cn,cF,hN⟩:=E6 d
  have e:ag (decide (n<0) !=decide (d<0)) (ah n.natAbs) (ah d.natAbs)=Rat.divInt n d:=by
   unfold ag
   rw[cq,cq,E4 n d aE]
  rintro _ rfl _ rfl _ rfl
  refine⟨aP, ?_⟩
  rintro _ rfl _ rfl _ rfl
  have s1:=Qd ar
  have s2:=Qd aP
  have bc:val (ah d.natAbs)≠0:=by rw[cq];omega
  have goal:∀(x:Bool),x=bh (Rat.divInt n d)->∀y,y=bm (Rat.divInt n d)->∀z,z=bg (Rat.divInt n d)->K (.tup [.agg [.d (.bool x), .d (.ints .u32 y), .d (.ints .u32 z)], .d (.int .i64 0)]):=by
   rintro _ rfl _ rfl _ rfl
   rw[h,asp aE]at ab
   exact ab
  rw[<-e]at goal
  exact⟨⟨s1.mono (by decide),s2.mono (by decide),bc⟩,goal⟩
theorem ahc (s:Bool)(a b:List Int)(t:Bool)(c d:List Int)(K:J->Prop)(h:Cq.T [cJ s a b,cJ t c d] K):Ni s a b t c d K:=by
 obtain⟨⟨aC,ae,ay,aP⟩,ab⟩:=h
 unfold Ni
 refine⟨fun h=>⟨⟨aC,ay⟩, ?_⟩,fun h=> ?_⟩
 ·obtain rfl:s=t:=by simpa using h
  rintro _ rfl
  refine⟨fun aa=>⟨⟨ae,aP⟩, ?_⟩,fun aa=> ?_⟩
  ·rintro _ rfl
   obtain rfl:=asC aa
   have e:decide (s=s/\a=a/\b=d)=decide (b=d):=auu.2 (by simp)
   rw[e]at ab;exact ab
  ·have aa:=asE aa
   have e:decide (s=s/\a=c/\b=d)=false:=atQ fun b2=>aa b2.2.1
   rw[e]at ab
   exact ab
 ·have h:s≠t:=by simpa using h
  have e:decide (s=t/\a=c/\b=d)=false:=atQ fun b2=>h b2.1
  rw[e]at ab;exact ab
end I
end
section
open Go Go.bG
namespace I
def J9:List Int->Int->Int->Int->Int->(ad->J->Prop)->Prop:=
 fun l a s x y K=>(dd l a/\i64 (IntKind.i64.wrap (IntKind.i64.wrap (y-x)+1)))/\K (ad.cells [J.d (R.ints .i64 l),J.d (R.int .i64 (c4 l a (IntKind.i64.wrap (IntKind.i64.wrap (y-x)+1)))),J.d (R.int .i64 s)]) (J.d (R.int .i64 (IntKind.i64.wrap (x+fP l a (IntKind.i64.wrap (IntKind.i64.wrap (y-x)+1))))))
def Kj:List Int->Int->Int->(ad->J->Prop)->Prop:=
 fun l a s K=>(dd l a/\(-1000000000:Int)<=(-6:Int)/\(-6:Int)<=(6:Int)/\(6:Int)<=(1000000000:Int))/\∀x,x=l->∀au,au=c4 l a (13:Int)->∀ax,ax=s->∀aJ,aJ=kj l a (-6:Int) (6:Int)
 ->(dd x au/\(-1000000000:Int)<=(1:Int)/\(1:Int)<=(5:Int)/\(5:Int)<=(1000000000:Int))/\∀bb,bb=x->∀bJ,bJ=c4 x au (5:Int)->∀aY,aY=ax->∀aW,aW=kj x au (1:Int) (5:Int)
 ->(i64 aJ/\i64 aW)/\∀x,x=er (!decide (aW=(0:Int))) (Rat.divInt aJ aW)->∀a7,a7=ej (!decide (aW=(0:Int))) (Rat.divInt aJ aW)->∀bU,bU=ek (!decide (aW=(0:Int))) (Rat.divInt aJ aW)
 ->∀b_,(b_=if aW=(0:Int)then(3:Int)else(0:Int))->K (ad.cells [J.d (R.ints .i64 bb),J.d (R.int .i64 bJ),J.d (R.int .i64 aY)]) (J.agg [J.d (R.bool x),J.d (R.ints .u32 a7),J.d (R.ints .u32 bU)])
def J_:List Int->Int->Int->(ad->J->Prop)->Prop:=
 fun l a s K=>(dd l a/\i64 (4:Int))/\∀x,x=l->∀au,au=c4 l a (4:Int)->∀ax,ax=s->∀aJ,aJ=fP l a (4:Int)->(decide (aJ=(0:Int))=true->dd x au/\∀bb,bb=x
 ->∀bJ,bJ=tv x au->∀aY,aY=ax->∀aW,aW=bh (jv x au)->∀a7,a7=bm (jv x au)->∀bU,bU=bg (jv x au)->K (ad.cells [J.d (R.ints .i64 bb),J.d (R.int .i64 bJ),J.d (R.int .i64 aY)]) (J.agg [J.d (R.bool aW),J.d (R.ints .u32 a7),J.d (R.ints .u32 bU)]))
 /\(decide (aJ=(0:Int))=false->(decide (aJ=(1:Int))=true->(dd x au/\i64 (2:Int))/\∀bb,bb=x->∀bJ,bJ=c4 x au (2:Int)->∀aY,aY=ax->∀aW,aW=fP x au (2:Int)
 ->dd bb bJ/\∀x,x=bb->∀a7,a7=(iq bb bJ).snd->∀bU,bU=aY->∀b_,b_=(iq bb bJ).fst->dd x a7/\∀bL,bL=x->∀br,br=(iq x a7).snd->∀bC,bC=bU
 ->∀dQ,dQ=(iq x a7).fst->K (ad.cells [J.d (R.ints .i64 bL),J.d (R.int .i64 br),J.d (R.int .i64 bC)]) (J.agg [J.d (R.bool (decide (aW=(0:Int)))),J.d (R.ints .u32 b_),J.d (R.ints .u32 dQ)]))
 /\(decide (aJ=(1:Int))=false->(dd x au/\(-1000000000:Int)<=(1:Int)/\(1:Int)<=(6:Int)/\(6:Int)<=(1000000000:Int))/\∀bb,bb=x->∀bJ,bJ=c4 x au (6:Int)->∀aY,aY=ax
 ->∀aW,aW=kj x au (1:Int) (6:Int)->(dd bb bJ/\i64 (2:Int))/\∀x,x=bb->∀a7,a7=c4 bb bJ (2:Int)->∀bU,bU=aY->∀b_,b_=fP bb bJ (2:Int)->(dd x a7
 /\i64 (9:Int))/\∀bL,bL=x->∀br,br=c4 x a7 (9:Int)->∀bC,bC=bU->∀dQ,dQ=fP x a7 (9:Int)->(dd bL br/\i64 (6:Int))/\∀x,x=bL->∀eY,eY=c4 bL br (6:Int)
 ->∀eQ,eQ=bC->∀cN,cN=fP bL br (6:Int)->K (ad.cells [J.d (R.ints .i64 x),J.d (R.int .i64 eY),J.d (R.int .i64 eQ)]) (J.agg [J.d (R.bool (decide (b_=(0:Int)))),J.d (R.ints .u32 [IntKind.u32.wrap (IntKind.u32.wrap aW*IntKind.u32.wrap dQ),(0:Int)]),J.d (R.ints .u32 [IntKind.u32.wrap (IntKind.u32.wrap aW*IntKind.u32.wrap cN)])])))
end I
end
section
open Go Go.bG
namespace I
def MQ:List Int->(ad->Prop)->Prop:=
 fun l K=>(decide ((1000:Int)<↑l.length)=true->(0:Int)<=(1000:Int)/\(1000:Int)<=↑l.length/\K (ad.cells [J.d (R.ints .i64 (List.take (1000:Nat) l)),J.d (R.int .i64 (0:Int)),J.d (R.int .i64 (0:Int))]))
 /\(decide ((1000:Int)<↑l.length)=false->K (ad.cells [J.d (R.ints .i64 l),J.d (R.int .i64 (0:Int)),J.d (R.int .i64 (0:Int))]))
def Ke:List Int->Int->Int->(ad->J->Prop)->Prop:=
 fun l a s K=>(decide (↑l.length<=a)=true->K (ad.cells [J.d (R.ints .i64 l),J.d (R.int .i64 a),J.d (R.int .i64 s)]) (J.d (R.int .i64 0)))/\(decide (↑l.length<=a)=false->0<=IntKind.i64.wrap (IntKind.i64.wrap (a+1)-1)
 /\IntKind.i64.wrap (IntKind.i64.wrap (a+1)-1)<↑l.length/\K (ad.cells [J.d (R.ints .i64 l),J.d (R.int .i64 (IntKind.i64.wrap (a+1))),J.d (R.int .i64 s)]) (J.d (R.int .i64 (l.getD (IntKind.i64.wrap (IntKind.i64.wrap (a+1)-1)).toNat 0))))
def Kq:List Int->Int->Int->Int->(ad->J->Prop)->Prop:=
 fun l a s n K=>(decide (n<1)=true->K (ad.cells [J.d (R.ints .i64 l),J.d (R.int .i64 a),J.d (R.int .i64 s)]) (J.d (R.int .i64 0)))/\(decide (n<1)=false->dd l a/\¬n=0/\(decide ((pe l a).tmod n<0)=true
 ->K (ad.cells [J.d (R.ints .i64 l),J.d (R.int .i64 (tu l a)),J.d (R.int .i64 s)]) (J.d (R.int .i64 (IntKind.i64.wrap ((pe l a).tmod n+n)))))/\(decide ((pe l a).tmod n<0)=false->K (ad.cells [J.d (R.ints .i64 l),J.d (R.int .i64 (tu l a)),J.d (R.int .i64 s)]) (J.d (R.int .i64 ((pe l a).tmod n)))))
def Kb:List Int->Int->Int->List Int->(ad->J->Prop)->Prop:=
 fun l a s m K=>(dd l a/\i64 ↑m.length)/\0<=fP l a ↑m.length/\fP l a ↑m.length<↑m.length/\K (ad.cells [J.d (R.ints .i64 l),J.d (R.int .i64 (c4 l a ↑m.length)),J.d (R.int .i64 s)]) (J.d (R.int .i64 (m.getD (fP l a ↑m.length).toNat 0)))
def J2:List Int->Int->Int->(ad->J->Prop)->Prop:=
 fun l a s K=>(dd l a/\i64 5)/\∃(aD:Int->List Int->Int->Int->List Int->Prop),∃(m:Int->List Int->Int->Int->List Int->Nat),aD (fP l a 5) l (c4 l a 5) s []/\∀(v4:Int) (l:List Int) (a s:Int) (bn:List Int),aD v4 l a s bn
 ->(decide (0<v4)=true->(dd l a/\0<12/\12<=1000)/\((bn.length:Int)+↑[IntKind.u32.wrap (qj l a [0,1,2,3,10,97,65536,2147483648,4294967295,4294967291,123456789,4000000007])].length)*4<=70368744177664
 /\aD (IntKind.i64.wrap (v4-1)) l (c4 l a 12) s (bn++[IntKind.u32.wrap (qj l a [0,1,2,3,10,97,65536,2147483648,4294967295,4294967291,123456789,4000000007])])/\m (IntKind.i64.wrap (v4-1)) l (c4 l a 12) s (bn++[IntKind.u32.wrap (qj l a [0,1,2,3,10,97,65536,2147483648,4294967295,4294967291,123456789,4000000007])])<m v4 l a s bn)
 /\(decide (0<v4)=false->K (ad.cells [J.d (R.ints .i64 l),J.d (R.int .i64 a),J.d (R.int .i64 s)]) (J.d (R.ints .u32 bn)))
end I
end
section
open Go Go.bG
theorem I.afs {M:List J->(ad->Prop)->Prop}(H:∀l K,I.B8.T [.d (.ints .i64 l)] K->M [.d (.ints .i64 l)] K)(args:List J)(K:ad->Prop)(hyp:I.B8.T args K):M args K:=by
 have e:∃l,args=[.d (.ints .i64 l)]:=by
  unfold I.B8.T lr at hyp
  split at hyp
  ·rename_i he
   simp only at he
   split at he
   ·exact⟨_,rfl⟩
   ·cases he
  ·exact hyp.elim
 obtain⟨l,bw⟩:=e
 subst bw
 exact H l K hyp
theorem I.aft {M:J->ad->List J->(ad->J->Prop)->Prop}(H:∀l a s K,I.B9.T (.ptr 0 0) (.cells [.d (.ints .i64 l), .d (.int .i64 a), .d (.int .i64 s)]) [] K->M (.ptr 0 0) (.cells [.d (.ints .i64 l), .d (.int .i64 a), .d (.int .i64 s)]) [] K)(a0:J)(bW:ad)(args:List J)(K:ad->J->Prop)(hyp:I.B9.T a0 bW args K):M a0 bW args K:=by
 have e:∃l a s,a0= .ptr 0 0/\bW= .cells [.d (.ints .i64 l), .d (.int .i64 a), .d (.int .i64 s)]/\args=[]:=by
  unfold I.B9.T eO at hyp
  split at hyp
  ·rename_i he
   simp only at he
   split at he
   ·split at he
    ·rename_i ae ay
     obtain rfl:=ast ae
     obtain rfl:=ast ay
     exact⟨_,_,_,rfl,rfl,rfl⟩
    ·cases he
   ·cases he
  ·exact hyp.elim
 obtain⟨l,a,s,bE,an,az⟩:=e
 subst bE an az
 exact H l a s K hyp
theorem I.ahv {M:J->ad->List J->(ad->J->Prop)->Prop}(H:∀l a s n K,I.Dh.T (.ptr 0 0) (.cells [.d (.ints .i64 l), .d (.int .i64 a), .d (.int .i64 s)]) [.d (.int .i64 n)] K->M (.ptr 0 0) (.cells [.d (.ints .i64 l), .d (.int .i64 a), .d (.int .i64 s)]) [.d (.int .i64 n)] K)(a0:J)(bW:ad)(args:List J)(K:ad->J->Prop)(hyp:I.Dh.T a0 bW args K):M a0 bW args K:=by
 have e:∃l a s n,a0= .ptr 0 0/\bW= .cells [.d (.ints .i64 l), .d (.int .i64 a), .d (.int .i64 s)]/\args=[.d (.int .i64 n)]:=by
  unfold I.Dh.T eO at hyp
  split at hyp
  ·rename_i he
   simp only at he
   split at he
   ·split at he
    ·rename_i ae ay
     obtain rfl:=ast ae
     obtain rfl:=ast ay
     exact⟨_,_,_,_,rfl,rfl,rfl⟩
    ·cases he
   ·cases he
  ·exact hyp.elim
 obtain⟨l,a,s,n,bE,an,az⟩:=e
 subst bE an az
 exact H l a s n K hyp
theorem I.aeI {M:J->ad->List J->(ad->J->Prop)->Prop}(H:∀l a s m K,I.By.T (.ptr 0 0) (.cells [.d (.ints .i64 l), .d (.int .i64 a), .d (.int .i64 s)]) [.d (.ints .i64 m)] K->M (.ptr 0 0) (.cells [.d (.ints .i64 l), .d (.int .i64 a), .d (.int .i64 s)]) [.d (.ints .i64 m)] K)(a0:J)(bW:ad)(args:List J)(K:ad->J->Prop)(hyp:I.By.T a0 bW args K):M a0 bW args K:=by
 have e:∃l a s m,a0= .ptr 0 0/\bW= .cells [.d (.ints .i64 l), .d (.int .i64 a), .d (.int .i64 s)]/\args=[.d (.ints .i64 m)]:=by
  unfold I.By.T eO at hyp
  split at hyp
  ·rename_i he
   simp only at he
   split at he
   ·split at he
    ·rename_i ae ay
     obtain rfl:=ast ae
     obtain rfl:=ast ay
     exact⟨_,_,_,_,rfl,rfl,rfl⟩
    ·cases he
   ·cases he
  ·exact hyp.elim
 obtain⟨l,a,s,m,bE,an,az⟩:=e
 subst bE an az
 exact H l a s m K hyp
theorem I.aea {M:J->ad->List J->(ad->J->Prop)->Prop}(H:∀l a s K,I.AV.T (.ptr 0 0) (.cells [.d (.ints .i64 l), .d (.int .i64 a), .d (.int .i64 s)]) [] K->M (.ptr 0 0) (.cells [.d (.ints .i64 l), .d (.int .i64 a), .d (.int .i64 s)]) [] K)(a0:J)(bW:ad)(args:List J)(K:ad->J->Prop)(hyp:I.AV.T a0 bW args K):M a0 bW args K:=by
 have e:∃l a s,a0= .ptr 0 0/\bW= .cells [.d (.ints .i64 l), .d (.int .i64 a), .d (.int .i64 s)]/\args=[]:=by
  unfold I.AV.T eO at hyp
  split at hyp
  ·rename_i he
   simp only at he
   split at he
   ·split at he
    ·rename_i ae ay
     obtain rfl:=ast ae
     obtain rfl:=ast ay
     exact⟨_,_,_,rfl,rfl,rfl⟩
    ·cases he
   ·cases he
  ·exact hyp.elim
 obtain⟨l,a,s,bE,an,az⟩:=e
 subst bE an az
 exact H l a s K hyp
end
section
open Go Go.bG
namespace I
theorem dd.getD {l:List Int}{a:Int}(h:dd l a)(n:Nat):i64 (l.getD n 0):=by
 rw[ass]
 cases e:l[n]? with
 |none=>simp[i64]
 |some x=>exact h.2.2 x (atG e)
theorem dd.raw {l:List Int}{a:Int}(h:dd l a):dd l (tu l a)/\i64 (pe l a):=by
 refine⟨⟨?_,h.2⟩, ?_⟩
 ·have:=h.1;unfold tu;split<;>omega
 ·unfold pe;split
  ·simp[i64]
  ·exact h.getD _
theorem dd.num {l:List Int}{a:Int}(h:dd l a)(n:Int):dd l (c4 l a n)/\0<=fP l a n/\(1<=n->fP l a n<n)/\(n<1->fP l a n=0):=by
 unfold c4 fP
 split
 ·exact⟨h,by omega,by omega,by omega⟩
 ·exact⟨h.raw.1,Int.emod_nonneg _ (by omega),fun _=>Int.emod_lt_of_pos _ (by omega),by omega⟩
theorem agm (l:List Int)(K:ad->Prop)(h:B8.T [.d (.ints .i64 l)] K):MQ l K:=by
 obtain⟨_,ab⟩:=h
 unfold MQ
 refine⟨fun h=> ?_,fun h=> ?_⟩
 ·simp only[asw]at h
  exact⟨by omega,by omega,ab⟩
 ·simp only[asv]at h
  rw[aul (by omega)]at ab
  exact ab
theorem ac5 (l:List Int)(a s:Int)(K:ad->J->Prop)(h:B9.T (.ptr 0 0) (st l a s) [] K):Ke l a s K:=by
 obtain⟨aH,ab⟩:=h
 unfold Ke
 unfold tu pe at ab
 have aE:=aH.1
 have U:=aH.2.1
 refine⟨fun h=> ?_,fun h=> ?_⟩
 ·simp only[asw]at h
  rw[asq h,asq h]at ab;exact ab
 ·simp only[asv]at h
  rw[asp h,asp h]at ab
  rw[bl (x:=a+1) (by omega),bl (by omega)]
  refine⟨by omega,by omega, ?_⟩
  rw[Int.add_sub_cancel];exact ab
theorem Wl {x n:Int}(h:1<=n):(x.tmod n<0->x.tmod n+n=x%n)/\(¬x.tmod n<0->x.tmod n=x%n)/\-n<x.tmod n/\x.tmod n<n:=by
 have U:-n<x.tmod n:=by have:=Int.lt_tmod_of_pos x (show 0<n by omega);omega
 have aa:x.tmod n<n:=Int.tmod_lt_of_pos x (by omega)
 have al:(x.tmod n)%n=x%n:=by rw[Int.tmod_def,Int.sub_mul_emod_self_left]
 refine⟨fun h=> ?_,fun h=> ?_,U,aa⟩
 ·rw[<-al,<-Int.add_emod_right]
  exact(auK (by omega) (by omega)).symm
 ·rw[<-al]
  exact(auK (by omega) (by omega)).symm
theorem adq (l:List Int)(a s n:Int)(K:ad->J->Prop)(h:Dh.T (.ptr 0 0) (st l a s) [.d (.int .i64 n)] K):Kq l a s n K:=by
 obtain⟨⟨aH,ar⟩,ab⟩:=h
 unfold Kq
 unfold c4 fP at ab
 refine⟨fun h=> ?_,fun h=> ?_⟩
 ·simp only[asw]at h
  rw[asq h,asq h]at ab;exact ab
 ·simp only[asv]at h
  rw[asp h,asp h]at ab
  obtain⟨t1,t2,t3,t4⟩:=Wl (x:=pe l a) (n:=n) (by omega)
  unfold i64 at ar
  refine⟨aH,by omega,fun h=> ?_,fun h=> ?_⟩
  ·simp only[asw]at h
   rw[bl (by omega),t1 h];exact ab
  ·simp only[asv]at h
   rw[t2 h];exact ab
theorem acZ (l:List Int)(a s:Int)(m:List Int)(K:ad->J->Prop)(h:By.T (.ptr 0 0) (st l a s) [.d (.ints .i64 m)] K):Kb l a s m K:=by
 obtain⟨⟨aH,hm,yR⟩,ab⟩:=h
 unfold Kb
 obtain⟨_,U,aa,_⟩:=aH.num (m.length:Int)
 exact⟨⟨aH,by unfold i64;omega⟩,U,aa (by omega),ab⟩
theorem Un (n:Nat):0<=pT.getD n 0/\pT.getD n 0<4294967296:=by
 have:∀x∈pT,0<=x/\x<4294967296:=by decide
 rw[ass]
 cases e:pT[n]? with
 |none=>simp
 |some x=>exact this x (atG e)
theorem NP (l:List Int)(a:Int):0<=qj l a pT/\qj l a pT<4294967296:=Un _
theorem acN (l:List Int)(a s:Int)(K:ad->J->Prop)(h:AV.T (.ptr 0 0) (st l a s) [] K):J2 l a s K:=by
 obtain⟨aH,ab⟩:=h
 unfold J2
 obtain⟨fq,v1,v2,_⟩:=aH.num 5
 have v2:=v2 (by decide)
 refine⟨⟨aH,by unfold i64;decide⟩,fun i c2 cI k5 o=>c2=l/\k5=s/\0<=i/\i<=4/\dd l cI/\(o.length:Int)+i<=4/\p4 l i.toNat cI o=iq l a,fun i _ _ _ _=>i.toNat,
  ⟨rfl,rfl,v1,by omega,fq,by simp;omega,rfl⟩, ?_⟩
 rintro i c2 cI k5 o ⟨rfl,rfl,i0,i4,hs,aq,nH⟩
 refine⟨fun h=> ?_,fun h=> ?_⟩
 ·simp only[asw]at h
  obtain⟨ZM,_,_,_⟩:=hs.num 12
  rw[bl (by omega)]
  refine⟨⟨hs,by decide,by decide⟩,by simp;omega,⟨rfl,rfl,by omega,by omega,ZM,by show((o++[_]).length:Int)+_<=4;simp;omega, ?_⟩,by show(i-1).toNat<i.toNat;omega⟩
  rw[<-nH]
  obtain⟨n,ar⟩:∃n:Nat,i.toNat=n+1:=⟨i.toNat-1,by omega⟩
  rw[show(i-1).toNat=n by omega,ar]
  show p4 c2 n _ (o++[IntKind.wrap .u32 (qj c2 cI pT)])=p4 c2 n _ (o++[_])
  rw[gF (NP c2 cI)]
 ·simp only[asv]at h
  rw[show i.toNat=0 by omega]at nH
  rw[<-nH]at ab
  exact ab
theorem L4 {l:List Int}:∀(n:Nat) (a:Int) (o:List Int),dd l a->aZ o->dd l (p4 l n a o).2/\aZ (p4 l n a o).1/\(p4 l n a o).1.length=o.length+n
 |0,a,o,h,aH=>⟨h,aH,rfl⟩
 |n+1,a,o,h,aH=>by
  have:=L4 n (c4 l a 12) (o++[qj l a pT]) (h.num 12).1 (aH.append (.mk (NP l a) .nil))
  refine⟨this.1,this.2.1, ?_⟩
  have al:=this.2.2
  rw[as2,atZ]at al
  show(p4 l n _ _).1.length=_
  rw[al];omega
theorem dd.ah {l:List Int}{a:Int}(h:dd l a):dd l (iq l a).2/\aZ (iq l a).1/\(iq l a).1.length<=4:=by
 obtain⟨fq,v1,v2,_⟩:=h.num 5
 have v2:=v2 (by decide)
 obtain⟨U,aa,al⟩:=L4 (fP l a 5).toNat (c4 l a 5) [] fq .nil
 exact⟨U,aa,by unfold iq;rw[al];simp;omega⟩
theorem dd.new {l:List Int}(h:∀x∈l,i64 x):dd (l.take 1000) 0:=⟨by omega,by simp;omega,fun x af=>h x (List.mem_of_mem_take af)⟩
theorem ahw {l:List Int}(h:∀n∈l,IntKind.min .i64<=n/\n<=IntKind.max .i64):∀x∈l,i64 x:=fun x af=>by
 have h:=h x af
 have an:IntKind.i64.min=-9223372036854775808:=by decide
 have az:IntKind.i64.max=9223372036854775807:=by decide
 unfold i64
 omega
end I
end
section
open Go Go.bG
namespace I
theorem pW {l:List Int}{a lo hi:Int}(h:dd l a)(U:lo<=hi):lo<=kj l a lo hi/\kj l a lo hi<=hi:=by
 obtain⟨_,g1,g2,_⟩:=h.num (hi-lo+1)
 have:=g2 (by omega)
 unfold kj;omega
theorem acW (l:List Int)(a s x y:Int)(K:ad->J->Prop)(h:Ba.T (.ptr 0 0) (st l a s) [.d (.int .i64 x), .d (.int .i64 y)] K):J9 l a s x y K:=by
 obtain⟨⟨aH,U,aa,al⟩,ab⟩:=h
 have ak:=pW aH aa
 unfold kj at ak ab
 unfold J9
 rw[bl (x:=y-x) (by omega),bl (x:=y-x+1) (by omega),bl (x:=x+_) (by omega)]
 exact⟨⟨aH,by unfold i64;omega⟩,ab⟩
theorem adb (l:List Int)(a s:Int)(K:ad->J->Prop)(h:Ct.T (.ptr 0 0) (st l a s) [] K):Kj l a s K:=by
 obtain⟨aH,ab⟩:=h
 unfold Kj
 refine⟨⟨aH,by decide,by decide,by decide⟩, ?_⟩
 have bn:=(aH.num 13).1
 have c3:=pW (lo:=-6) (hi:=6) aH (by decide)
 have cP:=pW (lo:=1) (hi:=5) bn (by decide)
 rintro _ rfl _ rfl _ rfl _ rfl
 refine⟨⟨bn,by decide,by decide,by decide⟩, ?_⟩
 rintro _ rfl _ rfl _ rfl x af
 have lH:x≠0:=by omega
 refine⟨⟨by unfold i64;omega,by unfold i64;omega⟩, ?_⟩
 unfold er ej ek
 rw[atQ lH,af]
 rintro _ rfl _ rfl _ rfl _ _
 exact ab
theorem BL {l:List Int}{a:Int}(h:dd l a)(n:Int)(ar:1<=n:=by decide):0<=fP l a n/\fP l a n<n:=⟨(h.num n).2.1,(h.num n).2.2.1 ar⟩
theorem Q9 {bp N:Int}(U:1<=bp)(aa:bp<=6)(al:0<=N)(aL:N<=8):IntKind.wrap .u32 (IntKind.wrap .u32 bp*IntKind.wrap .u32 N)=bp*N:=by
 have Ij:∀{x:Int},0<=x->x<4294967296->IntKind.wrap .u32 x=x:=fun U aa=>auK U aa
 have abp:0<=bp*N/\bp*N<=6*8:=⟨Int.mul_nonneg (by omega) (by omega),Int.mul_le_mul (by omega) (by omega) (by omega) (by omega)⟩
 rw[Ij (x:=bp) (by omega) (by omega),Ij (x:=N) (by omega) (by omega),Ij (x:=bp*N) (by omega) (by omega)]
theorem acX (l:List Int)(a s:Int)(K:ad->J->Prop)(h:Bb.T (.ptr 0 0) (st l a s) [] K):J_ l a s K:=by
 obtain⟨aH,ab⟩:=h
 unfold J_
 unfold hh iG iH kk o5 at ab
 refine⟨⟨aH,by unfold i64;decide⟩, ?_⟩
 have bn:=(aH.num 4).1
 rintro _ rfl _ rfl _ rfl v rfl
 refine⟨fun h=>⟨bn, ?_⟩,fun h=>⟨fun aa=>⟨⟨bn,by unfold i64;decide⟩, ?_⟩,fun aa=>⟨⟨bn,by decide,by decide,by decide⟩, ?_⟩⟩⟩
 ·have h:=asC h
  rintro _ rfl _ rfl _ rfl _ rfl _ rfl _ rfl
  simp only[h,atj]at ab
  exact ab
 ·have h:=asE h
  have aa:=asC aa
  simp only[aa,show ¬(1:Int)=0 by decide,atj,if_false]at ab
  have ba:=(bn.num 2).1
  have cp:=ba.ah.1
  rintro _ rfl _ rfl _ rfl _ rfl
  refine⟨ba, ?_⟩
  rintro _ rfl _ rfl _ rfl _ rfl
  refine⟨cp, ?_⟩
  rintro _ rfl _ rfl _ rfl _ rfl
  exact ab
 ·have h:=asE h
  have aa:=asE aa
  simp only[h,aa,if_false]at ab
  have ba:=(bn.num 6).1
  have cp:=(ba.num 2).1
  have fs:=(cp.num 9).1
  have r:=pW (lo:=1) (hi:=6) bn (by decide)
  have SA:=BL cp 9
  have SB:=BL fs 6
  have Z6:=Q9 r.1 r.2 SA.1 (by omega)
  have Z7:=Q9 r.1 r.2 SB.1 (by omega)
  rintro _ rfl _ rfl _ rfl _ rfl
  refine⟨⟨ba,by unfold i64;decide⟩, ?_⟩
  rintro _ rfl _ rfl _ rfl _ rfl
  refine⟨⟨cp,by unfold i64;decide⟩, ?_⟩
  rintro _ rfl _ rfl _ rfl _ rfl
  refine⟨⟨fs,by unfold i64;decide⟩, ?_⟩
  rintro _ rfl _ rfl _ rfl _ rfl
  rw[Z6,Z7]
  exact ab
theorem rj {l:List Int}{a:Int}(aH:dd l a):dd l (kk l a)/\av 4 (iG l a)/\av 4 (iH l a):=by
 have bn:=(aH.num 4).1
 unfold iG iH kk o5
 by_cases h:fP l a 4=0
 ·simp only[h,atj]
  have ba:=(bn.num 13).1
  have c3:=pW (lo:=-6) (hi:=6) bn (by decide)
  have cP:=pW (lo:=1) (hi:=5) ba (by decide)
  have ak:cv 4 (jv l (c4 l a 4)):=by
   unfold jv Hc Hd
   have aP:kj l (c4 l (c4 l a 4) 13) 1 5=((kj l (c4 l (c4 l a 4) 13) 1 5).toNat:Int):=by omega
   rw[aP,Rat.divInt_ofNat]
   exact .mk (by omega) (by omega)
  exact⟨(ba.num 5).1,ak.num,ak.den⟩
 ·simp only[h,if_false]
  by_cases U:fP l a 4=1
  ·simp only[U,atj]
   have ba:=(bn.num 2).1
   have cp:=ba.ah
   have fs:=cp.1.ah
   exact⟨fs.1,cp.2,fs.2⟩
  ·simp only[U,if_false]
   have ba:=(bn.num 6).1
   have cp:=(ba.num 2).1
   have fs:=(cp.num 9).1
   have r:=pW (lo:=1) (hi:=6) bn (by decide)
   have SA:=BL cp 9
   have SB:=BL fs 6
   generalize kj l (c4 l a 4) 1 6=bp at*
   generalize fP l (c4 l (c4 l (c4 l a 4) 6) 2) 9=SC at*
   generalize fP l (c4 l (c4 l (c4 l (c4 l a 4) 6) 2) 9) 6=SD at*
   have abp:0<=bp*SC/\bp*SC<=6*8:=⟨Int.mul_nonneg (by omega) (by omega),Int.mul_le_mul (by omega) (by omega) (by omega) (by omega)⟩
   have pJ:0<=bp*SD/\bp*SD<=6*5:=⟨Int.mul_nonneg (by omega) (by omega),Int.mul_le_mul (by omega) (by omega) (by omega) (by omega)⟩
   exact⟨(fs.num 6).1,⟨.mk ⟨by omega,by omega⟩ (.mk ⟨by omega,by omega⟩ .nil),by simp⟩,⟨.mk ⟨by omega,by omega⟩ .nil,by simp⟩⟩
theorem zv {P:Prop}:(false=true->P)=True:=by simp
theorem c3 {P:Prop}:(true=true->P)=P:=by simp
theorem cP {P:Prop}:(true=false->P)=True:=by simp
end I
end
section
open Go Go.bG
namespace I
theorem acO (a:Int)(K:J->Prop)(h:Ca.T [.d (.int .i64 a)] K):J3 a K:=by
 obtain⟨_,ab⟩:=h
 unfold J3
 simpa using ab
theorem acv (a b:Int)(K:J->Prop)(h:CN.T [.d (.int .i64 a), .d (.int .i64 b)] K):JR a b K:=by
 obtain⟨_,ab⟩:=h
 unfold JR
 refine⟨trivial, ?_⟩
 rintro _ rfl
 refine⟨trivial, ?_⟩
 rintro _ rfl
 refine⟨fun h=>by simp at h,fun _=>⟨fun h=>by simp at h,fun _=>⟨fun h=> ?_,fun h=>⟨fun aa=> ?_,fun aa=> ?_⟩⟩⟩⟩
 ·rw[asq (asC h)]at ab;exact ab
 ·rw[asp (asE h),asq (asC aa)]at ab;exact ab
 ·rw[asp (asE h),asp (asE aa)]at ab;exact ab
theorem gu {n:Int}(aE:0<=n)(U:n<9223372036854775808):IntKind.wrap .i64 n=n:=
 bl (by omega)
theorem wW {a b:List Int}:∀(i:Nat),i<=a.length->i<=b.length->(∀j,j<i->a.getD j 0=b.getD j 0)->dR a b=dR (a.drop i) (b.drop i)
 |0,_,_,_=>by simp
 |i+1,aC,ae,h=>by
  rw[wW i (by omega) (by omega) fun j aK=>h j (by omega)]
  have e:=h i (by omega)
  rw[atX (i:=i) (by omega),atX (i:=i) (l:=b) (by omega),dR]
  rw[ass,ass,asI (by omega),asI (by omega)]at e
  simp only[atv]at e
  rw[e,asp (Int.lt_irrefl _),asp (Int.lt_irrefl _)]
theorem ab5 (a b:List Int)(K:J->Prop)(h:AW.T [.d (.ints .i64 a), .d (.ints .i64 b)] K):Ju a b K:=by
 obtain⟨⟨eU,eG⟩,ab⟩:=h
 unfold Ju
 refine⟨fun v=>∃i:Nat,v=i/\i<=a.length/\i<=b.length/\∀j,j<i->a.getD j 0=b.getD j 0,fun v=>a.length-v.toNat,⟨0,rfl,by omega,by omega,fun j aK=>by omega⟩, ?_⟩
 rintro _ ⟨i,rfl,U,aa,al⟩
 simp only[as8,asv,asu]
 refine⟨fun aL=>⟨by omega,aL,fun bo=> ?_,fun bo=>⟨by omega,by omega,trivial, ?_⟩⟩,fun aL=>⟨fun bo=> ?_,fun bo=> ?_⟩⟩
 ·have aC:i<a.length:=by omega
  rw[wW i U aa al,auN (show b.length<=i by omega),atX (i:=i) aC,dR]at ab
  ·exact ab
  ·simp;exact aC
 ·have aC:i<a.length:=by omega
  have ae:i<b.length:=by omega
  have e:=wW i U aa al
  rw[atX (i:=i) aC,atX (i:=i) (l:=b) ae,dR]at e
  have g1:a.getD i 0=a[i]:=by simp[ass,aC]
  have g2:b.getD i 0=b[i]:=by simp[ass,ae]
  simp only[g1,g2]
  rintro _ rfl
  refine⟨fun bX=> ?_,fun bX=> ?_⟩
  ·have:dR a b=if a[i]<b[i]then-1 else if b[i]<a[i]then 1 else 0:=by
    rw[e]
    split
    ·rfl
    ·split
     ·rfl
     ·exfalso;rename_i aU a_;simp[aU,a_]at bX
   rw[this]at ab;exact ab
  ·have jf:a[i]=b[i]:=by
    have bX:(if a[i]<b[i]then(-1:Int)else if b[i]<a[i]then 1 else 0)=0:=by simpa using bX
    split at bX
    ·cases bX
    ·split at bX
     ·cases bX
     ·omega
   rw[gu (by omega) (by omega)]
   refine⟨⟨i+1,rfl,by omega,by omega,fun j aK=> ?_⟩,by omega⟩
   by_cases y0:j=i
   ·subst y0;rw[g1,g2,jf]
   ·exact al j (by omega)
 ·have:a.drop i=[]:=auN (by omega)
  have ae:i<b.length:=by omega
  rw[wW i U aa al,this,atX (i:=i) (l:=b) ae,dR]at ab
  ·exact ab
  ·simp;exact ae
 ·rw[wW i U aa al,auN (show a.length<=i by omega),auN (show b.length<=i by omega),dR]at ab
  exact ab
theorem dZ.tP {r:Row}(h:dZ r):∀x∈r.take 8,x.isInt .i64:=by
 obtain⟨pK,gD,ha,jE,lT,j4,pJ,ud,s,a,b,rfl⟩:=h
 simp[R.isInt]
theorem MS (a b:List Int):dR a b=-1\/dR a b=0\/dR a b=1:=by
 induction a generalizing b with
 |nil=>cases b<;>simp[dR]
 |cons x a bA=>
  cases b with
  |nil=>simp[dR]
  |cons y b=>
   rw[dR]
   split
   ·exact .inl rfl
   ·split
    ·exact .inr (.inr rfl)
    ·exact bA b
theorem NT (a b:List Int):IntKind.wrap .i64 (0-dR a b)=-dR a b:=by
 rcases MS a b with e|e|e<;>rw[e]<;>rfl
theorem ab0 (q:dn)(aN:q.desc=false)(a b:Row)(K:J->Prop)(h:pf.T q [.agg [.d (.int .i64 8)], .rw 11 a, .rw 11 b] K):Jq a b K:=by
 unfold pf.T spec at h
 simp only[aN]at h
 obtain⟨⟨eU,eG⟩,ab⟩:=h
 unfold Jq
 have an:(List.take 8 (List.map R.toInt (List.take 8 a)))=dY a:=by rw[<-List.map_take,List.take_take];rfl
 have az:(List.take 8 (List.map R.toInt (List.take 8 b)))=dY b:=by rw[<-List.map_take,List.take_take];rfl
 have cj:(dY a).length=8:=by simp[dY,eU.len]
 have db:(dY b).length=8:=by simp[dY,eG.len]
 refine⟨eU.len,eU.tP,by omega,by omega,eG.len,eG.tP,by omega,by omega,⟨by rw[an];omega,by rw[az];omega⟩, ?_⟩
 rintro _ rfl
 rw[an,az,NT];exact ab
theorem abP (q:dn)(aN:q.desc=true)(a b:Row)(K:J->Prop)(h:pf.T q [.agg [.d (.bool true)], .rw 11 a, .rw 11 b] K):Jf a b K:=by
 unfold pf.T spec at h
 simp only[aN]at h
 obtain⟨⟨eU,eG⟩,ab⟩:=h
 unfold Jf
 have an:(List.map R.toInt (List.take 8 a))=dY a:=rfl
 have az:(List.map R.toInt (List.take 8 b))=dY b:=rfl
 have cj:(dY a).length=8:=by simp[dY,eU.len]
 have db:(dY b).length=8:=by simp[dY,eG.len]
 refine⟨eU.len,eU.tP,eG.len,eG.tP,⟨by rw[an];omega,by rw[az];omega⟩, ?_⟩
 rintro _ rfl
 refine⟨fun _=> ?_,fun h=>by cases h⟩
 rw[an,az,NT];exact ab
theorem NU:∀(l:List Int) (a x:Int),kU a (l++[x])=if x>kU a l then x else kU a l
 |[],a,x=>rfl
 |y::l,a,x=>by rw[atP,kU,NU l,kU]
theorem acw (a:List Int)(K:J->Prop)(h:Dn.T [.d (.ints .i64 a)] K):JS a K:=by
 obtain⟨⟨aE,U⟩,ab⟩:=h
 unfold JS
 refine⟨True,⟨fun h=>by simp at h;omega,fun _=>trivial⟩,fun _=>⟨by omega,by omega,fun x v=>∃i:Nat,v=i/\1<=i/\i<=a.length/\x=kU (a.getD 0 0) ((a.take i).drop 1),fun _ v=>a.length-v.toNat,⟨1,rfl,by omega,by omega, ?_⟩, ?_⟩⟩
 ·rw[auN (by simp;omega),kU]
 ·rintro _ _ ⟨i,rfl,aa,al,rfl⟩
  simp only[as8,asv,asu]
  refine⟨fun aL=>⟨by omega,aL,⟨i+1, ?_,by omega,by omega, ?_⟩, ?_⟩,fun aL=> ?_⟩
  ·rw[gu (by omega) (by omega)];rfl
  ·have hi:i<a.length:=by omega
   have e:a.getD i 0=a[i]:=by simp[ass,hi]
   rw[auz,asI hi,Option.toList_some,List.drop_append_of_le_length (by simp;omega),NU,e]
  ·rw[gu (by omega) (by omega)];omega
  ·have:i=a.length:=by omega
   rw[this,atU];exact ab
theorem kd (m:List Int):(dG m).length=m.length:=asy ..
theorem sL (m:List Int):pD (dG m)=m:=by
 rw[pD,dG,atM];exact List.map_id' _
theorem Fx (m:List Int)(i:Nat)(h:i<m.length):(dG m).getD i .undef= .int .i64 (m.getD i 0):=by
 simp[dG,ass,h]
theorem Fy (m:List Int)(i:Nat)(x:Int):(dG m).set i (.int .i64 x)=dG (m.set i x):=by rw[dG,dG,auf]
theorem Fz:∀(m n:List Int),m.length=n.length->(fx m n).length=m.length
 |[],[],_=>rfl
 |[],_::_,h=>by cases h
 |_::_,[],h=>by cases h
 |a::m,b::n,h=>by simp only[fx,atf]at h⊢;rw[Fz m n (by omega)]
theorem NV:∀(m n:List Int) (i:Nat),i<m.length->i<n.length->(fx m n).getD i 0=m.getD i 0+n.getD i 0
 |a::m,b::n,0,_,_=>rfl
 |a::m,b::n,i+1,h,k=>NV m n i (Nat.lt_of_succ_lt_succ h) (Nat.lt_of_succ_lt_succ k)
theorem Q3 {m n:List Int}(h:m.length=n.length)(k:∀i,i<m.length->m.getD i 0=n.getD i 0):m=n:=by
 refine auF h fun i U aa=> ?_
 have:=k i U
 rw[ass,ass,asI U,asI aa]at this
 exact this
theorem oR {m:List Int}{i:Nat}(h:i<m.length):m.getD i 0∈m:=by
 rw[ass,asI h];exact atw h
theorem ac6 (a b:Row)(K:J->Prop)(h:Cb.T [.rw 8 a, .rw 8 b] K):Kf a b K:=by
 obtain⟨⟨⟨m,rfl,hm,gK⟩,n,rfl,ar,tK⟩,ab⟩:=h
 rw[sL,sL]at ab
 unfold Kf
 refine⟨fun v ai bn ba=>∃(i:Nat) (x:List Int) (r:Row),v=i/\i<=8/\ai=[dG x]/\bn=[dG n]/\ba=[r]/\x.length=8/\(∀j,j<i->x.getD j 0=m.getD j 0+n.getD j 0)/\∀j,i<=j->x.getD j 0=m.getD j 0,
  fun v _ _ _=>8-v.toNat,⟨0,m,_,rfl,by omega,rfl,rfl,rfl,hm,fun j aK=>by omega,fun j aK=>rfl⟩, ?_⟩
 rintro _ _ _ _ ⟨i,x,r,rfl,U,rfl,rfl,rfl,af,aa,al⟩
 have bE:List.getD [dG x] 0 []=dG x:=rfl
 have an:List.getD [dG n] 0 []=dG n:=rfl
 simp only[as8,asv,asu,bE,an]
 refine⟨fun aL=> ?_,fun aL=> ?_⟩
 ·have hi:i<8:=by omega
  have cn:=gK _ (oR (m:=m) (i:=i) (by omega))
  have cF:=tK _ (oR (m:=n) (i:=i) (by omega))
  rw[Fx x i (by omega),Fx n i (by omega)]
  have aa7:IntKind.wrap .i64 (R.toInt (.int .i64 (x.getD i 0))+R.toInt (.int .i64 (n.getD i 0)))=m.getD i 0+n.getD i 0:=by
   show IntKind.wrap .i64 (x.getD i 0+n.getD i 0)=_
   rw[al i (asz _),bl (by omega)]
  rw[aa7,Fy]
  refine⟨by omega,aL,rfl,by omega,aL,rfl,by omega,aL,⟨i+1,_,r,gu (by omega) (by omega),by omega,rfl,trivial,rfl,by simp[af],fun j aK=> ?_,fun j aK=> ?_⟩,by rw[gu (by omega) (by omega)];omega⟩
  ·rw[ef]
   by_cases e:i=j
   ·subst e;rw[asq ⟨rfl,by omega⟩]
   ·rw[asp (fun h=>e h.1),aa j (by omega)]
  ·rw[ef,asp (fun h=>by omega),al j (by omega)]
 ·have hi:i=8:=by omega
  subst hi
  have ex:x=fx m n:=Q3 (by rw[Fz m n (by omega)];omega) fun j aK=>by rw[aa j (by omega),NV m n j (by omega) (by omega)]
  subst ex
  refine⟨by rw[kd,af], ?_, ?_⟩
  ·show(dG (fx m n)).length=8
   rw[kd,af]
  ·exact ab
theorem En {l c2:List R}{i:Nat}{d:R}(h:l.length<=i):(l++c2).getD i d=c2.getD (i-l.length) d:=by
 rw[ass,atC h,ass]
def d_ (m:List Int)(s:Bool)(a b:List Int):Row:=dG m++[.bool s, .ints .u32 a, .ints .u32 b]
section
variable {m:List Int} {s:Bool} {a b:List Int}
theorem lh (h:m.length=8):(d_ m s a b).length=11:=by rw[d_,as2,kd,h];rfl
theorem oZ (h:m.length=8):(d_ m s a b).take 8=dG m:=by rw[d_,List.take_left'];rw[kd,h]
theorem lC (h:m.length=8):(d_ m s a b).getD 8 .undef= .bool s:=by
 rw[d_,En (by rw[kd,h];omega),kd,h];rfl
theorem kV (h:m.length=8):(d_ m s a b).getD 9 .undef= .ints .u32 a:=by
 rw[d_,En (by rw[kd,h];omega),kd,h];rfl
theorem kS (h:m.length=8):(d_ m s a b).getD 10 .undef= .ints .u32 b:=by
 rw[d_,En (by rw[kd,h];omega),kd,h];rfl
theorem Gy (h:m.length=8)(k5:Bool)(cI ee:List Int):setRow (d_ m s a b) 8 [.bool k5, .ints .u32 cI, .ints .u32 ee]=d_ m k5 cI ee:=by
 have l:(dG m).length=8:=by rw[kd,h]
 simp only[setRow,d_]
 rw[List.set_append_right _ _ (by omega),List.set_append_right _ _ (by omega),List.set_append_right _ _ (by omega),l];rfl
theorem uT (h:m.length=8):dY (d_ m s a b)=m:=by rw[dY,oZ h];exact sL m
theorem Qz (h:m.length=8):DQ (d_ m s a b)=ag s a b:=by rw[DQ,lC h,kV h,kS h];rfl
theorem lx (h:m.length=8):bs (d_ m s a b)=(m,ag s a b):=by rw[bs,uT h,Qz h]
end
theorem oP (m:List Int):(dG m).map R.toInt=m:=sL m
theorem F4 (t:bu):fL t=d_ t.1 (bh t.2) (bm t.2) (bg t.2):=rfl
theorem BA {t:bu}(h:t.1.length=8):bs (fL t)=t:=by rw[F4,lx h,h2]
theorem oS {m:List Int}(h:∀x∈m,-4000000000000000000<=x/\x<=4000000000000000000):jI (dG m):=fun x af=>by
 obtain⟨y,a6,rfl⟩:=asL.1 af
 have:=h y a6
 exact⟨rfl,by show _<=y;omega,by show y<=_;omega⟩
theorem fp.parts {k:Nat}{r:Row}(h:fp k r):∃(m:List Int) (s:Bool) (a b:List Int),r=d_ m s a b/\m.length=8/\(∀x∈m,-4000000000000000000<=x/\x<=4000000000000000000)/\av k a/\av k b:=h
theorem fp.row {k:Nat}{r:Row}(h:fp k r):dZ r:=by
 obtain⟨m,s,a,b,rfl,hm,_⟩:=h
 match m,hm with
 |[pK,gD,ha,jE,lT,j4,pJ,ud],_=>exact⟨pK,gD,ha,jE,lT,j4,pJ,ud,s,a,b,rfl⟩
theorem fp.mono {k j:Nat}{r:Row}(h:fp k r)(ab:k<=j):fp j r:=by
 obtain⟨m,s,a,b,rfl,hm,U,aa,al⟩:=h
 exact⟨m,s,a,b,rfl,hm,U,aa.mono ab,al.mono ab⟩
theorem QA {m:List Int}{s:Bool}{a b:List Int}(h:m.length=8):jm (d_ m s a b)=decide (dh (ag s a b)=0):=by rw[jm,Qz h]
theorem acx (r:Row)(K:J->Prop)(h:Cd.T [.rw 11 r] K):JT r K:=by
 obtain⟨ak,ab⟩:=h
 obtain⟨m,s,a,b,rfl,hm,_,aa,al⟩:=ak.parts
 unfold JT
 simp only[lC hm,kV hm,kS hm]
 refine⟨trivial,rfl,rfl,⟨aa.b5 (by decide),al.b5 (by decide)⟩, ?_⟩
 rintro _ rfl
 rw[QA hm]at ab;exact ab
theorem mA {l:Rows}{i:Nat}(h:i<l.length):l.getD i []∈l:=by
 rw[ass,asI h];exact atw h
theorem Pf:∀(l:Rows) (k:Int) (i:Nat),i<=l.length->(∀j,j<i->jm (l.getD j [])=false)->oh l k=oh (l.drop i) (k+i)
 |l,k,0,_,_=>by simp
 |r::l,k,i+1,h,bc=>by
  have aE:=bc 0 (by omega)
  simp only[List.getD_cons_zero]at aE
  rw[oh,aE,List.drop_succ_cons,asp (by decide),Pf l (k+1) i (by simpa using h) fun j aK=>by simpa using bc (j+1) (by omega)]
  congr 1;omega
theorem abQ (g:Nat)(l:Rows)(K:J->Prop)(h:(xh.T g) [.d (.rows 11 l), .fn g] K):Jg l K:=by
 unfold xh.T spec at h
 simp only[ato]at h
 obtain⟨⟨bj,aq⟩,ab⟩:=h
 unfold Jg
 refine⟨fun v=>∃i:Nat,v=i/\i<=l.length/\∀j,j<i->jm (l.getD j [])=false,fun v=>l.length-v.toNat,⟨0,rfl,by omega,fun j aK=>by omega⟩, ?_⟩
 rintro _ ⟨i,rfl,U,aa⟩
 have e:=Pf l 0 i U aa
 rw[Int.zero_add]at e
 simp only[as8,asv,asu]
 refine⟨fun aL=> ?_,fun aL=> ?_⟩
 ·have hi:i<l.length:=by omega
  have m9:l.getD i []=l[i]:=by simp[ass,hi]
  refine⟨by omega,aL,(bj _ (mA hi)).row.len,bj _ (mA hi), ?_⟩
  rintro _ rfl
  refine⟨fun bo=> ?_,fun bo=>⟨⟨i+1,gu (by omega) (by omega),by omega,fun j aK=> ?_⟩,by rw[gu (by omega) (by omega)];omega⟩⟩
  ·rw[e,atX hi,oh,<-m9,bo,asq rfl]at ab
   exact ab
  ·by_cases y0:j=i
   ·subst y0;exact bo
   ·exact aa j (by omega)
 ·rw[e,auN (by omega),oh]at ab
  exact ab
theorem SX:∀(l:Rows) (i:Nat),(∀j,j<i->j<l.length->jm (l.getD j [])=false)->(l.take i).filter (fun r=> !jm r)=l.take i:=fun l i h=>by
 refine List.filter_eq_self.2 fun r ak=> ?_
 obtain⟨j,aK,rfl⟩:=auM ak
 have iL:j<i/\j<l.length:=by rw[asW]at aK;omega
 have:=h j iL.1 iL.2
 rw[List.getElem_take]
 rw[ass,asI iL.2]at this
 simpa using this
theorem Mb:∀(l:Rows) (k:Int),0<=k->(oh l k=-1/\∀r∈l,jm r=false)\/∃i:Nat,i<l.length/\oh l k=k+i/\jm (l.getD i [])=true/\∀j,j<i->jm (l.getD j [])=false
 |[],k,_=> .inl ⟨rfl,by simp⟩
 |r::l,k,ab=>by
  rw[oh]
  cases bc:jm r with
  |true=>exact .inr ⟨0,by simp,by simp,by simpa using bc,fun j aK=>by omega⟩
  |false=>
   rw[asp (by decide)]
   rcases Mb l (k+1) (by omega)with⟨U,aa⟩|⟨i,U,aa,al,aL⟩
   ·refine .inl ⟨U,fun x af=> ?_⟩
    rcases asP.1 af with rfl|af
    ·exact bc
    ·exact aa x af
   ·refine .inr ⟨i+1,by simpa using U,by rw[aa];omega,by simpa using al,fun j aK=> ?_⟩
    cases j with
    |zero=>simpa using bc
    |succ j=>simpa using aL j (by omega)
theorem abN (g:Nat)(l:Rows)(K:ad->Prop)(h:(xG.T g) (.rows 11 l) [.fn g] K):Jd l K:=by
 unfold xG.T vd at h
 simp only[ato]at h
 obtain⟨⟨bj,aq⟩,ab⟩:=h
 unfold Jd
 refine⟨⟨bj,aq⟩, ?_⟩
 rintro _ rfl
 rcases Mb l 0 (Int.le_refl _)with⟨U,aa⟩|⟨i0,U,aa,al,aL⟩
 ·rw[U]
  refine⟨fun _=> ?_,fun h=>by cases h⟩
  rw[List.filter_eq_self.2 fun r ak=>by rw[aa r ak];rfl]at ab
  exact ab
 ·rw[aa,Int.zero_add]
  refine⟨fun h=>by have:=asC h;omega,fun _=> ?_⟩
  refine⟨fun a v o=>∃i j:Nat,a=i/\v=j/\i<j/\j<=l.length/\o.length=l.length/\(∀r∈o,fp 1000000 r)/\o.take i=(l.take j).filter (fun r=> !jm r)/\o.drop j=l.drop j,fun _ v _=>l.length-v.toNat,⟨i0,i0+1,rfl, ?_,by omega,by omega,rfl,bj, ?_,rfl⟩, ?_⟩
  ·rw[gu (by omega) (by omega)];rfl
  ·rw[auz,aup,SX l i0 fun j aK _=>aL j aK,asI U]
   have:jm l[i0]=true:=by
    rw[ass,asI U]at al;exact al
   simp[this]
  ·rintro _ _ o ⟨i,j,rfl,rfl,aU,a_,bF,di,eB,hb⟩
   simp only[as8,asv,asu]
   refine⟨fun bo=> ?_,fun bo=> ?_⟩
   ·have aK:j<l.length:=by omega
    have ZX:j<o.length:=by omega
    have hm:fp 1000000 (o.getD j []):=di _ (mA ZX)
    have Sp:o.getD j []=l[j]:=by
     have:=asQ (fun x:Rows=>x.getD 0 []) hb
     simp only[ass,atK,asN]at this
     rw[ass,this,asI aK];rfl
    have cz:IntKind.wrap .i64 ((j:Int)+1)=((j+1:Nat):Int):=gu (by omega) (by omega)
    have dO:IntKind.wrap .i64 ((i:Int)+1)=((i+1:Nat):Int):=gu (by omega) (by omega)
    refine⟨by omega,bo,hm.row.len,hm.row.len,hm, ?_⟩
    rintro _ rfl
    rw[cz,dO]
    refine⟨fun bX=>⟨hm.row.len,by omega,by omega,⟨i+1,j+1,rfl,rfl,by omega,by omega,by simpa using bF,fun r ak=> ?_, ?_, ?_⟩,by omega⟩,fun bX=>⟨⟨i,j+1,rfl,rfl,by omega,by omega,bF,di, ?_, ?_⟩,by omega⟩⟩
    ·rcases auI ak with ak|rfl
     ·exact di r ak
     ·exact hm
    ·rw[auz,ata,asq rfl,asq (show i<o.length by omega),List.take_set_of_le (asz _),eB,auz,aup,asI aK]
     rw[Sp]at bX⊢
     simp[bX]
    ·rw[List.drop_set_of_lt (by omega)]
     have:=asQ (List.drop 1) hb
     rwa [List.drop_drop,List.drop_drop]at this
    ·rw[eB,auz,aup,asI aK]
     rw[Sp]at bX
     simp[bX]
    ·have:=asQ (List.drop 1) hb
     rwa [List.drop_drop,List.drop_drop]at this
   ·have aK:j=l.length:=by omega
    have ajg:i<=o.length:=by omega
    have e:(o.take i++List.replicate (o.length-i) ([R.int IntKind.i64 0,R.int IntKind.i64 0,R.int IntKind.i64 0,R.int IntKind.i64 0,R.int IntKind.i64 0,R.int IntKind.i64 0,R.int IntKind.i64 0,R.int IntKind.i64 0,R.bool false,R.ints IntKind.u32 [],R.ints IntKind.u32 []]:Row)).take i=o.take i:=by
     rw[List.take_append_of_le_length (by simp;omega),List.take_take,Nat.min_self]
    refine⟨by omega,by omega,by omega,by simp;omega, ?_⟩
    rw[e,eB,aK,atU]
    exact ab
theorem abY (l:Rows)(K:ad->Prop)(h:Cc.T [.d (.rows 11 l)] K):Jo l K:=by
 obtain⟨aq,ab⟩:=h
 unfold Jo
 intro b ae
 refine⟨fun h=> ?_,fun h=>⟨by omega,ab⟩⟩
 rw[ae h]at ab;exact ab
theorem aph (m:List Int):∀(a b:Rows),aok m (a++b)=aok m a+aok m b
 |[],b=>by rw[List.nil_append,aok,as0]
 |r::a,b=>by rw[atP,aok,aok,aph m a b,atn]
theorem aqP (m:List Int)(l:Rows)(i:Nat):aok m (l.take i)<=aok m l:=by
 have:=aph m (l.take i) (l.drop i)
 rw[List.take_append_drop]at this;omega
theorem oQ {l:Rows}{i:Nat}(h:i<l.length):l.take (i+1)=l.take i++[l.getD i []]:=by
 rw[auz,asI h,ass,asI h];rfl
theorem apP {l:Rows}{i:Nat}(h:i<l.length)(m:List Int):aok m (l.take (i+1))=aok m (l.take i)+if dY (l.getD i [])=m then 1 else 0:=by
 rw[oQ h,aph,aok,aok,asN]
def j6 (m:List Int):Prop:=m.length=8/\∀x∈m,-4000000000000000000<=x/\x<=4000000000000000000
def kq:Nat->List bu->Rows
 |_,[]=>[]
 |k,t::p=>(dG t.1++[.int .i64 k])::kq (k+1) p
theorem NY:∀(k:Nat) (p:List bu) (t:bu),kq k (p++[t])=kq k p++[dG t.1++[.int .i64 ((k+p.length:Nat):Int)]]
 |k,[],t=>rfl
 |k,u::p,t=>by
  rw[atP,kq,kq,NY (k+1) p t,atP,atf,show k+1+p.length=k+(p.length+1) by omega]
theorem Mc:∀(k:Nat) (p q:List bu),p.map Prod.fst=q.map Prod.fst->kq k p=kq k q
 |k,[],[],_=>rfl
 |k,[],_::_,h=>by cases h
 |k,_::_,[],h=>by cases h
 |k,t::p,u::q,h=>by
  simp only[asX,auc]at h
  rw[kq,kq,h.1,Mc (k+1) p q h.2]
theorem NZ:∀(k:Nat) (p:List bu) (j:Nat) (t:bu),p[j]? =some t->(kq k p)[j]? =some (dG t.1++[.int .i64 ((k+j:Nat):Int)])
 |k,[],j,t,h=>by simp at h
 |k,u::p,0,t,h=>by
  obtain rfl:u=t:=by simpa using h
  rfl
 |k,u::p,j+1,t,h=>by
  have:=NZ (k+1) p j t (by simpa using h)
  rw[kq,List.getElem?_cons_succ,this,show k+1+j=k+(j+1) by omega]
theorem As {m:List Int}(h:m.length=8)(x:List R):iF 8 (dG m++x)=m:=by
 rw[iF,List.take_left' (by rw[kd,h]),oP]
theorem MT:∀(k:Nat) (p:List bu),(∀t∈p,t.1.length=8)->(kq k p).map (iF 8)=p.map Prod.fst
 |_,[],_=>rfl
 |k,t::p,h=>by rw[kq,asX,asX,As (h t (by simp)),MT (k+1) p fun u hu=>h u (by simp[hu])]
theorem Wq {k:Nat}{p:List bu}{r:Row}(h:r∈kq k p):∃t∈p,∃j:Int,r=dG t.1++[.int .i64 j]:=by
 induction p generalizing k with
 |nil=>cases h
 |cons t p bA=>
  rw[kq]at h
  rcases asP.1 h with rfl|h
  ·exact⟨t,by simp,_,rfl⟩
  ·obtain⟨u,hu,j,e⟩:=bA h
   exact⟨u,by simp[hu],j,e⟩
theorem N0 {m:List Int}(h:m.length=8)(x:List R):(dG m++x).drop 8=x:=List.drop_left' (by rw[kd,h])
theorem Xm {t:bu}(h:t.1.length=8):jm (fL t)=decide (t.2=0):=by simp only[F4,QA h,h2,sM]
theorem LF:∀{p:List bu},(∀t∈p,t.1.length=8)->(bP p).filter (fun r=> !jm r)=bP (p.filter fun t=> !decide (t.2=0))
 |[],_=>rfl
 |t::p,h=>by
  have bA:=LF (p:=p) fun u hu=>h u (by simp[hu])
  show List.filter _ (fL t::bP p)=_
  rw[at6,at6,Xm (h t (by simp))]
  split
  ·rw[bA];rfl
  ·exact bA
theorem iT (p:List bu):(bP p).length=p.length:=asy ..
theorem Wr {p:List bu}{j:Nat}{t:bu}(h:p[j]? =some t):(bP p).getD j []=fL t:=by
 rw[ass,bP,atl,h];rfl
theorem Pg {k:Nat}{t:bu}(h:j6 t.1)(ao:cv k t.2):fp k (fL t):=⟨_,_,_,_,rfl,h.1,h.2,ao.num,ao.den⟩
theorem Ph:∀{l:Rows},(∀r∈l,∃t:bu,r=fL t/\t.1.length=8)->bP (l.map bs)=l
 |[],_=>rfl
 |r::l,h=>by
  obtain⟨t,e,aA⟩:=h r (by simp)
  show fL (bs r)::bP (l.map bs)=_
  rw[Ph fun u hu=>h u (by simp[hu]),e,BA aA]
theorem hf {p:List bu}(h:∀t∈p,t.1.length=8):(bP p).map bs=p:=by
 induction p with
 |nil=>rfl
 |cons t p bA=>
  show bs (fL t)::(bP p).map bs=_
  rw[BA (h t (by simp)),bA fun u hu=>h u (by simp[hu])]
def pg (k:Nat)(l:Rows)(i:Nat)(acc:List bu):Prop:=
 acc=((l.take i).map bs).foldl h5 []/\(acc.map Prod.fst).Nodup/\(∀t∈acc,j6 t.1/\cv (aok t.1 (l.take i)*(k+1)) t.2)/\acc.length<=i
theorem pg.none {k:Nat}{l:Rows}{i:Nat}{acc:List bu}(h:pg k l i acc)(hi:i<l.length){m:List Int}{s:Bool}{a b:List Int}(e:l.getD i []=d_ m s a b)(hm:j6 m)
 (aC:av k a) (ae:av k b) (H2:1<=k) (ar:∀u∈acc,u.1≠m):pg k l (i+1) (acc++[(m,ag s a b)]):=by
 obtain⟨U,aa,al,aL⟩:=h
 have hw:=apP hi
 have ak:cv k (ag s a b):=cv.of aC ae
 refine⟨?_, ?_,fun t aA=> ?_, ?_⟩
 ·rw[oQ hi,e,as7,List.foldl_append,<-U]
  show _=h5 acc (bs (d_ m s a b))
  rw[lx hm.1,E0 ar]
 ·rw[<-E0 (t:=(m,ag s a b)) ar];exact Md aa
 ·rcases atY.1 aA with aA|aA
  ·exact⟨(al t aA).1,(al t aA).2.mono (asF _ (by rw[hw];omega))⟩
  ·obtain rfl:=atr.1 aA
   refine⟨hm,ak.mono ?_⟩
   have U:1<=aok m (l.take (i+1)):=by rw[hw,e,asq (uT hm.1)];omega
   have:=asF (k+1) U
   show k<=aok m (l.take (i+1))*(k+1)
   omega
 ·rw[as2];exact Nat.succ_le_succ aL
theorem pg.at {k:Nat}{l:Rows}{i:Nat}{acc:List bu}(h:pg k l i acc)(hi:i<l.length){m:List Int}{s:Bool}{a b:List Int}(e:l.getD i []=d_ m s a b)(hm:j6 m)
 (aC:av k a) (ae:av k b) (H2:1<=k) {j:Nat} {u:bu} (aK:acc[j]? =some u) (hu:u.1=m):pg k l (i+1) (acc.set j (m,u.2+ag s a b)):=by
 obtain⟨U,aa,al,aL⟩:=h
 have hw:=apP hi
 have ak:cv k (ag s a b):=cv.of aC ae
 have wb:h5 acc (m,ag s a b)=acc.set j (m,u.2+ag s a b):=by rw[Pj aa aK hu,hu]
 refine⟨?_, ?_,fun t aA=> ?_, ?_⟩
 ·rw[oQ hi,e,as7,List.foldl_append,<-U]
  show _=h5 acc (bs (d_ m s a b))
  rw[lx hm.1,wb]
 ·rw[<-wb];exact Md aa
 ·rcases auI aA with aA|rfl
  ·exact⟨(al t aA).1,(al t aA).2.mono (asF _ (by rw[hw];omega))⟩
  ·refine⟨hm,((al u (atG aK)).2.add ak).mono ?_⟩
   show _<=aok m (l.take (i+1))*(k+1)
   rw[hw,e,asq (uT hm.1),hu,asK,atx];omega
 ·rw[asJ];omega
theorem pg.apa {k c:Nat}{l:Rows}{i:Nat}{acc:List bu}(h:pg k l i acc)(ay:∀m,aok m l<=c)(ab:c*(2*k+2)<=900000){t:bu}(aA:t∈acc):cv 900000 t.2:=
 (h.2.2.1 t aA).2.mono (by
   have U:=asZ (aqP t.1 l i) (ay t.1)
   have aa:=asF (k+1) U
   have e:c*(2*k+2)=2*(c*(k+1)):=by rw[show 2*k+2=2*(k+1) by omega,att]
   omega)
theorem LG {l:Rows}{n:Nat}(h:n=l.length):(l.toArray.extract 0 n).toList=l:=by
 subst h;simp
theorem N1 {l:Rows}{i:Nat}(h:i<l.length):l.toArray[i]! =l.getD i []:=by
 simp[ass,h]
theorem X5 {a b:Row}:aX a b=decide (m_ (dY a) (dY b)):=by
 unfold aX fX m_
 rcases MS (dY a) (dY b)with e|e|e<;>rw[e]<;>decide
theorem MU {p acc:List bu}{x o:Rows}(dI:∀t∈acc,t.1.length=8)(ay:∀m,cG acc m=cG p m)(aP:(acc.map Prod.fst).Nodup)
 (af:x=bP (acc.filter fun t=> !decide (t.2=0))) (ao:kQ x 0 (x.length:Int) o):o=bP (nrm p):=by
 obtain⟨⟨_,U,_,al⟩,aL⟩:=ao
 have hlen:o.length=x.length:=by simpa using U
 simp only[asu]at al aL
 rw[show(0:Int).toNat=0 from rfl,LG hlen.symm,LG rfl]at al
 have l9:∀r∈o,∃t:bu,r=fL t/\t.1.length=8:=fun r ak=>by
  have:=al.mem_iff.1 ak
  rw[af,bP]at this
  obtain⟨t,aA,rfl⟩:=asL.1 this
  exact⟨t,rfl,dI t (atH.1 aA).1⟩
 rw[<-Ph l9]
 congr 1
 refine Uq ay aP ?_ ?_
 ·have:=al.map bs
  rw[af,hf fun t aA=>dI t (atH.1 aA).1]at this
  exact this
 ·rw[List.pairwise_map,List.pairwise_iff_getElem]
  intro i j hi aK y1
  have:=aL i j (by simp) y1 (by omega)
  rw[N1 aK,N1 hi,X5]at this
  have aT:=asE this
  rw[ass,ass,asI hi,asI aK]at aT
  exact aT
theorem pg.end {k:Nat}{l:Rows}{acc:List bu}(h:pg k l l.length acc):∀m,cG acc m=cG (l.map bs) m:=fun m=>by
 rw[h.1,atU,Me,cG,aty]
theorem acP (l:Rows)(K:J->Prop)(h:sK.T [.d (.rows 11 l)] K):J4 l K:=by
 obtain⟨⟨k,c,H2,bj,dP,aoX,aoP,aq⟩,ab⟩:=h
 unfold J4
 refine⟨by omega,by omega,by omega,fun v ai bn=>∃(i:Nat) (acc:List bu),v=i/\i<=l.length/\pg k l i acc/\ai=kq 0 acc/\bn=bP acc,fun v _ _=>l.length-v.toNat,
  ⟨0,[],rfl,by omega,⟨rfl, .nil,by simp,by simp⟩,rfl,rfl⟩, ?_⟩
 rintro _ _ _ ⟨i,acc,rfl,U,fH,rfl,rfl⟩
 have dI:∀t∈acc,t.1.length=8:=fun t aA=>(fH.2.2.1 t aA).1.1
 have fm:=fH.2.2.2
 simp only[as8,asv,asu]
 refine⟨fun aL=> ?_,fun aL=> ?_⟩
 ·have hi:i<l.length:=by omega
  obtain⟨m,s,a,b,e,hm,gK,aC,ae⟩:=(bj _ (mA hi)).parts
  simp only[e,lh hm,oZ hm,oP,lC hm,kV hm,kS hm]
  have wc:IntKind.wrap .i64 ((i:Int)+1)=((i+1:Nat):Int):=gu (by omega) (by omega)
  rw[wc]
  have qH:j6 m:=⟨hm,gK⟩
  by_cases af:∃u∈acc,u.1=m
  ·obtain⟨u,hu,lL⟩:=af
   obtain⟨j,aK,rfl⟩:=auM hu
   have iL:acc[j]? =some acc[j]:=asI aK
   have l_:=NZ 0 acc j _ iL
   obtain⟨q1,cb,_⟩:=uG (z:=[R.int IntKind.i64 0]) (by rw[MT 0 acc dI];exact fH.2.1) l_ (by rw[As (dI _ hu)])
   rw[lL]at q1 cb
   rw[q1,cb,N0 hm]
   have sl:R.toInt (List.getD [R.int .i64 ((0+j:Nat):Int)] 0 .undef)=(j:Int):=by rw[as0];rfl
   rw[sl]
   have gS:=fH.apa dP aoX hu
   simp only[asu,Wr iL,F4,lL,lC hm,kV hm,kS hm,iT]
   have cg:=fH.at hi e qH aC ae H2 iL lL
   refine⟨by omega,by omega,trivial,trivial,oS gK,rfl,fun _=>⟨by omega,by omega,trivial,rfl,rfl,trivial,rfl,rfl,⟨gS.num.mono (by decide),gS.den.mono (by decide),aC.mono (by omega),ae.mono (by omega)⟩, ?_⟩,fun h=>by cases h⟩
   simp only[R.toBool,R.b6,h2]
   rintro _ rfl _ rfl _ rfl
   rw[Gy hm]
   refine⟨by omega,by omega,⟨i+1,_,rfl,by omega,cg, ?_, ?_⟩,by omega⟩
   ·refine Mc 0 _ _ ?_
    have mg:(acc.map Prod.fst).set j acc[j].1=acc.map Prod.fst:=by
     have h:= @List.set_getElem_self _ (acc.map Prod.fst) j (by simpa using aK)
     simpa using h
    rw[auf,<-lL]
    exact mg.symm
   ·rw[bP,bP,auf];rfl
  ·have ar:∀u∈acc,u.1≠m:=fun u hu e=>af ⟨u,hu,e⟩
   obtain⟨q1,cb,cu⟩:=wJ (n:=8) (z:=[R.int IntKind.i64 0]) (k:=m) (l:=kq 0 acc) fun r ak=>by
    obtain⟨t,aA,j,rfl⟩:=Wq ak
    rw[As (dI t aA)];exact ar t aA
   rw[q1,cb]
   have iM:=fH.none hi e qH aC ae H2 ar
   refine⟨by omega,by omega,trivial,trivial,oS gK,rfl,(fun h=>by cases h),fun _=>⟨trivial,oS gK,trivial,trivial,rfl,rfl,⟨aC.b5 (by omega),ae.b5 (by omega)⟩, ?_⟩⟩
   simp only[R.toBool,R.b6]
   rintro _ rfl _ rfl _ rfl
   rw[cu _ _ (oP m),iT]
   refine⟨by rw[atZ];omega,⟨i+1,_,rfl,by omega,iM, ?_, ?_⟩,by omega⟩
   ·rw[NY,as0]
   ·rw[bP,bP,as7];rfl
 ·have hi:i=l.length:=by omega
  subst hi
  have lM:∀r∈bP acc,fp 1000000 r:=fun r ak=>by
   obtain⟨t,aA,rfl⟩:=asL.1 ak
   exact Pg (fH.2.2.1 t aA).1 ((fH.apa dP aoX aA).mono (by decide))
  refine⟨⟨lM,by rw[iT];omega⟩, ?_⟩
  intro x af
  rw[LF dI]at af
  have ZY:∀r∈x,fp 1000000 r:=fun r ak=>by
   rw[af]at ak
   obtain⟨t,aA,rfl⟩:=asL.1 ak
   exact lM _ (List.mem_map_of_mem (atH.1 aA).1)
  refine⟨⟨fun r ak=>(ZY r ak).row, ?_⟩,fun o aH=> ?_⟩
  ·rw[af,iT]
   have:=List.length_filter_le (fun t:bu=> !decide (t.2=0)) acc
   omega
  ·rw[MU dI fH.end fH.2.1 af aH];exact ab
theorem AX {t:bu}(h:t.1.length=8):iF 8 (fL t)=t.1:=As h _
theorem MV {t:bu}(h:t.1.length=8):(fL t).drop 8=[.bool (bh t.2), .ints .u32 (bm t.2), .ints .u32 (bg t.2)]:=N0 h _
theorem MW {p:List bu}(h:∀t∈p,t.1.length=8):(bP p).map (iF 8)=p.map Prod.fst:=by
 rw[bP,atM]
 exact auC fun t aA=>AX (h t aA)
theorem X6:ag false [] []=0:=FA rfl
theorem uM (p q:List bu):bP (p++q)=bP p++bP q:=as7
theorem ach (l:Rows)(K:J->Prop)(h:sK.T [.d (.rows 11 l)] K):JF l K:=by
 obtain⟨⟨k,c,H2,bj,dP,aoX,aoP,aq⟩,ab⟩:=h
 unfold JF
 refine⟨fun v ai bn=>∃(i:Nat) (acc:List bu),v=i/\i<=l.length/\pg k l i acc/\ai=bP acc/\bn=acc.map (fun t=>dG t.1),fun v _ _=>l.length-v.toNat,
  ⟨0,[],rfl,by omega,⟨rfl, .nil,by simp,by simp⟩,rfl,rfl⟩, ?_⟩
 rintro _ _ _ ⟨i,acc,rfl,U,fH,rfl,rfl⟩
 have dI:∀t∈acc,t.1.length=8:=fun t aA=>(fH.2.2.1 t aA).1.1
 have fm:=fH.2.2.2
 simp only[as8,asv,asu]
 refine⟨fun aL=> ?_,fun aL=> ?_⟩
 ·have hi:i<l.length:=by omega
  obtain⟨m,s,a,b,e,hm,gK,aC,ae⟩:=(bj _ (mA hi)).parts
  simp only[e,lh hm,oZ hm,oP]
  have wc:IntKind.wrap .i64 ((i:Int)+1)=((i+1:Nat):Int):=gu (by omega) (by omega)
  rw[wc]
  have qH:j6 m:=⟨hm,gK⟩
  have bc:(∃(j:Nat) (u:bu),acc[j]? =some u/\u.1=m/\cZ 8 [.bool false, .ints .u32 [], .ints .u32 []] (bP acc) m=[.bool (bh u.2), .ints .u32 (bm u.2), .ints .u32 (bg u.2)]/\l1 8 (bP acc) m=true/\
   ∀v,lj 8 (dG m) v (bP acc)=(bP acc).set j (dG m++v))\/
   ((∀u∈acc,u.1≠m)/\cZ 8 [.bool false, .ints .u32 [], .ints .u32 []] (bP acc) m=[.bool false, .ints .u32 [], .ints .u32 []]/\l1 8 (bP acc) m=false/\
     ∀v,lj 8 (dG m) v (bP acc)=bP acc++[dG m++v]):=by
   by_cases af:∃u∈acc,u.1=m
   ·obtain⟨u,hu,lL⟩:=af
    obtain⟨j,aK,rfl⟩:=auM hu
    have iL:acc[j]? =some acc[j]:=asI aK
    have l_:(bP acc)[j]? =some (fL acc[j]):=by rw[bP,atl,iL];rfl
    obtain⟨q1,cb,cu⟩:=uG (z:=[R.bool false, .ints .u32 [], .ints .u32 []]) (by rw[MW dI];exact fH.2.1) l_ (by rw[AX (dI _ hu)])
    rw[lL]at q1 cb cu
    rw[MV (dI _ hu)]at q1
    exact .inl ⟨j,_,iL,lL,q1,cb,fun v=>cu _ _ (oP m)⟩
   ·have ar:∀u∈acc,u.1≠m:=fun u hu e=>af ⟨u,hu,e⟩
    obtain⟨q1,cb,cu⟩:=wJ (n:=8) (z:=[R.bool false, .ints .u32 [], .ints .u32 []]) (k:=m) (l:=bP acc) fun r ak=>by
     obtain⟨t,aA,rfl⟩:=asL.1 ak
     rw[AX (dI t aA)];exact ar t aA
    exact .inr ⟨ar,q1,cb,fun v=>cu _ _ (oP m)⟩
  refine⟨by omega,by omega,trivial,fun ai bn ba=>ai=bP acc/\ba=[d_ m s a b]/\((∃u∈acc,u.1=m)/\bn=acc.map (fun t=>dG t.1)\/(∀u∈acc,u.1≠m)/\bn=acc.map (fun t=>dG t.1)++[dG m]),⟨trivial,oS gK, ?_⟩, ?_⟩
  ·rcases bc with⟨j,u,aK,lL,q1,cb,cu⟩|⟨ar,q1,cb,cu⟩
   ·rw[q1,cb]
    exact⟨trivial,rfl,rfl,(fun h=>by cases h),fun _=>⟨rfl,rfl, .inl ⟨⟨u,atG aK,lL⟩,rfl⟩⟩⟩
   ·rw[q1,cb]
    refine⟨trivial,rfl,rfl,fun _=>⟨trivial, ?_,rfl,rfl, .inr ⟨ar,rfl⟩⟩,(fun h=>by cases h)⟩
    rw[atZ,asy];omega
  ·rintro _ bn _ ⟨rfl,rfl,aH⟩
   have bE:List.getD [d_ m s a b] 0 []=d_ m s a b:=rfl
   simp only[bE,lh hm,oZ hm,oP,lC hm,kV hm,kS hm]
   rcases bc with⟨j,u,aK,lL,q1,cb,cu⟩|⟨ar,q1,cb,cu⟩
   ·rw[q1]
    rcases aH with⟨_,rfl⟩|⟨iM,_⟩
    rotate_left
    ·exact absurd lL (iM u (atG aK))
    have gS:=fH.apa dP aoX (atG aK)
    have cg:=fH.at hi e qH aC ae H2 aK lL
    refine⟨trivial,trivial,oS gK,trivial,rfl,rfl,trivial,rfl,rfl,⟨gS.num.mono (by decide),gS.den.mono (by decide),aC.mono (by omega),ae.mono (by omega)⟩, ?_⟩
    have m9:∀(x y z:R),[x,y,z].getD 0 .undef=x/\[x,y,z].getD 1 .undef=y/\[x,y,z].getD 2 .undef=z:=fun _ _ _=>⟨rfl,rfl,rfl⟩
    simp only[(m9 _ _ _).1,(m9 _ _ _).2.1,(m9 _ _ _).2.2,R.toBool,R.b6,h2]
    rintro _ rfl _ rfl _ rfl
    rw[cu]
    refine⟨oS gK,⟨i+1,_,rfl,by omega,cg, ?_, ?_⟩,by omega⟩
    ·rw[bP,bP,auf];rfl
    ·have hZ:j<acc.length:=(atg.1 aK).1
     have mg:(acc.map fun t=>dG t.1).set j (dG m)=acc.map fun t=>dG t.1:=by
      have h:= @List.set_getElem_self _ (acc.map fun t=>dG t.1) j (by simpa using hZ)
      rw[List.getElem_map]at h
      have az:acc[j]=u:=by
       rw[asI hZ]at aK;exact asB aK
      rw[az,lL]at h;exact h
     rw[auf];exact mg.symm
   ·rw[q1]
    rcases aH with⟨⟨u,hu,lL⟩,_⟩|⟨_,rfl⟩
    ·exact absurd lL (ar u hu)
    have iM:=fH.none hi e qH aC ae H2 ar
    refine⟨trivial,trivial,oS gK,trivial,rfl,rfl,trivial,rfl,rfl,⟨⟨.nil,atD _⟩,⟨.nil,atD _⟩,aC.mono (by omega),ae.mono (by omega)⟩, ?_⟩
    have m9:∀(x y z:R),[x,y,z].getD 0 .undef=x/\[x,y,z].getD 1 .undef=y/\[x,y,z].getD 2 .undef=z:=fun _ _ _=>⟨rfl,rfl,rfl⟩
    simp only[(m9 _ _ _).1,(m9 _ _ _).2.1,(m9 _ _ _).2.2,R.toBool,R.b6,X6,aty]
    rintro _ rfl _ rfl _ rfl
    rw[cu]
    refine⟨oS gK,⟨i+1,_,rfl,by omega,iM, ?_, ?_⟩,by omega⟩
    ·rw[uM];rfl
    ·rw[as7];rfl
 ·have hi:i=l.length:=by omega
  subst hi
  have lM:∀t∈acc,fp 1000000 (fL t):=fun t aA=>Pg (fH.2.2.1 t aA).1 ((fH.apa dP aoX aA).mono (by decide))
  refine⟨fun v ai bn ba=>∃j:Nat,v=j/\j<=acc.length/\ai=bP acc/\bn=acc.map (fun t=>dG t.1)/\ba=bP ((acc.take j).filter fun t=> !decide (t.2=0)),fun v _ _ _=>acc.length-v.toNat,
   ⟨0,rfl,by omega,rfl,rfl,rfl⟩, ?_⟩
  rintro _ _ _ _ ⟨j,rfl,aK,rfl,rfl,rfl⟩
  simp only[as8,asv,asu,asy]
  refine⟨fun bo=> ?_,fun bo=> ?_⟩
  ·have RK:j<acc.length:=by omega
   have iL:acc[j]? =some acc[j]:=asI RK
   have hu:acc[j]∈acc:=atw RK
   have qH:=(fH.2.2.1 _ hu).1
   have ao:=fH.apa dP aoX hu
   have m9:List.getD (acc.map fun t=>dG t.1) j []=dG acc[j].1:=by
    rw[ass,atl,iL];rfl
   have l_:(bP acc)[j]? =some (fL acc[j]):=by rw[bP,atl,iL];rfl
   obtain⟨q1,cb,cu⟩:=uG (z:=[R.bool false, .ints .u32 [], .ints .u32 []]) (by rw[MW dI];exact fH.2.1) l_ (by rw[AX (dI _ hu)])
   rw[MV (dI _ hu)]at q1
   have c1:IntKind.wrap .i64 ((j:Int)+1)=((j+1:Nat):Int):=gu (by omega) (by omega)
   have we:(acc.take (j+1)).filter (fun t=> !decide (t.2=0))=(acc.take j).filter (fun t=> !decide (t.2=0))++(if acc[j].2=0 then[]else[acc[j]]):=by
    rw[auz,aup,iL,Option.toList_some]
    by_cases aE:acc[j].2=0<;>simp[aE]
   have Ia:∀(x y z:R),[x,y,z].getD 0 .undef=x/\[x,y,z].getD 1 .undef=y/\[x,y,z].getD 2 .undef=z:=fun _ _ _=>⟨rfl,rfl,rfl⟩
   simp only[m9,oP,q1,kd,qH.1,c1,(Ia _ _ _).1,(Ia _ _ _).2.1,(Ia _ _ _).2.2,R.toBool,R.b6,h2]
   refine⟨by omega,bo,trivial,trivial,oS qH.2,trivial,rfl,rfl,⟨ao.num.b5 (by decide),ao.den.b5 (by decide)⟩, ?_⟩
   rintro _ rfl
   have hlen:(bP ((acc.take j).filter fun t=> !decide (t.2=0))).length<=1000000000:=by
    rw[iT]
    have:=List.length_filter_le (fun t:bu=> !decide (t.2=0)) (acc.take j)
    rw[asW]at this;omega
   refine⟨fun bX=>⟨trivial,trivial,oS qH.2,trivial,rfl,rfl, ?_,⟨j+1,rfl,by omega,trivial,trivial, ?_⟩,by omega⟩,fun bX=>⟨⟨j+1,rfl,by omega,trivial,trivial, ?_⟩,by omega⟩⟩
   ·rw[atZ];omega
   ·have aE:acc[j].2≠0:=by simpa[sM]using bX
    rw[we,asp aE,uM];rfl
   ·have aE:acc[j].2=0:=by simpa[sM]using bX
    rw[we,asq aE,auv]
  ·have aK:j=acc.length:=by omega
   subst aK
   rw[atU]
   refine⟨⟨fun r ak=> ?_, ?_⟩,fun o aH=> ?_⟩
   ·obtain⟨t,aA,rfl⟩:=asL.1 ak
    exact(lM t (atH.1 aA).1).row
   ·rw[iT]
    have:=List.length_filter_le (fun t:bu=> !decide (t.2=0)) acc
    omega
   ·rw[MU dI fH.end fH.2.1 rfl aH];exact ab
end I
end
section
namespace I
open Go Go.bG
def du:List Int:=[0,0,0,0,0,0,0,0]
def lN (k:Nat)(r:Row):Prop:=∃(m:List Int) (s:Bool) (a b:List Int),r=d_ m s a b/\m.length=8/\av k a/\av k b
def aoi (k:Nat)(p:List bu):Prop:=∀t∈p,cv k t.2
def Raw (K n:Nat)(l:Rows):Prop:=∃k c:Nat,1<=k/\(∀r∈l,lN k r)/\(∀m,aok m l<=c)/\c*(k+1)<=K/\k<=K/\l.length<=n
def dA (e:Int)(p:List bu):Prop:=∀t∈p,t.1.length=8/\∀x∈t.1,0<=x/\x<=e
def oy (v:Nat):Int->List bu->Int
 |d,[]=>d
 |d,t::p=>oy v (if t.1.getD v 0>d then t.1.getD v 0 else d) p
def lU (p:List bu)(v:Nat):Int:=oy v (-1) p
def jg:Int->List bu->Int
 |d,[]=>d
 |d,t::p=>jg (if kU (t.1.getD 0 0) (t.1.drop 1)>d then kU (t.1.getD 0 0) (t.1.drop 1)else d) p
def y2 (m:List Int):Bool:=m.all fun x=>decide (0<=x)&&decide (x<=1024)
def hI (l:Rows):Bool:=l.all fun r=>y2 (dY r)
def hF (v:Nat)(p:List bu):List bu:=(p.filter fun t=>decide (0<t.1.getD v 0)).map fun t=>(t.1.set v (t.1.getD v 0-1),t.2*((t.1.getD v 0:Int):Rat))
def oz (n:Int)(p q:List bu)(v:Nat):Bool:=decide (1024<n*max (lU p v) 0+max (lU q v) 0)
def hi (n:Int)(p q:List bu):Bool:=oz n p q 0||oz n p q 1||oz n p q 2||oz n p q 3||oz n p q 4||oz n p q 5||oz n p q 6||oz n p q 7
def ew (p q:Rows):Bool:=hI p&&hI q
def b5 (l:Rows):Prop:=cQ l/\l.length<1000000000
def Cf.T:=spec fun|[.agg [.d (.bool s), .d (.ints .u32 a), .d (.ints .u32 b)]]=>some (av 400000 a/\av 400000 b, .d (.rows 11 (bP (nrm [(du,ag s a b)]))))|_=>none
def CO.T:=spec fun|[.d (.int .i64 n)]=>some (i64 n, .d (.rows 11 (bP (nrm [(du,(n:Rat))]))))|_=>none
def CP.T:=spec fun|[.d (.rows aj p), .d (.rows iP q)]=>(match Nat.beq aj 11,Nat.beq iP 11 with|true,true=>some (iY (p++q), .d (.rows 11 (bP (nrm (p.map bs++q.map bs)))))|_,_=>none)|_=>none
def BB.T:=spec fun
 |[.d (.rows aj p), .agg [.d (.bool s), .d (.ints .u32 a), .d (.ints .u32 b)]]=>(match Nat.beq aj 11 with
  |true=>some (∃k c j,1<=k/\1<=j/\(∀r∈p,fp k r)/\(∀m,aok m p<=c)/\av j a/\av j b/\c*(2*(k+j)+2)<=900000/\k+j<=900000/\p.length<=1000000000, .d (.rows 11 (bP (nrm (fT (ag s a b) (p.map bs))))))
  |false=>none)
 |_=>none
def CQ.T:=spec fun|[.d (.rows aj p)]=>(match Nat.beq aj 11 with|true=>some (∃k c,1<=k/\(∀r∈p,fp k r)/\(∀m,aok m p<=c)/\c*(2*(k+1)+2)<=900000/\k+1<=900000/\p.length<=1000000000, .d (.rows 11 (bP (nrm (fT (-1) (p.map bs))))))|false=>none)|_=>none
def CR.T:=spec fun
 |[.d (.rows aj p), .d (.rows iP q)]=>(match Nat.beq aj 11,Nat.beq iP 11 with
  |true,true=>some (∃k c j d,1<=k/\1<=j/\(∀r∈p,fp k r)/\(∀r∈q,fp j r)/\(∀m,aok m p<=c)/\(∀m,aok m q<=d)/\1<=d/\(c+1)*(2*(k+d*(j+2))+2)<=900000/\p.length+q.length<=1000000000, .d (.rows 11 (bP (nrm (p.map bs++fT (-1) (q.map bs))))))
  |_,_=>none)
 |_=>none
def ya (p q:Rows):Prop:=(∀r∈p,dA 2000000000000000000 [bs r]/\dZ r)/\(∀r∈q,dA 2000000000000000000 [bs r]/\dZ r)/\
 ∃k j c,1<=k/\1<=j/\(∀r∈p,lN k r)/\(∀r∈q,lN j r)/\(p.length<=c/\(∀m,aok m q<=1)\/q.length<=c/\∀m,aok m p<=1)/\c*(2*(k+j)+2)<=900000/\k+j<=900000/\
  p.length*q.length<=1000000000/\p.length<=1000000000/\q.length<=1000000000
def CS.T:=spec fun
 |[.d (.rows aj p), .d (.rows iP q)]=>(match Nat.beq aj 11,Nat.beq iP 11 with
  |true,true=>some (ya p q, .d (.rows 11 (bP (nrm (eR (p.map bs) (q.map bs))))))
  |_,_=>none)
 |_=>none
def CT.T:=spec fun|[.d (.rows aj p), .d (.int .i64 v)]=>(match Nat.beq aj 11 with|true=>some (b5 p/\0<=v/\v<8, .d (.int .i64 (lU (p.map bs) v.toNat)))|false=>none)|_=>none
def CU.T:=spec fun|[.d (.rows aj p)]=>(match Nat.beq aj 11 with|true=>some (b5 p, .d (.int .i64 (jg 0 (p.map bs))))|false=>none)|_=>none
def CV.T:=spec fun
 |[.d (.rows aj p), .d (.int .i64 v)]=>(match Nat.beq aj 11 with
  |true=>some ((0<=v/\v<8)/\dA 1000000000 (p.map bs)/\∃k c,1<=k/\(∀r∈p,fp k r)/\(∀m,aok m p<=c)/\c*(2*(k+1)+2)<=900000/\k+1<=900000/\p.length<=1000000000, .d (.rows 11 (bP (nrm (hF v.toNat (p.map bs))))))
  |false=>none)
 |_=>none
def u7.T:=spec fun|[.d (.rows aj p)]=>(match Nat.beq aj 11 with|true=>some (b5 p, .d (.bool (hI p)))|false=>none)|_=>none
def AY.T:=spec fun|[.d (.rows aj p)]=>(match Nat.beq aj 11 with|true=>some (b5 p, .tup [.d (.rows 11 (if jg 0 (p.map bs)>1024 then[]else p)), .d (.int .i64 (if jg 0 (p.map bs)>1024 then 9 else 0))])|false=>none)|_=>none
def Cg.T:=spec fun|[.d (.rows aj p)]=>(match Nat.beq aj 11 with|true=>some (b5 p/\Raw 400000 1000000000 p, .tup [.d (.rows 11 (bP (if hI p then nrm (p.map bs)else[]))), .d (.int .i64 (if hI p then 0 else 2))])|false=>none)|_=>none
def kW:Rat:=1
def CW.T:=spec fun|[.d (.int .i64 v)]=>some (True, .tup [.d (.rows 11 (bP (if 0<=v/\v<8 then[(du.set v.toNat 1,kW)]else[]))), .d (.int .i64 (if 0<=v/\v<8 then 0 else 1))])|_=>none
def qk (p q:Rows):Prop:=(b5 p/\b5 q)/\∃K a8 n m,Raw K n p/\Raw a8 m q/\4*(K+a8)+20<=900000/\n+m<=999999999
def CX.T:=spec fun
 |[.d (.rows aj p), .d (.rows iP q)]=>(match Nat.beq aj 11,Nat.beq iP 11 with
  |true,true=>some (qk p q, .tup [.d (.rows 11 (bP (if ew p q=true then nrm (p.map bs++q.map bs)else[]))), .d (.int .i64 (if ew p q=true then 0 else 2))])
  |_,_=>none)
 |_=>none
def CY.T:=spec fun
 |[.d (.rows aj p), .d (.rows iP q)]=>(match Nat.beq aj 11,Nat.beq iP 11 with
  |true,true=>some (qk p q, .tup [.d (.rows 11 (bP (if ew p q=true then nrm (p.map bs++fT (-1) (q.map bs))else[]))), .d (.int .i64 (if ew p q=true then 0 else 2))])
  |_,_=>none)
 |_=>none
def xH.T (g:Nat):=spec fun
 |[.d (.rows aj p), .d (.rows iP q), .fn f]=>(match Nat.beq aj 11,Nat.beq iP 11,Nat.beq f g with
  |true,true,true=>some (qk p q, .tup [.d (.rows 11 (bP (if ew p q=true then nrm (p.map bs++q.map bs)else[]))), .d (.int .i64 (if ew p q=true then 0 else 2))])
  |_,_,_=>none)
 |_=>none
def xI.T (g:Nat):=spec fun
 |[.d (.rows aj p), .d (.rows iP q), .fn f]=>(match Nat.beq aj 11,Nat.beq iP 11,Nat.beq f g with
  |true,true,true=>some (qk p q, .tup [.d (.rows 11 (bP (if ew p q=true then nrm (p.map bs++fT (-1) (q.map bs))else[]))), .d (.int .i64 (if ew p q=true then 0 else 2))])
  |_,_,_=>none)
 |_=>none
def vp (l:Rows):Prop:=∀r∈l,∀x∈dY r,-1000000000000<=x/\x<=1000000000000
def CZ.T:=spec fun
 |[.d (.rows aj p), .d (.int .i64 n), .d (.rows iP q)]=>(match Nat.beq aj 11,Nat.beq iP 11 with
  |true,true=>some ((b5 p/\b5 q)/\(vp p/\vp q)/\0<=n/\n<=1000, .d (.bool (hi n (p.map bs) (q.map bs))))
  |_,_=>none)
 |_=>none
def mX (p q:List bu):Bool:= !decide (p=[])&& !decide (q=[])&&hi 1 p q
def xJ (p q:Rows):Prop:=(b5 p/\b5 q)/\∃K a8 n m,Raw K n p/\Raw a8 m q/\(n*(2*(K+a8)+2)<=900000\/m*(2*(K+a8)+2)<=900000)/\n*m<=999999999/\K<=400000/\a8<=400000
def ph (p q:Rows):Bool:=ew p q&& !mX (nrm (p.map bs)) (nrm (q.map bs))
def C0.T:=spec fun
 |[.d (.rows aj p), .d (.rows iP q)]=>(match Nat.beq aj 11,Nat.beq iP 11 with
  |true,true=>some (xJ p q, .tup [.d (.rows 11 (bP (if ph p q=true then nrm (eR (p.map bs) (q.map bs))else[]))), .d (.int .i64 (if ew p q=true then(if mX (nrm (p.map bs)) (nrm (q.map bs))then 9 else 0)else 2))])
  |_,_=>none)
 |_=>none
def gQ (p:Rows)(v:Int):Int:=if hI p then(if 0<=v/\v<8 then 0 else 1)else 2
def Ch.T:=spec fun
 |[.d (.rows aj p), .d (.int .i64 v)]=>(match Nat.beq aj 11 with
  |true=>some (b5 p/\Raw 400000 1000000000 p, .tup [.d (.rows 11 (bP (if gQ p v=0 then nrm (p.map bs)else[]))), .d (.int .i64 (gQ p v))])
  |false=>none)
 |_=>none
def C1.T:=spec fun
 |[.d (.rows aj p), .d (.int .i64 v)]=>(match Nat.beq aj 11 with
  |true=>some (b5 p/\Raw 400000 1000000000 p, .tup [.d (.int .i64 (if gQ p v=0 then lU (nrm (p.map bs)) v.toNat else 0)), .d (.int .i64 (gQ p v))])
  |false=>none)
 |_=>none
def C2.T:=spec fun
 |[.d (.rows aj p), .d (.int .i64 v)]=>(match Nat.beq aj 11 with
  |true=>some (b5 p/\Raw 400000 1000000000 p, .tup [.d (.rows 11 (bP (if gQ p v=0 then nrm (hF v.toNat (p.map bs))else[]))), .d (.int .i64 (gQ p v))])
  |false=>none)
 |_=>none
def ma (r:Row):List Int×Bool×List Int×List Int:=(dY r,(r.getD 8 .undef).toBool,(r.getD 9 .undef).b6,(r.getD 10 .undef).b6)
def Ci.T:=spec fun
 |[.d (.rows aj p), .d (.rows iP q)]=>(match Nat.beq aj 11,Nat.beq iP 11 with
  |true,true=>some ((∀r∈p,lN 1000000 r)/\(∀r∈q,lN 1000000 r)/\p.length<1000000000/\q.length<1000000000, .d (.bool (decide (p.map ma=q.map ma))))
  |_,_=>none)
 |_=>none
end I
end
section
namespace I
open Go Go.bG
abbrev f_:Row:=[.int .i64 2, .int .i64 0, .int .i64 0, .int .i64 0, .int .i64 0, .int .i64 0, .int .i64 0, .int .i64 0, .bool false, .ints .u32 [1], .ints .u32 [1]]
abbrev ga:Row:=[.int .i64 0, .int .i64 2, .int .i64 0, .int .i64 0, .int .i64 0, .int .i64 0, .int .i64 0, .int .i64 0, .bool true, .ints .u32 [1], .ints .u32 [1]]
abbrev qw:Rows:=[f_,ga]
abbrev Dp:Rows:=[[.str [112]],[.str [113]]]
def BC.T:=spec fun|[.d (.rows aj p)]=>(match Nat.beq aj 11 with|true=>some (p=qw, .d (.bool true))|false=>none)|_=>none
def AZ.T:=spec fun|[.d (.rows aj p)]=>(match Nat.beq aj 11 with|true=>some (p=qw, .d (.rows 11 qw))|false=>none)|_=>none
def Cj.T:=spec fun|[.agg [.d (.bool s), .d (.ints .u32 a), .d (.ints .u32 b)]]=>some (a=[1]/\b=[1], .d (.int .i64 (match s with|true=>-1|false=>1)))|_=>none
def C3.T:=spec fun|[.d (.int .i64 n)]=>some (n=1, .agg [.d (.bool false), .d (.ints .u32 [1]), .d (.ints .u32 [1])])|_=>none
def BD.T:=spec fun|[.agg [.d (.bool s), .d (.ints .u32 a), .d (.ints .u32 b)], .agg [.d (.bool t), .d (.ints .u32 c), .d (.ints .u32 d)]]=>some ((s=false/\t=false)/\a=[1]/\b=[1]/\c=[1]/\d=[1], .d (.bool true))|_=>none
def u9.T:=spec fun|[.d (.int .i64 n)]=>some (n=2, .d (.str [50]))|_=>none
def A0.T:=spec fun|[.d (.int .i64 n), .d (.int .i64 b)]=>some (n=2/\b=10, .d (.str [50]))|_=>none
def Ck.T:=spec fun|[.d (.rows aj l), .d (.str zq)]=>(match Nat.beq aj 1,l with|true,[[.str x]]=>some (True, .d (.str x))|_,_=>none)|_=>none
def A1.T:=spec fun
 |[.d (.rows aj p), .d (.rows iP n)]=>(match Nat.beq aj 11,Nat.beq iP 1 with
  |true,true=>some (p=qw/\n=Dp, .tup [.d (.str [112,94,50,32,45,32,113,94,50]), .d (.int .i64 0)])
  |_,_=>none)
 |_=>none
end I
end
section
namespace I
open Go Go.bG
def aoZ:List Int:=[0,0,1,1,2]
def aot (l:List Int)(a:Int):Nat->List Int×Int
 |0=>(du,a)
 |k+1=>((aot l a k).1.set k (qj l (aot l a k).2 aoZ),c4 l (aot l a k).2 5)
def aoy (l:List Int)(a:Int):Bool:=decide (fP l (tv l a) 8=7)
def aoD (l:List Int)(a:Int):Int:=if aoy l a then kk l (c4 l (tv l a) 8)else c4 l (tv l a) 8
def ao7 (l:List Int)(a:Int)(v:Nat):Row:=
 d_ (aot l (aoD l a) v).1 (if aoy l a then hh l (c4 l (tv l a) 8)else bh (jv l a)) (if aoy l a then iG l (c4 l (tv l a) 8)else bm (jv l a)) (if aoy l a then iH l (c4 l (tv l a) 8)else bg (jv l a))
def ap8 (l:List Int)(a:Int)(v:Nat):Int:=(aot l (aoD l a) v).2
def aoz (l:List Int)(a:Int)(v:Nat):Nat->Rows×Int
 |0=>([],a)
 |k+1=>((aoz l a v k).1++[ao7 l (aoz l a v k).2 v],ap8 l (aoz l a v k).2 v)
def aoo (l:List Int)(a:Int)(v n:Int):Rows×Int:=aoz l (c4 l a (n+1)) v.toNat (fP l a (n+1)).toNat
def ao3.T:=eO fun
 | .ptr z o, .cells [.d (.ints .i64 l), .d (.int .i64 a), .d (.int .i64 s)],[.d (.int .i64 v), .d (.int .i64 n)]=>(match Nat.beq z 0,Nat.beq o 0 with
  |true,true=>some (dd l a/\(0<=v/\v<=8)/\0<=n/\n<=1000, .cells [.d (.ints .i64 l), .d (.int .i64 (aoo l a v n).2), .d (.int .i64 s)], .d (.rows 11 (aoo l a v n).1))
  |_,_=>none)
 |_,_,_=>none
end I
end
section
namespace I
open Go Go.bG
def A2.T:=spec fun|[]=>some (True, .d (.bool true))|_=>none
def AG.T:=spec fun|[.d (.int .u8 v)]=>some (0<=v/\v<256, .d (.bool true))|_=>none
def ao4.T:=spec fun|[.d (.ints .i64 l)]=>some (∀x∈l,i64 x, .d (.bool true))|_=>none
def ao0.T:=spec fun|[.d (.ints .i64 l), .d (.int .u8 v), .d (.int .u8 w)]=>some ((∀x∈l,i64 x)/\(0<=v/\v<256)/\0<=w/\w<256, .d (.bool true))|_=>none
end I
end
section
open Go Go.bG
namespace I
def apL:List Int->(J->Prop)->Prop:=
 fun l K=>True/\∀x,x=List.take (1000:Nat) l->∀au,au=(0:Int)->∀ax,ax=(0:Int)->(dd x au/\((0:Int)<=(3:Int)/\(3:Int)<=(8:Int))/\(0:Int)<=(4:Int)/\(4:Int)<=(1000:Int))
 /\∀aJ,aJ=x->∀bb,bb=(aoo x au (3:Int) (4:Int)).snd->∀bJ,bJ=ax->∀aY,aY=(aoo x au (3:Int) (4:Int)).fst->(dd aJ bb/\((0:Int)<=(3:Int)/\(3:Int)<=(8:Int))
 /\(0:Int)<=(3:Int)/\(3:Int)<=(1000:Int))/\∀x,x=aJ->∀aW,aW=(aoo aJ bb (3:Int) (3:Int)).snd->∀a7,a7=bJ->∀bU,bU=(aoo aJ bb (3:Int) (3:Int)).fst->(dd x aW
 /\((0:Int)<=(3:Int)/\(3:Int)<=(8:Int))/\(0:Int)<=(3:Int)/\(3:Int)<=(1000:Int))/\∀b_,b_=x->∀bL,bL=(aoo x aW (3:Int) (3:Int)).snd->∀br,br=a7->∀bC,bC=(aoo x aW (3:Int) (3:Int)).fst
 ->xJ aY bU/\∀x,x=bP (if ph aY bU=true then nrm (eR (List.map bs aY) (List.map bs bU))else[])->∀dQ,(dQ=if ew aY bU=true then if mX (nrm (List.map bs aY)) (nrm (List.map bs bU))=true then(9:Int)else(0:Int)else(2:Int))
 ->xJ bU aY/\∀eY,eY=bP (if ph bU aY=true then nrm (eR (List.map bs bU) (List.map bs aY))else[])->∀eQ,(eQ=if ew bU aY=true then if mX (nrm (List.map bs bU)) (nrm (List.map bs aY))=true then(9:Int)else(0:Int)else(2:Int))
 ->((!decide (dQ=(0:Int)))=true->K (J.d (R.bool false)))/\((!decide (dQ=(0:Int)))=false->((!decide (eQ=(0:Int)))=true->K (J.d (R.bool false)))/\((!decide (eQ=(0:Int)))=false
 ->((∀(r:List R),r∈x->lN (1000000:Nat) r)/\(∀(r:List R),r∈eY->lN (1000000:Nat) r)/\x.length<(1000000000:Nat)/\eY.length<(1000000000:Nat))/\∀cN,cN=decide (List.map ma x=List.map ma eY)
 ->((!cN)=true->K (J.d (R.bool false)))/\((!cN)=false->xJ x bC/\∀cC,cC=bP (if ph x bC=true then nrm (eR (List.map bs x) (List.map bs bC))else[])->∀cD,(cD=if ew x bC=true then if mX (nrm (List.map bs x)) (nrm (List.map bs bC))=true then(9:Int)else(0:Int)else(2:Int))
 ->xJ bU bC/\∀x,x=bP (if ph bU bC=true then nrm (eR (List.map bs bU) (List.map bs bC))else[])->∀e8,(e8=if ew bU bC=true then if mX (nrm (List.map bs bU)) (nrm (List.map bs bC))=true then(9:Int)else(0:Int)else(2:Int))
 ->xJ aY x/\∀fB,fB=bP (if ph aY x=true then nrm (eR (List.map bs aY) (List.map bs x))else[])->∀gG,(gG=if ew aY x=true then if mX (nrm (List.map bs aY)) (nrm (List.map bs x))=true then(9:Int)else(0:Int)else(2:Int))
 ->((!decide (cD=(0:Int)))=true->K (J.d (R.bool false)))/\((!decide (cD=(0:Int)))=false->((!decide (e8=(0:Int)))=true->K (J.d (R.bool false)))/\((!decide (e8=(0:Int)))=false
 ->((!decide (gG=(0:Int)))=true->K (J.d (R.bool false)))/\((!decide (gG=(0:Int)))=false->((∀(r:List R),r∈cC->lN (1000000:Nat) r)/\(∀(r:List R),r∈fB->lN (1000000:Nat) r)
 /\cC.length<(1000000000:Nat)/\fB.length<(1000000000:Nat))/\∀x,x=decide (List.map ma cC=List.map ma fB)->((!x)=true->K (J.d (R.bool false)))/\((!x)=false->qk bU bC
 /\∀x,x=bP (if ew bU bC=true then nrm (List.map bs bU++List.map bs bC)else[])->∀fQ,(fQ=if ew bU bC=true then(0:Int)else(2:Int))->xJ aY x/\∀fV,fV=bP (if ph aY x=true then nrm (eR (List.map bs aY) (List.map bs x))else[])
 ->∀gP,(gP=if ew aY x=true then if mX (nrm (List.map bs aY)) (nrm (List.map bs x))=true then(9:Int)else(0:Int)else(2:Int))->xJ aY bU/\∀fR,fR=bP (if ph aY bU=true then nrm (eR (List.map bs aY) (List.map bs bU))else[])
 ->∀fW,(fW=if ew aY bU=true then if mX (nrm (List.map bs aY)) (nrm (List.map bs bU))=true then(9:Int)else(0:Int)else(2:Int))->xJ aY bC/\∀hV,hV=bP (if ph aY bC=true then nrm (eR (List.map bs aY) (List.map bs bC))else[])
 ->∀i_,(i_=if ew aY bC=true then if mX (nrm (List.map bs aY)) (nrm (List.map bs bC))=true then(9:Int)else(0:Int)else(2:Int))->qk fR hV/\∀h6,h6=bP (if ew fR hV=true then nrm (List.map bs fR++List.map bs hV)else[])
 ->∀h7,(h7=if ew fR hV=true then(0:Int)else(2:Int))->qk x bC/\∀lD,lD=bP (if ew x bC=true then nrm (List.map bs x++fT (-1:Rat) (List.map bs bC))else[])
 ->∀jw,(jw=if ew x bC=true then(0:Int)else(2:Int))->(b5 bU/\Raw (400000:Nat) (1000000000:Nat) bU)/\∀x,x=bP (if hI bU=true then nrm (List.map bs bU)else[])->∀jO,(jO=if hI bU=true then(0:Int)else(2:Int))
 ->(decide (fQ=(0:Int))=true->(decide (gP=(0:Int))=true->(decide (fW=(0:Int))=true->(decide (i_=(0:Int))=true->(decide (h7=(0:Int))=true->(decide (jw=(0:Int))=true
 ->(decide (jO=(0:Int))=true->((∀(r:List R),r∈fV->lN (1000000:Nat) r)/\(∀(r:List R),r∈h6->lN (1000000:Nat) r)/\fV.length<(1000000000:Nat)/\h6.length<(1000000000:Nat))
 /\∀jx,jx=decide (List.map ma fV=List.map ma h6)->(jx=true->((∀(r:List R),r∈lD->lN (1000000:Nat) r)/\(∀(r:List R),r∈x->lN (1000000:Nat) r)/\lD.length<(1000000000:Nat)
 /\x.length<(1000000000:Nat))/\∀lE,lE=decide (List.map ma lD=List.map ma x)->(lE=true->True/\∀x,x=true->K (J.d (R.bool x)))/\(lE=false->K (J.d (R.bool false))))
 /\(jx=false->K (J.d (R.bool false))))/\(decide (jO=(0:Int))=false->K (J.d (R.bool false))))/\(decide (jw=(0:Int))=false->K (J.d (R.bool false))))/\(decide (h7=(0:Int))=false
 ->K (J.d (R.bool false))))/\(decide (i_=(0:Int))=false->K (J.d (R.bool false))))/\(decide (fW=(0:Int))=false->K (J.d (R.bool false))))/\(decide (gP=(0:Int))=false->K (J.d (R.bool false))))
 /\(decide (fQ=(0:Int))=false->K (J.d (R.bool false))))))))))
def apK:List Int->Int->Int->(J->Prop)->Prop:=
 fun l v w K=>True/\∀x,x=List.take (1000:Nat) l->∀au,au=(0:Int)->∀ax,ax=(0:Int)->(dd x au/\((0:Int)<=(3:Int)/\(3:Int)<=(8:Int))/\(0:Int)<=(4:Int)/\(4:Int)<=(1000:Int))
 /\∀aJ,aJ=x->∀bb,bb=(aoo x au (3:Int) (4:Int)).snd->∀bJ,bJ=ax->∀aY,aY=(aoo x au (3:Int) (4:Int)).fst->(dd aJ bb/\((0:Int)<=(3:Int)/\(3:Int)<=(8:Int))
 /\(0:Int)<=(4:Int)/\(4:Int)<=(1000:Int))/\∀x,x=aJ->∀x,x=(aoo aJ bb (3:Int) (4:Int)).snd->∀x,x=bJ->∀x,x=(aoo aJ bb (3:Int) (4:Int)).fst->xJ aY x/\∀aW,aW=bP (if ph aY x=true then nrm (eR (List.map bs aY) (List.map bs x))else[])
 ->∀a7,(a7=if ew aY x=true then if mX (nrm (List.map bs aY)) (nrm (List.map bs x))=true then(9:Int)else(0:Int)else(2:Int))->(b5 aW/\Raw (400000:Nat) (1000000000:Nat) aW)
 /\∀bU,bU=bP (if gQ aW (IntKind.i64.wrap (v.tmod (3:Int)))=(0:Int)then nrm (hF (IntKind.i64.wrap (v.tmod (3:Int))).toNat (List.map bs aW))else[])->∀b_,b_=gQ aW (IntKind.i64.wrap (v.tmod (3:Int)))
 ->(b5 aY/\Raw (400000:Nat) (1000000000:Nat) aY)/\∀bL,bL=bP (if gQ aY (IntKind.i64.wrap (v.tmod (3:Int)))=(0:Int)then nrm (hF (IntKind.i64.wrap (v.tmod (3:Int))).toNat (List.map bs aY))else[])
 ->∀br,br=gQ aY (IntKind.i64.wrap (v.tmod (3:Int)))->(b5 x/\Raw (400000:Nat) (1000000000:Nat) x)/\∀bC,bC=bP (if gQ x (IntKind.i64.wrap (v.tmod (3:Int)))=(0:Int)then nrm (hF (IntKind.i64.wrap (v.tmod (3:Int))).toNat (List.map bs x))else[])
 ->∀dQ,dQ=gQ x (IntKind.i64.wrap (v.tmod (3:Int)))->((!decide (a7=(0:Int)))=true->K (J.d (R.bool false)))/\((!decide (a7=(0:Int)))=false->((!decide (b_=(0:Int)))=true
 ->K (J.d (R.bool false)))/\((!decide (b_=(0:Int)))=false->((!decide (br=(0:Int)))=true->K (J.d (R.bool false)))/\((!decide (br=(0:Int)))=false->((!decide (dQ=(0:Int)))=true
 ->K (J.d (R.bool false)))/\((!decide (dQ=(0:Int)))=false->xJ bL x/\∀eY,eY=bP (if ph bL x=true then nrm (eR (List.map bs bL) (List.map bs x))else[])->∀eQ,(eQ=if ew bL x=true then if mX (nrm (List.map bs bL)) (nrm (List.map bs x))=true then(9:Int)else(0:Int)else(2:Int))
 ->xJ aY bC/\∀x,x=bP (if ph aY bC=true then nrm (eR (List.map bs aY) (List.map bs bC))else[])->∀cN,(cN=if ew aY bC=true then if mX (nrm (List.map bs aY)) (nrm (List.map bs bC))=true then(9:Int)else(0:Int)else(2:Int))
 ->qk eY x/\∀cC,cC=bP (if ew eY x=true then nrm (List.map bs eY++List.map bs x)else[])->∀cD,(cD=if ew eY x=true then(0:Int)else(2:Int))->(b5 bL/\Raw (400000:Nat) (1000000000:Nat) bL)
 /\∀x,x=bP (if gQ bL (IntKind.i64.wrap (w.tmod (3:Int)))=(0:Int)then nrm (hF (IntKind.i64.wrap (w.tmod (3:Int))).toNat (List.map bs bL))else[])->∀e8,e8=gQ bL (IntKind.i64.wrap (w.tmod (3:Int)))
 ->(b5 aY/\Raw (400000:Nat) (1000000000:Nat) aY)/\∀fB,fB=bP (if gQ aY (IntKind.i64.wrap (w.tmod (3:Int)))=(0:Int)then nrm (hF (IntKind.i64.wrap (w.tmod (3:Int))).toNat (List.map bs aY))else[])
 ->∀gG,gG=gQ aY (IntKind.i64.wrap (w.tmod (3:Int)))->(b5 fB/\Raw (400000:Nat) (1000000000:Nat) fB)/\∀fQ,fQ=bP (if gQ fB (IntKind.i64.wrap (v.tmod (3:Int)))=(0:Int)then nrm (hF (IntKind.i64.wrap (v.tmod (3:Int))).toNat (List.map bs fB))else[])
 ->∀fV,fV=gQ fB (IntKind.i64.wrap (v.tmod (3:Int)))->(decide (eQ=(0:Int))=true->(decide (cN=(0:Int))=true->(decide (cD=(0:Int))=true->(decide (e8=(0:Int))=true
 ->(decide (gG=(0:Int))=true->(decide (fV=(0:Int))=true->((∀(r:List R),r∈bU->lN (1000000:Nat) r)/\(∀(r:List R),r∈cC->lN (1000000:Nat) r)/\bU.length<(1000000000:Nat)
 /\cC.length<(1000000000:Nat))/\∀gP,gP=decide (List.map ma bU=List.map ma cC)->(gP=true->((∀(r:List R),r∈x->lN (1000000:Nat) r)/\(∀(r:List R),r∈fQ->lN (1000000:Nat) r)
 /\x.length<(1000000000:Nat)/\fQ.length<(1000000000:Nat))/\∀fR,fR=decide (List.map ma x=List.map ma fQ)->(fR=true->True/\∀x,x=true->K (J.d (R.bool x)))/\(fR=false
 ->K (J.d (R.bool false))))/\(gP=false->K (J.d (R.bool false))))/\(decide (fV=(0:Int))=false->K (J.d (R.bool false))))/\(decide (gG=(0:Int))=false->K (J.d (R.bool false))))
 /\(decide (e8=(0:Int))=false->K (J.d (R.bool false))))/\(decide (cD=(0:Int))=false->K (J.d (R.bool false))))/\(decide (cN=(0:Int))=false->K (J.d (R.bool false))))/\(decide (eQ=(0:Int))=false
 ->K (J.d (R.bool false)))))))
end I
end
section
open Go Go.bG
namespace I
def apM:List Int->Int->Int->Int->Int->(ad->J->Prop)->Prop:=
 fun l a s v n K=>(dd l a/\i64 (IntKind.i64.wrap (n+1)))/\∀x,x=l->∀au,au=c4 l a (IntKind.i64.wrap (n+1))->∀ax,ax=s->∀aJ,aJ=fP l a (IntKind.i64.wrap (n+1))->∃(aD:Int
 ->List Int->Int->Int->List (List R)->Prop),∃(m:Int->List Int->Int->Int->List (List R)->Nat),aD aJ x au ax []/\∀(aV:Int) (l:List Int) (a s:Int) (bn:List (List R)),aD aV l a s bn
 ->(decide (0<aV)=true->dd l a/\∀x,x=l->∀bb,bb=tv l a->∀bJ,bJ=s->∀aY,aY=bh (jv l a)->∀aW,aW=bm (jv l a)->∀a7,a7=bg (jv l a)->∃(a8:List Int
 ->Int->Int->List (List R)->List (List R)->Prop),((dd x bb/\i64 8)/\∀bU,bU=x->∀b_,b_=c4 x bb 8->∀bL,bL=bJ->∀br,br=fP x bb 8->(decide (br=7)=true
 ->dd bU b_/\∀x,x=bU->∀bC,bC=kk bU b_->∀dQ,dQ=bL->∀eY,eY=hh bU b_->∀eQ,eQ=iG bU b_->∀cN,cN=iH bU b_->a8 x bC dQ bn [setRow ([R.int .i64 0,R.int .i64 0,R.int .i64 0,R.int .i64 0,R.int .i64 0,R.int .i64 0,R.int .i64 0,R.int .i64 0]++[R.bool aY,R.ints .u32 aW,R.ints .u32 a7]) 8 [R.bool eY,R.ints .u32 eQ,R.ints .u32 cN]])
 /\(decide (br=7)=false->a8 bU b_ bL bn [[R.int .i64 0,R.int .i64 0,R.int .i64 0,R.int .i64 0,R.int .i64 0,R.int .i64 0,R.int .i64 0,R.int .i64 0]++[R.bool aY,R.ints .u32 aW,R.ints .u32 a7]]))
 /\∀(ap9:List Int) (ap5 ap_:Int) (eS ba:List (List R)),a8 ap9 ap5 ap_ eS ba->∃(fz:Int->List Int->Int->Int->List (List R)->List (List R)->Prop),∃(e_:Int->List Int->Int
 ->Int->List (List R)->List (List R)->Nat),fz 0 ap9 ap5 ap_ eS ba/\∀(v10:Int) (aoK:List Int) (aoN ao9:Int) (aoO ba:List (List R)),fz v10 aoK aoN ao9 aoO ba->(decide (v10<v)=true
 ->(dd aoK aoN/\0<5/\5<=1000)/\∀x,x=aoK->∀bU,bU=c4 aoK aoN 5->∀b_,b_=ao9->∀bL,bL=qj aoK aoN [0,0,1,1,2]->0<=v10/\v10<8/\fz (IntKind.i64.wrap (v10+1)) x bU b_ aoO (ba.set 0 ((ba.getD 0 []).set v10.toNat (R.int .i64 bL)))
 /\e_ (IntKind.i64.wrap (v10+1)) x bU b_ aoO (ba.set 0 ((ba.getD 0 []).set v10.toNat (R.int .i64 bL)))<e_ v10 aoK aoN ao9 aoO ba)/\(decide (v10<v)=false->(ba.getD 0 []).length=11
 /\((aoO.length:Int)+↑[ba.getD 0 []].length)*120<=70368744177664/\aD (IntKind.i64.wrap (aV-1)) aoK aoN ao9 (aoO++[ba.getD 0 []])/\m (IntKind.i64.wrap (aV-1)) aoK aoN ao9 (aoO++[ba.getD 0 []])<m aV l a s bn))
 /\(decide (0<aV)=false->K (ad.cells [J.d (R.ints .i64 l),J.d (R.int .i64 a),J.d (R.int .i64 s)]) (J.d (R.rows 11 bn)))
end I
end
section
open Go Go.bG
namespace I
theorem lN.mono {k j:Nat}{r:Row}(h:lN k r)(ab:k<=j):lN j r:=by
 obtain⟨m,s,a,b,rfl,hm,U,aa⟩:=h
 exact⟨m,s,a,b,rfl,hm,U.mono ab,aa.mono ab⟩
theorem lN.row {k:Nat}{r:Row}(h:lN k r):dZ r:=by
 obtain⟨m,s,a,b,rfl,hm,_⟩:=h
 match m,hm with
 |[pK,gD,ha,jE,lT,j4,pJ,ud],_=>exact⟨pK,gD,ha,jE,lT,j4,pJ,ud,s,a,b,rfl⟩
theorem lN.len {k:Nat}{r:Row}(h:lN k r):(bs r).1.length=8:=by
 obtain⟨m,s,a,b,rfl,hm,_⟩:=h
 rw[lx hm];exact hm
theorem lN.RS {k:Nat}{r:Row}(h:lN k r)(hm:j6 (bs r).1):fp k r:=by
 obtain⟨m,s,a,b,rfl,dI,U,aa⟩:=h
 rw[lx dI]at hm
 exact⟨m,s,a,b,rfl,dI,hm.2,U,aa⟩
theorem fp.ajl {k:Nat}{r:Row}(h:fp k r):lN k r:=by
 obtain⟨m,s,a,b,rfl,dI,_,U,aa⟩:=h
 exact⟨m,s,a,b,rfl,dI,U,aa⟩
theorem fp.nR {k:Nat}{r:Row}(h:fp k r):j6 (bs r).1:=by
 obtain⟨m,s,a,b,rfl,dI,aE,U,aa⟩:=h
 show j6 (bs (d_ m s a b)).1
 rw[lx dI];exact⟨dI,aE⟩
theorem F6:∀{p:List bu} {t:bu},t∈nrm p->∃u∈p,u.1=t.1
 |[],t,h=>by cases h
 |x::p,t,h=>by
  rcases Gd h with h|⟨v,aM,e⟩
  ·exact⟨x,by simp,h.symm⟩
  ·obtain⟨u,hu,az⟩:=F6 aM
   exact⟨u,by simp[hu],by rw[az,e]⟩
theorem Pw (t:bu):∀p:List bu,(ins t p).length<=p.length+1
 |[]=>by unfold I.ins;split<;>simp
 |u::p=>by
  have bA:=Pw t p
  unfold I.ins
  split
  ·split
   ·rw[atf];omega
   ·rw[atf,atf];omega
  ·split
   ·split
    ·omega
    ·rw[atf];omega
   ·rw[atf,atf];omega
theorem xi:∀p:List bu,(nrm p).length<=p.length
 |[]=>asz _
 |t::p=>by
  have:=Pw t (nrm p)
  have:=xi p
  rw[nrm,atf];omega
def aoh (m:List Int):List bu->Nat
 |[]=>0
 |t::p=>(if t.1=m then 1 else 0)+aoh m p
theorem aoF (m:List Int):∀l:Rows,aok m l=aoh m (l.map bs)
 |[]=>rfl
 |r::l=>by rw[aok,asX,aoh,aoF m l];rfl
theorem aoU (m:List Int):∀a b:List bu,aoh m (a++b)=aoh m a+aoh m b
 |[],b=>by rw[List.nil_append,aoh,as0]
 |r::a,b=>by rw[atP,aoh,aoh,aoU m a b,atn]
theorem aps {m:List Int}:∀{p:List bu},(∀t∈p,t.1≠m)->aoh m p=0
 |[],_=>rfl
 |t::p,h=>by rw[aoh,asp (h t (by simp)),aps fun u hu=>h u (by simp[hu])]
theorem apx (m:List Int):∀p:List bu,aoh m p<=p.length
 |[]=>asz _
 |t::p=>by have:=apx m p;rw[aoh,atf];split<;>omega
theorem apV {m:List Int}:∀{p:List bu},p.Pairwise (fun t u=>t.1≠u.1)->aoh m p<=1
 |[],_=>atD _
 |t::p,h=>by
  obtain⟨U,aa⟩:=aub.1 h
  rw[aoh]
  split
  ·rename_i e
   rw[aps fun u hu=>e▸(U u hu).symm];exact asz _
  ·have:=apV (m:=m) aa;omega
theorem mZ.aou {p:List bu}(h:mZ p)(m:List Int):aoh m p<=1:=apV (h.1.imp fun g=>YG g)
theorem apO {m:List Int}:∀{p q:List bu},p.map Prod.fst=q.map Prod.fst->aoh m p=aoh m q
 |[],[],_=>rfl
 |[],_::_,h=>by simp at h
 |_::_,[],h=>by simp at h
 |t::p,u::q,h=>by
  simp only[asX,auc]at h
  rw[aoh,aoh,h.1,apO h.2]
theorem apf (m:List Int)(c:Rat)(p:List bu):aoh m (fT c p)=aoh m p:=apO (by rw[fT,atM];rfl)
theorem ap1 {k:Nat}:∀{p:List bu},aoi k p->∀t∈nrm p,cv (aoh t.1 p*(k+1)) t.2
 |[],_,t,h=>by cases h
 |x::p,h,t,aA=>by
  have bA:=ap1 (p:=p) fun u hu=>h u (by simp[hu])
  have af:=h x (by simp)
  have key:∀{q:List bu},(∀t∈q,cv (aoh t.1 p*(k+1)) t.2)->∀t∈ins x q,cv (aoh t.1 (x::p)*(k+1)) t.2:=by
   intro q
   have up:∀{u:bu},cv (aoh u.1 p*(k+1)) u.2->cv (aoh u.1 (x::p)*(k+1)) u.2:=fun{u} hu=>hu.mono (asF _ (by rw[aoh];omega))
   have own:cv (aoh x.1 (x::p)*(k+1)) x.2:=af.mono (by rw[aoh,asq rfl,asK];omega)
   induction q with
   |nil=>
    intro _ t aA
    unfold I.ins at aA
    split at aA
    ·cases aA
    ·rw[atr.1 aA];exact own
   |cons u q Ss=>
    intro aN t aA
    have hu:=aN u (by simp)
    have vM:∀t∈q,cv (aoh t.1 p*(k+1)) t.2:=fun t aA=>aN t (by simp[aA])
    unfold I.ins at aA
    split at aA
    ·rename_i e
     split at aA
     ·exact up (vM t aA)
     ·rcases asP.1 aA with rfl|aA
      ·refine(hu.add af).mono ?_
       show _<=aoh u.1 (x::p)*(k+1)
       rw[aoh,asq e,asK,atx];omega
      ·exact up (vM t aA)
    ·split at aA
     ·split at aA
      ·exact up (aN t aA)
      ·rcases asP.1 aA with rfl|aA
       ·exact own
       ·exact up (aN t aA)
     ·rcases asP.1 aA with rfl|aA
      ·exact up hu
      ·exact Ss vM t aA
  exact key bA t aA
theorem apW {k:Nat}:∀{p:List bu},aoi k p->(∀m,aoh m p<=1)->aoi k (nrm p)
 |[],_,_=>fun t aA=>by cases aA
 |x::p,h,ay=>by
  have tJ:∀m,aoh m p<=1:=fun m=>by have:=ay m;rw[aoh]at this;omega
  have bA:=apW (p:=p) (fun u hu=>h u (by simp[hu])) tJ
  have af:=h x (by simp)
  have aE:aoh x.1 p=0:=by have:=ay x.1;rw[aoh,asq rfl]at this;omega
  have ne:∀u∈nrm p,u.1≠x.1:=fun u hu e=>by
   have key:∀{p:List bu},aoh x.1 p=0->∀v∈p,v.1≠x.1:=by
    intro p
    induction p with
    |nil=>intro _ v aM;cases aM
    |cons y p bA=>
     intro h v aM
     rw[aoh]at h
     rcases asP.1 aM with rfl|aM
     ·intro e;rw[asq e]at h;omega
     ·exact bA (by omega) v aM
   obtain⟨v,aM,az⟩:=F6 hu
   exact key aE v aM (az.trans e)
  have go:∀{q:List bu},aoi k q->(∀u∈q,u.1≠x.1)->aoi k (I.ins x q):=by
   intro q
   induction q with
   |nil=>
    intro _ _ t aA
    unfold I.ins at aA
    split at aA
    ·cases aA
    ·rw[atr.1 aA];exact af
   |cons u q Ss=>
    intro aN ar t aA
    unfold I.ins at aA
    rw[asp fun e=>ar u (by simp) e.symm]at aA
    split at aA
    ·split at aA
     ·exact aN t aA
     ·rcases asP.1 aA with rfl|aA
      ·exact af
      ·exact aN t aA
    ·rcases asP.1 aA with rfl|aA
     ·exact aN _ (by simp)
     ·exact Ss (fun v aM=>aN v (by simp[aM])) (fun v aM=>ar v (by simp[aM])) t aA
  exact go bA ne
theorem aoi.mono {k j:Nat}{p:List bu}(h:aoi k p)(ab:k<=j):aoi j p:=fun t aA=>(h t aA).mono ab
theorem aoi.app {k:Nat}{p q:List bu}(h:aoi k p)(g:aoi k q):aoi k (p++q):=fun t aA=>(atY.1 aA).elim (h t) (g t)
theorem aoi.nrm {k c:Nat}{p:List bu}(h:aoi k p)(ay:∀m,aoh m p<=c):aoi (c*(k+1)) (nrm p):=fun t aA=>(ap1 h t aA).mono (asF _ (ay _))
theorem aoi.scale {k j:Nat}{c:Rat}(ay:cv j c)(aK:1<=j){p:List bu}(h:aoi k p):aoi (k+j) (fT c p):=fun t aA=>by
 obtain⟨u,hu,rfl⟩:=asL.1 aA
 exact(h u hu).mul ay (by omega)
theorem aoi.mul {k j:Nat}(ab:1<=k):∀{p q:List bu},aoi k p->aoi j q->aoi (k+j) (eR p q)
 |[],_,_,_=>fun t aA=>by cases aA
 |s::p,q,h,g=>fun t aA=>by
  rcases atY.1 aA with aA|aA
  ·obtain⟨u,hu,rfl⟩:=asL.1 aA
   exact(h s (by simp)).mul (g u hu) (by omega)
  ·exact aoi.mul ab (fun u hu=>h u (by simp[hu])) g t aA
theorem lN.rs {k:Nat}{r:Row}(h:lN k r)(ab:1<=k):cv k (bs r).2:=by
 obtain⟨m,s,a,b,rfl,hm,U,aa⟩:=h
 rw[lx hm];exact cv.of U aa ab
theorem aoW {k:Nat}{l:Rows}(h:∀r∈l,lN k r)(ab:1<=k):aoi k (l.map bs):=fun t aA=>by
 obtain⟨r,ak,rfl⟩:=asL.1 aA
 exact(h r ak).rs ab
theorem aqT {k:Nat}{t:bu}(dI:t.1.length=8)(h:cv k t.2):lN k (fL t):=⟨_,_,_,_,rfl,dI,h.num,h.den⟩
theorem aoL {k:Nat}{p:List bu}(h:aoi k p)(dI:∀t∈p,t.1.length=8):∀r∈bP p,lN k r:=fun r ak=>by
 obtain⟨t,aA,rfl⟩:=asL.1 ak
 exact aqT (dI t aA) (h t aA)
theorem aoI {p:List bu}(dI:∀t∈p,t.1.length=8)(m:List Int):aok m (bP p)=aoh m p:=by rw[aoF,hf dI]
theorem Raw.mono {K a8 n m:Nat}{l:Rows}(h:Raw K n l)(hA:K<=a8)(ar:n<=m):Raw a8 m l:=by
 obtain⟨k,c,U,aa,al,aL,bo,bX⟩:=h
 exact⟨k,c,U,aa,al,by omega,by omega,by omega⟩
theorem Raw.rows {K n:Nat}{l:Rows}(h:Raw K n l):∀r∈l,lN K r:=fun r ak=>by
 obtain⟨k,c,U,aa,al,aL,bo,bX⟩:=h
 exact(aa r ak).mono bo
theorem Raw.len {K n:Nat}{l:Rows}(h:Raw K n l):l.length<=n:=by obtain⟨k,c,U,aa,al,aL,bo,bX⟩:=h;exact bX
theorem Raw.aov {K n:Nat}{l:Rows}(h:Raw K n l):aoi K (nrm (l.map bs)):=by
 obtain⟨k,c,U,aa,al,aL,bo,bX⟩:=h
 exact((aoW aa U).nrm fun m=>by rw[<-aoF];exact al m).mono aL
theorem ao1 {p:List bu}{n:Nat}(h:p.length<=n):(nrm p).length<=n:=asZ (xi p) h
theorem Raw.aoC {K n:Nat}{l:Rows}(h:Raw K n l):(nrm (l.map bs)).length<=n:=ao1 (by rw[asy];exact h.len)
theorem aqU {k n:Nat}{p:List bu}(h:aoi k p)(ab:1<=k)(dI:∀t∈p,t.1.length=8)(ay:∀m,aoh m p<=1)(ar:p.length<=n):Raw (k+1) n (bP p):=
 ⟨k,1,ab,aoL h dI,fun m=>by rw[aoI dI];exact ay m,by omega,by omega,by rw[iT];exact ar⟩
theorem apX {k n:Nat}{l:Rows}(h:∀r∈l,lN k r)(ab:1<=k)(ar:l.length<=n)(U:1<=n):Raw (n*(k+1)) n l:=
 ⟨k,n,ab,h,fun m=>by rw[aoF];exact asZ (apx m _) (by rw[asy];exact ar),asz _,by have:=asF (k+1) U;omega,ar⟩
theorem aqK {c k:Nat}(K:Nat)(h:c*(k+1)<=K):c*(2*k+2)<=2*K:=by
 rw[show 2*k+2=2*(k+1) by omega,att];omega
theorem apR:∀{a b c:List Int},b.length=a.length->c.length=a.length->fx a b=fx a c->b=c
 |[],[],[],_,_,_=>rfl
 |a::p,b::q,c::r,U,aa,h=>by
  simp only[fx,auc]at h
  rw[show b=c by omega,apR (by simpa using U) (by simpa using aa) h.2]
 |[],_::_,_,h,_,_=>by simp at h
 |[],[],_::_,_,h,_=>by simp at h
 |_::_,[],_,h,_,_=>by simp at h
 |_::_,_::_,[],_,h,_=>by simp at h
theorem aqQ {s:bu}(ao:s.1.length=8)(m:List Int):∀{q:List bu},(∀t∈q,t.1.length=8)->(∀x,aoh x q<=1)->aoh m (jt s q)<=1:=fun{q} dI aN=>by
 by_cases af:∃u∈q,fx s.1 u.1=m
 ·obtain⟨u,hu,e⟩:=af
  have key:∀{q:List bu},(∀t∈q,t.1.length=8)->aoh m (jt s q)<=aoh u.1 q:=by
   intro q
   induction q with
   |nil=>intro _;exact asz _
   |cons t q bA=>
    intro h
    show(if fx s.1 t.1=m then 1 else 0)+aoh m (jt s q)<=(if t.1=u.1 then 1 else 0)+aoh u.1 q
    have:=bA fun v aM=>h v (by simp[aM])
    split
    ·rename_i az
     rw[asq (apR (by rw[h t (by simp),ao]) (by rw[dI u hu,ao]) (az.trans e.symm))];omega
    ·omega
  exact asZ (key dI) (aN _)
 ·rw[aps fun t aA=>by
   obtain⟨u,hu,rfl⟩:=asL.1 aA
   exact fun e=>af ⟨u,hu,e⟩]
  exact atD _
theorem apg (m:List Int){q:List bu}(dI:∀t∈q,t.1.length=8)(aN:∀x,aoh x q<=1):∀{p:List bu},(∀t∈p,t.1.length=8)->aoh m (eR p q)<=p.length
 |[],_=>atD _
 |s::p,h=>by
  have U:=aqQ (h s (by simp)) m dI aN
  have aa:=apg m dI aN (p:=p) fun t aA=>h t (by simp[aA])
  rw[eR,aoU,atf];omega
def aor (p:List bu):List bu:=p.map fun t=>(t.1,1)
theorem apt (m:List Int):∀p:List bu,((aoh m p:Nat):Rat)=cG (aor p) m
 |[]=>rfl
 |t::p=>by
  show(((if t.1=m then 1 else 0)+aoh m p:Nat):Rat)=(if t.1=m then 1 else 0)+cG (aor p) m
  rw[<-apt m p]
  split
  ·grind
  ·grind
theorem apu (q:List bu):∀p:List bu,aor (eR p q)=eR (aor p) (aor q)
 |[]=>rfl
 |s::p=>by
  have e:aor (jt s q)=jt (s.1,1) (aor q):=by
   rw[aor,aor,jt,jt,atM,atM]
   refine auC fun t _=> ?_
   show(fx s.1 t.1,(1:Rat))=(fx s.1 t.1,1*1)
   rw[Rat.mul_one]
  have az:aor (jt s q++eR p q)=aor (jt s q)++aor (eR p q):=as7
  show aor (jt s q++eR p q)=jt (s.1,1) (aor q)++eR (aor p) (aor q)
  rw[az,e,apu q p]
theorem aqR (p q:List bu)(m:List Int):aoh m (eR p q)=aoh m (eR q p):=by
 have h:((aoh m (eR p q):Nat):Rat)=((aoh m (eR q p):Nat):Rat):=by rw[apt,apt,apu,apu,afP]
 exact Rat.natCast_inj.1 h
theorem aqL (m:List Int){p q:List bu}(dI:∀t∈p,t.1.length=8)(aw:∀x,aoh x p<=1)(g8:∀t∈q,t.1.length=8):aoh m (eR p q)<=q.length:=by
 rw[aqR];exact apg m dI aw g8
theorem dA.mono {e f:Int}{p:List bu}(h:dA e p)(aQ:e<=f):dA f p:=fun t aA=>⟨(h t aA).1,fun x af=>⟨((h t aA).2 x af).1,atJ ((h t aA).2 x af).2 aQ⟩⟩
theorem dA.nR {e:Int}{p:List bu}(h:dA e p)(he:e<=4000000000000000000):∀t∈p,j6 t.1:=fun t aA=>⟨(h t aA).1,fun x af=>by have:=(h t aA).2 x af;omega⟩
theorem dA.len {e:Int}{p:List bu}(h:dA e p):∀t∈p,t.1.length=8:=fun t aA=>(h t aA).1
theorem dA.app {e:Int}{p q:List bu}(h:dA e p)(g:dA e q):dA e (p++q):=fun t aA=>by
 rcases atY.1 aA with aA|aA
 ·exact h t aA
 ·exact g t aA
theorem dA.sub {e:Int}{p q:List bu}(h:dA e p)(aN:∀t∈q,∃u∈p,u.1=t.1):dA e q:=fun t aA=>by
 obtain⟨u,hu,e⟩:=aN t aA
 rw[<-e];exact h u hu
theorem dA.nrm {e:Int}{p:List bu}(h:dA e p):dA e (nrm p):=h.sub fun _=>F6
theorem dA.scale {e:Int}{p:List bu}(h:dA e p)(c:Rat):dA e (fT c p):=h.sub fun t aA=>by
 obtain⟨u,hu,rfl⟩:=asL.1 aA
 exact⟨u,hu,rfl⟩
theorem N_:∀{a b:List Int} {x:Int},x∈fx a b->∃y∈a,∃z∈b,x=y+z
 |a::p,b::q,x,h=>by
  rcases asP.1 h with rfl|h
  ·exact⟨a,by simp,b,by simp,rfl⟩
  ·obtain⟨y,a6,z,bc,e⟩:=N_ h
   exact⟨y,by simp[a6],z,by simp[bc],e⟩
 |[],_,x,h=>by simp[fx]at h
 |_::_,[],x,h=>by simp[fx]at h
theorem Oa:∀{p q:List bu} {t:bu},t∈eR p q->∃u∈p,∃v∈q,t=(fx u.1 v.1,u.2*v.2)
 |[],_,t,h=>by cases h
 |s::p,q,t,h=>by
  rcases atY.1 h with h|h
  ·obtain⟨v,aM,rfl⟩:=asL.1 h
   exact⟨s,by simp,v,aM,rfl⟩
  ·obtain⟨u,hu,v,aM,e⟩:=Oa h
   exact⟨u,by simp[hu],v,aM,e⟩
theorem dA.mul {e f:Int}{p q:List bu}(h:dA e p)(g:dA f q):dA (e+f) (eR p q):=fun t aA=>by
 obtain⟨u,hu,v,aM,rfl⟩:=Oa aA
 refine⟨by rw[Fz _ _ (by rw[(h u hu).1,(g v aM).1])];exact(h u hu).1,fun x af=> ?_⟩
 obtain⟨y,a6,z,bc,rfl⟩:=N_ af
 have:=(h u hu).2 y a6
 have:=(g v aM).2 z bc
 omega
theorem b5.rows {l:Rows}(h:b5 l):cQ l:=h.1
theorem mH {l:Rows}(h:hI l=true)(ak:cQ l):dA 1024 (l.map bs):=fun t aA=>by
 obtain⟨r,hm,rfl⟩:=asL.1 aA
 have U:=asH.1 h r hm
 unfold y2 at U
 refine⟨by simp[bs,dY,(ak r hm).len],fun x af=> ?_⟩
 have:=asH.1 U x af
 simpa using this
theorem uN {k:Nat}{p:List bu}(h:aoi k p)(he:∀t∈p,t.1.length=8)(ar:p.length<1000000000):b5 (bP p):=
 ⟨fun r ak=>(aoL h he r ak).row,by rw[iT];omega⟩
theorem F7 {p:List bu}(h:∀t∈p,j6 t.1):∀r∈bP p,j6 (bs r).1:=fun r ak=>by
 obtain⟨t,aA,rfl⟩:=asL.1 ak
 rw[BA (h t aA).1];exact h t aA
theorem FB {k:Nat}{p:List bu}(h:aoi k p)(he:∀t∈p,j6 t.1):∀r∈bP p,fp k r:=fun r ak=>
 (aoL h (fun t aA=>(he t aA).1) r ak).RS (F7 he r ak)
theorem wX {k c:Nat}{p:List bu}(h:aoi k p)(ab:1<=k)(he:∀t∈p,j6 t.1)(ay:∀m,aoh m p<=c)(rU:c*(2*k+2)<=900000)(aoP:k<=900000)(ar:p.length<=1000000000):iY (bP p):=
 ⟨k,c,ab,FB h he,fun m=>by rw[aoI fun t aA=>(he t aA).1];exact ay m,rU,aoP,by rw[iT];exact ar⟩
theorem Vg (p q:List bu):bP p++bP q=bP (p++q):=(uM p q).symm
theorem ri {l:Rows}{K n:Nat}(h:hI l=true)(aQ:b5 l)(hw:Raw K n l)(hA:K<=400000):iY l:=by
 obtain⟨k,c,U,aa,al,aL,bo,bX⟩:=hw
 refine⟨k,c,U,fun r ak=>(aa r ak).RS ((mH h aQ.1).nR (by decide) _ (List.mem_map_of_mem ak)),al, ?_,by omega,by have:=aQ.2;omega⟩
 have:=aqK K aL
 omega
theorem Xo (p q:List bu):nrm (nrm p++nrm q)=nrm (p++q):=sH fun m=>by rw[sN,sN,n0,n0]
theorem Ve (p q:List bu):nrm (p++nrm q)=nrm (p++q):=sH fun m=>by rw[sN,sN,n0]
theorem Xp (p q:List bu):nrm (eR (nrm p) (nrm q))=nrm (eR p q):=sH (Uu (n0 p) (n0 q))
end I
end
section
open Go Go.bG
namespace I
end I
end
section
open Go Go.bG
namespace I
end I
end
section
open Go Go.bG
namespace I
end I
end
section
namespace I
open Go Go.bG
theorem Py {l:List Int}{a:Int}(aH:dd l a):dd l (tv l a)/\cv 1 (jv l a):=by
 have ba:=(aH.num 13).1
 have c3:=pW (lo:=-6) (hi:=6) aH (by decide)
 have cP:=pW (lo:=1) (hi:=5) ba (by decide)
 refine⟨(ba.num 5).1, ?_⟩
 unfold jv Hc Hd
 have aP:kj l (c4 l a 13) 1 5=((kj l (c4 l a 13) 1 5).toNat:Int):=by omega
 rw[aP,Rat.divInt_ofNat]
 exact .mk (by omega) (by omega)
end I
end
section
open Go Go.bG
namespace I
theorem aqY (l:List Int)(a:Int):0<=qj l a aoZ/\qj l a aoZ<=2:=by
 unfold qj
 have:∀x∈aoZ,0<=x/\x<=2:=by decide
 rw[ass]
 cases h:aoZ[(fP l a aoZ.length).toNat]? with
 |none=>decide
 |some x=>exact this x (atG h)
theorem apy {l:List Int}{a:Int}(h:dd l a):∀k,dd l (aot l a k).2/\(aot l a k).1.length=8/\(∀x∈(aot l a k).1,0<=x/\x<=2)/\∀i,k<=i->(aot l a k).1.getD i 0=0
 |0=>⟨h,rfl,by show∀x∈du,_;decide,fun i _=>by
  show du.getD i 0=0
  rw[ass]
  cases e:du[i]? with
  |none=>rfl
  |some x=>exact(by decide:∀x∈du,x=0) x (atG e)⟩
 |k+1=>by
  obtain⟨U,aa,al,aL⟩:=apy h k
  refine⟨(U.num 5).1,by rw[aot,asJ];exact aa,fun x af=> ?_,fun i hi=> ?_⟩
  ·rcases auI af with af|rfl
   ·exact al x af
   ·exact aqY _ _
  ·rw[aot]
   rw[ass,List.getElem?_set_ne (by omega),<-ass]
   exact aL i (by omega)
theorem ap2 {l:List Int}{a:Int}(h:dd l a):dd l (aoD l a):=by
 have U:=(Py h).1
 have aa:=(U.num 8).1
 unfold aoD
 split
 ·exact(rj aa).1
 ·exact aa
def aoJ (v:Nat)(r:Row):Prop:=∃(m:List Int) (s:Bool) (a b:List Int),r=d_ m s a b/\m.length=8/\(∀x∈m,0<=x/\x<=2)/\(∀i,v<=i->m.getD i 0=0)/\av 4 a/\av 4 b
theorem aqV {l:List Int}{a:Int}(h:dd l a)(v:Nat):dd l (ap8 l a v)/\aoJ v (ao7 l a v):=by
 obtain⟨gD,ha,jE,lT⟩:=apy (ap2 h) v
 refine⟨gD,_,_,_,_,rfl,ha,jE,lT, ?_, ?_⟩
 ·split
  ·exact(rj ((Py h).1.num 8).1).2.1
  ·exact(Py h).2.num.mono (by decide)
 ·split
  ·exact(rj ((Py h).1.num 8).1).2.2
  ·exact(Py h).2.den.mono (by decide)
theorem apv {l:List Int}{a:Int}(h:dd l a)(v:Nat):∀k,dd l (aoz l a v k).2/\(aoz l a v k).1.length=k/\∀r∈(aoz l a v k).1,aoJ v r
 |0=>⟨h,rfl,fun r ak=>by cases ak⟩
 |k+1=>by
  obtain⟨U,aa,al⟩:=apv h v k
  obtain⟨t1,t2⟩:=aqV U v
  refine⟨t1,by rw[aoz,as2,aa];rfl,fun r ak=> ?_⟩
  rw[aoz]at ak
  rcases atY.1 ak with ak|ak
  ·exact al r ak
  ·rw[atr.1 ak];exact t2
theorem aqW {l:List Int}{a v n:Int}(h:dd l a)(ar:0<=n):dd l (aoo l a v n).2/\((aoo l a v n).1.length:Int)<=n/\∀r∈(aoo l a v n).1,aoJ v.toNat r:=by
 have aE:=h.num (n+1)
 obtain⟨U,aa,al⟩:=apv aE.1 v.toNat (fP l a (n+1)).toNat
 refine⟨U, ?_,al⟩
 have:=aE.2.2.1 (by omega)
 unfold aoo
 rw[aa];omega
theorem aqF (l:List Int)(a s v n:Int)(K:ad->J->Prop)(h:ao3.T (.ptr 0 0) (st l a s) [.d (.int .i64 v), .d (.int .i64 n)] K):apM l a s v n K:=by
 obtain⟨⟨aH,⟨iJ,asa⟩,H3,vK⟩,ab⟩:=h
 unfold apM
 rw[bl (x:=n+1) (by omega)]
 refine⟨⟨aH,by unfold i64;omega⟩, ?_⟩
 rintro l rfl _ rfl s rfl _ rfl
 have j5:=aH.num (n+1)
 have asb:=j5.2.2.1 (by omega)
 refine⟨fun aV c2 cI k5 o=>c2=l/\k5=s/\0<=aV/\aV<=fP l a (n+1)/\aoz l (c4 l a (n+1)) v.toNat (fP l a (n+1)-aV).toNat=(o,cI),fun aV _ _ _ _=>aV.toNat,⟨rfl,rfl,j5.2.1,Int.le_refl _, ?_⟩, ?_⟩
 ·rw[Int.sub_self];rfl
 rintro aV c2 cI k5 o ⟨rfl,rfl,U,aa,al⟩
 have fH:=apv j5.1 v.toNat (fP c2 a (n+1)-aV).toNat
 rw[al]at fH
 obtain⟨eU,aq,ak⟩:=fH
 simp only at eU aq ak
 refine⟨fun ay=> ?_,fun ay=> ?_⟩
 ·have ay:=asC ay
  have hm:=Py eU
  refine⟨eU, ?_⟩
  rintro c2 rfl _ rfl k5 rfl _ rfl _ rfl _ rfl
  refine⟨fun db a2 s2 bn ba=>db=c2/\s2=k5/\bn=o/\a2=aoD c2 cI/\ba=[d_ du (if aoy c2 cI then hh c2 (c4 c2 (tv c2 cI) 8)else bh (jv c2 cI)) (if aoy c2 cI then iG c2 (c4 c2 (tv c2 cI) 8)else bm (jv c2 cI)) (if aoy c2 cI then iH c2 (c4 c2 (tv c2 cI) 8)else bg (jv c2 cI))],⟨⟨⟨hm.1,by unfold i64;decide⟩, ?_⟩, ?_⟩⟩
  ·rintro c2 rfl _ rfl k5 rfl _ rfl
   refine⟨fun ae=>⟨(hm.1.num 8).1, ?_⟩,fun ae=> ?_⟩
   ·rintro c2 rfl _ rfl k5 rfl _ rfl _ rfl _ rfl
    have e:aoy c2 cI=true:=ae
    refine⟨rfl,rfl,rfl,by rw[aoD,e];rfl, ?_⟩
    rw[e]
    exact asQ (fun x=>[x]) (Gy (m:=du) rfl _ _ _)
   ·have e:aoy c2 cI=false:=ae
    refine⟨rfl,rfl,rfl,by rw[aoD,e];rfl, ?_⟩
    rw[e];rfl
  ·rintro db a2 s2 bn ba ⟨rfl,rfl,rfl,rfl,rfl⟩
   generalize k4:(if aoy db cI then hh db (c4 db (tv db cI) 8)else bh (jv db cI))=S
   generalize wg:(if aoy db cI then iG db (c4 db (tv db cI) 8)else bm (jv db cI))=P
   generalize kz:(if aoy db cI then iH db (c4 db (tv db cI) 8)else bg (jv db cI))=Q
   refine⟨fun j Sl a3 m7 cp fs=>Sl=db/\m7=s2/\cp=bn/\0<=j/\j<=v/\a3=(aot db (aoD db cI) j.toNat).2/\fs=[d_ (aot db (aoD db cI) j.toNat).1 S P Q],fun j _ _ _ _ _=>(v-j).toNat,⟨rfl,rfl,rfl,Int.le_refl _,iJ,rfl,rfl⟩, ?_⟩
   rintro j Sl a3 m7 cp fs ⟨rfl,rfl,rfl,arU,Eb,rfl,rfl⟩
   obtain⟨gD,ha,jE,lT⟩:=apy (ap2 eU) j.toNat
   refine⟨fun aK=> ?_,fun aK=> ?_⟩
   ·have aK:=asC aK
    refine⟨⟨gD,by decide,by decide⟩, ?_⟩
    rintro Sl rfl _ rfl m7 rfl _ rfl
    rw[bl (x:=j+1) (by omega)]
    refine⟨arU,by omega,⟨rfl,rfl,rfl,by omega,by omega, ?_, ?_⟩,by show(v-(j+1)).toNat<(v-j).toNat;omega⟩
    ·rw[show(j+1).toNat=j.toNat+1 by omega];rfl
    ·rw[show(j+1).toNat=j.toNat+1 by omega]
     show[(d_ _ S P Q).set j.toNat _]=_
     rw[aot]
     show[(dG _++_).set j.toNat _]=[dG _++_]
     rw[List.set_append_left _ _ (by rw[kd,ha];omega),dG,dG,auf]
     rfl
   ·have aK:=asE aK
    obtain rfl:j=v:=by omega
    have l9:d_ (aot Sl (aoD Sl cI) j.toNat).1 S P Q=ao7 Sl cI j.toNat:=by rw[ao7,k4,wg,kz]
    refine⟨lh ha, ?_, ?_⟩
    ·have:((cp.length:Nat):Int)<=1000:=by rw[aq];omega
     simp only[atZ];omega
    rw[bl (x:=aV-1) (by omega)]
    refine⟨⟨rfl,rfl,by omega,by omega, ?_⟩,by show(aV-1).toNat<aV.toNat;omega⟩
    rw[show(fP Sl a (n+1)-(aV-1)).toNat=(fP Sl a (n+1)-aV).toNat+1 by omega,aoz,al]
    show(cp++[ao7 Sl cI j.toNat],_)=(cp++[d_ _ S P Q],_)
    rw[l9];rfl
 ·have ay:=asE ay
  obtain rfl:aV=0:=by omega
  have e:aoo c2 a v n=(o,cI):=by rw[aoo,<-al,Int.sub_zero]
  rw[e]at ab
  exact ab
end I
end
section
open Go Go.bG
namespace I
def Ku:I.Rows->I.Rows->(J->Prop)->Prop:=
 fun p q K=>List.length p<100000000000/\∀x,x=p->((x.length:Int)+↑(List.length q))*120<=70368744177664/\iY (x++q)/\∀au,au=bP (nrm (List.map bs (x++q)))->K (J.d (R.rows 11 au))
def Kd:I.Rows->Int->(J->Prop)->Prop:=
 fun p v K=>∃(aD:Int->Int->Prop),∃(m:Int->Int->Nat),aD (-1) 0/\∀(v5 v10:Int),aD v5 v10->(decide (v10<↑(List.length p))=true->0<=v10/\v10<↑(List.length p)/\(List.getD p v10.toNat []).length=11
 /\0<=v/\v<8/\((List.getD p v10.toNat []).getD v.toNat R.undef).isInt .i64/\aD (if v5<((List.getD p v10.toNat []).getD v.toNat R.undef).toInt then((List.getD p v10.toNat []).getD v.toNat R.undef).toInt else v5) (IntKind.i64.wrap (v10+1))
 /\m (if v5<((List.getD p v10.toNat []).getD v.toNat R.undef).toInt then((List.getD p v10.toNat []).getD v.toNat R.undef).toInt else v5) (IntKind.i64.wrap (v10+1))<m v5 v10)/\(decide (v10<↑(List.length p))=false
 ->K (J.d (R.int .i64 v5)))
def Kv:I.Rows->(J->Prop)->Prop:=
 fun p K=>∃(aD:Int->Int->Prop),∃(m:Int->Int->Nat),aD 0 0/\∀(v3 aV:Int),aD v3 aV->(decide (aV<↑(List.length p))=true->0<=aV/\aV<↑(List.length p)/\(List.getD p aV.toNat []).length=11
 /\(List.getD p aV.toNat []).length=11/\(∀(x:R),x∈List.take 8 (List.getD p aV.toNat [])->x.isInt .i64)/\(0<(List.map R.toInt (List.take 8 (List.getD p aV.toNat []))).length/\(List.map R.toInt (List.take 8 (List.getD p aV.toNat []))).length<1000000000)
 /\∀x,x=kU ((List.map R.toInt (List.take 8 (List.getD p aV.toNat []))).getD 0 0) (List.drop 1 (List.map R.toInt (List.take 8 (List.getD p aV.toNat []))))->aD (if v3<x then x else v3) (IntKind.i64.wrap (aV+1))
 /\m (if v3<x then x else v3) (IntKind.i64.wrap (aV+1))<m v3 aV)/\(decide (aV<↑(List.length p))=false->K (J.d (R.int .i64 v3)))
def JU:I.Rows->(J->Prop)->Prop:=
 fun p K=>∃(aD:Int->Prop),∃(m:Int->Nat),aD 0/\∀(v9:Int),aD v9->(decide (v9<↑(List.length p))=true->0<=v9/\v9<↑(List.length p)/\(List.getD p v9.toNat []).length=11/\(List.getD p v9.toNat []).length=11
 /\∃(fz:Int->Prop),∃(e_:Int->Nat),((false,ad.rows 11 [List.getD p v9.toNat []])=(false,ad.rows 11 [List.getD p v9.toNat []])/\fz 0)/\∀(bI:Int),fz bI->(decide (bI<8)=true
 ->0<=bI/\bI<8/\((List.take 8 (List.getD p v9.toNat [])).getD bI.toNat R.undef).isInt .i64/\(decide (((List.take 8 (List.getD p v9.toNat [])).getD bI.toNat R.undef).toInt<0)=true->K (J.d (R.bool false)))
 /\(decide (((List.take 8 (List.getD p v9.toNat [])).getD bI.toNat R.undef).toInt<0)=false->(decide (1024<((List.take 8 (List.getD p v9.toNat [])).getD bI.toNat R.undef).toInt)=true->K (J.d (R.bool false)))
 /\(decide (1024<((List.take 8 (List.getD p v9.toNat [])).getD bI.toNat R.undef).toInt)=false->(false,ad.rows 11 [List.getD p v9.toNat []])=(false,ad.rows 11 [List.getD p v9.toNat []])/\fz (IntKind.i64.wrap (bI+1))
 /\e_ (IntKind.i64.wrap (bI+1))<e_ bI)))/\(decide (bI<8)=false->aD (IntKind.i64.wrap (v9+1))/\m (IntKind.i64.wrap (v9+1))<m v9))/\(decide (v9<↑(List.length p))=false->K (J.d (R.bool true)))
def Kh:I.Rows->Bool->List Int->List Int->(J->Prop)->Prop:=
 fun p s a b K=>List.length p<100000000000/\∀x,x=p->∃(aD:Int->List (List R)->Prop),∃(m:Int->List (List R)->Nat),((false,ad.cells [J.d (R.bool s),J.d (R.ints .u32 a),J.d (R.ints .u32 b)])=(false,ad.cells [J.d (R.bool s),J.d (R.ints .u32 a),J.d (R.ints .u32 b)])
 /\aD 0 x)/\∀(v11:Int) (bn:List (List R)),aD v11 bn->(decide (v11<↑x.length)=true->0<=v11/\v11<↑bn.length/\((bn.getD v11.toNat []).getD 8 R.undef).isBool/\((bn.getD v11.toNat []).getD 9 R.undef).eM .u32
 /\((bn.getD v11.toNat []).getD 10 R.undef).eM .u32/\(av 1000000 ((bn.getD v11.toNat []).getD 9 R.undef).b6/\av 1000000 ((bn.getD v11.toNat []).getD 10 R.undef).b6/\av 1000000 a/\av 1000000 b)
 /\∀x,x=bh (ag ((bn.getD v11.toNat []).getD 8 R.undef).toBool ((bn.getD v11.toNat []).getD 9 R.undef).b6 ((bn.getD v11.toNat []).getD 10 R.undef).b6*ag s a b)->∀au,au=bm (ag ((bn.getD v11.toNat []).getD 8 R.undef).toBool ((bn.getD v11.toNat []).getD 9 R.undef).b6 ((bn.getD v11.toNat []).getD 10 R.undef).b6*ag s a b)
 ->∀ax,ax=bg (ag ((bn.getD v11.toNat []).getD 8 R.undef).toBool ((bn.getD v11.toNat []).getD 9 R.undef).b6 ((bn.getD v11.toNat []).getD 10 R.undef).b6*ag s a b)->0<=v11/\v11<↑bn.length
 /\(false,ad.cells [J.d (R.bool s),J.d (R.ints .u32 a),J.d (R.ints .u32 b)])=(false,ad.cells [J.d (R.bool s),J.d (R.ints .u32 a),J.d (R.ints .u32 b)])/\aD (IntKind.i64.wrap (v11+1)) (bn.set v11.toNat (setRow (bn.getD v11.toNat []) 8 [R.bool x,R.ints .u32 au,R.ints .u32 ax]))
 /\m (IntKind.i64.wrap (v11+1)) (bn.set v11.toNat (setRow (bn.getD v11.toNat []) 8 [R.bool x,R.ints .u32 au,R.ints .u32 ax]))<m v11 bn)/\(decide (v11<↑x.length)=false->iY bn/\∀x,x=bP (nrm (List.map bs bn))
 ->K (J.d (R.rows 11 x)))
def Kw:I.Rows->(J->Prop)->Prop:=
 fun p K=>i64 (-1)/\∀x,x=bh (IntCast.intCast (-1))->∀au,au=bm (IntCast.intCast (-1))->∀ax,ax=bg (IntCast.intCast (-1))->(∃(k:Nat),∃(c:Nat),∃(j:Nat),1<=k/\1<=j
 /\(∀(r:List R),r∈p->fp k r)/\(∀(m:List Int),aok m p<=c)/\av j au/\av j ax/\c*(2*(k+j)+2)<=900000/\k+j<=900000/\List.length p<=1000000000)/\∀aJ,aJ=bP (nrm (fT (ag x au ax) (List.map bs p)))
 ->K (J.d (R.rows 11 aJ))
def Kx:I.Rows->I.Rows->(J->Prop)->Prop:=
 fun p q K=>(∃(k:Nat),∃(c:Nat),1<=k/\(∀(r:List R),r∈q->fp k r)/\(∀(m:List Int),aok m q<=c)/\c*(2*(k+1)+2)<=900000/\k+1<=900000/\List.length q<=1000000000)/\∀x,x=bP (nrm (fT (-1) (List.map bs q)))
 ->iY (p++x)/\∀au,au=bP (nrm (List.map bs p++List.map bs x))->K (J.d (R.rows 11 au))
def Ky:I.Rows->I.Rows->(J->Prop)->Prop:=
 fun p q K=>(0:Int)<=(0:Int)/\(0:Int)<=IntKind.i64.wrap (↑(List.length p)*↑(List.length q))/\IntKind.i64.wrap (↑(List.length p)*↑(List.length q))*(120:Int)<=(281474976710656:Int)
 /\∃(aD:Int->List (List R)->Prop),∃(m:Int->List (List R)->Nat),aD (0:Int) (List.replicate (0:Nat) [R.int .i64 (0:Int),R.int .i64 (0:Int),R.int .i64 (0:Int),R.int .i64 (0:Int),R.int .i64 (0:Int),R.int .i64 (0:Int),R.int .i64 (0:Int),R.int .i64 (0:Int),R.bool false,R.ints .u32 [],R.ints .u32 []])
 /\∀(eF:Int) (ai:List (List R)),aD eF ai->(decide (eF<↑(List.length p))=true->(0:Int)<=eF/\eF<↑(List.length p)/\(List.getD p eF.toNat []).length=(11:Nat)/\∃(fz:Int->List (List R)
 ->List (List R)->Prop),∃(e_:Int->List (List R)->List (List R)->Nat),fz (0:Int) ai [List.getD p eF.toNat []]/\∀(v24:Int) (bq bn:List (List R)),fz v24 bq bn->(decide (v24<↑(List.length q))=true
 ->(0:Int)<=v24/\v24<↑(List.length q)/\(List.getD q v24.toNat []).length=(11:Nat)/\(bn.getD (0:Nat) []).length=(11:Nat)/\(List.getD q v24.toNat []).length=(11:Nat)/\(Dm (List.take (8:Nat) (bn.getD (0:Nat) []))
 /\Dm (List.take (8:Nat) (List.getD q v24.toNat [])))/\((bn.getD (0:Nat) []).getD (8:Nat) R.undef).isBool/\((bn.getD (0:Nat) []).getD (9:Nat) R.undef).eM .u32/\((bn.getD (0:Nat) []).getD (10:Nat) R.undef).eM .u32
 /\((List.getD q v24.toNat []).getD (8:Nat) R.undef).isBool/\((List.getD q v24.toNat []).getD (9:Nat) R.undef).eM .u32/\((List.getD q v24.toNat []).getD (10:Nat) R.undef).eM .u32/\(av (1000000:Nat) ((bn.getD (0:Nat) []).getD (9:Nat) R.undef).b6
 /\av (1000000:Nat) ((bn.getD (0:Nat) []).getD (10:Nat) R.undef).b6/\av (1000000:Nat) ((List.getD q v24.toNat []).getD (9:Nat) R.undef).b6/\av (1000000:Nat) ((List.getD q v24.toNat []).getD (10:Nat) R.undef).b6)
 /\∀x,x=bh (ag ((bn.getD (0:Nat) []).getD (8:Nat) R.undef).toBool ((bn.getD (0:Nat) []).getD (9:Nat) R.undef).b6 ((bn.getD (0:Nat) []).getD (10:Nat) R.undef).b6*ag ((List.getD q v24.toNat []).getD (8:Nat) R.undef).toBool ((List.getD q v24.toNat []).getD (9:Nat) R.undef).b6 ((List.getD q v24.toNat []).getD (10:Nat) R.undef).b6)
 ->∀au,au=bm (ag ((bn.getD (0:Nat) []).getD (8:Nat) R.undef).toBool ((bn.getD (0:Nat) []).getD (9:Nat) R.undef).b6 ((bn.getD (0:Nat) []).getD (10:Nat) R.undef).b6*ag ((List.getD q v24.toNat []).getD (8:Nat) R.undef).toBool ((List.getD q v24.toNat []).getD (9:Nat) R.undef).b6 ((List.getD q v24.toNat []).getD (10:Nat) R.undef).b6)
 ->∀ax,ax=bg (ag ((bn.getD (0:Nat) []).getD (8:Nat) R.undef).toBool ((bn.getD (0:Nat) []).getD (9:Nat) R.undef).b6 ((bn.getD (0:Nat) []).getD (10:Nat) R.undef).b6*ag ((List.getD q v24.toNat []).getD (8:Nat) R.undef).toBool ((List.getD q v24.toNat []).getD (9:Nat) R.undef).b6 ((List.getD q v24.toNat []).getD (10:Nat) R.undef).b6)
 ->(↑bq.length+↑[dG (fx (pD (List.take (8:Nat) (bn.getD (0:Nat) []))) (pD (List.take (8:Nat) (List.getD q v24.toNat []))))++[R.bool x,R.ints .u32 au,R.ints .u32 ax]].length)*(120:Int)<=(70368744177664:Int)
 /\fz (IntKind.i64.wrap (v24+(1:Int))) (bq++[dG (fx (pD (List.take (8:Nat) (bn.getD (0:Nat) []))) (pD (List.take (8:Nat) (List.getD q v24.toNat []))))++[R.bool x,R.ints .u32 au,R.ints .u32 ax]]) bn
 /\e_ (IntKind.i64.wrap (v24+(1:Int))) (bq++[dG (fx (pD (List.take (8:Nat) (bn.getD (0:Nat) []))) (pD (List.take (8:Nat) (List.getD q v24.toNat []))))++[R.bool x,R.ints .u32 au,R.ints .u32 ax]]) bn<e_ v24 bq bn)
 /\(decide (v24<↑(List.length q))=false->aD (IntKind.i64.wrap (eF+(1:Int))) bq/\m (IntKind.i64.wrap (eF+(1:Int))) bq<m eF ai))/\(decide (eF<↑(List.length p))=false->iY ai
 /\∀x,x=bP (nrm (List.map bs ai))->K (J.d (R.rows (11:Nat) x)))
def JG:I.Rows->Int->(J->Prop)->Prop:=
 fun p v K=>∃(aD:Int->List (List R)->Prop),∃(m:Int->List (List R)->Nat),aD 0 []/\∀(v11:Int) (ai:List (List R)),aD v11 ai->(decide (v11<↑(List.length p))=true->0<=v11/\v11<↑(List.length p)
 /\(List.getD p v11.toNat []).length=11/\0<=v/\v<8/\((List.getD p v11.toNat []).getD v.toNat R.undef).isInt .i64/\(decide (0<((List.getD p v11.toNat []).getD v.toNat R.undef).toInt)=true
 ->0<=v/\v<8/\((List.getD p v11.toNat []).getD v.toNat R.undef).isInt .i64/\0<=v/\v<8/\(((List.getD p v11.toNat []).set v.toNat (R.int .i64 (IntKind.i64.wrap (((List.getD p v11.toNat []).getD v.toNat R.undef).toInt-1)))).getD 8 R.undef).isBool
 /\(((List.getD p v11.toNat []).set v.toNat (R.int .i64 (IntKind.i64.wrap (((List.getD p v11.toNat []).getD v.toNat R.undef).toInt-1)))).getD 9 R.undef).eM .u32/\(((List.getD p v11.toNat []).set v.toNat (R.int .i64 (IntKind.i64.wrap (((List.getD p v11.toNat []).getD v.toNat R.undef).toInt-1)))).getD 10 R.undef).eM .u32
 /\i64 ((List.getD p v11.toNat []).getD v.toNat R.undef).toInt/\∀x,x=bh (IntCast.intCast ((List.getD p v11.toNat []).getD v.toNat R.undef).toInt)->∀au,au=bm (IntCast.intCast ((List.getD p v11.toNat []).getD v.toNat R.undef).toInt)
 ->∀ax,ax=bg (IntCast.intCast ((List.getD p v11.toNat []).getD v.toNat R.undef).toInt)->(av 1000000 (((List.getD p v11.toNat []).set v.toNat (R.int .i64 (IntKind.i64.wrap (((List.getD p v11.toNat []).getD v.toNat R.undef).toInt-1)))).getD 9 R.undef).b6
 /\av 1000000 (((List.getD p v11.toNat []).set v.toNat (R.int .i64 (IntKind.i64.wrap (((List.getD p v11.toNat []).getD v.toNat R.undef).toInt-1)))).getD 10 R.undef).b6/\av 1000000 au/\av 1000000 ax)
 /\∀aJ,aJ=bh (ag (((List.getD p v11.toNat []).set v.toNat (R.int .i64 (IntKind.i64.wrap (((List.getD p v11.toNat []).getD v.toNat R.undef).toInt-1)))).getD 8 R.undef).toBool (((List.getD p v11.toNat []).set v.toNat (R.int .i64 (IntKind.i64.wrap (((List.getD p v11.toNat []).getD v.toNat R.undef).toInt-1)))).getD 9 R.undef).b6 (((List.getD p v11.toNat []).set v.toNat (R.int .i64 (IntKind.i64.wrap (((List.getD p v11.toNat []).getD v.toNat R.undef).toInt-1)))).getD 10 R.undef).b6*ag x au ax)
 ->∀bb,bb=bm (ag (((List.getD p v11.toNat []).set v.toNat (R.int .i64 (IntKind.i64.wrap (((List.getD p v11.toNat []).getD v.toNat R.undef).toInt-1)))).getD 8 R.undef).toBool (((List.getD p v11.toNat []).set v.toNat (R.int .i64 (IntKind.i64.wrap (((List.getD p v11.toNat []).getD v.toNat R.undef).toInt-1)))).getD 9 R.undef).b6 (((List.getD p v11.toNat []).set v.toNat (R.int .i64 (IntKind.i64.wrap (((List.getD p v11.toNat []).getD v.toNat R.undef).toInt-1)))).getD 10 R.undef).b6*ag x au ax)
 ->∀bJ,bJ=bg (ag (((List.getD p v11.toNat []).set v.toNat (R.int .i64 (IntKind.i64.wrap (((List.getD p v11.toNat []).getD v.toNat R.undef).toInt-1)))).getD 8 R.undef).toBool (((List.getD p v11.toNat []).set v.toNat (R.int .i64 (IntKind.i64.wrap (((List.getD p v11.toNat []).getD v.toNat R.undef).toInt-1)))).getD 9 R.undef).b6 (((List.getD p v11.toNat []).set v.toNat (R.int .i64 (IntKind.i64.wrap (((List.getD p v11.toNat []).getD v.toNat R.undef).toInt-1)))).getD 10 R.undef).b6*ag x au ax)
 ->(setRow ((List.getD p v11.toNat []).set v.toNat (R.int .i64 (IntKind.i64.wrap (((List.getD p v11.toNat []).getD v.toNat R.undef).toInt-1)))) 8 [R.bool aJ,R.ints .u32 bb,R.ints .u32 bJ]).length=11
 /\((ai.length:Int)+↑[setRow ((List.getD p v11.toNat []).set v.toNat (R.int .i64 (IntKind.i64.wrap (((List.getD p v11.toNat []).getD v.toNat R.undef).toInt-1)))) 8 [R.bool aJ,R.ints .u32 bb,R.ints .u32 bJ]].length)*120<=70368744177664
 /\aD (IntKind.i64.wrap (v11+1)) (ai++[setRow ((List.getD p v11.toNat []).set v.toNat (R.int .i64 (IntKind.i64.wrap (((List.getD p v11.toNat []).getD v.toNat R.undef).toInt-1)))) 8 [R.bool aJ,R.ints .u32 bb,R.ints .u32 bJ]])
 /\m (IntKind.i64.wrap (v11+1)) (ai++[setRow ((List.getD p v11.toNat []).set v.toNat (R.int .i64 (IntKind.i64.wrap (((List.getD p v11.toNat []).getD v.toNat R.undef).toInt-1)))) 8 [R.bool aJ,R.ints .u32 bb,R.ints .u32 bJ]])<m v11 ai)
 /\(decide (0<((List.getD p v11.toNat []).getD v.toNat R.undef).toInt)=false->aD (IntKind.i64.wrap (v11+1)) ai/\m (IntKind.i64.wrap (v11+1)) ai<m v11 ai))/\(decide (v11<↑(List.length p))=false
 ->iY ai/\∀x,x=bP (nrm (List.map bs ai))->K (J.d (R.rows 11 x)))
def JA:I.Rows->(J->Prop)->Prop:=
 fun p K=>b5 p/\∀x,x=jg 0 (List.map bs p)->(decide (1024<x)=true->K (J.tup [J.d (R.rows 11 []),J.d (R.int .i64 9)]))/\(decide (1024<x)=false->K (J.tup [J.d (R.rows 11 p),J.d (R.int .i64 0)]))
def JX:I.Rows->(J->Prop)->Prop:=
 fun p K=>b5 p/\∀x,x=hI p->((!x)=true->K (J.tup [J.d (R.rows 11 []),J.d (R.int .i64 2)]))/\((!x)=false->iY p/\∀x,x=bP (nrm (List.map bs p))->K (J.tup [J.d (R.rows 11 x),J.d (R.int .i64 0)]))
def J5:Int->(J->Prop)->Prop:=
 fun v K=>(decide (v<0)=true->K (J.tup [J.d (R.rows 11 []),J.d (R.int .i64 1)]))/\(decide (v<0)=false->(decide (8<=v)=true->K (J.tup [J.d (R.rows 11 []),J.d (R.int .i64 1)]))
 /\(decide (8<=v)=false->i64 1/\∀x,x=bh (IntCast.intCast 1)->∀au,au=bm (IntCast.intCast 1)->∀ax,ax=bg (IntCast.intCast 1)->0<=v/\v<8/\(([R.int .i64 0,R.int .i64 0,R.int .i64 0,R.int .i64 0,R.int .i64 0,R.int .i64 0,R.int .i64 0,R.int .i64 0]++[R.bool x,R.ints .u32 au,R.ints .u32 ax]).set v.toNat (R.int .i64 1)).length=11
 /\K (J.tup [J.d (R.rows 11 [([R.int .i64 0,R.int .i64 0,R.int .i64 0,R.int .i64 0,R.int .i64 0,R.int .i64 0,R.int .i64 0,R.int .i64 0]++[R.bool x,R.ints .u32 au,R.ints .u32 ax]).set v.toNat (R.int .i64 1)]),J.d (R.int .i64 0)])))
def Jv:I.Rows->I.Rows->(J->Prop)->Prop:=
 fun p q K=>b5 p/\∀x,x=hI p->((!x)=true->K (J.tup [J.d (R.rows 11 []),J.d (R.int .i64 2)]))/\((!x)=false->b5 q/\∀x,x=hI q->((!x)=true->K (J.tup [J.d (R.rows 11 []),J.d (R.int .i64 2)]))
 /\((!x)=false->iY p/\∀x,x=bP (nrm (List.map bs p))->iY q/\∀au,au=bP (nrm (List.map bs q))->iY (x++au)/\∀ax,ax=bP (nrm (List.map bs x++List.map bs au))->b5 ax
 /\∀x,(x=if 1024<jg 0 (List.map bs ax)then[]else ax)->∀aJ,(aJ=if 1024<jg 0 (List.map bs ax)then 9 else 0)->K (J.tup [J.d (R.rows 11 x),J.d (R.int .i64 aJ)])))
def Jw:I.Rows->I.Rows->(J->Prop)->Prop:=
 fun p q K=>b5 p/\∀x,x=hI p->((!x)=true->K (J.tup [J.d (R.rows 11 []),J.d (R.int .i64 2)]))/\((!x)=false->b5 q/\∀x,x=hI q->((!x)=true->K (J.tup [J.d (R.rows 11 []),J.d (R.int .i64 2)]))
 /\((!x)=false->iY p/\∀x,x=bP (nrm (List.map bs p))->iY q/\∀au,au=bP (nrm (List.map bs q))->(∃(k:Nat),∃(c:Nat),∃(j:Nat),∃(d:Nat),1<=k/\1<=j/\(∀(r:List R),r∈x
 ->fp k r)/\(∀(r:List R),r∈au->fp j r)/\(∀(m:List Int),aok m x<=c)/\(∀(m:List Int),aok m au<=d)/\1<=d/\(c+1)*(2*(k+d*(j+2))+2)<=900000/\x.length+au.length<=1000000000)
 /\∀ax,ax=bP (nrm (List.map bs x++fT (-1) (List.map bs au)))->b5 ax/\∀x,(x=if 1024<jg 0 (List.map bs ax)then[]else ax)->∀aJ,(aJ=if 1024<jg 0 (List.map bs ax)then 9 else 0)
 ->K (J.tup [J.d (R.rows 11 x),J.d (R.int .i64 aJ)])))
def J6:I.Rows->I.Rows->(J->Prop)->Prop:=
 fun p q K=>qk p q/\∀x,x=bP (if ew p q=true then nrm (List.map bs p++List.map bs q)else[])->∀au,(au=if ew p q=true then 0 else 2)->K (J.tup [J.d (R.rows 11 x),J.d (R.int .i64 au)])
def J7:I.Rows->I.Rows->(J->Prop)->Prop:=
 fun p q K=>qk p q/\∀x,x=bP (if ew p q=true then nrm (List.map bs p++fT (-1) (List.map bs q))else[])->∀au,(au=if ew p q=true then 0 else 2)->K (J.tup [J.d (R.rows 11 x),J.d (R.int .i64 au)])
def JB:I.Rows->Int->I.Rows->(J->Prop)->Prop:=
 fun p n q K=>∃(aD:Int->Prop),∃(m:Int->Nat),aD 0/\∀(aV:Int),aD aV->(decide (aV<8)=true->(b5 p/\0<=aV/\aV<8)/\∀x,x=lU (List.map bs p) aV.toNat->(b5 q/\0<=aV/\aV<8)
 /\∀au,au=lU (List.map bs q) aV.toNat->(decide (1024<IntKind.i64.wrap (IntKind.i64.wrap (n*if x<0 then 0 else x)+if au<0 then 0 else au))=true->K (J.d (R.bool true)))/\(decide (1024<IntKind.i64.wrap (IntKind.i64.wrap (n*if x<0 then 0 else x)+if au<0 then 0 else au))=false
 ->aD (IntKind.i64.wrap (aV+1))/\m (IntKind.i64.wrap (aV+1))<m aV))/\(decide (aV<8)=false->K (J.d (R.bool false)))
def J8:I.Rows->I.Rows->(J->Prop)->Prop:=
 fun p q K=>b5 p/\∀x,x=hI p->((!x)=true->K (J.tup [J.d (R.rows (11:Nat) []),J.d (R.int .i64 (2:Int))]))/\((!x)=false->b5 q/\∀x,x=hI q->((!x)=true->K (J.tup [J.d (R.rows (11:Nat) []),J.d (R.int .i64 (2:Int))]))
 /\((!x)=false->iY p/\∀x,x=bP (nrm (List.map bs p))->iY q/\∀au,au=bP (nrm (List.map bs q))->(decide ((0:Int)<↑x.length)=true->(decide ((0:Int)<↑au.length)=true->((b5 x
 /\b5 au)/\(vp x/\vp au)/\(0:Int)<=(1:Int)/\(1:Int)<=(1000:Int))/\∀ax,ax=hi (1:Int) (List.map bs x) (List.map bs au)->(ax=true->K (J.tup [J.d (R.rows (11:Nat) []),J.d (R.int .i64 (9:Int))]))
 /\(ax=false->ya x au/\∀aJ,aJ=bP (nrm (eR (List.map bs x) (List.map bs au)))->K (J.tup [J.d (R.rows (11:Nat) aJ),J.d (R.int .i64 (0:Int))])))/\(decide ((0:Int)<↑au.length)=false
 ->ya x au/\∀ax,ax=bP (nrm (eR (List.map bs x) (List.map bs au)))->K (J.tup [J.d (R.rows (11:Nat) ax),J.d (R.int .i64 (0:Int))])))/\(decide ((0:Int)<↑x.length)=false->ya x au
 /\∀ax,ax=bP (nrm (eR (List.map bs x) (List.map bs au)))->K (J.tup [J.d (R.rows (11:Nat) ax),J.d (R.int .i64 (0:Int))]))))
def Js:I.Rows->Int->(J->Prop)->Prop:=
 fun p v K=>b5 p/\∀x,x=hI p->((!x)=true->K (J.tup [J.d (R.rows 11 []),J.d (R.int .i64 2)]))/\((!x)=false->(decide (v<0)=true->K (J.tup [J.d (R.rows 11 []),J.d (R.int .i64 1)]))
 /\(decide (v<0)=false->(decide (8<=v)=true->K (J.tup [J.d (R.rows 11 []),J.d (R.int .i64 1)]))/\(decide (8<=v)=false->iY p/\∀x,x=bP (nrm (List.map bs p))->K (J.tup [J.d (R.rows 11 x),J.d (R.int .i64 0)]))))
def Jt:I.Rows->Int->(J->Prop)->Prop:=
 fun p v K=>(b5 p/\Raw 400000 1000000000 p)/\∀x,x=bP (if gQ p v=0 then nrm (List.map bs p)else[])->∀au,au=gQ p v->((!decide (au=0))=true->K (J.tup [J.d (R.rows 11 []),J.d (R.int .i64 au)]))
 /\((!decide (au=0))=false->((0<=v/\v<8)/\dA 1000000000 (List.map bs x)/\∃(k:Nat),∃(c:Nat),1<=k/\(∀(r:List R),r∈x->fp k r)/\(∀(m:List Int),aok m x<=c)/\c*(2*(k+1)+2)<=900000
 /\k+1<=900000/\x.length<=1000000000)/\∀ax,ax=bP (nrm (hF v.toNat (List.map bs x)))->K (J.tup [J.d (R.rows 11 ax),J.d (R.int .i64 0)]))
def JC:I.Rows->I.Rows->(J->Prop)->Prop:=
 fun(p q:I.Rows) (K:J->Prop)=>((!decide ((Nat.cast:Nat->Int) (List.length p)=(Nat.cast:Nat->Int) (List.length q)))=true->K (J.d (R.bool false)))/\((!decide ((Nat.cast:Nat->Int) (List.length p)=(Nat.cast:Nat
 ->Int) (List.length q)))=false->∃(aD:Int->Prop),∃(m:Int->Nat),aD (0:Int)/\∀(v5:Int),aD v5->(decide (v5<(Nat.cast:Nat->Int) (List.length p))=true->(0:Int)<=v5/\v5<(Nat.cast:Nat
 ->Int) (List.length p)/\List.length (List.getD p (Int.toNat v5) [])=(11:Nat)/\(0:Int)<=v5/\v5<(Nat.cast:Nat->Int) (List.length q)/\List.length (List.getD q (Int.toNat v5) [])=(11:Nat)
 /\(∀(x:R),x∈List.take (8:Nat) (List.getD p (Int.toNat v5) [])->R.isInt x IntKind.i64)/\(∀(x:R),x∈List.take (8:Nat) (List.getD q (Int.toNat v5) [])->R.isInt x IntKind.i64)/\((!decide (List.map R.toInt (List.take (8:Nat) (List.getD p (Int.toNat v5) []))=List.map R.toInt (List.take (8:Nat) (List.getD q (Int.toNat v5) []))))=true
 ->K (J.d (R.bool false)))/\((!decide (List.map R.toInt (List.take (8:Nat) (List.getD p (Int.toNat v5) []))=List.map R.toInt (List.take (8:Nat) (List.getD q (Int.toNat v5) []))))=false->(0:Int)<=v5
 /\v5<(Nat.cast:Nat->Int) (List.length p)/\R.isBool (List.getD (List.getD p (Int.toNat v5) []) (8:Nat) R.undef)/\R.eM (List.getD (List.getD p (Int.toNat v5) []) (9:Nat) R.undef) IntKind.u32
 /\R.eM (List.getD (List.getD p (Int.toNat v5) []) (10:Nat) R.undef) IntKind.u32/\(0:Int)<=v5/\v5<(Nat.cast:Nat->Int) (List.length q)/\R.isBool (List.getD (List.getD q (Int.toNat v5) []) (8:Nat) R.undef)
 /\R.eM (List.getD (List.getD q (Int.toNat v5) []) (9:Nat) R.undef) IntKind.u32/\R.eM (List.getD (List.getD q (Int.toNat v5) []) (10:Nat) R.undef) IntKind.u32/\(List.length (R.b6 (List.getD (List.getD p (Int.toNat v5) []) (9:Nat) R.undef))<=(1000000000:Nat)
 /\List.length (R.b6 (List.getD (List.getD p (Int.toNat v5) []) (10:Nat) R.undef))<=(1000000000:Nat)/\List.length (R.b6 (List.getD (List.getD q (Int.toNat v5) []) (9:Nat) R.undef))<=(1000000000:Nat)
 /\List.length (R.b6 (List.getD (List.getD q (Int.toNat v5) []) (10:Nat) R.undef))<=(1000000000:Nat))/\∀(x:Bool),x=decide (R.toBool (List.getD (List.getD p (Int.toNat v5) []) (8:Nat) R.undef)=R.toBool (List.getD (List.getD q (Int.toNat v5) []) (8:Nat) R.undef)
 /\R.b6 (List.getD (List.getD p (Int.toNat v5) []) (9:Nat) R.undef)=R.b6 (List.getD (List.getD q (Int.toNat v5) []) (9:Nat) R.undef)/\R.b6 (List.getD (List.getD p (Int.toNat v5) []) (10:Nat) R.undef)=R.b6 (List.getD (List.getD q (Int.toNat v5) []) (10:Nat) R.undef))
 ->((!x)=true->K (J.d (R.bool false)))/\((!x)=false->aD (IntKind.wrap IntKind.i64 (v5+(1:Int)))/\m (IntKind.wrap IntKind.i64 (v5+(1:Int)))<m v5)))/\(decide (v5<(Nat.cast:Nat->Int) (List.length p))=false
 ->K (J.d (R.bool true))))
end I
end
