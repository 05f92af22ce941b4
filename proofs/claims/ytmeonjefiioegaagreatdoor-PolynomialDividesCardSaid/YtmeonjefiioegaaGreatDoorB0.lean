/- Helpers for the statements: facts about numbers, fractions and polynomials as lists, and the proofs of the conditions. Condition: none. -/
import Derived.Test.YtmeonjefiioegaaGreatDoorA2
import Derived.Lib.Bytealg
import Derived.Sort.AssemblyPlain
import Derived.Sort.LotD4
section
namespace ab
def val:List Int->Nat
 |[]=>0
 |x::r=>x.toNat+4294967296*val r
def bL (a:List Int):Prop:=∀i,0<=a.getD i 0/\a.getD i 0<4294967296
def aO (n:Nat):List Int:=if h:n=0 then[]else((n%4294967296:Nat):Int)::aO (n/4294967296)
  termination_by n
  decreasing_by exact aqF (aqG h) (by decide)
def dw (a:List Int)(i:Nat):Nat:=val (a.take i)
theorem bL.mem {a:List Int}(h:bL a){x:Int}(ak:x∈a):0<=x/\x<4294967296:=by
 obtain⟨i,hi,rfl⟩:=List.mem_iff_getElem.1 ak;have:=h i;simpa[aoC,hi]using this
theorem bL.of {a:List Int}(h:∀x∈a,0<=x/\x<4294967296):bL a:=fun i=>by
 by_cases hi:i<a.length
 ·have:=h _ (apJ hi);simpa[aoC,hi]using this
 ·simp[aoC,hi]
theorem bL.nil:bL []:= .of (by simp)
theorem bL.cons {x:Int}{r:List Int}(h:bL (x::r)):(0<=x/\x<4294967296)/\bL r:=⟨h.mem (by simp), .of fun y bn=>h.mem (by simp[bn])⟩
theorem bL.mk {x:Int}{r:List Int}(ak:0<=x/\x<4294967296)(h:bL r):bL (x::r):= .of fun y bn=>by
 rcases aoW.1 bn with rfl|bn
 ·exact ak
 ·exact h.mem bn
theorem bL.take {a:List Int}(h:bL a)(n:Nat):bL (a.take n):= .of fun _ ak=>h.mem (List.mem_of_mem_take ak)
theorem bL.drop {a:List Int}(h:bL a)(n:Nat):bL (a.drop n):= .of fun _ ak=>h.mem (List.mem_of_mem_drop ak)
theorem bL.append {a b:List Int}(h:bL a)(k:bL b):bL (a++b):= .of fun x ak=>by
 rcases apM.1 ak with ak|ak
 ·exact h.mem ak
 ·exact k.mem ak
theorem bL.set {a:List Int}(h:bL a)(i:Nat){x:Int}(ak:0<=x/\x<4294967296):bL (a.set i x):= .of fun y bn=>by
 rcases aqU bn with bn|rfl
 ·exact h.mem bn
 ·exact ak
theorem bL.nt (n:Nat):bL (List.replicate n 0):= .of fun x ak=>by rw[List.eq_of_mem_replicate ak];decide
theorem NS (a b:List Int):val (a++b)=val a+4294967296^a.length*val b:=by
 induction a with
 |nil=>simp[val]
 |cons x r bM=>
  simp only[ap0,val,bM,apj,ao2,aoS];rw[apa (4294967296^r.length) 4294967296,ao4];omega
theorem yD (n:Nat):val (List.replicate n 0)=0:=by
 induction n with
 |zero=>rfl
 |succ n bM=>simp[List.replicate_succ,val,bM]
theorem iE {a:List Int}(h:bL a):val a<4294967296^a.length:=by
 induction a with
 |nil=>simp[val]
 |cons x r bM=>
  obtain⟨⟨aa,ad⟩,ao⟩:=h.cons;have:=bM ao;simp only[val,apj,ao2];have ak:x.toNat<4294967296:=by omega
  omega
theorem iD (a:List Int):dw a 0=0:=by simp[dw,val]
theorem gy (a:List Int)(i:Nat):dw a (i+1)=dw a i+4294967296^i*(a.getD i 0).toNat:=by
 unfold dw
 by_cases h:i<a.length
 ·rw[List.take_succ_eq_append_getElem h,NS];simp only[val,apf,aqV (aqh h),ao6,ao0];simp[aoC,h]
 ·rw[aqB (by omega),aqB (by omega)];simp[aoC,h]
theorem hE (a:List Int){i:Nat}(h:a.length<=i):dw a i=val a:=by unfold dw;rw[aqB h]
theorem ri (a:List Int)(i j:Nat)(v:Int)(h:i<=j):dw (a.set j v) i=dw a i:=by
 unfold dw;rw[List.take_set_of_le h]
theorem ru {a:List Int}(h:bL a)(i:Nat):dw a i<4294967296^i:=by
 unfold dw;have:=iE (h.take i);refine aoZ this (apd (by decide) ?_);simp;omega
theorem kC:aO 0=[]:=by unfold aO;simp
theorem wy {n:Nat}(h:n≠0):aO n=((n%4294967296:Nat):Int)::aO (n/4294967296):=by rw[aO];simp[h]
theorem dV (n:Nat):val (aO n)=n:=by
 induction n using Nat.strongRecOn with
 |_ n bM=>
  by_cases h:n=0
  ·subst h;rw[kC];rfl
  ·rw[wy h,val,bM _ (aqF (aqG h) (by decide))];omega
theorem gx (n:Nat):bL (aO n):=by
 induction n using Nat.strongRecOn with
 |_ n bM=>
  by_cases h:n=0
  ·subst h;rw[kC];exact .nil
  ·rw[wy h];have:n%4294967296<4294967296:=apm _ (by decide);exact .mk ⟨by omega,by omega⟩ (bM _ (aqF (aqG h) (by decide)))
theorem Hg {a b:Nat}:aO a=aO b↔a=b:=⟨fun h=>by rw[<-dV a,<-dV b,h],fun h=>h▸rfl⟩
theorem qU {n:Nat}:aO n=[]↔n=0:=by
 rw[<-kC,Hg]
theorem hZ {n k:Nat}:(aO n).length<=k↔n<4294967296^k:=by
 induction k generalizing n with
 |zero=>
  simp only[Nat.le_zero,apl,qU,aqb];omega
 |succ k bM=>
  by_cases h:n=0
  ·subst h;rw[kC];simp[Nat.pow_pos]
  ·rw[wy h,apj,Nat.add_le_add_iff_right,bM,ao2];exact Nat.div_lt_iff_lt_mul (by decide)
def Norm (a:List Int):Prop:=a.getLast?≠some 0
theorem G2 (n:Nat):Norm (aO n):=by
 induction n using Nat.strongRecOn with
 |_ n bM=>
  by_cases h:n=0
  ·subst h;rw[kC];simp[Norm]
  ·have az:=bM _ (aqF (aqG h) (by decide:1<4294967296));rw[wy h];unfold Norm at az⊢;rw[List.getLast?_cons]
   cases ak:(aO (n/4294967296)).getLast? with
   |none=>
    have:aO (n/4294967296)=[]:=by simpa using ak
    rw[qU]at this;have ad:=Nat.mod_add_div n 4294967296;rw[this]at ad;simp only[Option.getD_none,ne_eq,aoY];omega
   |some y=>rw[ak]at az;simpa using az
theorem yE:∀{a:List Int},bL a->Norm a->aO (val a)=a
 |[],_,_=>kC
 |x::r,h,aB=>by
  obtain⟨⟨aa,ad⟩,ao⟩:=h.cons
  have ajs:Norm r:=by
   unfold Norm at aB⊢;rw[List.getLast?_cons]at aB;intro ak;rw[ak]at aB;simp at aB
  have bM:=yE ao ajs
  have hm:val (x::r)%4294967296=x.toNat:=by
   rw[val,Nat.add_mul_mod_self_left,apw (by omega)]
  have aY:val (x::r)/4294967296=val r:=by
   rw[val,Nat.add_mul_div_left _ _ (by decide),aqf (by omega),ao8]
  have cT:val (x::r)≠0:=by
   intro bc;rw[bc]at hm aY;simp at hm aY;have:r=[]:=by rw[<-bM,<-aY];exact kC
   subst this;unfold Norm at aB;simp at aB;omega
  rw[wy cT,hm,aY,bM,Int.toNat_of_nonneg aa]
theorem Xm {a:List Int}(h:a.getD (a.length-1) 0=0):val (a.take (a.length-1))=val a:=by
 by_cases he:a.length=0
 ·have:a=[]:=apl.1 he;subst this;rfl
 ·have:=gy a (a.length-1);rw[h,show a.length-1+1=a.length by omega,hE a (aoH _)]at this;simpa[dw]using this.symm
theorem Bs {a:List Int}(h:a=[]\/a.getD (a.length-1) 0≠0):Norm a:=by
 unfold Norm;rcases h with rfl|h
 ·simp
 ·rw[List.getLast?_eq_getElem?];intro ak;apply h;rw[aoC,ak];rfl
end ab
end
section
namespace ab
def jk (n:Nat):List Int:=if h:n=0 then[]else((48+n%10:Nat):Int)::jk (n/10)
  termination_by n
  decreasing_by exact aqF (aqG h) (by decide)
def dec (n:Nat):List Int:=if n=0 then[48]else(jk n).reverse
theorem uf:jk 0=[]:=by unfold jk;simp
theorem B9 {n:Nat}(h:n≠0):jk n=((48+n%10:Nat):Int)::jk (n/10):=by rw[jk];simp[h]
theorem PC {n:Nat}:jk n=[]↔n=0:=by
 by_cases h:n=0
 ·subst h;simp[uf]
 ·rw[B9 h];simp[h]
theorem abF {n k:Nat}:(jk n).length<=k↔n<10^k:=by
 induction k generalizing n with
 |zero=>
  simp only[Nat.le_zero,apl,PC,aqb];omega
 |succ k bM=>
  by_cases h:n=0
  ·subst h;rw[uf];simp[Nat.pow_pos]
  ·rw[B9 h,apj,Nat.add_le_add_iff_right,bM,ao2];exact Nat.div_lt_iff_lt_mul (by decide)
theorem abG {n:Nat}{x:Int}(h:x∈jk n):48<=x/\x<58:=by
 induction n using Nat.strongRecOn with
 |_ n bM=>
  by_cases bc:n=0
  ·subst bc;rw[uf]at h;cases h
  ·rw[B9 bc,aoW]at h;rcases h with rfl|h
   ·omega
   ·exact bM _ (aqF (aqG bc) (by decide)) h
theorem QG {a:List Int}(h:bL a):(jk (val a)).length<=10*a.length:=by
 rw[abF];refine aoZ (iE h) ?_;rw[Nat.pow_mul];exact Nat.pow_le_pow_left (by decide) _
def vO (acc:Nat):List Int->Nat
 |[]=>acc
 |x::r=>vO (acc*10+(x-48).toNat) r
def Se (s:List Int):Bool:=decide (s≠[])&&s.all fun x=>decide (48<=x/\x<=57)
def Dj (s:List Int):Int:=if Se s=true then(if 60<s.length then 9 else 0)else 4
def Dk (s:List Int):List Int:=if Se s=true/\s.length<=60 then aO (vO 0 s)else[]
end ab
end
section
namespace Go.aj
def bj (S:List R->Option (Prop×R)):List R->(R->Prop)->Prop:=fun args K=>match S args with|some (p,r)=>p/\K r|none=>False
theorem cE (S:List R->Option (Prop×R)):lO (bj S):=by
 refine⟨fun args K K' ae h=> ?_,fun args K h=> ?_⟩
 ·unfold bj at h⊢;split
  ·rename_i he;rw[he]at h;exact⟨h.1,ae _ h.2⟩
  ·rename_i he;rw[he]at h;exact h
 ·unfold bj at h;split at h
  ·exact⟨_,h.2⟩
  ·exact h.elim
def fq (S:R->ag->List R->Option (Prop×ag×R)):R->ag->List R->(ag->R->Prop)->Prop:=fun a o args K=>match S a o args with|some (p,cg,r)=>p/\K cg r|none=>False
theorem hh (S:R->ag->List R->Option (Prop×ag×R)):kr (fq S):=by
 refine⟨fun a o args K K' ae h=> ?_,fun a o args K h=> ?_⟩
 ·unfold fq at h⊢;split
  ·rename_i he;rw[he]at h;exact⟨h.1,ae _ _ h.2⟩
  ·rename_i he;rw[he]at h;exact h
 ·unfold fq at h;split at h
  ·exact⟨_,_,h.2⟩
  ·exact h.elim
end Go.aj
namespace ab
open Go Go.aj
def L (x:Int):Prop:=0<=x/\x<4294967296
def bw (a:List Int):Prop:=bL a/\a.length<=100000000
abbrev gw (x:Int):R:= .d (.int .u32 x)
abbrev FP (x:Int):R:= .d (.int .i64 x)
def Dl.T:=bj fun|[.d (.int .u32 x), .d (.int .u32 y)]=>some (L x/\L y, .tup [.d (.int .u32 (x*y/4294967296)), .d (.int .u32 (x*y%4294967296))])|_=>none
def Dm.T:=bj fun|[.d (.int .u32 x), .d (.int .u32 y), .d (.int .u32 c)]=>some (L x/\L y/\0<=c/\c<=1, .tup [.d (.int .u32 ((x+y+c)%4294967296)), .d (.int .u32 ((x+y+c)/4294967296))])|_=>none
def Dn.T:=bj fun|[.d (.int .u32 x), .d (.int .u32 y), .d (.int .u32 c)]=>some (L x/\L y/\0<=c/\c<=1, .tup [.d (.int .u32 ((x-y-c)%4294967296)), .d (.int .u32 (if x-y-c<0 then 1 else 0))])|_=>none
def Dp.T:=bj fun|[.d (.int .u32 h), .d (.int .u32 l), .d (.int .u32 y)]=>some (L h/\L l/\L y/\h<y, .tup [.d (.int .u32 ((h*4294967296+l)/y)), .d (.int .u32 ((h*4294967296+l)%y))])|_=>none
def DU.T:=bj fun|[.d (.af .u32 a)]=>some (bL a/\a.length<=1000000000, .d (.af .u32 (aO (val a))))|_=>none
def Dq.T:=bj fun|[.d (.af .u32 a)]=>some (a.length<=100000000, .d (.af .u32 a))|_=>none
def DV.T:=bj fun|[.d (.af .u32 a)]=>some (bw a, .d (.af .u32 (aO (val a))))|_=>none
def BU.T:=bj fun|[.d (.int .u64 u)]=>some (0<=u/\u<18446744073709551616, .d (.af .u32 (aO u.toNat)))|_=>none
def CJ.T:=bj fun|[.d (.af .u32 a)]=>some (bL a/\a.length<=2, .d (.int .u64 (val a)))|_=>none
def cmp (a b:Nat):Int:=if a<b then-1 else if a=b then 0 else 1
def EB.T:=bj fun|[.d (.af .u32 a), .d (.af .u32 b)]=>some (bw a/\bw b, .d (.int .i64 (cmp (val a) (val b))))|_=>none
def iG.T:=bj fun|[.d (.af .u32 a), .d (.af .u32 b)]=>some (bw a/\bw b, .d (.af .u32 (aO (val a+val b))))|_=>none
def EC.T:=bj fun|[.d (.af .u32 a), .d (.af .u32 b)]=>some (bw a/\bw b, .d (.af .u32 (aO (val a*val b))))|_=>none
def ED.T:=bj fun|[.d (.af .u32 a), .d (.af .u32 b)]=>some (bw a/\bw b, .tup [.d (.af .u32 (if val a<val b then[]else aO (val a-val b))), .d (.int .i64 (if val a<val b then 1 else 0))])|_=>none
def Dr.T:=bj fun|[.d (.af .u32 a), .d (.int .u32 d)]=>some (bw a/\L d/\0<d, .tup [.d (.af .u32 (aO (val a/d.toNat))), .d (.int .u32 (val a%d.toNat:Nat))])|_=>none
def CK.T:=bj fun|[.d (.af .u32 a), .d (.af .u32 b)]=>some (bw a/\bw b, .tup [.d (.af .u32 (if val b=0 then[]else aO (val a/val b))), .d (.af .u32 (if val b=0 then[]else aO (val a%val b))), .d (.int .i64 (if val b=0 then 3 else 0))])|_=>none
def anR.T:=bj fun|[.d (.af .u32 a), .d (.int .i64 n)]=>some (bL a/\a.length<=1000000, .tup [.d (.af .u32 (if 0<=n/\n<=64 then aO (val a^n.toNat)else[])), .d (.int .i64 (if 0<=n/\n<=64 then 0 else 1))])|_=>none
def DW.T:=bj fun|[.d (.af .u32 a), .d (.af .u32 b)]=>some (a.length<=1000000000/\b.length<=1000000000, .d (.bool (decide (a=b))))|_=>none
def anb.T:=bj fun|[.d (.af .u32 a), .d (.af .u32 b)]=>some (bw a/\bw b/\val b<4294967296, .tup [.d (.af .u32 (if val b=0 then[]else aO (val a/val b))), .d (.af .u32 (if val b=0 then[]else aO (val a%val b))), .d (.int .i64 (if val b=0 then 3 else 0))])|_=>none
def B_.T:=fq fun| .vec n, .af .u8 l,[]=>(match Nat.beq n 0 with|true=>some (l.length<=1000000000000, .af .u8 l.reverse, .tup [])|false=>none)|_,_,_=>none
def CL.T:=bj fun|[.d (.af .u32 a)]=>some (bw a, .d (.str (dec (val a))))|_=>none
def anr.T:=bj fun|[]=>some (True, .d (.bool true))|_=>none
def amN.T:=bj fun|[.d (.af .u32 a), .d (.int .u8 m), .d (.int .u8 n)]=>some (bL a/\0<=m/\0<=n, .d (.bool true))|_=>none
def anc.T:=bj fun|[.d (.int .i64 n)]=>some (-9223372036854775808<=n/\n<9223372036854775808, .tup [.d (.af .u32 (if n<0 then[]else aO n.toNat)), .d (.int .i64 (if n<0 then 1 else 0))])|_=>none
def anS.T:=bj fun|[.d (.af .u32 a)]=>some (bw a, .tup [.d (.int .i64 (if val a<9223372036854775808 then val a else 0)), .d (.int .i64 (if val a<9223372036854775808 then 0 else 1))])|_=>none
def ans.T:=bj fun|[.d (.str s)]=>some (s.length<=1000000000000, .tup [.d (.af .u32 (Dk s)), .d (.int .i64 (Dj s))])|_=>none
def am7.T:=bj fun|[.d (.af .u32 a)]=>some (True, .d (.bool (decide (a.length<=24))))|_=>none
def amU.T:=bj fun|[.d (.af .u32 a), .d (.af .u32 b), .d (.af .u32 c)]=>some (bL a/\bL b/\bL c, .d (.bool true))|_=>none
def amV.T:=bj fun|[.d (.int .i64 m), .d (.int .i64 n)]=>some (-9223372036854775808<=m/\m<9223372036854775808/\-9223372036854775808<=n/\n<9223372036854775808, .d (.bool true))|_=>none
def amO.T:=bj fun|[.d (.af .u32 a), .d (.int .u8 z)]=>some (bL a/\0<=z/\z<256, .d (.bool true))|_=>none
def db (n:Nat):Nat:=if n=0 then 0 else n.log2+1
def ki (n:Nat):Nat->List Int
 |0=>[]
 |k+1=>((n%4294967296:Nat):Int)::ki (n/4294967296) k
def Ds.T:=bj fun|[.d (.int .u32 x)]=>some (L x, .d (.int .i64 (db x.toNat)))|_=>none
def Ca.T:=bj fun|[.d (.int .u32 x)]=>some (L x, .d (.int .i64 (32-db x.toNat)))|_=>none
def Dt.T:=mW fun|[.d (.af .u32 a), .d (.int .u64 k)]=>some (bw a/\0<=k/\k<32, .af .u32 (ki (val a*2^k.toNat) (a.length+1)))|_=>none
def DX.T:=bj fun|[.d (.af .u32 a), .d (.af .u32 b)]=>some (bw a/\bw b/\Norm a/\Norm b/\2<=b.length/\val b<=val a, .tup [.d (.af .u32 (aO (val a/val b))), .d (.af .u32 (aO (val a%val b)))])|_=>none
def EE.T:=bj fun|[.d (.af .u32 a), .d (.af .u32 b)]=>some (bw a/\bw b, .d (.af .u32 (aO (Nat.gcd (val a) (val b)))))|_=>none
def amL.T:=bj fun|[.d (.af .u32 a), .d (.af .u32 b)]=>some (bL a/\bL b, .d (.bool true))|_=>none
def amP.T:=bj fun|[.d (.af .u32 a), .d (.af .u32 b), .d (.af .u32 c)]=>some (bL a/\bL b/\bL c, .d (.bool true))|_=>none
def Cb.T:=mW fun|[.d (.af .u32 a)]=>some (bw a, .af .u32 (aO (val a)))|_=>none
def CM.T:=bj fun|[.d (.af .u32 a), .d (.af .u32 b)]=>some (bw a/\bw b, .d (.int .i64 (cmp (val a) (val b))))|_=>none
def CN.T:=bj fun|[.d (.af .u32 a), .d (.af .u32 b)]=>some (bL a/\bL b/\a.length<=90000000/\b.length<=90000000, .d (.af .u32 (aO (val a+val b))))|_=>none
def CO.T:=bj fun|[.d (.af .u32 a), .d (.af .u32 b)]=>some (bL a/\bL b/\a.length<=40000000/\b.length<=40000000, .d (.af .u32 (aO (val a*val b))))|_=>none
def CP.T:=bj fun|[.d (.af .u32 a), .d (.af .u32 b)]=>some (bw a/\bw b, .tup [.d (.af .u32 (if val a<val b then[]else aO (val a-val b))), .d (.int .i64 (if val a<val b then 1 else 0))])|_=>none
def BV.T:=bj fun|[.d (.af .u32 a), .d (.int .u32 d)]=>some (bw a/\L d/\0<d, .tup [.d (.af .u32 (aO (val a/d.toNat))), .d (.int .u32 (val a%d.toNat:Nat))])|_=>none
def BK.T:=bj fun|[.d (.af .u32 a), .d (.af .u32 b)]=>some (bL a/\a.length<=90000000/\bL b/\b.length<=90000000, .tup [.d (.af .u32 (if val b=0 then[]else aO (val a/val b))), .d (.af .u32 (if val b=0 then[]else aO (val a%val b))), .d (.int .i64 (if val b=0 then 3 else 0))])|_=>none
def amY.T:=bj fun|[.d (.af .u32 a), .d (.af .u32 b)]=>some (bw a/\bw b/\val b<4294967296, .tup [.d (.af .u32 (if val b=0 then[]else aO (val a/val b))), .d (.af .u32 (if val b=0 then[]else aO (val a%val b))), .d (.int .i64 (if val b=0 then 3 else 0))])|_=>none
def CQ.T:=bj fun|[.d (.af .u32 a), .d (.af .u32 b)]=>some (bL a/\a.length<=90000000/\bL b/\b.length<=90000000, .d (.af .u32 (aO (Nat.gcd (val a) (val b)))))|_=>none
def BF.T:=bj fun|[.d (.int .i64 n)]=>some (-9223372036854775808<=n/\n<9223372036854775808, .tup [.d (.af .u32 (if n<0 then[]else aO n.toNat)), .d (.int .i64 (if n<0 then 1 else 0))])|_=>none
def ani.T:=bj fun|[.d (.af .u32 a)]=>some (bw a, .tup [.d (.int .i64 (if val a<9223372036854775808 then val a else 0)), .d (.int .i64 (if val a<9223372036854775808 then 0 else 1))])|_=>none
def am8.T:=bj fun|[.d (.str s)]=>some (s.length<=1000000000000, .tup [.d (.af .u32 (Dk s)), .d (.int .i64 (Dj s))])|_=>none
def anj.T:=bj fun|[.d (.af .u32 a), .d (.int .i64 n)]=>some (bL a/\a.length<=500000, .tup [.d (.af .u32 (if 0<=n/\n<=64 then aO (val a^n.toNat)else[])), .d (.int .i64 (if 0<=n/\n<=64 then 0 else 1))])|_=>none
def am1.T:=bj fun|[.d (.af .u32 a)]=>some (bw a, .d (.str (dec (val a))))|_=>none
def BW.T:=mW fun|[.d (.af .u32 a), .d (.int .i64 k)]=>some (bw a/\0<=k/\k<32, .af .u32 (ki (val a*2^k.toNat) (a.length+1)))|_=>none
def BG.T:=bj fun|[.d (.af .u32 a), .d (.int .i64 k)]=>some (bw a/\0<=k/\k<32, .d (.af .u32 (aO (val a/2^k.toNat))))|_=>none
def am2.T:=bj fun|[.d (.af .u32 a), .d (.af .u32 b)]=>some (bL a/\bL b/\a.length<=1000000/\b.length<=1000000, .d (.bool true))|_=>none
def BX.T:=fq fun| .vec z, .af .u32 u,[.d (.af .u32 v), .d (.int .i64 j)]=>(match Nat.beq z 0 with|true=>some (bw u/\bw v/\2<=v.length/\0<=j/\j.toNat+v.length<u.length/\2147483648*4294967296^(v.length-1)<=val v/\val u<4294967296^(j.toNat+1)*val v, .af .u32 (ki (val u-4294967296^j.toNat*((val u/4294967296^j.toNat)/val v*val v)) u.length), .d (.int .u32 ((val u/4294967296^j.toNat)/val v:Nat)))|false=>none)|_,_,_=>none
def amZ.T:=bj fun|[.d (.af .u32 a), .d (.af .u32 b), .d (.int .i64 n), .d (.str _)]=>some (bL a/\bL b/\-9223372036854775808<=n/\n<9223372036854775808, .d (.bool true))|_=>none
end ab
end
section
namespace ab
open Go Go.aj
def i64 (x:Int):Prop:=-9223372036854775808<=x/\x<9223372036854775808
def dI (l:List Int)(a:Int):Prop:=0<=a/\l.length<=1000/\∀x∈l,i64 x
def u0 (l:List Int)(a:Int):Int:=if(l.length:Int)<=a then a else a+1
def qb (l:List Int)(a:Int):Int:=if(l.length:Int)<=a then 0 else l.getD a.toNat 0
def c5 (l:List Int)(a n:Int):Int:=if n<1 then a else u0 l a
def fu (l:List Int)(a n:Int):Int:=if n<1 then 0 else qb l a%n
def mX (l:List Int)(a:Int)(m:List Int):Int:=m.getD (fu l a m.length).toNat 0
def qP:List Int:=[0,1,2,3,10,97,65536,2147483648,4294967295,4294967291,123456789,4000000007]
def q8 (l:List Int):Nat->Int->List Int->List Int×Int
 |0,a,out=>(out,a)
 |i+1,a,out=>q8 l i (c5 l a 12) (out++[mX l a qP])
def lA (l:List Int)(a:Int):List Int×Int:=q8 l (fu l a 5).toNat (c5 l a 5) []
abbrev st (l:List Int)(a s:Int):ag:= .cells [.d (.af .i64 l), .d (.int .i64 a), .d (.int .i64 s)]
def Du.T:=mW fun|[.d (.af .i64 l)]=>some (True, .cells [.d (.af .i64 (l.take 1000)), .d (.int .i64 0), .d (.int .i64 0)])|_=>none
def Dv.T:=fq fun| .ptr z o, .cells [.d (.af .i64 l), .d (.int .i64 a), .d (.int .i64 s)],[]=>(match Nat.beq z 0,Nat.beq o 0 with|true,true=>some (dI l a, .cells [.d (.af .i64 l), .d (.int .i64 (u0 l a)), .d (.int .i64 s)], .d (.int .i64 (qb l a)))|_,_=>none)|_,_,_=>none
def EF.T:=fq fun| .ptr z o, .cells [.d (.af .i64 l), .d (.int .i64 a), .d (.int .i64 s)],[.d (.int .i64 n)]=>(match Nat.beq z 0,Nat.beq o 0 with|true,true=>some (dI l a/\i64 n, .cells [.d (.af .i64 l), .d (.int .i64 (c5 l a n)), .d (.int .i64 s)], .d (.int .i64 (fu l a n)))|_,_=>none)|_,_,_=>none
def CR.T:=fq fun| .ptr z o, .cells [.d (.af .i64 l), .d (.int .i64 a), .d (.int .i64 s)],[.d (.af .i64 m)]=>(match Nat.beq z 0,Nat.beq o 0 with|true,true=>some (dI l a/\0<m.length/\m.length<=1000, .cells [.d (.af .i64 l), .d (.int .i64 (c5 l a m.length)), .d (.int .i64 s)], .d (.int .i64 (mX l a m)))|_,_=>none)|_,_,_=>none
def Cc.T:=fq fun| .ptr z o, .cells [.d (.af .i64 l), .d (.int .i64 a), .d (.int .i64 s)],[]=>(match Nat.beq z 0,Nat.beq o 0 with|true,true=>some (dI l a, .cells [.d (.af .i64 l), .d (.int .i64 (lA l a).2), .d (.int .i64 s)], .d (.af .u32 (lA l a).1))|_,_=>none)|_,_,_=>none
def amS.T:=bj fun|[.d (.af .i64 l)]=>some (∀x∈l,i64 x, .d (.bool true))|_=>none
end ab
end
section
namespace ab
open Go Go.aj
def dx (s:Bool)(n:Nat):Int:=if s then-(n:Int)else n
def bd (s:Bool)(a b:List Int):Rat:=mkRat (dx s (val a)) (val b)
def cj (r:Rat):Bool:=decide (r.num<0)
def cm (r:Rat):List Int:=aO r.num.natAbs
def cc (r:Rat):List Int:=aO r.den
def bS (k:Nat)(a:List Int):Prop:=bL a/\a.length<=k
def pA (r:Rat):Bool:=decide (r=0)
def lS (r:Rat):Int:=if r=0 then 0 else if r<0 then-1 else 1
def SK (r:Rat):List Int:=(if cj r then[45]else[])++dec r.num.natAbs++(if r.den=1 then[]else 47::dec r.den)
def EG:List Int->List Int
 |[]=>[]
 |x::r=>if x=47 then[]else x::EG r
def EH:List Int->List Int
 |[]=>[]
 |x::r=>if x=47 then r else EH r
def zN:List Int->Bool
 |[]=>false
 |x::r=>if x=47 then true else zN r
def IW (s:List Int):Bool:=decide (s.getD 0 0=45)
def u1 (s:List Int):List Int:=if IW s then s.drop 1 else s
def TK (s:List Int):Int:=Dj (EG (u1 s))
def TL (s:List Int):Int:=if zN (u1 s)then Dj (EH (u1 s))else 0
def ajt (s:List Int):Nat:=val (Dk (EG (u1 s)))
def TM (s:List Int):Nat:=if zN (u1 s)then val (Dk (EH (u1 s)))else 1
def Fl (s:List Int):Int:=if TK s=4\/TL s=4 then 4 else if TK s≠0\/TL s≠0 then 9 else if TM s=0 then 3 else 0
def JI (s:List Int):Rat:=mkRat (dx (IW s) (ajt s)) (TM s)
def m3 (c:Bool)(r:Rat):Bool:=if c then cj r else false
def m4 (c:Bool)(r:Rat):List Int:=if c then cm r else[]
def m5 (c:Bool)(r:Rat):List Int:=if c then cc r else[]
def EI.T:=bj fun|[.agg [.d (.bool s), .d (.af .u32 a), .d (.af .u32 b)]]=>some (True, .agg [.d (.bool s), .d (.af .u32 a), .d (.af .u32 b)])|_=>none
def CS.T:=bj fun|[.d (.bool s), .d (.af .u32 a), .d (.af .u32 b)]=>some (bw a/\bw b/\val b≠0, .agg [.d (.bool (cj (bd s a b))), .d (.af .u32 (cm (bd s a b))), .d (.af .u32 (cc (bd s a b)))])|_=>none
def CT.T:=bj fun|[.d (.af .u32 a)]=>some (bw a, .d (.bool (decide (val a=0))))|_=>none
def wU.T:=bj fun|[.agg [.d (.bool s), .d (.af .u32 a), .d (.af .u32 b)]]=>some (bw a/\bw b, .agg [.d (.bool (cj (bd s a b))), .d (.af .u32 (cm (bd s a b))), .d (.af .u32 (cc (bd s a b)))])|_=>none
def EJ.T:=bj fun|[.d (.af .u32 a)]=>some (True, .d (.bool (decide (a=[1]))))|_=>none
def BL.T:=bj fun|[.d (.int .i64 n)]=>some (i64 n, .tup [.d (.bool (decide (n<0))), .d (.af .u32 (aO n.natAbs))])|_=>none
def s0.T:=bj fun|[.d (.int .i64 n)]=>some (i64 n, .agg [.d (.bool (cj (n:Rat))), .d (.af .u32 (cm (n:Rat))), .d (.af .u32 (cc (n:Rat)))])|_=>none
def DY.T:=bj fun|[.d (.int .i64 n), .d (.int .i64 d)]=>some (i64 n/\i64 d, .tup [.agg [.d (.bool (m3 (!decide (d=0)) (Rat.divInt n d))), .d (.af .u32 (m4 (!decide (d=0)) (Rat.divInt n d))), .d (.af .u32 (m5 (!decide (d=0)) (Rat.divInt n d)))], .d (.int .i64 (if d=0 then 3 else 0))])|_=>none
def ant.T:=bj fun|[.d (.bool s), .d (.af .u32 a), .d (.af .u32 b)]=>some (bw a/\bw b, .tup [.agg [.d (.bool (m3 (!decide (val b=0)) (bd s a b))), .d (.af .u32 (m4 (!decide (val b=0)) (bd s a b))), .d (.af .u32 (m5 (!decide (val b=0)) (bd s a b)))], .d (.int .i64 (if val b=0 then 3 else 0))])|_=>none
def Cd.T:=bj fun|[.d (.bool s), .d (.af .u32 a), .d (.bool t), .d (.af .u32 b), .d (.af .u32 d)]=>some (bS 50000000 a/\bS 50000000 b/\bw d/\val d≠0, .agg [.d (.bool (cj (mkRat (dx s (val a)+dx t (val b)) (val d)))), .d (.af .u32 (cm (mkRat (dx s (val a)+dx t (val b)) (val d)))), .d (.af .u32 (cc (mkRat (dx s (val a)+dx t (val b)) (val d))))])|_=>none
def xd.T:=bj fun|[.agg [.d (.bool s), .d (.af .u32 a), .d (.af .u32 b)], .agg [.d (.bool t), .d (.af .u32 c), .d (.af .u32 d)]]=>some (bS 1000000 a/\bS 1000000 b/\bS 1000000 c/\bS 1000000 d, .agg [.d (.bool (cj (bd s a b+bd t c d))), .d (.af .u32 (cm (bd s a b+bd t c d))), .d (.af .u32 (cc (bd s a b+bd t c d)))])|_=>none
def DZ.T:=bj fun|[.agg [.d (.bool s), .d (.af .u32 a), .d (.af .u32 b)]]=>some (bS 1000000 a/\bS 1000000 b, .agg [.d (.bool (cj (-bd s a b))), .d (.af .u32 (cm (-bd s a b))), .d (.af .u32 (cc (-bd s a b)))])|_=>none
def D0.T:=bj fun|[.agg [.d (.bool s), .d (.af .u32 a), .d (.af .u32 b)], .agg [.d (.bool t), .d (.af .u32 c), .d (.af .u32 d)]]=>some (bS 1000000 a/\bS 1000000 b/\bS 1000000 c/\bS 1000000 d, .agg [.d (.bool (cj (bd s a b-bd t c d))), .d (.af .u32 (cm (bd s a b-bd t c d))), .d (.af .u32 (cc (bd s a b-bd t c d)))])|_=>none
def D1.T:=bj fun|[.agg [.d (.bool s), .d (.af .u32 a), .d (.af .u32 b)], .agg [.d (.bool t), .d (.af .u32 c), .d (.af .u32 d)]]=>some (bS 1000000 a/\bS 1000000 b/\bS 1000000 c/\bS 1000000 d, .agg [.d (.bool (cj (bd s a b*bd t c d))), .d (.af .u32 (cm (bd s a b*bd t c d))), .d (.af .u32 (cc (bd s a b*bd t c d)))])|_=>none
def D2.T:=bj fun|[.agg [.d (.bool s), .d (.af .u32 a), .d (.af .u32 b)], .agg [.d (.bool t), .d (.af .u32 c), .d (.af .u32 d)]]=>some (bS 1000000 a/\bS 1000000 b/\bS 1000000 c/\bS 1000000 d, .tup [.agg [.d (.bool (m3 (!pA (bd t c d)) (bd s a b/bd t c d))), .d (.af .u32 (m4 (!pA (bd t c d)) (bd s a b/bd t c d))), .d (.af .u32 (m5 (!pA (bd t c d)) (bd s a b/bd t c d)))], .d (.int .i64 (if pA (bd t c d)=true then 3 else 0))])|_=>none
def w3.T:=bj fun|[.agg [.d (.bool s), .d (.af .u32 a), .d (.af .u32 b)]]=>some (bw a/\bw b, .d (.int .i64 (lS (bd s a b))))|_=>none
def D3.T:=bj fun|[.agg [.d (.bool s), .d (.af .u32 a), .d (.af .u32 b)], .agg [.d (.bool t), .d (.af .u32 c), .d (.af .u32 d)]]=>some (bS 1000000 a/\bS 1000000 b/\bS 1000000 c/\bS 1000000 d, .d (.int .i64 (lS (bd s a b-bd t c d))))|_=>none
def wV.T:=bj fun|[.agg [.d (.bool s), .d (.af .u32 a), .d (.af .u32 b)], .agg [.d (.bool t), .d (.af .u32 c), .d (.af .u32 d)]]=>some (bS 1000000 a/\bS 1000000 b/\bS 1000000 c/\bS 1000000 d, .d (.bool (decide (bd s a b=bd t c d))))|_=>none
def anF.T:=bj fun|[.agg [.d (.bool s), .d (.af .u32 a), .d (.af .u32 b)], .d (.int .i64 n)]=>some (bS 10000 a/\bS 10000 b, .tup [.agg [.d (.bool (m3 (decide (0<=n/\n<=64)) (bd s a b^n.toNat))), .d (.af .u32 (m4 (decide (0<=n/\n<=64)) (bd s a b^n.toNat))), .d (.af .u32 (m5 (decide (0<=n/\n<=64)) (bd s a b^n.toNat)))], .d (.int .i64 (if 0<=n/\n<=64 then 0 else 1))])|_=>none
def ank.T:=bj fun|[.d (.str s)]=>some (s.length<=1000000, .tup [.agg [.d (.bool (m3 (decide (Fl s=0)) (JI s))), .d (.af .u32 (m4 (decide (Fl s=0)) (JI s))), .d (.af .u32 (m5 (decide (Fl s=0)) (JI s)))], .d (.int .i64 (Fl s))])|_=>none
def Ce.T:=bj fun|[.agg [.d (.bool s), .d (.af .u32 a), .d (.af .u32 b)]]=>some (bS 1000000 a/\bS 1000000 b, .d (.str (SK (bd s a b))))|_=>none
def am3.T:=bj fun|[.d (.str s), .d (.str p)]=>some (p=[45]/\s.length<=1000000000000, .tup [.d (.str (u1 s)), .d (.bool (IW s))])|_=>none
def anT.T:=bj fun|[.d (.str s), .d (.str p)]=>some (p=[47]/\s.length<=1000000000000, .tup [.d (.str (EG s)), .d (.str (if zN s then EH s else[])), .d (.bool (zN s))])|_=>none
def Dw.T:=bj fun|[.agg [.d (.bool s), .d (.af .u32 a), .d (.af .u32 b)], .agg [.d (.bool t), .d (.af .u32 c), .d (.af .u32 d)]]=>some (a.length<=1000000000/\b.length<=1000000000/\c.length<=1000000000/\d.length<=1000000000, .d (.bool (decide (s=t/\a=c/\b=d))))|_=>none
def anl.T:=bj fun|[.agg [.d (.bool s), .d (.af .u32 a), .d (.af .u32 b)], .d (.int .i64 n)]=>some (bS 10000 a/\bS 10000 b/\n<=64, .agg [.d (.bool (cj (bd s a b^n.toNat))), .d (.af .u32 (cm (bd s a b^n.toNat))), .d (.af .u32 (cc (bd s a b^n.toNat)))])|_=>none
end ab
end
section
namespace Go.aj
def idx (c:Int):List Int->Int
 |[]=>-1
 |x::r=>if x=c then 0 else if idx c r=-1 then-1 else idx c r+1
def anU.T:=bj fun|[.d (.str s), .d (.int .u8 c)]=>some (0<=c/\c<256, .d (.int .i64 (idx c s)))|_=>none
end Go.aj
end
section
namespace ab
open Go Go.aj
abbrev rg (r:Rat):R:= .agg [.d (.bool (cj r)), .d (.af .u32 (cm r)), .d (.af .u32 (cc r))]
abbrev ei (s:Bool)(a b:List Int):R:= .agg [.d (.bool s), .d (.af .u32 a), .d (.af .u32 b)]
def Ij (s p:List Int):Bool:=decide (p.length<=s.length/\s.take p.length=p)
def am4.T:=bj fun|[.d (.str s), .d (.str p)]=>some (s.length<=1000000000000/\p.length<=1000000000000, .d (.bool (Ij s p)))|_=>none
def am0.T:=bj fun|[.d (.str s), .d (.str p)]=>some (s.length<=1000000000000/\p.length<=1000000000000, .tup [.d (.str (if Ij s p then s.drop p.length else s)), .d (.bool (Ij s p))])|_=>none
def anm.T:=bj fun|[.d (.str s), .d (.str p)]=>some (p.length=1/\0<=p.getD 0 0/\p.getD 0 0<256/\s.length<=1000000000000, .d (.int .i64 (idx (p.getD 0 0) s)))|_=>none
def anG.T:=bj fun|[.d (.str s), .d (.str p)]=>some (p.length=1/\0<=p.getD 0 0/\p.getD 0 0<256/\s.length<=1000000000000, .tup [.d (.str (if idx (p.getD 0 0) s<0 then s else s.take (idx (p.getD 0 0) s).toNat)), .d (.str (if idx (p.getD 0 0) s<0 then[]else s.drop ((idx (p.getD 0 0) s).toNat+1))), .d (.bool (!decide (idx (p.getD 0 0) s<0)))])|_=>none
def CU.T:=bj fun|[.d (.bool s), .d (.af .u32 a), .d (.af .u32 b)]=>some (bS 90000000 a/\bS 90000000 b/\val b≠0, .agg [.d (.bool (cj (bd s a b))), .d (.af .u32 (cm (bd s a b))), .d (.af .u32 (cc (bd s a b)))])|_=>none
def Cf.T:=bj fun|[.agg [.d (.bool s), .d (.af .u32 a), .d (.af .u32 b)]]=>some (bS 90000000 a/\bS 90000000 b, .agg [.d (.bool (cj (bd s a b))), .d (.af .u32 (cm (bd s a b))), .d (.af .u32 (cc (bd s a b)))])|_=>none
def anu.T:=bj fun|[.d (.bool s), .d (.af .u32 a), .d (.af .u32 b)]=>some (bS 90000000 a/\bS 90000000 b, .tup [.agg [.d (.bool (m3 (!decide (val b=0)) (bd s a b))), .d (.af .u32 (m4 (!decide (val b=0)) (bd s a b))), .d (.af .u32 (m5 (!decide (val b=0)) (bd s a b)))], .d (.int .i64 (if val b=0 then 3 else 0))])|_=>none
def Dx.T:=bj fun|[.agg [.d (.bool s), .d (.af .u32 a), .d (.af .u32 b)]]=>some (bS 90000000 a/\bS 90000000 b, .d (.int .i64 (lS (bd s a b))))|_=>none
def kJ (l:List Int)(a lo hi:Int):Int:=lo+fu l a (hi-lo+1)
def IX (l:List Int)(a:Int):Int:=kJ l a (-6) 6
def IY (l:List Int)(a:Int):Int:=kJ l (c5 l a 13) 1 5
def iH (l:List Int)(a:Int):Rat:=Rat.divInt (IX l a) (IY l a)
def kS (l:List Int)(a:Int):Int:=c5 l (c5 l a 13) 5
def pZ (l:List Int)(a:Int):Int:=fu l a 4
def w4 (l:List Int)(a:Int):Bool:=
 if pZ l a=0 then cj (iH l (c5 l a 4))else if pZ l a=1 then decide (fu l (c5 l a 4) 2=0)else decide (fu l (c5 l (c5 l a 4) 6) 2=0)
def sN (l:List Int)(a:Int):List Int:=
 if pZ l a=0 then cm (iH l (c5 l a 4))else if pZ l a=1 then(lA l (c5 l (c5 l a 4) 2)).1 else
  [kJ l (c5 l a 4) 1 6*fu l (c5 l (c5 l (c5 l a 4) 6) 2) 9,0]
def sO (l:List Int)(a:Int):List Int:=
 if pZ l a=0 then cc (iH l (c5 l a 4))else if pZ l a=1 then(lA l (lA l (c5 l (c5 l a 4) 2)).2).1 else
  [kJ l (c5 l a 4) 1 6*fu l (c5 l (c5 l (c5 l (c5 l a 4) 6) 2) 9) 6]
def w5 (l:List Int)(a:Int):Int:=
 if pZ l a=0 then kS l (c5 l a 4)else if pZ l a=1 then(lA l (lA l (c5 l (c5 l a 4) 2)).2).2 else
  c5 l (c5 l (c5 l (c5 l (c5 l a 4) 6) 2) 9) 6
def Cg.T:=fq fun| .ptr z o, .cells [.d (.af .i64 l), .d (.int .i64 a), .d (.int .i64 s)],[.d (.int .i64 lo), .d (.int .i64 hi)]=>(match Nat.beq z 0,Nat.beq o 0 with|true,true=>some (dI l a/\-1000000000<=lo/\lo<=hi/\hi<=1000000000, .cells [.d (.af .i64 l), .d (.int .i64 (c5 l a (hi-lo+1))), .d (.int .i64 s)], .d (.int .i64 (kJ l a lo hi)))|_,_=>none)|_,_,_=>none
def Dy.T:=fq fun| .ptr z o, .cells [.d (.af .i64 l), .d (.int .i64 a), .d (.int .i64 s)],[]=>(match Nat.beq z 0,Nat.beq o 0 with|true,true=>some (dI l a, .cells [.d (.af .i64 l), .d (.int .i64 (kS l a)), .d (.int .i64 s)],rg (iH l a))|_,_=>none)|_,_,_=>none
def Ch.T:=fq fun| .ptr z o, .cells [.d (.af .i64 l), .d (.int .i64 a), .d (.int .i64 s)],[]=>(match Nat.beq z 0,Nat.beq o 0 with|true,true=>some (dI l a, .cells [.d (.af .i64 l), .d (.int .i64 (w5 l a)), .d (.int .i64 s)],ei (w4 l a) (sN l a) (sO l a))|_,_=>none)|_,_,_=>none
def am5.T:=bj fun|[.d (.af .u32 a)]=>some (bw a, .d (.bool (decide (a=aO (val a)))))|_=>none
def ane.T:=bj fun|[.agg [.d (.bool A0), .d (.af .u32 a), .d (.af .u32 b)]]=>some (True, .d (.bool (decide (a.length<=12/\b.length<=12))))|_=>none
def anf.T:=bj fun|[]=>some (True, .d (.bool true))|_=>none
def am9.T:=bj fun|[.agg [.d (.bool A0), .d (.af .u32 a), .d (.af .u32 b)], .agg [.d (.bool UO), .d (.af .u32 c), .d (.af .u32 d)]]=>some (bS 100000 a/\bS 100000 b/\bS 100000 c/\bS 100000 d, .d (.bool true))|_=>none
def amM.T:=bj fun|[.agg [.d (.bool A0), .d (.af .u32 a), .d (.af .u32 b)], .agg [.d (.bool UO), .d (.af .u32 c), .d (.af .u32 d)]]=>some (bL a/\bL b/\bL c/\bL d, .d (.bool true))|_=>none
def amT.T:=bj fun|[.d (.af .i64 l)]=>some (∀x∈l,i64 x, .d (.bool true))|_=>none
def ang.T:=mW fun|[.d (.af .u32 a), .d (.af .u32 b)]=>some (bL a/\bL b/\a.length<=40000000/\b.length<=40000000, .af .u32 (aO (val a*val b)))|_=>none
def amK.T:=bj fun|[.d (.af .i64 l), .d (.int .u32 k), .d (.int .u8 z)]=>some ((∀x∈l,i64 x)/\L k/\0<=z/\z<256, .d (.bool true))|_=>none
def amQ.T:=bj fun|[.agg [.d (.bool A0), .d (.af .u32 a), .d (.af .u32 b)]]=>some (bL a/\bL b, .d (.bool true))|_=>none
def amW.T:=bj fun|[.agg [.d (.bool A0), .d (.af .u32 a), .d (.af .u32 b)], .agg [.d (.bool UO), .d (.af .u32 c), .d (.af .u32 d)], .d (.int .i64 x), .d (.int .i64 y), .d (.int .i64 n), .d (.str aot)]=>some (bL a/\bL b/\bL c/\bL d/\i64 x/\i64 y/\i64 n, .d (.bool true))|_=>none
def amR.T:=bj fun|[.d (.af .i64 l), .d (.str t), .d (.int .i64 n)]=>some ((∀x∈l,i64 x)/\(∀x∈t,0<=x/\x<256)/\i64 n, .d (.bool true))|_=>none
end ab
end
section
namespace ab
open Go Go.aj
abbrev Row:=List U
abbrev Rows:=List (List U)
def eO (r:Row):Prop:=∃(oI fS gi iy jL jM oJ r6:Int) (s:Bool) (a b:List Int),
 r=[.int .i64 oI, .int .i64 fS, .int .i64 gi, .int .i64 iy, .int .i64 jL, .int .i64 jM, .int .i64 oJ, .int .i64 r6, .bool s, .af .u32 a, .af .u32 b]
def dh (l:Rows):Prop:=∀r∈l,eO r
def ek (r:Row):List Int:=(r.take 8).map U.toInt
def dT:List Int->List Int->Int
 |a::x,b::y=>if a<b then-1 else if b<a then 1 else dT x y
 |[],[]=>0
 |[],_=>-1
 |_,[]=>1
def gQ (a b:Row):Int:=-dT (ek a) (ek b)
def bk (a b:Row):Bool:=decide (gQ a b<0)
structure ed where
 g:Nat
 desc:Bool
def ed.is (q:ed)(g:Nat)(c:List R):Bool:=
 match Nat.beq g q.g,q.desc,c with
 |true,true,[.agg [.bt]]=>true
 |true,false,[.agg [.d (.int .i64 8)]]=>true
 |_,_,_=>false
def qc.T (q:ed):=bj fun
 |[.agg [.d c], .rw m a, .rw n b]=>(match Nat.beq m 11,Nat.beq n 11,q.desc,c with
  |true,true,true, .bool true=>some (eO a/\eO b, .d (.int .i64 (gQ a b)))
  |true,true,false, .int .i64 8=>some (eO a/\eO b, .d (.int .i64 (gQ a b)))
  |_,_,_,_=>none)
 |_=>none
def fW (l:Rows)(a b:Int):Prop:=dh l/\0<=a/\a<=b/\b<=(l.length:Int)/\l.length<1000000000000000
def EK.T (q:ed):=fq fun
 | .vec z, .av an l,[.d (.int .i64 a), .d (.int .i64 b), .cls g c]=>(match Nat.beq z 0,Nat.beq an 11,q.is g c with
  |true,true,true=>some (fW l a b, .av 11 (Go.Sort.insertionSort bk l.toArray a.toNat b.toNat).toList, .tup [])
  |_,_,_=>none)
 |_,_,_=>none
def D4.T (q:ed):=fq fun
 | .vec z, .av an l,[.d (.int .i64 lo), .d (.int .i64 hi), .d (.int .i64 f), .cls g c]=>(match Nat.beq z 0,Nat.beq an 11,q.is g c with
  |true,true,true=>some (dh l/\0<=lo/\lo<=(l.length:Int)/\0<=hi/\0<=f/\f+hi<=(l.length:Int)/\l.length<1000000000000000, .av 11 (Go.Sort.siftDown bk hi.toNat f.toNat lo.toNat l.toArray).toList, .tup [])
  |_,_,_=>none)
 |_,_,_=>none
def D5.T (q:ed):=fq fun
 | .vec z, .av an l,[.d (.int .i64 a), .d (.int .i64 b), .cls g c]=>(match Nat.beq z 0,Nat.beq an 11,q.is g c with
  |true,true,true=>some (fW l a b/\a<b, .av 11 (Go.Sort.heapSort bk l.toArray a.toNat b.toNat).toList, .tup [])
  |_,_,_=>none)
 |_,_,_=>none
def D6.T (q:ed):=fq fun
 | .vec z, .av an l,[.d (.int .i64 a), .d (.int .i64 b), .d (.int .i64 p), .cls g c]=>(match Nat.beq z 0,Nat.beq an 11,q.is g c with
  |true,true,true=>some (fW l a b/\a<=p/\p<b, .av 11 (Go.Sort.partition bk l.toArray a.toNat b.toNat p.toNat).2.2.toList, .tup [.d (.int .i64 (Go.Sort.partition bk l.toArray a.toNat b.toNat p.toNat).1), .d (.bool (Go.Sort.partition bk l.toArray a.toNat b.toNat p.toNat).2.1)])
  |_,_,_=>none)
 |_,_,_=>none
def CV.T (q:ed):=fq fun
 | .vec z, .av an l,[.d (.int .i64 a), .d (.int .i64 b), .d (.int .i64 p), .cls g c]=>(match Nat.beq z 0,Nat.beq an 11,q.is g c with
  |true,true,true=>some (fW l a b/\a<=p/\p<b, .av 11 (Go.Sort.partitionEqual bk l.toArray a.toNat b.toNat p.toNat).2.toList, .d (.int .i64 (Go.Sort.partitionEqual bk l.toArray a.toNat b.toNat p.toNat).1))
  |_,_,_=>none)
 |_,_,_=>none
def Ci.T (q:ed):=fq fun
 | .vec z, .av an l,[.d (.int .i64 a), .d (.int .i64 b), .cls g c]=>(match Nat.beq z 0,Nat.beq an 11,q.is g c with
  |true,true,true=>some (fW l a b/\a<b, .av 11 (Go.Sort.partialInsertionSort bk l.toArray a.toNat b.toNat).1.toList, .d (.bool (Go.Sort.partialInsertionSort bk l.toArray a.toNat b.toNat).2))
  |_,_,_=>none)
 |_,_,_=>none
def EL.T (q:ed):=fq fun
 | .vec z, .av an l,[.d (.int .i64 a), .d (.int .i64 b), .cls g c]=>(match Nat.beq z 0,Nat.beq an 11,q.is g c with
  |true,true,true=>some (fW l a b, .av 11 (Go.Sort.reverseRange l.toArray a.toNat b.toNat).toList, .tup [])
  |_,_,_=>none)
 |_,_,_=>none
def w6.T:=bj fun|[.d (.int .u64 x)]=>some (0<=x/\x<18446744073709551616, .d (.int .i64 (db x.toNat)))|_=>none
def EM.T:=bj fun|[.d (.int .i64 x)]=>some (0<=x/\x<4611686018427387904, .d (.int .u64 (2^db x.toNat:Nat)))|_=>none
def EN.T:=lB (ι:=Int) fun
 | .ptr z o, .cells [.d (.int .u64 x)],[]=>(match Nat.beq z 0,Nat.beq o 0 with
  |true,true=>some (0<=x/\x<18446744073709551616,fun y=>0<=y/\y<18446744073709551616,fun y=> .cells [.d (.int .u64 y)],fun y=> .d (.int .u64 y))
  |_,_=>none)
 |_,_,_=>none
def D7.T (q:ed):=fq fun
 | .ptr z o, .cells [.d (.int .i64 s)],[.d (.av an l), .d (.int .i64 a), .d (.int .i64 b), .cls g c]=>(match Nat.beq z 0,Nat.beq o 0,Nat.beq an 11,q.is g c with
  |true,true,true,true=>some (dh l/\0<=a/\a<(l.length:Int)/\0<=b/\b<(l.length:Int)/\0<=s/\s<1000, .cells [.d (.int .i64 (Go.Sort.order2 bk l.toArray a.toNat b.toNat s.toNat).2.2)], .tup [.d (.int .i64 (Go.Sort.order2 bk l.toArray a.toNat b.toNat s.toNat).1), .d (.int .i64 (Go.Sort.order2 bk l.toArray a.toNat b.toNat s.toNat).2.1)])
  |_,_,_,_=>none)
 |_,_,_=>none
def EO.T (q:ed):=fq fun
 | .ptr z o, .cells [.d (.int .i64 s)],[.d (.av an l), .d (.int .i64 a), .d (.int .i64 b), .d (.int .i64 e), .cls g c]=>(match Nat.beq z 0,Nat.beq o 0,Nat.beq an 11,q.is g c with
  |true,true,true,true=>some (dh l/\(0<=a/\a<(l.length:Int))/\(0<=b/\b<(l.length:Int))/\(0<=e/\e<(l.length:Int))/\0<=s/\s<900, .cells [.d (.int .i64 (Go.Sort.median bk l.toArray a.toNat b.toNat e.toNat s.toNat).2)], .d (.int .i64 (Go.Sort.median bk l.toArray a.toNat b.toNat e.toNat s.toNat).1))
  |_,_,_,_=>none)
 |_,_,_=>none
def CW.T (q:ed):=fq fun
 | .ptr z o, .cells [.d (.int .i64 s)],[.d (.av an l), .d (.int .i64 a), .cls g c]=>(match Nat.beq z 0,Nat.beq o 0,Nat.beq an 11,q.is g c with
  |true,true,true,true=>some (dh l/\0<a/\a+1<(l.length:Int)/\l.length<1000000000000000/\0<=s/\s<900, .cells [.d (.int .i64 (Go.Sort.medianAdjacent bk l.toArray a.toNat s.toNat).2)], .d (.int .i64 (Go.Sort.medianAdjacent bk l.toArray a.toNat s.toNat).1))
  |_,_,_,_=>none)
 |_,_,_=>none
def Dz.T (q:ed):=bj fun
 |[.d (.av an l), .d (.int .i64 a), .d (.int .i64 b), .cls g c]=>(match Nat.beq an 11,q.is g c with
  |true,true=>some (fW l a b/\a<b, .tup [.d (.int .i64 (Go.Sort.choosePivot bk l.toArray a.toNat b.toNat).1), .d (.int .i64 (Go.Sort.hintCode (Go.Sort.choosePivot bk l.toArray a.toNat b.toNat).2))])
  |_,_=>none)
 |_=>none
def D8 (l:Rows)(a b:Int)(cy:Rows):Prop:=dh cy/\Go.Sort.PermIn a.toNat b.toNat l.toArray cy.toArray
def lC (l:Rows)(a b:Int)(cy:Rows):Prop:=D8 l a b cy/\Go.Sort.SortedIn bk a.toNat b.toNat cy.toArray
def zj.T (q:ed):=lB (ι:=Rows) fun
 | .vec z, .av an l,[.d (.int .i64 a), .d (.int .i64 b), .cls g c]=>(match Nat.beq z 0,Nat.beq an 11,q.is g c with
  |true,true,true=>some (fW l a b,D8 l a b,fun cy=> .av 11 cy,fun _=> .tup [])
  |_,_,_=>none)
 |_,_,_=>none
def kT.T (q:ed)(n:Nat):=lB (ι:=Rows) fun
 | .vec z, .av an l,[.d (.int .i64 a), .d (.int .i64 b), .d (.int .i64 m), .cls g c]=>(match Nat.beq z 0,Nat.beq an 11,q.is g c with
  |true,true,true=>some (fW l a b/\b-a<n/\(0<=m/\m<=64)/\Go.Sort.Below bk a.toNat b.toNat l.toArray,lC l a b,fun cy=> .av 11 cy,fun _=> .tup [])
  |_,_,_=>none)
 |_,_,_=>none
def s3.T (q:ed):=lB (ι:=Rows) fun
 | .vec z, .av an l,[.d (.int .i64 a), .d (.int .i64 b), .d (.int .i64 m), .cls g c]=>(match Nat.beq z 0,Nat.beq an 11,q.is g c with
  |true,true,true=>some (fW l a b/\(0<=m/\m<=64)/\Go.Sort.Below bk a.toNat b.toNat l.toArray,lC l a b,fun cy=> .av 11 cy,fun _=> .tup [])
  |_,_,_=>none)
 |_,_,_=>none
def zw.T (q:ed):=lB (ι:=Rows) fun
 | .vec z, .av an l,[.cls g c]=>(match Nat.beq z 0,Nat.beq an 11,q.is g c with
  |true,true,true=>some (dh l/\l.length<1000000000000000,lC l 0 l.length,fun cy=> .av 11 cy,fun _=> .tup [])
  |_,_,_=>none)
 |_,_,_=>none
end ab
end
section
namespace ab
open Go Go.aj
def c8 (m:List Int):Row:=m.map (U.int .i64)
def EP (r:Row):Prop:=∃m:List Int,r=c8 m/\m.length=8/\∀x∈m,-4000000000000000000<=x/\x<=4000000000000000000
def eI (r:Row):List Int:=r.map U.toInt
def ds:List Int->List Int->List Int
 |a::x,b::y=>(a+b)::ds x y
 |_,_=>[]
def D_.T:=bj fun|[.d (.int .i64 a), .d (.int .i64 b)]=>some (True, .d (.int .i64 (if a<b then-1 else if b<a then 1 else 0)))|_=>none
def DB.T:=bj fun|[.d (.int .i64 aou)]=>some (True, .d (.bool false))|_=>none
def Cj.T:=bj fun|[.d (.af .i64 a), .d (.af .i64 b)]=>some (a.length<1000000000/\b.length<1000000000, .d (.int .i64 (dT a b)))|_=>none
def lH:Int->List Int->Int
 |a,[]=>a
 |a,x::l=>lH (if x>a then x else a) l
def ER.T:=bj fun|[.d (.af .i64 a)]=>some (0<a.length/\a.length<1000000000, .d (.int .i64 (lH (a.getD 0 0) (a.drop 1))))|_=>none
def DC.T:=bj fun
 |[.rw m a, .rw n b]=>(match Nat.beq m 8,Nat.beq n 8 with
  |true,true=>some (EP a/\EP b, .rw 8 (c8 (ds (eI a) (eI b))))
  |_,_=>none)
 |_=>none
def DD.T:=mW fun|[.d (.av an l)]=>(match Nat.beq an 11 with|true=>some (l.length<100000000000, .av 11 l)|false=>none)|_=>none
def tr (r:Row):Rat:=bd (r.getD 8 .undef).toBool (r.getD 9 .undef).bX (r.getD 10 .undef).bX
def fm (k:Nat)(r:Row):Prop:=∃(m:List Int) (s:Bool) (a b:List Int),r=c8 m++[.bool s, .af .u32 a, .af .u32 b]/\m.length=8/\(∀x∈m,-4000000000000000000<=x/\x<=4000000000000000000)/\bS k a/\bS k b
def jO (r:Row):Bool:=decide (lS (tr r)=0)
def DE.T:=bj fun|[.rw n r]=>(match Nat.beq n 11 with|true=>some (fm 1000000 r, .d (.bool (jO r)))|false=>none)|_=>none
def o3:Rows->Int->Int
 |[],_=>-1
 |r::l,i=>if jO r then i else o3 l (i+1)
def y4.T (g:Nat):=bj fun|[.d (.av an l), .fn f]=>(match Nat.beq an 11,Nat.beq f g with|true,true=>some ((∀r∈l,fm 1000000 r)/\l.length<100000000000, .d (.int .i64 (o3 l 0)))|_,_=>none)|_=>none
def zx.T (g:Nat):=xe fun| .av an l,[.fn f]=>(match Nat.beq an 11,Nat.beq f g with|true,true=>some ((∀r∈l,fm 1000000 r)/\l.length<100000000000, .av 11 (l.filter fun r=> !jO r))|_,_=>none)|_,_=>none
abbrev ba:=List Int×Rat
def aN (r:Row):ba:=(ek r,tr r)
def hS (t:ba):Row:=c8 t.1++[.bool (cj t.2), .af .u32 (cm t.2), .af .u32 (cc t.2)]
def bB (p:List ba):Rows:=p.map hS
def cG:List ba->List Int->Rat
 |[],_=>0
 |t::p,m=>(if t.1=m then t.2 else 0)+cG p m
def ins (t:ba):List ba->List ba
 |[]=>if t.2=0 then[]else[t]
 |u::p=>if t.1=u.1 then(if u.2+t.2=0 then p else(u.1,u.2+t.2)::p)else if dT t.1 u.1=1 then(if t.2=0 then u::p else t::u::p)else u::ins t p
def nrm:List ba->List ba
 |[]=>[]
 |t::p=>ins t (nrm p)
def gm (m:List Int):Rows->Nat
 |[]=>0
 |r::l=>(if ek r=m then 1 else 0)+gm m l
def jC (l:Rows):Prop:=∃k c:Nat,1<=k/\(∀r∈l,fm k r)/\(∀m,gm m l<=c)/\c*(2*k+2)<=900000/\k<=900000/\l.length<=1000000000
def sv.T:=bj fun|[.d (.av an l)]=>(match Nat.beq an 11 with|true=>some (jC l, .d (.av 11 (bB (nrm (l.map aN)))))|false=>none)|_=>none
end ab
end
section
open Go Go.aj
namespace ab
def Lr:List Int->List Int->(R->Prop)->Prop:=
 fun(a b:List Int) (K:R->Prop)=>∃(aQ:Int->Prop),∃(m:Int->Nat),aQ (0:Int)/\∀(v11:Int),aQ v11->(decide (v11<aP a)=true->(0:Int)<=v11/\v11<aP a/\(decide (aP b<=v11)=true->K (R.d (U.int IntKind.i64 (1:Int))))/\(decide (aP b<=v11)=false->(0:Int)<=v11/\v11<aP b/\True/\∀(x:Int),(x=if List.getD a (Int.toNat v11) (0:Int)<List.getD b (Int.toNat v11) (0:Int)then(-1:Int)else if List.getD b (Int.toNat v11) (0:Int)<List.getD a (Int.toNat v11) (0:Int)then(1:Int)else(0:Int))->((!decide (x=(0:Int)))=true->K (R.d (U.int IntKind.i64 x)))/\((!decide (x=(0:Int)))=false->aQ (ai (v11+(1:Int)))/\m (ai (v11+(1:Int)))<m v11)))/\(decide (v11<aP a)=false->(decide (aP a<aP b)=true->K (R.d (U.int IntKind.i64 (-1:Int))))/\(decide (aP a<aP b)=false->K (R.d (U.int IntKind.i64 (0:Int)))))
def LH:Int->Int->(R->Prop)->Prop:=
 fun a b K=>True/\∀x,x=false->True/\∀aX,aX=false->(x=true->(aX=true->K (R.d (U.int .i64 0)))/\(aX=false->K (R.d (U.int .i64 (-1)))))/\(x=false->(aX=true->K (R.d (U.int .i64 1)))/\(aX=false->(decide (a<b)=true->K (R.d (U.int .i64 (-1))))/\(decide (a<b)=false->(decide (b<a)=true->K (R.d (U.int .i64 1)))/\(decide (b<a)=false->K (R.d (U.int .i64 0))))))
def LO:Int->(R->Prop)->Prop:=
 fun a K=>K (R.d (U.bool !decide (a=a)))
def Lo:ab.Row->ab.Row->(R->Prop)->Prop:=
 fun a b K=>List.length a=(11:Nat)/\(∀(x:U),x∈List.take (8:Nat) a->x.dg .i64)/\(0:Int)<=(8:Int)/\(8:Int)<=(8:Int)/\List.length b=(11:Nat)/\(∀(x:U),x∈List.take (8:Nat) b->x.dg .i64)/\(0:Int)<=(8:Int)/\(8:Int)<=(8:Int)/\((List.take (8:Nat) (List.map U.toInt (List.take (8:Nat) a))).length<(1000000000:Nat)/\(List.take (8:Nat) (List.map U.toInt (List.take (8:Nat) b))).length<(1000000000:Nat))/\∀x,x=dT (List.take (8:Nat) (List.map U.toInt (List.take (8:Nat) a))) (List.take (8:Nat) (List.map U.toInt (List.take (8:Nat) b)))->K (R.d (U.int .i64 (ai ((0:Int)-x))))
def K9:ab.Row->ab.Row->(R->Prop)->Prop:=
 fun a b K=>List.length a=11/\(∀(x:U),x∈List.take 8 a->x.dg .i64)/\List.length b=11/\(∀(x:U),x∈List.take 8 b->x.dg .i64)/\((List.map U.toInt (List.take 8 a)).length<1000000000/\(List.map U.toInt (List.take 8 b)).length<1000000000)/\∀x,x=dT (List.map U.toInt (List.take 8 a)) (List.map U.toInt (List.take 8 b))->(true=true->K (R.d (U.int .i64 (ai (0-x)))))/\(true=false->K (R.d (U.int .i64 x)))
def LI:List Int->(R->Prop)->Prop:=
 fun a K=>∃(J:Prop),((decide (↑a.length<(1:Int))=true->False)/\(decide (↑a.length<(1:Int))=false->J))/\(J->(0:Int)<=(0:Int)/\(0:Int)<↑a.length/\∃(aQ:Int->Int->Prop),∃(m:Int->Int->Nat),aQ (a.getD (0:Nat) (0:Int)) (1:Int)/\∀(v3 v4:Int),aQ v3 v4->(decide (v4<↑a.length)=true->(0:Int)<=v4/\v4<↑a.length/\aQ (if v3<a.getD v4.toNat (0:Int)then a.getD v4.toNat (0:Int)else v3) (ai (v4+(1:Int)))/\m (if v3<a.getD v4.toNat (0:Int)then a.getD v4.toNat (0:Int)else v3) (ai (v4+(1:Int)))<m v3 v4)/\(decide (v4<↑a.length)=false->K (R.d (U.int .i64 v3))))
def L4:ab.Row->ab.Row->(R->Prop)->Prop:=
 fun a b K=>∃(aQ:Int->List (List U)->List (List U)->List (List U)->Prop),∃(m:Int->List (List U)->List (List U)->List (List U)->Nat),aQ 0 [a] [b] [[U.int .i64 0,U.int .i64 0,U.int .i64 0,U.int .i64 0,U.int .i64 0,U.int .i64 0,U.int .i64 0,U.int .i64 0]]/\∀(v6:Int) (aq bu br:List (List U)),aQ v6 aq bu br->(decide (v6<8)=true->0<=v6/\v6<8/\((aq.getD 0 []).getD v6.toNat U.undef).dg .i64/\0<=v6/\v6<8/\((bu.getD 0 []).getD v6.toNat U.undef).dg .i64/\0<=v6/\v6<8/\aQ (ai (v6+1)) (aq.set 0 ((aq.getD 0 []).set v6.toNat (U.int .i64 (ai (((aq.getD 0 []).getD v6.toNat U.undef).toInt+((bu.getD 0 []).getD v6.toNat U.undef).toInt))))) bu br/\m (ai (v6+1)) (aq.set 0 ((aq.getD 0 []).set v6.toNat (U.int .i64 (ai (((aq.getD 0 []).getD v6.toNat U.undef).toInt+((bu.getD 0 []).getD v6.toNat U.undef).toInt))))) bu br<m v6 aq bu br)/\(decide (v6<8)=false->(aq.getD 0 []).length=8/\((br.set 0 (aq.getD 0 [])).getD 0 []).length=8/\K (R.rw 8 ((br.set 0 (aq.getD 0 [])).getD 0 [])))
def LJ:ab.Row->(R->Prop)->Prop:=
 fun r K=>(List.getD r 8 U.undef).isBool/\(List.getD r 9 U.undef).eQ .u32/\(List.getD r 10 U.undef).eQ .u32/\(bw (List.getD r 9 U.undef).bX/\bw (List.getD r 10 U.undef).bX)/\∀x,x=lS (bd (List.getD r 8 U.undef).toBool (List.getD r 9 U.undef).bX (List.getD r 10 U.undef).bX)->K (R.d (U.bool (decide (x=0))))
def K_:ab.Rows->(R->Prop)->Prop:=
 fun l K=>∃(aQ:Int->Prop),∃(m:Int->Nat),aQ 0/\∀(bq:Int),aQ bq->(decide (bq<(aP l))=true->0<=bq/\bq<(aP l)/\(List.aR l bq).length=11/\fm 1000000 (List.aR l bq)/\∀x,x=jO (List.aR l bq)->(x=true->K (R.d (U.int .i64 bq)))/\(x=false->aQ (ai (bq+1))/\m (ai (bq+1))<m bq))/\(decide (bq<(aP l))=false->K (R.d (U.int .i64 (-1))))
def K5:ab.Rows->(ag->Prop)->Prop:=
 fun l K=>((∀(r:List U),r∈l->fm 1000000 r)/\List.length l<100000000000)/\∀x,x=o3 l 0->(decide (x=-1)=true->K (ag.av 11 l))/\(decide (x=-1)=false->∃(aQ:Int->Int->List (List U)->Prop),∃(m:Int->Int->List (List U)->Nat),aQ x (ai (x+1)) l/\∀(v5 v6:Int) (aq:List (List U)),aQ v5 v6 aq->(decide (v6<↑aq.length)=true->0<=v6/\v6<↑aq.length/\(aq.aR v6).length=11/\(aq.aR v6).length=11/\fm 1000000 (aq.aR v6)/\∀x,x=jO (aq.aR v6)->((!x)=true->(aq.aR v6).length=11/\0<=v5/\v5<↑aq.length/\aQ (ai (v5+1)) (ai (v6+1)) (aq.set v5.toNat (aq.aR v6))/\m (ai (v5+1)) (ai (v6+1)) (aq.set v5.toNat (aq.aR v6))<m v5 v6 aq)/\((!x)=false->aQ v5 (ai (v6+1)) aq/\m v5 (ai (v6+1)) aq<m v5 v6 aq))/\(decide (v6<↑aq.length)=false->0<=v5/\v5<↑aq.length/\0<=v5/\v5<=↑(List.take v5.toNat aq++List.replicate (aq.length-v5.toNat) [U.int .i64 0,U.int .i64 0,U.int .i64 0,U.int .i64 0,U.int .i64 0,U.int .i64 0,U.int .i64 0,U.int .i64 0,U.bool false,U.af .u32 [],U.af .u32 []]).length/\K (ag.av 11 (List.take v5.toNat (List.take v5.toNat aq++List.replicate (aq.length-v5.toNat) [U.int .i64 0,U.int .i64 0,U.int .i64 0,U.int .i64 0,U.int .i64 0,U.int .i64 0,U.int .i64 0,U.int .i64 0,U.bool false,U.af .u32 [],U.af .u32 []])))))
def Ll:ab.Rows->(ag->Prop)->Prop:=
 fun l K=>∀b,(b=true->l=[])->(b=true->K (ag.av (11:Nat) []))/\(b=false->((0:Int)+(aP l))*(120:Int)<=(70368744177664:Int)/\K (ag.av (11:Nat) ([]++l)))
def LP:ab.Rows->(R->Prop)->Prop:=
 fun l K=>(0:Int)<=(0:Int)/\(0:Int)<=(aP l)/\(aP l)*(120:Int)<=(281474976710656:Int)/\∃(aQ:Int->List (List U)->List (List U)->Prop),∃(m:Int->List (List U)->List (List U)->Nat),aQ (0:Int) [] (List.replicate (0:Nat) [U.int .i64 (0:Int),U.int .i64 (0:Int),U.int .i64 (0:Int),U.int .i64 (0:Int),U.int .i64 (0:Int),U.int .i64 (0:Int),U.int .i64 (0:Int),U.int .i64 (0:Int),U.bool false,U.af .u32 [],U.af .u32 []])/\∀(bU:Int) (aq bu:List (List U)),aQ bU aq bu->(decide (bU<(aP l))=true->(0:Int)<=bU/\bU<(aP l)/\(List.aR l bU).length=(11:Nat)/\(List.aR l bU).length=(11:Nat)/\kd (List.take (8:Nat) (List.aR l bU))/\((dy (8:Nat) [U.int .i64 (0:Int)] aq (List.map U.toInt (List.take (8:Nat) (List.aR l bU)))).getD (0:Nat) U.undef).dg .i64/\(mR (8:Nat) aq (List.map U.toInt (List.take (8:Nat) (List.aR l bU)))=true->(0:Int)<=((dy (8:Nat) [U.int .i64 (0:Int)] aq (List.map U.toInt (List.take (8:Nat) (List.aR l bU)))).getD (0:Nat) U.undef).toInt/\((dy (8:Nat) [U.int .i64 (0:Int)] aq (List.map U.toInt (List.take (8:Nat) (List.aR l bU)))).getD (0:Nat) U.undef).toInt<↑bu.length/\((bu.getD ((dy (8:Nat) [U.int .i64 (0:Int)] aq (List.map U.toInt (List.take (8:Nat) (List.aR l bU)))).getD (0:Nat) U.undef).toInt.toNat []).fs).isBool/\((bu.getD ((dy (8:Nat) [U.int .i64 (0:Int)] aq (List.map U.toInt (List.take (8:Nat) (List.aR l bU)))).getD (0:Nat) U.undef).toInt.toNat []).eK).eQ .u32/\((bu.getD ((dy (8:Nat) [U.int .i64 (0:Int)] aq (List.map U.toInt (List.take (8:Nat) (List.aR l bU)))).getD (0:Nat) U.undef).toInt.toNat []).eL).eQ .u32/\((List.aR l bU).fs).isBool/\((List.aR l bU).eK).eQ .u32/\((List.aR l bU).eL).eQ .u32/\(bS (1000000:Nat) ((bu.getD ((dy (8:Nat) [U.int .i64 (0:Int)] aq (List.map U.toInt (List.take (8:Nat) (List.aR l bU)))).getD (0:Nat) U.undef).toInt.toNat []).eK).bX/\bS (1000000:Nat) ((bu.getD ((dy (8:Nat) [U.int .i64 (0:Int)] aq (List.map U.toInt (List.take (8:Nat) (List.aR l bU)))).getD (0:Nat) U.undef).toInt.toNat []).eL).bX/\bS (1000000:Nat) ((List.aR l bU).eK).bX/\bS (1000000:Nat) ((List.aR l bU).eL).bX)/\∀x,x=cj (bd ((bu.getD ((dy (8:Nat) [U.int .i64 (0:Int)] aq (List.map U.toInt (List.take (8:Nat) (List.aR l bU)))).getD (0:Nat) U.undef).toInt.toNat []).fs).toBool ((bu.getD ((dy (8:Nat) [U.int .i64 (0:Int)] aq (List.map U.toInt (List.take (8:Nat) (List.aR l bU)))).getD (0:Nat) U.undef).toInt.toNat []).eK).bX ((bu.getD ((dy (8:Nat) [U.int .i64 (0:Int)] aq (List.map U.toInt (List.take (8:Nat) (List.aR l bU)))).getD (0:Nat) U.undef).toInt.toNat []).eL).bX+bd ((List.aR l bU).fs).toBool ((List.aR l bU).eK).bX ((List.aR l bU).eL).bX)->∀aX,aX=cm (bd ((bu.getD ((dy (8:Nat) [U.int .i64 (0:Int)] aq (List.map U.toInt (List.take (8:Nat) (List.aR l bU)))).getD (0:Nat) U.undef).toInt.toNat []).fs).toBool ((bu.getD ((dy (8:Nat) [U.int .i64 (0:Int)] aq (List.map U.toInt (List.take (8:Nat) (List.aR l bU)))).getD (0:Nat) U.undef).toInt.toNat []).eK).bX ((bu.getD ((dy (8:Nat) [U.int .i64 (0:Int)] aq (List.map U.toInt (List.take (8:Nat) (List.aR l bU)))).getD (0:Nat) U.undef).toInt.toNat []).eL).bX+bd ((List.aR l bU).fs).toBool ((List.aR l bU).eK).bX ((List.aR l bU).eL).bX)->∀aU,aU=cc (bd ((bu.getD ((dy (8:Nat) [U.int .i64 (0:Int)] aq (List.map U.toInt (List.take (8:Nat) (List.aR l bU)))).getD (0:Nat) U.undef).toInt.toNat []).fs).toBool ((bu.getD ((dy (8:Nat) [U.int .i64 (0:Int)] aq (List.map U.toInt (List.take (8:Nat) (List.aR l bU)))).getD (0:Nat) U.undef).toInt.toNat []).eK).bX ((bu.getD ((dy (8:Nat) [U.int .i64 (0:Int)] aq (List.map U.toInt (List.take (8:Nat) (List.aR l bU)))).getD (0:Nat) U.undef).toInt.toNat []).eL).bX+bd ((List.aR l bU).fs).toBool ((List.aR l bU).eK).bX ((List.aR l bU).eL).bX)->(0:Int)<=((dy (8:Nat) [U.int .i64 (0:Int)] aq (List.map U.toInt (List.take (8:Nat) (List.aR l bU)))).getD (0:Nat) U.undef).toInt/\((dy (8:Nat) [U.int .i64 (0:Int)] aq (List.map U.toInt (List.take (8:Nat) (List.aR l bU)))).getD (0:Nat) U.undef).toInt<↑bu.length/\aQ (ai (bU+(1:Int))) aq (bu.set ((dy (8:Nat) [U.int .i64 (0:Int)] aq (List.map U.toInt (List.take (8:Nat) (List.aR l bU)))).getD (0:Nat) U.undef).toInt.toNat (setRow (bu.getD ((dy (8:Nat) [U.int .i64 (0:Int)] aq (List.map U.toInt (List.take (8:Nat) (List.aR l bU)))).getD (0:Nat) U.undef).toInt.toNat []) (8:Nat) [U.bool x,U.af .u32 aX,U.af .u32 aU]))/\m (ai (bU+(1:Int))) aq (bu.set ((dy (8:Nat) [U.int .i64 (0:Int)] aq (List.map U.toInt (List.take (8:Nat) (List.aR l bU)))).getD (0:Nat) U.undef).toInt.toNat (setRow (bu.getD ((dy (8:Nat) [U.int .i64 (0:Int)] aq (List.map U.toInt (List.take (8:Nat) (List.aR l bU)))).getD (0:Nat) U.undef).toInt.toNat []) (8:Nat) [U.bool x,U.af .u32 aX,U.af .u32 aU]))<m bU aq bu)/\(mR (8:Nat) aq (List.map U.toInt (List.take (8:Nat) (List.aR l bU)))=false->(List.aR l bU).length=(11:Nat)/\kd (List.take (8:Nat) (List.aR l bU))/\(List.aR l bU).length=(11:Nat)/\((List.aR l bU).fs).isBool/\((List.aR l bU).eK).eQ .u32/\((List.aR l bU).eL).eQ .u32/\(bw ((List.aR l bU).eK).bX/\bw ((List.aR l bU).eL).bX)/\∀x,x=cj (bd ((List.aR l bU).fs).toBool ((List.aR l bU).eK).bX ((List.aR l bU).eL).bX)->∀aX,aX=cm (bd ((List.aR l bU).fs).toBool ((List.aR l bU).eK).bX ((List.aR l bU).eL).bX)->∀aU,aU=cc (bd ((List.aR l bU).fs).toBool ((List.aR l bU).eK).bX ((List.aR l bU).eL).bX)->(↑bu.length+↑[List.take (8:Nat) (List.aR l bU)++[U.bool x,U.af .u32 aX,U.af .u32 aU]].length)*(120:Int)<=(70368744177664:Int)/\aQ (ai (bU+(1:Int))) (mg (8:Nat) (List.take (8:Nat) (List.aR l bU)) [U.int .i64 ↑bu.length] aq) (bu++[List.take (8:Nat) (List.aR l bU)++[U.bool x,U.af .u32 aX,U.af .u32 aU]])/\m (ai (bU+(1:Int))) (mg (8:Nat) (List.take (8:Nat) (List.aR l bU)) [U.int .i64 ↑bu.length] aq) (bu++[List.take (8:Nat) (List.aR l bU)++[U.bool x,U.af .u32 aX,U.af .u32 aU]])<m bU aq bu))/\(decide (bU<(aP l))=false->((∀(r:List U),r∈bu->fm (1000000:Nat) r)/\bu.length<(100000000000:Nat))/\∀x,x=List.filter (fun(r:List U)=> !jO r) bu->(dh x/\x.length<(1000000000000000:Nat))/\∀(i:List (List U)),lC x (0:Int) (↑x.length) i->K (R.d (U.av (11:Nat) i)))
def LD:ab.Rows->(R->Prop)->Prop:=
 fun l K=>∃(aQ:Int->List (List U)->List (List U)->Prop),∃(m:Int->List (List U)->List (List U)->Nat),aQ 0 [] []/\∀(bU:Int) (aq bu:List (List U)),aQ bU aq bu->(decide (bU<(aP l))=true->0<=bU/\bU<(aP l)/\(List.aR l bU).length=11/\∃(J:List (List U)->List (List U)->List (List U)->Prop),((List.aR l bU).length=11/\kd (List.take 8 (List.aR l bU))/\((dy 8 [U.bool false,U.af .u32 [],U.af .u32 []] aq (List.map U.toInt (List.take 8 (List.aR l bU)))).getD 0 U.undef).isBool/\((dy 8 [U.bool false,U.af .u32 [],U.af .u32 []] aq (List.map U.toInt (List.take 8 (List.aR l bU)))).getD 1 U.undef).eQ .u32/\((dy 8 [U.bool false,U.af .u32 [],U.af .u32 []] aq (List.map U.toInt (List.take 8 (List.aR l bU)))).getD 2 U.undef).eQ .u32/\((!mR 8 aq (List.map U.toInt (List.take 8 (List.aR l bU))))=true->(List.aR l bU).length=11/\((bu.length:Int)+↑[List.take 8 (List.aR l bU)].length)*64<=70368744177664/\J aq (bu++[List.take 8 (List.aR l bU)]) [List.aR l bU])/\((!mR 8 aq (List.map U.toInt (List.take 8 (List.aR l bU))))=false->J aq bu [List.aR l bU]))/\∀(bJ fl br:List (List U)),J bJ fl br->(br.getD 0 []).length=11/\(br.getD 0 []).length=11/\kd (List.take 8 (br.getD 0 []))/\((dy 8 [U.bool false,U.af .u32 [],U.af .u32 []] bJ (List.map U.toInt (List.take 8 (br.getD 0 [])))).getD 0 U.undef).isBool/\((dy 8 [U.bool false,U.af .u32 [],U.af .u32 []] bJ (List.map U.toInt (List.take 8 (br.getD 0 [])))).getD 1 U.undef).eQ .u32/\((dy 8 [U.bool false,U.af .u32 [],U.af .u32 []] bJ (List.map U.toInt (List.take 8 (br.getD 0 [])))).getD 2 U.undef).eQ .u32/\((br.getD 0 []).fs).isBool/\((br.getD 0 []).eK).eQ .u32/\((br.getD 0 []).eL).eQ .u32/\(bS 1000000 ((dy 8 [U.bool false,U.af .u32 [],U.af .u32 []] bJ (List.map U.toInt (List.take 8 (br.getD 0 [])))).getD 1 U.undef).bX/\bS 1000000 ((dy 8 [U.bool false,U.af .u32 [],U.af .u32 []] bJ (List.map U.toInt (List.take 8 (br.getD 0 [])))).getD 2 U.undef).bX/\bS 1000000 ((br.getD 0 []).eK).bX/\bS 1000000 ((br.getD 0 []).eL).bX)/\∀x,x=cj (bd ((dy 8 [U.bool false,U.af .u32 [],U.af .u32 []] bJ (List.map U.toInt (List.take 8 (br.getD 0 [])))).getD 0 U.undef).toBool ((dy 8 [U.bool false,U.af .u32 [],U.af .u32 []] bJ (List.map U.toInt (List.take 8 (br.getD 0 [])))).getD 1 U.undef).bX ((dy 8 [U.bool false,U.af .u32 [],U.af .u32 []] bJ (List.map U.toInt (List.take 8 (br.getD 0 [])))).getD 2 U.undef).bX+bd ((br.getD 0 []).fs).toBool ((br.getD 0 []).eK).bX ((br.getD 0 []).eL).bX)->∀aX,aX=cm (bd ((dy 8 [U.bool false,U.af .u32 [],U.af .u32 []] bJ (List.map U.toInt (List.take 8 (br.getD 0 [])))).getD 0 U.undef).toBool ((dy 8 [U.bool false,U.af .u32 [],U.af .u32 []] bJ (List.map U.toInt (List.take 8 (br.getD 0 [])))).getD 1 U.undef).bX ((dy 8 [U.bool false,U.af .u32 [],U.af .u32 []] bJ (List.map U.toInt (List.take 8 (br.getD 0 [])))).getD 2 U.undef).bX+bd ((br.getD 0 []).fs).toBool ((br.getD 0 []).eK).bX ((br.getD 0 []).eL).bX)->∀aU,aU=cc (bd ((dy 8 [U.bool false,U.af .u32 [],U.af .u32 []] bJ (List.map U.toInt (List.take 8 (br.getD 0 [])))).getD 0 U.undef).toBool ((dy 8 [U.bool false,U.af .u32 [],U.af .u32 []] bJ (List.map U.toInt (List.take 8 (br.getD 0 [])))).getD 1 U.undef).bX ((dy 8 [U.bool false,U.af .u32 [],U.af .u32 []] bJ (List.map U.toInt (List.take 8 (br.getD 0 [])))).getD 2 U.undef).bX+bd ((br.getD 0 []).fs).toBool ((br.getD 0 []).eK).bX ((br.getD 0 []).eL).bX)->kd (List.take 8 (br.getD 0 []))/\aQ (ai (bU+1)) (mg 8 (List.take 8 (br.getD 0 [])) [U.bool x,U.af .u32 aX,U.af .u32 aU] bJ) fl/\m (ai (bU+1)) (mg 8 (List.take 8 (br.getD 0 [])) [U.bool x,U.af .u32 aX,U.af .u32 aU] bJ) fl<m bU aq bu)/\(decide (bU<(aP l))=false->∃(aQ:Int->List (List U)->List (List U)->List (List U)->Prop),∃(m:Int->List (List U)->List (List U)->List (List U)->Nat),aQ 0 aq bu []/\∀(v46:Int) (aq fl br:List (List U)),aQ v46 aq fl br->(decide (v46<↑bu.length)=true->0<=v46/\v46<↑fl.length/\(fl.aR v46).length=8/\(fl.aR v46).length=8/\kd (fl.aR v46)/\((dy 8 [U.bool false,U.af .u32 [],U.af .u32 []] aq (List.map U.toInt (fl.aR v46))).getD 0 U.undef).isBool/\((dy 8 [U.bool false,U.af .u32 [],U.af .u32 []] aq (List.map U.toInt (fl.aR v46))).getD 1 U.undef).eQ .u32/\((dy 8 [U.bool false,U.af .u32 [],U.af .u32 []] aq (List.map U.toInt (fl.aR v46))).getD 2 U.undef).eQ .u32/\(bw ((dy 8 [U.bool false,U.af .u32 [],U.af .u32 []] aq (List.map U.toInt (fl.aR v46))).getD 1 U.undef).bX/\bw ((dy 8 [U.bool false,U.af .u32 [],U.af .u32 []] aq (List.map U.toInt (fl.aR v46))).getD 2 U.undef).bX)/\∀x,x=lS (bd ((dy 8 [U.bool false,U.af .u32 [],U.af .u32 []] aq (List.map U.toInt (fl.aR v46))).getD 0 U.undef).toBool ((dy 8 [U.bool false,U.af .u32 [],U.af .u32 []] aq (List.map U.toInt (fl.aR v46))).getD 1 U.undef).bX ((dy 8 [U.bool false,U.af .u32 [],U.af .u32 []] aq (List.map U.toInt (fl.aR v46))).getD 2 U.undef).bX)->((!decide (x=0))=true->(fl.aR v46).length=8/\(fl.aR v46).length=8/\kd (fl.aR v46)/\((dy 8 [U.bool false,U.af .u32 [],U.af .u32 []] aq (List.map U.toInt (fl.aR v46))).getD 0 U.undef).isBool/\((dy 8 [U.bool false,U.af .u32 [],U.af .u32 []] aq (List.map U.toInt (fl.aR v46))).getD 1 U.undef).eQ .u32/\((dy 8 [U.bool false,U.af .u32 [],U.af .u32 []] aq (List.map U.toInt (fl.aR v46))).getD 2 U.undef).eQ .u32/\((br.length:Int)+↑[fl.aR v46++[U.bool ((dy 8 [U.bool false,U.af .u32 [],U.af .u32 []] aq (List.map U.toInt (fl.aR v46))).getD 0 U.undef).toBool,U.af .u32 ((dy 8 [U.bool false,U.af .u32 [],U.af .u32 []] aq (List.map U.toInt (fl.aR v46))).getD 1 U.undef).bX,U.af .u32 ((dy 8 [U.bool false,U.af .u32 [],U.af .u32 []] aq (List.map U.toInt (fl.aR v46))).getD 2 U.undef).bX]].length)*120<=70368744177664/\aQ (ai (v46+1)) aq fl (br++[fl.aR v46++[U.bool ((dy 8 [U.bool false,U.af .u32 [],U.af .u32 []] aq (List.map U.toInt (fl.aR v46))).getD 0 U.undef).toBool,U.af .u32 ((dy 8 [U.bool false,U.af .u32 [],U.af .u32 []] aq (List.map U.toInt (fl.aR v46))).getD 1 U.undef).bX,U.af .u32 ((dy 8 [U.bool false,U.af .u32 [],U.af .u32 []] aq (List.map U.toInt (fl.aR v46))).getD 2 U.undef).bX]])/\m (ai (v46+1)) aq fl (br++[fl.aR v46++[U.bool ((dy 8 [U.bool false,U.af .u32 [],U.af .u32 []] aq (List.map U.toInt (fl.aR v46))).getD 0 U.undef).toBool,U.af .u32 ((dy 8 [U.bool false,U.af .u32 [],U.af .u32 []] aq (List.map U.toInt (fl.aR v46))).getD 1 U.undef).bX,U.af .u32 ((dy 8 [U.bool false,U.af .u32 [],U.af .u32 []] aq (List.map U.toInt (fl.aR v46))).getD 2 U.undef).bX]])<m v46 aq fl br)/\((!decide (x=0))=false->aQ (ai (v46+1)) aq fl br/\m (ai (v46+1)) aq fl br<m v46 aq fl br))/\(decide (v46<↑bu.length)=false->(dh br/\br.length<1000000000000000)/\∀(i:List (List U)),lC br 0 (↑br.length) i->K (R.d (U.av 11 i))))
end ab
end
section
open Go Go.aj
namespace ab
def Mu:Int->(R->Prop)->Prop:=
 fun x K=>∃(J:Int->Int->Prop),((decide (4294967296<=x)=true->J (x.fdiv 4294967296) 32)/\(decide (4294967296<=x)=false->J x 0))/\∀(v0 v2:Int),J v0 v2->∃(J:Int->Int->Prop),((decide (65536<=v0)=true->J (v0.fdiv 65536) (ai (v2+16)))/\(decide (65536<=v0)=false->J v0 v2))/\∀(v0 v2:Int),J v0 v2->(decide (256<=v0)=true->0<=IntKind.u8.wrap (v0.fdiv 256)/\IntKind.u8.wrap (v0.fdiv 256)<256/\K (R.d (U.int .i64 (ai (ai (v2+8)+ai ((have y:=have y:=have y:=have y:=have y:=have y:=[8,8,8,8];8::8::8::8::y;have y:=8::8::8::8::y;8::8::8::8::y;have y:=have y:=8::8::8::8::y;8::8::8::8::y;have y:=8::8::8::8::y;8::8::8::8::y;have y:=have y:=have y:=8::8::8::8::y;8::8::8::8::y;have y:=8::8::8::8::y;8::8::8::8::y;have y:=have y:=8::8::8::8::y;8::8::8::8::y;have y:=8::8::8::8::y;8::8::8::8::y;have y:=have y:=have y:=have y:=8::8::8::8::y;8::8::8::8::y;have y:=8::8::8::8::y;8::8::8::8::y;have y:=have y:=8::8::8::8::y;8::8::8::8::y;have y:=8::8::8::8::y;8::8::8::8::y;have y:=have y:=have y:=8::8::8::8::y;8::8::8::8::y;have y:=8::8::8::8::y;8::8::8::8::y;have y:=have y:=8::8::8::8::y;8::8::8::8::y;have y:=8::8::8::8::y;8::8::8::8::y;have y:=have y:=have y:=have y:=have y:=7::7::7::7::y;7::7::7::7::y;have y:=7::7::7::7::y;7::7::7::7::y;have y:=have y:=7::7::7::7::y;7::7::7::7::y;have y:=7::7::7::7::y;7::7::7::7::y;have y:=have y:=have y:=7::7::7::7::y;7::7::7::7::y;have y:=7::7::7::7::y;7::7::7::7::y;have y:=have y:=7::7::7::7::y;7::7::7::7::y;have y:=7::7::7::7::y;7::7::7::7::y;have y:=have y:=have y:=have y:=6::6::6::6::y;6::6::6::6::y;have y:=6::6::6::6::y;6::6::6::6::y;have y:=have y:=6::6::6::6::y;6::6::6::6::y;have y:=6::6::6::6::y;6::6::6::6::y;have y:=have y:=have y:=5::5::5::5::y;5::5::5::5::y;have y:=5::5::5::5::y;5::5::5::5::y;have y:=have y:=4::4::4::4::y;4::4::4::4::y;have y:=3::3::3::3::y;0::1::2::2::y).getD (IntKind.u8.wrap (v0.fdiv 256)).toNat 0))))))/\(decide (256<=v0)=false->0<=IntKind.u8.wrap v0/\IntKind.u8.wrap v0<256/\K (R.d (U.int .i64 (ai (v2+ai ((have y:=have y:=have y:=have y:=have y:=have y:=[8,8,8,8];8::8::8::8::y;have y:=8::8::8::8::y;8::8::8::8::y;have y:=have y:=8::8::8::8::y;8::8::8::8::y;have y:=8::8::8::8::y;8::8::8::8::y;have y:=have y:=have y:=8::8::8::8::y;8::8::8::8::y;have y:=8::8::8::8::y;8::8::8::8::y;have y:=have y:=8::8::8::8::y;8::8::8::8::y;have y:=8::8::8::8::y;8::8::8::8::y;have y:=have y:=have y:=have y:=8::8::8::8::y;8::8::8::8::y;have y:=8::8::8::8::y;8::8::8::8::y;have y:=have y:=8::8::8::8::y;8::8::8::8::y;have y:=8::8::8::8::y;8::8::8::8::y;have y:=have y:=have y:=8::8::8::8::y;8::8::8::8::y;have y:=8::8::8::8::y;8::8::8::8::y;have y:=have y:=8::8::8::8::y;8::8::8::8::y;have y:=8::8::8::8::y;8::8::8::8::y;have y:=have y:=have y:=have y:=have y:=7::7::7::7::y;7::7::7::7::y;have y:=7::7::7::7::y;7::7::7::7::y;have y:=have y:=7::7::7::7::y;7::7::7::7::y;have y:=7::7::7::7::y;7::7::7::7::y;have y:=have y:=have y:=7::7::7::7::y;7::7::7::7::y;have y:=7::7::7::7::y;7::7::7::7::y;have y:=have y:=7::7::7::7::y;7::7::7::7::y;have y:=7::7::7::7::y;7::7::7::7::y;have y:=have y:=have y:=have y:=6::6::6::6::y;6::6::6::6::y;have y:=6::6::6::6::y;6::6::6::6::y;have y:=have y:=6::6::6::6::y;6::6::6::6::y;have y:=6::6::6::6::y;6::6::6::6::y;have y:=have y:=have y:=5::5::5::5::y;5::5::5::5::y;have y:=5::5::5::5::y;5::5::5::5::y;have y:=have y:=4::4::4::4::y;4::4::4::4::y;have y:=3::3::3::3::y;0::1::2::2::y).getD (IntKind.u8.wrap v0).toNat 0))))))
def X0:Int->(R->Prop)->Prop:=
 fun x K=>(0<=x/\x<18446744073709551616)/\∀aX,aX=↑(db x.toNat)->K (R.d (U.int .i64 aX))
def LK:Int->(R->Prop)->Prop:=
 fun x K=>((0:Int)<=aW x/\aW x<(18446744073709551616:Int))/\∀aX,aX=↑(db (aW x).toNat)->(0:Int)<=aX/\K (R.d (U.int .u64 (aW ((1:Int)*(2:Int)^min aX.toNat (64:Nat)))))
def Vx:Int->(ag->R->Prop)->Prop:=
 fun x K=>K (ag.cells [R.d (U.int .u64 (cP BinOp.xor .u64 (cP BinOp.xor .u64 (cP BinOp.xor .u64 x (IntKind.u64.wrap (x*8192))) ((cP BinOp.xor .u64 x (IntKind.u64.wrap (x*8192))).fdiv 128)) (IntKind.u64.wrap (cP BinOp.xor .u64 (cP BinOp.xor .u64 x (IntKind.u64.wrap (x*8192))) ((cP BinOp.xor .u64 x (IntKind.u64.wrap (x*8192))).fdiv 128)*131072))))]) (R.d (U.int .u64 (cP BinOp.xor .u64 (cP BinOp.xor .u64 (cP BinOp.xor .u64 x (IntKind.u64.wrap (x*8192))) ((cP BinOp.xor .u64 x (IntKind.u64.wrap (x*8192))).fdiv 128)) (IntKind.u64.wrap (cP BinOp.xor .u64 (cP BinOp.xor .u64 x (IntKind.u64.wrap (x*8192))) ((cP BinOp.xor .u64 x (IntKind.u64.wrap (x*8192))).fdiv 128)*131072)))))
def Li:ab.Rows->Int->Int->Int->(ag->R->Prop)->Prop:=
 fun l a b s K=>0<=b/\b<(aP l)/\(List.aR l b).length=11/\0<=a/\a<(aP l)/\(List.aR l a).length=11/\(eO (List.aR l b)/\eO (List.aR l a))/\∀x,x=gQ (List.aR l b) (List.aR l a)->(decide (x<0)=true->K (ag.cells [R.d (U.int .i64 (ai (s+1)))]) (R.tup [R.d (U.int .i64 b),R.d (U.int .i64 a)]))/\(decide (x<0)=false->K (ag.cells [R.d (U.int .i64 s)]) (R.tup [R.d (U.int .i64 a),R.d (U.int .i64 b)]))
def Lj:ab.Rows->Int->Int->Int->Int->(ag->R->Prop)->Prop:=
 fun(l:ab.Rows) (a b e s:Int) (K:ag->R->Prop)=>(ab.dh l/\(0:Int)<=a/\a<aP l/\(0:Int)<=b/\b<aP l/\(0:Int)<=s/\s<(1000:Int))/\∀(x:Int),x=(Nat.cast:Nat->Int) («Sort».order2 ab.bk {toList:=l} (Int.toNat a) (Int.toNat b) (Int.toNat s)).2.2->∀(aX:Int),aX=(Nat.cast:Nat->Int) («Sort».order2 ab.bk {toList:=l} (Int.toNat a) (Int.toNat b) (Int.toNat s)).1->∀(aU:Int),aU=(Nat.cast:Nat->Int) («Sort».order2 ab.bk {toList:=l} (Int.toNat a) (Int.toNat b) (Int.toNat s)).2.1->(ab.dh l/\(0:Int)<=aU/\aU<aP l/\(0:Int)<=e/\e<aP l/\(0:Int)<=x/\x<(1000:Int))/\∀(bo:Int),bo=(Nat.cast:Nat->Int) («Sort».order2 ab.bk {toList:=l} (Int.toNat aU) (Int.toNat e) (Int.toNat x)).2.2->∀(ck:Int),ck=(Nat.cast:Nat->Int) («Sort».order2 ab.bk {toList:=l} (Int.toNat aU) (Int.toNat e) (Int.toNat x)).1->∀(de:Int),de=(Nat.cast:Nat->Int) («Sort».order2 ab.bk {toList:=l} (Int.toNat aU) (Int.toNat e) (Int.toNat x)).2.1->(ab.dh l/\(0:Int)<=aX/\aX<aP l/\(0:Int)<=ck/\ck<aP l/\(0:Int)<=bo/\bo<(1000:Int))/\∀(x:Int),x=(Nat.cast:Nat->Int) («Sort».order2 ab.bk {toList:=l} (Int.toNat aX) (Int.toNat ck) (Int.toNat bo)).2.2->∀(di:Int),di=(Nat.cast:Nat->Int) («Sort».order2 ab.bk {toList:=l} (Int.toNat aX) (Int.toNat ck) (Int.toNat bo)).1->∀(dp:Int),dp=(Nat.cast:Nat->Int) («Sort».order2 ab.bk {toList:=l} (Int.toNat aX) (Int.toNat ck) (Int.toNat bo)).2.1->K (ag.cells [R.d (U.int IntKind.i64 x)]) (R.d (U.int IntKind.i64 dp))
def KU:ab.Rows->Int->Int->(ag->R->Prop)->Prop:=
 fun l a s K=>(dh l/\(0<=ai (a-1)/\ai (a-1)<(aP l))/\(0<=a/\a<(aP l))/\(0<=ai (a+1)/\ai (a+1)<(aP l))/\0<=s/\s<900)/\∀x,x=↑(«Sort».median bk {toList:=l} (ai (a-1)).toNat a.toNat (ai (a+1)).toNat s.toNat).snd->∀aX,aX=↑(«Sort».median bk {toList:=l} (ai (a-1)).toNat a.toNat (ai (a+1)).toNat s.toNat).fst->K (ag.cells [R.d (U.int .i64 x)]) (R.d (U.int .i64 aX))
def K3:ab.Rows->Int->Int->(R->Prop)->Prop:=
 fun l a b K=>∃(J:Int->Int->Prop),((decide ((8:Int)<=ai (b-a))=true->∃(pk:Int->Int->Int->Int->Prop),((decide ((50:Int)<=ai (b-a))=true->(dh l/\(0:Int)<ai (a+ai (ai ((ai (b-a)).tdiv (4:Int))*(1:Int)))/\ai (a+ai (ai ((ai (b-a)).tdiv (4:Int))*(1:Int)))+(1:Int)<(aP l)/\List.length l<(1000000000000000:Nat)/\(0:Int)<=(0:Int)/\(0:Int)<(900:Int))/\∀x,x=↑(«Sort».medianAdjacent bk {toList:=l} (ai (a+ai (ai ((ai (b-a)).tdiv (4:Int))*(1:Int)))).toNat (0:Nat)).snd->∀aX,aX=↑(«Sort».medianAdjacent bk {toList:=l} (ai (a+ai (ai ((ai (b-a)).tdiv (4:Int))*(1:Int)))).toNat (0:Nat)).fst->(dh l/\(0:Int)<ai (a+ai (ai ((ai (b-a)).tdiv (4:Int))*(2:Int)))/\ai (a+ai (ai ((ai (b-a)).tdiv (4:Int))*(2:Int)))+(1:Int)<(aP l)/\List.length l<(1000000000000000:Nat)/\(0:Int)<=x/\x<(900:Int))/\∀aU,aU=↑(«Sort».medianAdjacent bk {toList:=l} (ai (a+ai (ai ((ai (b-a)).tdiv (4:Int))*(2:Int)))).toNat x.toNat).snd->∀bo,bo=↑(«Sort».medianAdjacent bk {toList:=l} (ai (a+ai (ai ((ai (b-a)).tdiv (4:Int))*(2:Int)))).toNat x.toNat).fst->(dh l/\(0:Int)<ai (a+ai (ai ((ai (b-a)).tdiv (4:Int))*(3:Int)))/\ai (a+ai (ai ((ai (b-a)).tdiv (4:Int))*(3:Int)))+(1:Int)<(aP l)/\List.length l<(1000000000000000:Nat)/\(0:Int)<=aU/\aU<(900:Int))/\∀x,x=↑(«Sort».medianAdjacent bk {toList:=l} (ai (a+ai (ai ((ai (b-a)).tdiv (4:Int))*(3:Int)))).toNat aU.toNat).snd->∀ck,ck=↑(«Sort».medianAdjacent bk {toList:=l} (ai (a+ai (ai ((ai (b-a)).tdiv (4:Int))*(3:Int)))).toNat aU.toNat).fst->pk aX bo ck x)/\(decide ((50:Int)<=ai (b-a))=false->pk (ai (a+ai (ai ((ai (b-a)).tdiv (4:Int))*(1:Int)))) (ai (a+ai (ai ((ai (b-a)).tdiv (4:Int))*(2:Int)))) (ai (a+ai (ai ((ai (b-a)).tdiv (4:Int))*(3:Int)))) (0:Int)))/\∀(v12 b7 fa s:Int),pk v12 b7 fa s->(dh l/\((0:Int)<=v12/\v12<(aP l))/\((0:Int)<=b7/\b7<(aP l))/\((0:Int)<=fa/\fa<(aP l))/\(0:Int)<=s/\s<(900:Int))/\∀x,x=↑(«Sort».median bk {toList:=l} v12.toNat b7.toNat fa.toNat s.toNat).snd->∀aX,aX=↑(«Sort».median bk {toList:=l} v12.toNat b7.toNat fa.toNat s.toNat).fst->J aX x)/\(decide ((8:Int)<=ai (b-a))=false->J (ai (a+ai (ai ((ai (b-a)).tdiv (4:Int))*(2:Int)))) (0:Int)))/\∀(b7 s:Int),J b7 s->(decide (s=(0:Int))=true->K (R.tup [R.d (U.int .i64 b7),R.d (U.int .i64 (1:Int))]))/\(decide (s=(0:Int))=false->(decide (s=(12:Int))=true->K (R.tup [R.d (U.int .i64 b7),R.d (U.int .i64 (2:Int))]))/\(decide (s=(12:Int))=false->K (R.tup [R.d (U.int .i64 b7),R.d (U.int .i64 (0:Int))])))
def KW:ab.Rows->Int->Int->(ag->R->Prop)->Prop:=
 fun l a b K=>(decide ((8:Int)<=ai (b-a))=true->((0:Int)<=ai (b-a)/\ai (b-a)<(4611686018427387904:Int))/\∀x,x=↑((2:Nat)^db (ai (b-a)).toNat)->∃(aQ:Int->List (List U)->Int->Prop),∃(m:Int->List (List U)->Int->Nat),aQ (ai (ai (a+ai (ai ((ai (b-a)).tdiv (4:Int))*(2:Int)))-(1:Int))) l (aW (ai (b-a)))/\∀(v11:Int) (aq:List (List U)) (r:Int),aQ v11 aq r->(decide (v11<=ai (ai (a+ai (ai ((ai (b-a)).tdiv (4:Int))*(2:Int)))+(1:Int)))=true->((0:Int)<=r/\r<(18446744073709551616:Int))/\∀(i:Int),(0:Int)<=i/\i<(18446744073709551616:Int)->∃(J:Int->List (List U)->Prop),((decide (ai (b-a)<=ai (cP BinOp.and .u64 i (aW (x-(1:Int)))))=true->(false,ag.cells [R.d (U.int .u64 i)])=(false,ag.cells [R.d (U.int .u64 i)])/\J (ai (ai (cP BinOp.and .u64 i (aW (x-(1:Int))))-ai (b-a))) aq)/\(decide (ai (b-a)<=ai (cP BinOp.and .u64 i (aW (x-(1:Int)))))=false->(false,ag.cells [R.d (U.int .u64 i)])=(false,ag.cells [R.d (U.int .u64 i)])/\J (ai (cP BinOp.and .u64 i (aW (x-(1:Int))))) aq))/\∀(v12:Int) (bJ:List (List U)),J v12 bJ->(0:Int)<=ai (a+v12)/\ai (a+v12)<↑bJ.length/\(bJ.getD (ai (a+v12)).toNat []).length=(11:Nat)/\(0:Int)<=v11/\v11<↑bJ.length/\(bJ.aR v11).length=(11:Nat)/\(0:Int)<=v11/\v11<↑bJ.length/\(0:Int)<=ai (a+v12)/\ai (a+v12)<↑(bJ.set v11.toNat (bJ.getD (ai (a+v12)).toNat [])).length/\aQ (ai (v11+(1:Int))) ((bJ.set v11.toNat (bJ.getD (ai (a+v12)).toNat [])).set (ai (a+v12)).toNat (bJ.aR v11)) i/\m (ai (v11+(1:Int))) ((bJ.set v11.toNat (bJ.getD (ai (a+v12)).toNat [])).set (ai (a+v12)).toNat (bJ.aR v11)) i<m v11 aq r)/\(decide (v11<=ai (ai (a+ai (ai ((ai (b-a)).tdiv (4:Int))*(2:Int)))+(1:Int)))=false->K (ag.av (11:Nat) aq) (R.tup [])))/\(decide ((8:Int)<=ai (b-a))=false->K (ag.av (11:Nat) l) (R.tup []))
def Lf:Nat->ab.Rows->Int->Int->Int->(ag->R->Prop)->Prop:=
 fun n l a b m K=>∃(aQ:Int->Int->Int->Bool->Bool->List (List U)->Prop),∃(fv:Int->Int->Int->Bool->Bool->List (List U)->Nat),aQ a b m true true l/\∀(v1 v2 v3:Int) (v10 v11:Bool) (aq:List (List U)),aQ v1 v2 v3 v10 v11 aq->(decide (ai (v2-v1)<=(12:Int))=true->fW aq v1 v2/\∀x,x=(«Sort».insertionSort bk {toList:=aq} v1.toNat v2.toNat).toList->K (ag.av (11:Nat) x) (R.tup []))/\(decide (ai (v2-v1)<=(12:Int))=false->(decide (v3=(0:Int))=true->(0:Nat)<aq.length/\(fW aq v1 v2/\v1<v2)/\∀x,x=(«Sort».heapSort bk {toList:=aq} v1.toNat v2.toNat).toList->K (ag.av (11:Nat) x) (R.tup []))/\(decide (v3=(0:Int))=false->∃(J:Int->List (List U)->Prop),(((!v10)=true->(0:Nat)<aq.length/\fW aq v1 v2/\∀(i:List (List U)),D8 aq v1 v2 i->J (ai (v3-(1:Int))) i)/\((!v10)=false->J v3 aq))/\∀(j0:Int) (bJ:List (List U)),J j0 bJ->(fW bJ v1 v2/\v1<v2)/\∀x,x=↑(«Sort».choosePivot bk {toList:=bJ} v1.toNat v2.toNat).fst->∀aX,aX= «Sort».hintCode («Sort».choosePivot bk {toList:=bJ} v1.toNat v2.toNat).snd->∃(J:Int->Int->List (List U)->Prop),((decide (aX=(2:Int))=true->(0:Nat)<bJ.length/\fW bJ v1 v2/\∀aU,aU=(«Sort».reverseRange {toList:=bJ} v1.toNat v2.toNat).toList->J (ai (ai (v2-(1:Int))-ai (x-v1))) (1:Int) aU)/\(decide (aX=(2:Int))=false->J x aX bJ))/\∀(b7 fa:Int) (eb:List (List U)),J b7 fa eb->∃(J:List (List U)->Prop),((v10=true->(v11=true->(decide (fa=(1:Int))=true->(0:Nat)<eb.length/\(fW eb v1 v2/\v1<v2)/\∀x,x=(«Sort».partialInsertionSort bk {toList:=eb} v1.toNat v2.toNat).fst.toList->∀aU,aU=(«Sort».partialInsertionSort bk {toList:=eb} v1.toNat v2.toNat).snd->(aU=true->K (ag.av (11:Nat) x) (R.tup []))/\(aU=false->J x))/\(decide (fa=(1:Int))=false->J eb))/\(v11=false->J eb))/\(v10=false->J eb))/\∀(eT:List (List U)),J eT->(decide ((0:Int)<v1)=true->(0:Int)<=ai (v1-(1:Int))/\ai (v1-(1:Int))<↑eT.length/\(eT.getD (ai (v1-(1:Int))).toNat []).length=(11:Nat)/\(0:Int)<=b7/\b7<↑eT.length/\(eT.aR b7).length=(11:Nat)/\(eO (eT.getD (ai (v1-(1:Int))).toNat [])/\eO (eT.aR b7))/\∀x,x=gQ (eT.getD (ai (v1-(1:Int))).toNat []) (eT.aR b7)->((!decide (x<(0:Int)))=true->(0:Nat)<eT.length/\(fW eT v1 v2/\v1<=b7/\b7<v2)/\∀x,x=(«Sort».partitionEqual bk {toList:=eT} v1.toNat v2.toNat b7.toNat).snd.toList->∀aU,aU=↑(«Sort».partitionEqual bk {toList:=eT} v1.toNat v2.toNat b7.toNat).fst->aQ aU v2 j0 v10 v11 x/\fv aU v2 j0 v10 v11 x<fv v1 v2 v3 v10 v11 aq)/\((!decide (x<(0:Int)))=false->(0:Nat)<eT.length/\(fW eT v1 v2/\v1<=b7/\b7<v2)/\∀x,x=(«Sort».partition bk {toList:=eT} v1.toNat v2.toNat b7.toNat).snd.snd.toList->∀aU,aU=↑(«Sort».partition bk {toList:=eT} v1.toNat v2.toNat b7.toNat).fst->∀bo,bo=(«Sort».partition bk {toList:=eT} v1.toNat v2.toNat b7.toNat).snd.fst->(decide (ai (aU-v1)<ai (v2-aU))=true->(fW x v1 aU/\aU-v1<↑n/\((0:Int)<=j0/\j0<=(64:Int))/\ «Sort».Below bk v1.toNat aU.toNat {toList:=x})/\∀(i:List (List U)),lC x v1 aU i->aQ (ai (aU+(1:Int))) v2 j0 (decide (ai ((ai (v2-v1)).tdiv (8:Int))<=ai (aU-v1))) bo i/\fv (ai (aU+(1:Int))) v2 j0 (decide (ai ((ai (v2-v1)).tdiv (8:Int))<=ai (aU-v1))) bo i<fv v1 v2 v3 v10 v11 aq)/\(decide (ai (aU-v1)<ai (v2-aU))=false->(fW x (ai (aU+(1:Int))) v2/\v2-ai (aU+(1:Int))<↑n/\((0:Int)<=j0/\j0<=(64:Int))/\ «Sort».Below bk (ai (aU+(1:Int))).toNat v2.toNat {toList:=x})/\∀(i:List (List U)),lC x (ai (aU+(1:Int))) v2 i->aQ v1 aU j0 (decide (ai ((ai (v2-v1)).tdiv (8:Int))<=ai (v2-aU))) bo i/\fv v1 aU j0 (decide (ai ((ai (v2-v1)).tdiv (8:Int))<=ai (v2-aU))) bo i<fv v1 v2 v3 v10 v11 aq)))/\(decide ((0:Int)<v1)=false->(0:Nat)<eT.length/\(fW eT v1 v2/\v1<=b7/\b7<v2)/\∀x,x=(«Sort».partition bk {toList:=eT} v1.toNat v2.toNat b7.toNat).snd.snd.toList->∀aU,aU=↑(«Sort».partition bk {toList:=eT} v1.toNat v2.toNat b7.toNat).fst->∀bo,bo=(«Sort».partition bk {toList:=eT} v1.toNat v2.toNat b7.toNat).snd.fst->(decide (ai (aU-v1)<ai (v2-aU))=true->(fW x v1 aU/\aU-v1<↑n/\((0:Int)<=j0/\j0<=(64:Int))/\ «Sort».Below bk v1.toNat aU.toNat {toList:=x})/\∀(i:List (List U)),lC x v1 aU i->aQ (ai (aU+(1:Int))) v2 j0 (decide (ai ((ai (v2-v1)).tdiv (8:Int))<=ai (aU-v1))) bo i/\fv (ai (aU+(1:Int))) v2 j0 (decide (ai ((ai (v2-v1)).tdiv (8:Int))<=ai (aU-v1))) bo i<fv v1 v2 v3 v10 v11 aq)/\(decide (ai (aU-v1)<ai (v2-aU))=false->(fW x (ai (aU+(1:Int))) v2/\v2-ai (aU+(1:Int))<↑n/\((0:Int)<=j0/\j0<=(64:Int))/\ «Sort».Below bk (ai (aU+(1:Int))).toNat v2.toNat {toList:=x})/\∀(i:List (List U)),lC x (ai (aU+(1:Int))) v2 i->aQ v1 aU j0 (decide (ai ((ai (v2-v1)).tdiv (8:Int))<=ai (v2-aU))) bo i/\fv v1 aU j0 (decide (ai ((ai (v2-v1)).tdiv (8:Int))<=ai (v2-aU))) bo i<fv v1 v2 v3 v10 v11 aq))))
def K6:ab.Rows->(ag->R->Prop)->Prop:=
 fun(l:ab.Rows) (K:ag->R->Prop)=>((0:Int)<=aW (aP l)/\aW (aP l)<(18446744073709551616:Int))/\∀(x:Int),x=(Nat.cast:Nat->Int) (ab.db (Int.toNat (aW (aP l))))->(ab.fW l (0:Int) (aP l)/\((0:Int)<=x/\x<=(64:Int))/\ «Sort».Below ab.bk (0:Nat) (Int.toNat (aP l)) {toList:=l})/\∀(i:List (List U)),ab.lC l (0:Int) (aP l) i->K (ag.av (11:Nat) i) (R.tup [])
end ab
end
section
open Go Go.aj
namespace ab
def KX:ab.Rows->Int->Int->(ag->R->Prop)->Prop:=
 fun l a b K=>∃(aQ:Int->List (List U)->Prop),∃(m:Int->List (List U)->Nat),aQ (ai (a+1)) l/\∀(bq:Int) (aq:List (List U)),aQ bq aq->(decide (bq<b)=true->∃(fK:Int->List (List U)->Prop),∃(fv:Int->List (List U)->Nat),fK bq aq/\∀(v9:Int) (bJ:List (List U)),fK v9 bJ->(decide (a<v9)=true->0<=v9/\v9<↑bJ.length/\(bJ.aR v9).length=11/\0<=ai (v9-1)/\ai (v9-1)<↑bJ.length/\(bJ.getD (ai (v9-1)).toNat []).length=11/\(eO (bJ.aR v9)/\eO (bJ.getD (ai (v9-1)).toNat []))/\∀x,x=gQ (bJ.aR v9) (bJ.getD (ai (v9-1)).toNat [])->(decide (x<0)=true->0<=ai (v9-1)/\ai (v9-1)<↑bJ.length/\(bJ.getD (ai (v9-1)).toNat []).length=11/\0<=v9/\v9<↑bJ.length/\(bJ.aR v9).length=11/\0<=v9/\v9<↑bJ.length/\0<=ai (v9-1)/\ai (v9-1)<↑(bJ.set v9.toNat (bJ.getD (ai (v9-1)).toNat [])).length/\fK (ai (v9-1)) ((bJ.set v9.toNat (bJ.getD (ai (v9-1)).toNat [])).set (ai (v9-1)).toNat (bJ.aR v9))/\fv (ai (v9-1)) ((bJ.set v9.toNat (bJ.getD (ai (v9-1)).toNat [])).set (ai (v9-1)).toNat (bJ.aR v9))<fv v9 bJ)/\(decide (x<0)=false->aQ (ai (bq+1)) bJ/\m (ai (bq+1)) bJ<m bq aq))/\(decide (a<v9)=false->aQ (ai (bq+1)) bJ/\m (ai (bq+1)) bJ<m bq aq))/\(decide (bq<b)=false->K (ag.av 11 aq) (R.tup []))
def Lc:ab.Rows->Int->Int->Int->(ag->R->Prop)->Prop:=
 fun l lo hi f K=>∃(aQ:Int->List (List U)->Prop),∃(m:Int->List (List U)->Nat),aQ lo l/\∀(v10:Int) (aq:List (List U)),aQ v10 aq->(decide (hi<=ai (ai (2*v10)+1))=true->K (ag.av 11 aq) (R.tup []))/\(decide (hi<=ai (ai (2*v10)+1))=false->∃(J:Int->List (List U)->Prop),((decide (ai (ai (ai (2*v10)+1)+1)<hi)=true->0<=ai (f+ai (ai (2*v10)+1))/\ai (f+ai (ai (2*v10)+1))<↑aq.length/\(aq.getD (ai (f+ai (ai (2*v10)+1))).toNat []).length=11/\0<=ai (ai (f+ai (ai (2*v10)+1))+1)/\ai (ai (f+ai (ai (2*v10)+1))+1)<↑aq.length/\(aq.getD (ai (ai (f+ai (ai (2*v10)+1))+1)).toNat []).length=11/\(eO (aq.getD (ai (f+ai (ai (2*v10)+1))).toNat [])/\eO (aq.getD (ai (ai (f+ai (ai (2*v10)+1))+1)).toNat []))/\∀x,x=gQ (aq.getD (ai (f+ai (ai (2*v10)+1))).toNat []) (aq.getD (ai (ai (f+ai (ai (2*v10)+1))+1)).toNat [])->(decide (x<0)=true->J (ai (ai (ai (2*v10)+1)+1)) aq)/\(decide (x<0)=false->J (ai (ai (2*v10)+1)) aq))/\(decide (ai (ai (ai (2*v10)+1)+1)<hi)=false->J (ai (ai (2*v10)+1)) aq))/\∀(v11:Int) (bJ:List (List U)),J v11 bJ->0<=ai (f+v10)/\ai (f+v10)<↑bJ.length/\(bJ.getD (ai (f+v10)).toNat []).length=11/\0<=ai (f+v11)/\ai (f+v11)<↑bJ.length/\(bJ.getD (ai (f+v11)).toNat []).length=11/\(eO (bJ.getD (ai (f+v10)).toNat [])/\eO (bJ.getD (ai (f+v11)).toNat []))/\∀x,x=gQ (bJ.getD (ai (f+v10)).toNat []) (bJ.getD (ai (f+v11)).toNat [])->((!decide (x<0))=true->K (ag.av 11 bJ) (R.tup []))/\((!decide (x<0))=false->0<=ai (f+v11)/\ai (f+v11)<↑bJ.length/\(bJ.getD (ai (f+v11)).toNat []).length=11/\0<=ai (f+v10)/\ai (f+v10)<↑bJ.length/\(bJ.getD (ai (f+v10)).toNat []).length=11/\0<=ai (f+v10)/\ai (f+v10)<↑bJ.length/\0<=ai (f+v11)/\ai (f+v11)<↑(bJ.set (ai (f+v10)).toNat (bJ.getD (ai (f+v11)).toNat [])).length/\aQ v11 ((bJ.set (ai (f+v10)).toNat (bJ.getD (ai (f+v11)).toNat [])).set (ai (f+v11)).toNat (bJ.getD (ai (f+v10)).toNat []))/\m v11 ((bJ.set (ai (f+v10)).toNat (bJ.getD (ai (f+v11)).toNat [])).set (ai (f+v11)).toNat (bJ.getD (ai (f+v10)).toNat []))<m v10 aq))
def Ld:ab.Rows->Int->Int->(ag->R->Prop)->Prop:=
 fun l a b K=>∃(J:List (List U)->Prop),(∃(aQ:Int->List (List U)->Prop),∃(m:Int->List (List U)->Nat),aQ (ai ((ai (ai (b-a)-(1:Int))).tdiv (2:Int))) l/\∀(v11:Int) (aq:List (List U)),aQ v11 aq->(decide ((0:Int)<=v11)=true->(0:Nat)<aq.length/\(dh aq/\(0:Int)<=v11/\v11<=↑aq.length/\(0:Int)<=ai (b-a)/\(0:Int)<=a/\a+ai (b-a)<=↑aq.length/\aq.length<(1000000000000000:Nat))/\aQ (ai (v11-(1:Int))) («Sort».siftDown bk (ai (b-a)).toNat a.toNat v11.toNat {toList:=aq}).toList/\m (ai (v11-(1:Int))) («Sort».siftDown bk (ai (b-a)).toNat a.toNat v11.toNat {toList:=aq}).toList<m v11 aq)/\(decide ((0:Int)<=v11)=false->J aq))/\∀(aq:List (List U)),J aq->∃(aQ:Int->List (List U)->Prop),∃(m:Int->List (List U)->Nat),aQ (ai (ai (b-a)-(1:Int))) aq/\∀(v12:Int) (aq:List (List U)),aQ v12 aq->(decide ((0:Int)<=v12)=true->(0:Int)<=ai (a+v12)/\ai (a+v12)<↑aq.length/\(aq.getD (ai (a+v12)).toNat []).length=(11:Nat)/\(0:Int)<=a/\a<↑aq.length/\(aq.aR a).length=(11:Nat)/\(0:Int)<=a/\a<↑aq.length/\(0:Int)<=ai (a+v12)/\ai (a+v12)<↑(aq.set a.toNat (aq.getD (ai (a+v12)).toNat [])).length/\(0:Nat)<((aq.set a.toNat (aq.getD (ai (a+v12)).toNat [])).set (ai (a+v12)).toNat (aq.aR a)).length/\(dh ((aq.set a.toNat (aq.getD (ai (a+v12)).toNat [])).set (ai (a+v12)).toNat (aq.aR a))/\(0:Int)<=(0:Int)/\(0:Int)<=↑((aq.set a.toNat (aq.getD (ai (a+v12)).toNat [])).set (ai (a+v12)).toNat (aq.aR a)).length/\(0:Int)<=v12/\(0:Int)<=a/\a+v12<=↑((aq.set a.toNat (aq.getD (ai (a+v12)).toNat [])).set (ai (a+v12)).toNat (aq.aR a)).length/\((aq.set a.toNat (aq.getD (ai (a+v12)).toNat [])).set (ai (a+v12)).toNat (aq.aR a)).length<(1000000000000000:Nat))/\aQ (ai (v12-(1:Int))) («Sort».siftDown bk v12.toNat a.toNat (0:Nat) {toList:=(aq.set a.toNat (aq.getD (ai (a+v12)).toNat [])).set (ai (a+v12)).toNat (aq.aR a)}).toList/\m (ai (v12-(1:Int))) («Sort».siftDown bk v12.toNat a.toNat (0:Nat) {toList:=(aq.set a.toNat (aq.getD (ai (a+v12)).toNat [])).set (ai (a+v12)).toNat (aq.aR a)}).toList<m v12 aq)/\(decide ((0:Int)<=v12)=false->K (ag.av (11:Nat) aq) (R.tup []))
def La:ab.Rows->Int->Int->Int->(ag->R->Prop)->Prop:=
 fun l a b p K=>0<=p/\p<(aP l)/\(List.aR l p).length=11/\0<=a/\a<(aP l)/\(List.aR l a).length=11/\0<=a/\a<(aP l)/\0<=p/\p<↑(List.set l a.toNat (List.aR l p)).length/\∃(J:Int->List (List U)->Prop),(∃(aQ:Int->List (List U)->Prop),∃(m:Int->List (List U)->Nat),aQ (ai (a+1)) ((List.set l a.toNat (List.aR l p)).set p.toNat (List.aR l a))/\∀(v12:Int) (aq:List (List U)),aQ v12 aq->(decide (v12<=ai (b-1))=true->0<=v12/\v12<↑aq.length/\(aq.aR v12).length=11/\0<=a/\a<↑aq.length/\(aq.aR a).length=11/\(eO (aq.aR v12)/\eO (aq.aR a))/\∀x,x=gQ (aq.aR v12) (aq.aR a)->(decide (x<0)=true->aQ (ai (v12+1)) aq/\m (ai (v12+1)) aq<m v12 aq)/\(decide (x<0)=false->J v12 aq))/\(decide (v12<=ai (b-1))=false->J v12 aq))/\∀(v12:Int) (aq:List (List U)),J v12 aq->∃(J:Int->List (List U)->Prop),(∃(aQ:Int->List (List U)->Prop),∃(m:Int->List (List U)->Nat),aQ (ai (b-1)) aq/\∀(b7:Int) (aq:List (List U)),aQ b7 aq->(decide (v12<=b7)=true->0<=b7/\b7<↑aq.length/\(aq.aR b7).length=11/\0<=a/\a<↑aq.length/\(aq.aR a).length=11/\(eO (aq.aR b7)/\eO (aq.aR a))/\∀x,x=gQ (aq.aR b7) (aq.aR a)->((!decide (x<0))=true->aQ (ai (b7-1)) aq/\m (ai (b7-1)) aq<m b7 aq)/\((!decide (x<0))=false->J b7 aq))/\(decide (v12<=b7)=false->J b7 aq))/\∀(b7:Int) (aq:List (List U)),J b7 aq->(decide (b7<v12)=true->0<=a/\a<↑aq.length/\(aq.aR a).length=11/\0<=b7/\b7<↑aq.length/\(aq.aR b7).length=11/\0<=b7/\b7<↑aq.length/\0<=a/\a<↑(aq.set b7.toNat (aq.aR a)).length/\K (ag.av 11 ((aq.set b7.toNat (aq.aR a)).set a.toNat (aq.aR b7))) (R.tup [R.d (U.int .i64 b7),R.d (U.bool true)]))/\(decide (b7<v12)=false->0<=b7/\b7<↑aq.length/\(aq.aR b7).length=11/\0<=v12/\v12<↑aq.length/\(aq.aR v12).length=11/\0<=v12/\v12<↑aq.length/\0<=b7/\b7<↑(aq.set v12.toNat (aq.aR b7)).length/\∃(J:Int->List (List U)->Prop),(∃(aQ:Int->Int->List (List U)->Prop),∃(m:Int->Int->List (List U)->Nat),aQ (ai (v12+1)) (ai (b7-1)) ((aq.set v12.toNat (aq.aR b7)).set b7.toNat (aq.aR v12))/\∀(v12 b7:Int) (aq:List (List U)),aQ v12 b7 aq->∃(pk:Int->List (List U)->Prop),(∃(aQ:Int->List (List U)->Prop),∃(m:Int->List (List U)->Nat),aQ v12 aq/\∀(v12:Int) (aq:List (List U)),aQ v12 aq->(decide (v12<=b7)=true->0<=v12/\v12<↑aq.length/\(aq.aR v12).length=11/\0<=a/\a<↑aq.length/\(aq.aR a).length=11/\(eO (aq.aR v12)/\eO (aq.aR a))/\∀x,x=gQ (aq.aR v12) (aq.aR a)->(decide (x<0)=true->aQ (ai (v12+1)) aq/\m (ai (v12+1)) aq<m v12 aq)/\(decide (x<0)=false->pk v12 aq))/\(decide (v12<=b7)=false->pk v12 aq))/\∀(gK:Int) (bJ:List (List U)),pk gK bJ->∃(vs:Int->List (List U)->Prop),(∃(aQ:Int->List (List U)->Prop),∃(m:Int->List (List U)->Nat),aQ b7 bJ/\∀(b7:Int) (aq:List (List U)),aQ b7 aq->(decide (gK<=b7)=true->0<=b7/\b7<↑aq.length/\(aq.aR b7).length=11/\0<=a/\a<↑aq.length/\(aq.aR a).length=11/\(eO (aq.aR b7)/\eO (aq.aR a))/\∀x,x=gQ (aq.aR b7) (aq.aR a)->((!decide (x<0))=true->aQ (ai (b7-1)) aq/\m (ai (b7-1)) aq<m b7 aq)/\((!decide (x<0))=false->vs b7 aq))/\(decide (gK<=b7)=false->vs b7 aq))/\∀(lD:Int) (eb:List (List U)),vs lD eb->(decide (lD<gK)=true->J lD eb)/\(decide (lD<gK)=false->0<=lD/\lD<↑eb.length/\(eb.aR lD).length=11/\0<=gK/\gK<↑eb.length/\(eb.aR gK).length=11/\0<=gK/\gK<↑eb.length/\0<=lD/\lD<↑(eb.set gK.toNat (eb.aR lD)).length/\aQ (ai (gK+1)) (ai (lD-1)) ((eb.set gK.toNat (eb.aR lD)).set lD.toNat (eb.aR gK))/\m (ai (gK+1)) (ai (lD-1)) ((eb.set gK.toNat (eb.aR lD)).set lD.toNat (eb.aR gK))<m v12 b7 aq))/\∀(b7:Int) (aq:List (List U)),J b7 aq->0<=a/\a<↑aq.length/\(aq.aR a).length=11/\0<=b7/\b7<↑aq.length/\(aq.aR b7).length=11/\0<=b7/\b7<↑aq.length/\0<=a/\a<↑(aq.set b7.toNat (aq.aR a)).length/\K (ag.av 11 ((aq.set b7.toNat (aq.aR a)).set a.toNat (aq.aR b7))) (R.tup [R.d (U.int .i64 b7),R.d (U.bool false)]))
def KV:ab.Rows->Int->Int->Int->(ag->R->Prop)->Prop:=
 fun l a b p K=>0<=p/\p<(aP l)/\(List.aR l p).length=11/\0<=a/\a<(aP l)/\(List.aR l a).length=11/\0<=a/\a<(aP l)/\0<=p/\p<↑(List.set l a.toNat (List.aR l p)).length/\∃(J:Int->List (List U)->Prop),(∃(aQ:Int->Int->List (List U)->Prop),∃(m:Int->Int->List (List U)->Nat),aQ (ai (a+1)) (ai (b-1)) ((List.set l a.toNat (List.aR l p)).set p.toNat (List.aR l a))/\∀(v11 v12:Int) (aq:List (List U)),aQ v11 v12 aq->∃(pk:Int->List (List U)->Prop),(∃(aQ:Int->List (List U)->Prop),∃(m:Int->List (List U)->Nat),aQ v11 aq/\∀(v11:Int) (aq:List (List U)),aQ v11 aq->(decide (v11<=v12)=true->0<=a/\a<↑aq.length/\(aq.aR a).length=11/\0<=v11/\v11<↑aq.length/\(aq.aR v11).length=11/\(eO (aq.aR a)/\eO (aq.aR v11))/\∀x,x=gQ (aq.aR a) (aq.aR v11)->((!decide (x<0))=true->aQ (ai (v11+1)) aq/\m (ai (v11+1)) aq<m v11 aq)/\((!decide (x<0))=false->pk v11 aq))/\(decide (v11<=v12)=false->pk v11 aq))/\∀(iW:Int) (bJ:List (List U)),pk iW bJ->∃(vs:Int->List (List U)->Prop),(∃(aQ:Int->List (List U)->Prop),∃(m:Int->List (List U)->Nat),aQ v12 bJ/\∀(v12:Int) (aq:List (List U)),aQ v12 aq->(decide (iW<=v12)=true->0<=a/\a<↑aq.length/\(aq.aR a).length=11/\0<=v12/\v12<↑aq.length/\(aq.aR v12).length=11/\(eO (aq.aR a)/\eO (aq.aR v12))/\∀x,x=gQ (aq.aR a) (aq.aR v12)->(decide (x<0)=true->aQ (ai (v12-1)) aq/\m (ai (v12-1)) aq<m v12 aq)/\(decide (x<0)=false->vs v12 aq))/\(decide (iW<=v12)=false->vs v12 aq))/\∀(gK:Int) (eb:List (List U)),vs gK eb->(decide (gK<iW)=true->J iW eb)/\(decide (gK<iW)=false->0<=gK/\gK<↑eb.length/\(eb.aR gK).length=11/\0<=iW/\iW<↑eb.length/\(eb.aR iW).length=11/\0<=iW/\iW<↑eb.length/\0<=gK/\gK<↑(eb.set iW.toNat (eb.aR gK)).length/\aQ (ai (iW+1)) (ai (gK-1)) ((eb.set iW.toNat (eb.aR gK)).set gK.toNat (eb.aR iW))/\m (ai (iW+1)) (ai (gK-1)) ((eb.set iW.toNat (eb.aR gK)).set gK.toNat (eb.aR iW))<m v11 v12 aq))/\∀(v11:Int) (aq:List (List U)),J v11 aq->K (ag.av 11 aq) (R.d (U.int .i64 v11))
def KS:ab.Rows->Int->Int->(ag->R->Prop)->Prop:=
 fun l a b K=>∃(J:List (List U)->Prop),(∃(aQ:Int->Int->List (List U)->Prop),∃(m:Int->Int->List (List U)->Nat),aQ (ai (a+1)) 0 l/\∀(v9 v10:Int) (aq:List (List U)),aQ v9 v10 aq->(decide (v10<5)=true->∃(J:Int->List (List U)->Prop),(∃(aQ:Int->List (List U)->Prop),∃(m:Int->List (List U)->Nat),aQ v9 aq/\∀(v9:Int) (aq:List (List U)),aQ v9 aq->(decide (v9<b)=true->0<=v9/\v9<↑aq.length/\(aq.aR v9).length=11/\0<=ai (v9-1)/\ai (v9-1)<↑aq.length/\(aq.getD (ai (v9-1)).toNat []).length=11/\(eO (aq.aR v9)/\eO (aq.getD (ai (v9-1)).toNat []))/\∀x,x=gQ (aq.aR v9) (aq.getD (ai (v9-1)).toNat [])->((!decide (x<0))=true->aQ (ai (v9+1)) aq/\m (ai (v9+1)) aq<m v9 aq)/\((!decide (x<0))=false->J v9 aq))/\(decide (v9<b)=false->J v9 aq))/\∀(gu:Int) (bJ:List (List U)),J gu bJ->(decide (gu=b)=true->K (ag.av 11 bJ) (R.d (U.bool true)))/\(decide (gu=b)=false->(decide (ai (b-a)<50)=true->K (ag.av 11 bJ) (R.d (U.bool false)))/\(decide (ai (b-a)<50)=false->0<=ai (gu-1)/\ai (gu-1)<↑bJ.length/\(bJ.getD (ai (gu-1)).toNat []).length=11/\0<=gu/\gu<↑bJ.length/\(bJ.aR gu).length=11/\0<=gu/\gu<↑bJ.length/\0<=ai (gu-1)/\ai (gu-1)<↑(bJ.set gu.toNat (bJ.getD (ai (gu-1)).toNat [])).length/\∃(J:List (List U)->Prop),((decide (2<=ai (gu-a))=true->∃(aQ:Int->List (List U)->Prop),∃(m:Int->List (List U)->Nat),aQ (ai (gu-1)) ((bJ.set gu.toNat (bJ.getD (ai (gu-1)).toNat [])).set (ai (gu-1)).toNat (bJ.aR gu))/\∀(v11:Int) (aq:List (List U)),aQ v11 aq->(decide (1<=v11)=true->0<=v11/\v11<↑aq.length/\(aq.aR v11).length=11/\0<=ai (v11-1)/\ai (v11-1)<↑aq.length/\(aq.getD (ai (v11-1)).toNat []).length=11/\(eO (aq.aR v11)/\eO (aq.getD (ai (v11-1)).toNat []))/\∀x,x=gQ (aq.aR v11) (aq.getD (ai (v11-1)).toNat [])->((!decide (x<0))=true->J aq)/\((!decide (x<0))=false->0<=ai (v11-1)/\ai (v11-1)<↑aq.length/\(aq.getD (ai (v11-1)).toNat []).length=11/\0<=v11/\v11<↑aq.length/\(aq.aR v11).length=11/\0<=v11/\v11<↑aq.length/\0<=ai (v11-1)/\ai (v11-1)<↑(aq.set v11.toNat (aq.getD (ai (v11-1)).toNat [])).length/\aQ (ai (v11-1)) ((aq.set v11.toNat (aq.getD (ai (v11-1)).toNat [])).set (ai (v11-1)).toNat (aq.aR v11))/\m (ai (v11-1)) ((aq.set v11.toNat (aq.getD (ai (v11-1)).toNat [])).set (ai (v11-1)).toNat (aq.aR v11))<m v11 aq))/\(decide (1<=v11)=false->J aq))/\(decide (2<=ai (gu-a))=false->J ((bJ.set gu.toNat (bJ.getD (ai (gu-1)).toNat [])).set (ai (gu-1)).toNat (bJ.aR gu))))/\∀(eb:List (List U)),J eb->(decide (2<=ai (b-gu))=true->∃(fK:Int->List (List U)->Prop),∃(fv:Int->List (List U)->Nat),fK (ai (gu+1)) eb/\∀(v12:Int) (eT:List (List U)),fK v12 eT->(decide (v12<b)=true->0<=v12/\v12<↑eT.length/\(eT.aR v12).length=11/\0<=ai (v12-1)/\ai (v12-1)<↑eT.length/\(eT.getD (ai (v12-1)).toNat []).length=11/\(eO (eT.aR v12)/\eO (eT.getD (ai (v12-1)).toNat []))/\∀x,x=gQ (eT.aR v12) (eT.getD (ai (v12-1)).toNat [])->((!decide (x<0))=true->aQ gu (ai (v10+1)) eT/\m gu (ai (v10+1)) eT<m v9 v10 aq)/\((!decide (x<0))=false->0<=ai (v12-1)/\ai (v12-1)<↑eT.length/\(eT.getD (ai (v12-1)).toNat []).length=11/\0<=v12/\v12<↑eT.length/\(eT.aR v12).length=11/\0<=v12/\v12<↑eT.length/\0<=ai (v12-1)/\ai (v12-1)<↑(eT.set v12.toNat (eT.getD (ai (v12-1)).toNat [])).length/\fK (ai (v12+1)) ((eT.set v12.toNat (eT.getD (ai (v12-1)).toNat [])).set (ai (v12-1)).toNat (eT.aR v12))/\fv (ai (v12+1)) ((eT.set v12.toNat (eT.getD (ai (v12-1)).toNat [])).set (ai (v12-1)).toNat (eT.aR v12))<fv v12 eT))/\(decide (v12<b)=false->aQ gu (ai (v10+1)) eT/\m gu (ai (v10+1)) eT<m v9 v10 aq))/\(decide (2<=ai (b-gu))=false->aQ gu (ai (v10+1)) eb/\m gu (ai (v10+1)) eb<m v9 v10 aq))))/\(decide (v10<5)=false->J aq))/\∀(aq:List (List U)),J aq->K (ag.av 11 aq) (R.d (U.bool false))
def K0:ab.Rows->Int->Int->(ag->R->Prop)->Prop:=
 fun l a b K=>∃(aQ:Int->Int->List (List U)->Prop),∃(m:Int->Int->List (List U)->Nat),aQ a (ai (b-1)) l/\∀(bq v9:Int) (aq:List (List U)),aQ bq v9 aq->(decide (bq<v9)=true->0<=v9/\v9<↑aq.length/\(aq.aR v9).length=11/\0<=bq/\bq<↑aq.length/\(aq.aR bq).length=11/\0<=bq/\bq<↑aq.length/\0<=v9/\v9<↑(aq.set bq.toNat (aq.aR v9)).length/\aQ (ai (bq+1)) (ai (v9-1)) ((aq.set bq.toNat (aq.aR v9)).set v9.toNat (aq.aR bq))/\m (ai (bq+1)) (ai (v9-1)) ((aq.set bq.toNat (aq.aR v9)).set v9.toNat (aq.aR bq))<m bq v9 aq)/\(decide (bq<v9)=false->K (ag.av 11 aq) (R.tup []))
end ab
end
section
open Go Go.aj
theorem ab.aal {args:List R}{K:R->Prop}(a8:ab.Dl.T args K):∃x y,args=[.d (.int .u32 x), .d (.int .u32 y)]:=by unfold ab.Dl.T bj at a8;grind [Go.aj.cd]
theorem ab.aam {args:List R}{K:R->Prop}(a8:ab.Dm.T args K):∃x y c,args=[.d (.int .u32 x), .d (.int .u32 y), .d (.int .u32 c)]:=by unfold ab.Dm.T bj at a8;grind [Go.aj.cd]
theorem ab.aan {args:List R}{K:R->Prop}(a8:ab.Dn.T args K):∃x y c,args=[.d (.int .u32 x), .d (.int .u32 y), .d (.int .u32 c)]:=by unfold ab.Dn.T bj at a8;grind [Go.aj.cd]
theorem ab.aao {args:List R}{K:R->Prop}(a8:ab.Dp.T args K):∃h l y,args=[.d (.int .u32 h), .d (.int .u32 l), .d (.int .u32 y)]:=by unfold ab.Dp.T bj at a8;grind [Go.aj.cd]
theorem ab.abI {args:List R}{K:R->Prop}(a8:ab.DU.T args K):∃a,args=[.d (.af .u32 a)]:=by unfold ab.DU.T bj at a8;grind [Go.aj.cd]
theorem ab.aap {args:List R}{K:R->Prop}(a8:ab.Dq.T args K):∃a,args=[.d (.af .u32 a)]:=by unfold ab.Dq.T bj at a8;grind [Go.aj.cd]
theorem ab.abJ {args:List R}{K:R->Prop}(a8:ab.DV.T args K):∃a,args=[.d (.af .u32 a)]:=by unfold ab.DV.T bj at a8;grind [Go.aj.cd]
theorem ab.Xn {args:List R}{K:R->Prop}(a8:ab.BU.T args K):∃u,args=[.d (.int .u64 u)]:=by unfold ab.BU.T bj at a8;grind [Go.aj.cd]
theorem ab.YP {args:List R}{K:R->Prop}(a8:ab.CJ.T args K):∃a,args=[.d (.af .u32 a)]:=by unfold ab.CJ.T bj at a8;grind [Go.aj.cd]
theorem ab.adh {args:List R}{K:R->Prop}(a8:ab.EB.T args K):∃a b,args=[.d (.af .u32 a), .d (.af .u32 b)]:=by unfold ab.EB.T bj at a8;grind [Go.aj.cd]
theorem ab.adi {args:List R}{K:R->Prop}(a8:ab.iG.T args K):∃a b,args=[.d (.af .u32 a), .d (.af .u32 b)]:=by unfold ab.iG.T bj at a8;grind [Go.aj.cd]
theorem ab.adj {args:List R}{K:R->Prop}(a8:ab.EC.T args K):∃a b,args=[.d (.af .u32 a), .d (.af .u32 b)]:=by unfold ab.EC.T bj at a8;grind [Go.aj.cd]
theorem ab.adk {args:List R}{K:R->Prop}(a8:ab.ED.T args K):∃a b,args=[.d (.af .u32 a), .d (.af .u32 b)]:=by unfold ab.ED.T bj at a8;grind [Go.aj.cd]
theorem ab.aaq {args:List R}{K:R->Prop}(a8:ab.Dr.T args K):∃a d,args=[.d (.af .u32 a), .d (.int .u32 d)]:=by unfold ab.Dr.T bj at a8;grind [Go.aj.cd]
theorem ab.YQ {args:List R}{K:R->Prop}(a8:ab.CK.T args K):∃a b,args=[.d (.af .u32 a), .d (.af .u32 b)]:=by unfold ab.CK.T bj at a8;grind [Go.aj.cd]
theorem ab.X1 {a0:R}{b9:ag}{args:List R}{K:ag->R->Prop}(a8:ab.B_.T a0 b9 args K):∃l,a0= .vec 0/\b9= .af .u8 l/\args=[]:=by unfold ab.B_.T fq at a8;grind [Go.aj.cd]
theorem ab.YR {args:List R}{K:R->Prop}(a8:ab.CL.T args K):∃a,args=[.d (.af .u32 a)]:=by unfold ab.CL.T bj at a8;grind [Go.aj.cd]
theorem ab.aar {args:List R}{K:R->Prop}(a8:ab.Ds.T args K):∃x,args=[.d (.int .u32 x)]:=by unfold ab.Ds.T bj at a8;grind [Go.aj.cd]
theorem ab.X2 {args:List R}{K:R->Prop}(a8:ab.Ca.T args K):∃x,args=[.d (.int .u32 x)]:=by unfold ab.Ca.T bj at a8;grind [Go.aj.cd]
theorem ab.aas {args:List R}{K:ag->Prop}(a8:ab.Dt.T args K):∃a k,args=[.d (.af .u32 a), .d (.int .u64 k)]:=by unfold ab.Dt.T mW at a8;grind [Go.aj.cd]
theorem ab.abK {args:List R}{K:R->Prop}(a8:ab.DX.T args K):∃a b,args=[.d (.af .u32 a), .d (.af .u32 b)]:=by unfold ab.DX.T bj at a8;grind [Go.aj.cd]
theorem ab.adl {args:List R}{K:R->Prop}(a8:ab.EE.T args K):∃a b,args=[.d (.af .u32 a), .d (.af .u32 b)]:=by unfold ab.EE.T bj at a8;grind [Go.aj.cd]
theorem ab.X3 {args:List R}{K:ag->Prop}(a8:ab.Cb.T args K):∃a,args=[.d (.af .u32 a)]:=by unfold ab.Cb.T mW at a8;grind [Go.aj.cd]
theorem ab.YS {args:List R}{K:R->Prop}(a8:ab.CM.T args K):∃a b,args=[.d (.af .u32 a), .d (.af .u32 b)]:=by unfold ab.CM.T bj at a8;grind [Go.aj.cd]
theorem ab.YT {args:List R}{K:R->Prop}(a8:ab.CN.T args K):∃a b,args=[.d (.af .u32 a), .d (.af .u32 b)]:=by unfold ab.CN.T bj at a8;grind [Go.aj.cd]
theorem ab.YU {args:List R}{K:R->Prop}(a8:ab.CO.T args K):∃a b,args=[.d (.af .u32 a), .d (.af .u32 b)]:=by unfold ab.CO.T bj at a8;grind [Go.aj.cd]
theorem ab.YV {args:List R}{K:R->Prop}(a8:ab.CP.T args K):∃a b,args=[.d (.af .u32 a), .d (.af .u32 b)]:=by unfold ab.CP.T bj at a8;grind [Go.aj.cd]
theorem ab.Xo {args:List R}{K:R->Prop}(a8:ab.BV.T args K):∃a d,args=[.d (.af .u32 a), .d (.int .u32 d)]:=by unfold ab.BV.T bj at a8;grind [Go.aj.cd]
theorem ab.WK {args:List R}{K:R->Prop}(a8:ab.BK.T args K):∃a b,args=[.d (.af .u32 a), .d (.af .u32 b)]:=by unfold ab.BK.T bj at a8;grind [Go.aj.cd]
theorem ab.YW {args:List R}{K:R->Prop}(a8:ab.CQ.T args K):∃a b,args=[.d (.af .u32 a), .d (.af .u32 b)]:=by unfold ab.CQ.T bj at a8;grind [Go.aj.cd]
theorem ab.Wp {args:List R}{K:R->Prop}(a8:ab.BF.T args K):∃n,args=[.d (.int .i64 n)]:=by unfold ab.BF.T bj at a8;grind [Go.aj.cd]
theorem ab.Xp {args:List R}{K:ag->Prop}(a8:ab.BW.T args K):∃a k,args=[.d (.af .u32 a), .d (.int .i64 k)]:=by unfold ab.BW.T mW at a8;grind [Go.aj.cd]
theorem ab.Wq {args:List R}{K:R->Prop}(a8:ab.BG.T args K):∃a k,args=[.d (.af .u32 a), .d (.int .i64 k)]:=by unfold ab.BG.T bj at a8;grind [Go.aj.cd]
theorem ab.Xq {a0:R}{b9:ag}{args:List R}{K:ag->R->Prop}(a8:ab.BX.T a0 b9 args K):∃u v j,a0= .vec 0/\b9= .af .u32 u/\args=[.d (.af .u32 v), .d (.int .i64 j)]:=by unfold ab.BX.T fq at a8;grind [Go.aj.cd]
theorem ab.abL {args:List R}{K:R->Prop}(a8:ab.DW.T args K):∃a b,args=[.d (.af .u32 a), .d (.af .u32 b)]:=by unfold ab.DW.T bj at a8;grind [Go.aj.cd]
end
section
open Go Go.aj
namespace ab
def PD:List Int->(R->Prop)->Prop:=
 fun a K=>∃(aQ:List Int->Prop),∃(m:List Int->Nat),aQ a/\∀(v0:List Int),aQ v0->(decide ((0:Int)<↑v0.length)=true->0<=ai (↑v0.length-1)/\ai (↑v0.length-1)<↑v0.length/\(decide (v0.getD (ai (↑v0.length-1)).toNat 0=0)=true->0<=ai (↑v0.length-1)/\ai (↑v0.length-1)<=↑v0.length/\aQ (List.take (ai (↑v0.length-1)).toNat v0)/\m (List.take (ai (↑v0.length-1)).toNat v0)<m v0)/\(decide (v0.getD (ai (↑v0.length-1)).toNat 0=0)=false->K (R.d (U.af .u32 v0))))/\(decide ((0:Int)<↑v0.length)=false->K (R.d (U.af .u32 v0)))
def Mv:Int->Int->(R->Prop)->Prop:=
 fun x y K=>K (R.tup [R.d (U.int .u32 (bY ((aW (aW x*aW y)).fdiv 4294967296))),R.d (U.int .u32 (bY (aW (aW x*aW y))))])
def Mw:Int->Int->Int->(R->Prop)->Prop:=
 fun x y c K=>K (R.tup [R.d (U.int .u32 (bY (aW (aW (aW x+aW y)+aW c)))),R.d (U.int .u32 (bY ((aW (aW (aW x+aW y)+aW c)).fdiv 4294967296)))])
def Mx:Int->Int->Int->(R->Prop)->Prop:=
 fun x y c K=>K (R.tup [R.d (U.int .u32 (bY (bY (x-y)-c))),R.d (U.int .u32 ((cP BinOp.or .u32 (cP BinOp.and .u32 (cP BinOp.xor .u32 4294967295 x) y) (cP BinOp.and .u32 (cP BinOp.xor .u32 4294967295 (cP BinOp.xor .u32 x y)) (bY (bY (x-y)-c)))).fdiv 2147483648))])
def WL:Int->Int->Int->(R->Prop)->Prop:=
 fun h l y K=>∃(J:Prop),(((!decide (y=0))=true->(decide (y<=h)=true->False)/\(decide (y<=h)=false->J))/\((!decide (y=0))=false->J))/\(J->¬IntKind.u64.wrap y=0/\¬IntKind.u64.wrap y=0
 /\K (R.tup [R.d (U.int .u32 (IntKind.u32.wrap (IntKind.u64.wrap ((cP BinOp.or .u64 (IntKind.u64.wrap (IntKind.u64.wrap h*4294967296)) (IntKind.u64.wrap l)).tdiv (IntKind.u64.wrap y))))),R.d (U.int .u32 (IntKind.u32.wrap ((cP BinOp.or .u64 (IntKind.u64.wrap (IntKind.u64.wrap h*4294967296)) (IntKind.u64.wrap l)).tmod (IntKind.u64.wrap y))))]))
def Nl:List Int->(R->Prop)->Prop:=
 fun a K=>∀b,(b=true->a=[])->(b=true->K (R.d (U.af .u32 [])))/\(b=false->((0:Int)+↑a.length)*(4:Int)<=(70368744177664:Int)/\K (R.d (U.af .u32 ([]++a))))
def PE:List Int->(R->Prop)->Prop:=
 fun a K=>(bL a/\a.length<=1000000000)/\(aO (val a)).length<=100000000/\K (R.d (U.af .u32 (aO (val a))))
def MZ:Int->(R->Prop)->Prop:=
 fun u K=>(bL [bY u,bY (u.fdiv 4294967296)]/\[bY u,bY (u.fdiv 4294967296)].length<=1000000000)/\K (R.d (U.af .u32 (aO (val [bY u,bY (u.fdiv 4294967296)]))))
def NT:List Int->(R->Prop)->Prop:=
 fun a K=>∃(aQ:Int->Int->Prop),∃(m:Int->Int->Nat),aQ 0 0/\∀(v3 bq:Int),aQ v3 bq->(decide (bq<↑a.length)=true->0<=bq/\bq<↑a.length/\0<=ai (32*bq)/\aQ (cP BinOp.or .u64 v3 (aW (aW (a.getD bq.toNat 0)*2^min (ai (32*bq)).toNat 64))) (ai (bq+1))/\m (cP BinOp.or .u64 v3 (aW (aW (a.getD bq.toNat 0)*2^min (ai (32*bq)).toNat 64))) (ai (bq+1))<m v3 bq)/\(decide (bq<↑a.length)=false->K (R.d (U.int .u64 v3)))
def QH:List Int->List Int->(R->Prop)->Prop:=
 fun(a b:List Int) (K:R->Prop)=>(ab.bL a/\List.length a<=(1000000000:Nat))/\(ab.bL b/\List.length b<=(1000000000:Nat))/\((!decide (aP (ab.aO (ab.val a))=aP (ab.aO (ab.val b))))=true->(decide (aP (ab.aO (ab.val a))<aP (ab.aO (ab.val b)))=true->K (R.d (U.int IntKind.i64 (-1:Int))))/\(decide (aP (ab.aO (ab.val a))<aP (ab.aO (ab.val b)))=false->K (R.d (U.int IntKind.i64 (1:Int)))))/\((!decide (aP (ab.aO (ab.val a))=aP (ab.aO (ab.val b))))=false->∃(aQ:Int->Prop),∃(m:Int->Nat),aQ (ai (aP (ab.aO (ab.val a))-(1:Int)))/\∀(v5:Int),aQ v5->(decide ((0:Int)<=v5)=true->(0:Int)<=v5/\v5<aP (ab.aO (ab.val a))/\(0:Int)<=v5/\v5<aP (ab.aO (ab.val b))/\(decide (List.getD (ab.aO (ab.val a)) (Int.toNat v5) (0:Int)<List.getD (ab.aO (ab.val b)) (Int.toNat v5) (0:Int))=true->K (R.d (U.int IntKind.i64 (-1:Int))))/\(decide (List.getD (ab.aO (ab.val a)) (Int.toNat v5) (0:Int)<List.getD (ab.aO (ab.val b)) (Int.toNat v5) (0:Int))=false->(0:Int)<=v5/\v5<aP (ab.aO (ab.val a))/\(0:Int)<=v5/\v5<aP (ab.aO (ab.val b))/\(decide (List.getD (ab.aO (ab.val b)) (Int.toNat v5) (0:Int)<List.getD (ab.aO (ab.val a)) (Int.toNat v5) (0:Int))=true->K (R.d (U.int IntKind.i64 (1:Int))))/\(decide (List.getD (ab.aO (ab.val b)) (Int.toNat v5) (0:Int)<List.getD (ab.aO (ab.val a)) (Int.toNat v5) (0:Int))=false->aQ (ai (v5-(1:Int)))/\m (ai (v5-(1:Int)))<m v5)))/\(decide ((0:Int)<=v5)=false->K (R.d (U.int IntKind.i64 (0:Int)))))
def QI:List Int->List Int->(R->Prop)->Prop:=
 fun(a b:List Int) (K:R->Prop)=>∃(J:List Int->List Int->Prop),((decide (aP a<aP b)=true->J b a)/\(decide (aP a<aP b)=false->J a b))/\∀(v0 v1:List Int),J v0 v1->(0:Int)<=ai (aP v0+(1:Int))/\ai (aP v0+(1:Int))<=ai (aP v0+(1:Int))/\ai (aP v0+(1:Int))*(4:Int)<=(281474976710656:Int)/\∃(aQ:Int->Int->List Int->Prop),∃(m:Int->Int->List Int->Nat),aQ (0:Int) (0:Int) (List.replicate (Int.toNat (ai (aP v0+(1:Int)))) (0:Int))/\∀(v6 jd:Int) (aq:List Int),aQ v6 jd aq->(decide (jd<aP v0)=true->(0:Int)<=jd/\jd<aP v0/\∃(J:Int->Prop),((decide (jd<aP v1)=true->(0:Int)<=jd/\jd<aP v1/\(false,ag.af IntKind.u32 aq)=(false,ag.af IntKind.u32 aq)/\J (List.getD v1 (Int.toNat jd) (0:Int)))/\(decide (jd<aP v1)=false->(false,ag.af IntKind.u32 aq)=(false,ag.af IntKind.u32 aq)/\J (0:Int)))/\∀(v9:Int),J v9->(ab.L (List.getD v0 (Int.toNat jd) (0:Int))/\ab.L v9/\(0:Int)<=v6/\v6<=(1:Int))/\(0:Int)<=jd/\jd<aP aq/\aQ ((List.getD v0 (Int.toNat jd) (0:Int)+v9+v6)/(4294967296:Int)) (ai (jd+(1:Int))) (List.set aq (Int.toNat jd) ((List.getD v0 (Int.toNat jd) (0:Int)+v9+v6)%(4294967296:Int)))/\m ((List.getD v0 (Int.toNat jd) (0:Int)+v9+v6)/(4294967296:Int)) (ai (jd+(1:Int))) (List.set aq (Int.toNat jd) ((List.getD v0 (Int.toNat jd) (0:Int)+v9+v6)%(4294967296:Int)))<m v6 jd aq)/\(decide (jd<aP v0)=false->(0:Int)<=aP v0/\aP v0<aP aq/\(ab.bL (List.set aq (Int.toNat (aP v0)) v6)/\List.length (List.set aq (Int.toNat (aP v0)) v6)<=(1000000000:Nat))/\K (R.d (U.af IntKind.u32 (ab.aO (ab.val (List.set aq (Int.toNat (aP v0)) v6))))))
def QJ:List Int->List Int->(R->Prop)->Prop:=
 fun a b K=>(bL a/\a.length<=(1000000000:Nat))/\(bL b/\b.length<=(1000000000:Nat))/\(0:Int)<=ai (↑(aO (val a)).length+↑(aO (val b)).length)/\ai (↑(aO (val a)).length+↑(aO (val b)).length)<=ai (↑(aO (val a)).length+↑(aO (val b)).length)/\ai (↑(aO (val a)).length+↑(aO (val b)).length)*(4:Int)<=(281474976710656:Int)/\∃(aQ:Int->List Int->Prop),∃(m:Int->List Int->Nat),aQ (0:Int) (List.replicate (ai (↑(aO (val a)).length+↑(aO (val b)).length)).toNat (0:Int))/\∀(gd:Int) (aq:List Int),aQ gd aq->(decide (gd<↑(aO (val a)).length)=true->(0:Int)<=gd/\gd<↑(aO (val a)).length/\∃(fK:Int->Int->List Int->Prop),∃(fv:Int->Int->List Int->Nat),fK (0:Int) (0:Int) aq/\∀(bq gL:Int) (bJ:List Int),fK bq gL bJ->(decide (gL<↑(aO (val b)).length)=true->(0:Int)<=gL/\gL<↑(aO (val b)).length/\(L ((aO (val a)).getD gd.toNat (0:Int))/\L ((aO (val b)).getD gL.toNat (0:Int)))/\(0:Int)<=ai (gd+gL)/\ai (gd+gL)<↑bJ.length/\(L ((aO (val a)).getD gd.toNat (0:Int)*(aO (val b)).getD gL.toNat (0:Int)%(4294967296:Int))/\L (bJ.getD (ai (gd+gL)).toNat (0:Int))/\(0:Int)<=(0:Int)/\(0:Int)<=(1:Int))/\(L (((aO (val a)).getD gd.toNat (0:Int)*(aO (val b)).getD gL.toNat (0:Int)%(4294967296:Int)+bJ.getD (ai (gd+gL)).toNat (0:Int)+(0:Int))%(4294967296:Int))/\L bq/\(0:Int)<=(0:Int)/\(0:Int)<=(1:Int))/\(0:Int)<=ai (gd+gL)/\ai (gd+gL)<↑bJ.length/\fK (bY (bY ((aO (val a)).getD gd.toNat (0:Int)*(aO (val b)).getD gL.toNat (0:Int)/(4294967296:Int)+((aO (val a)).getD gd.toNat (0:Int)*(aO (val b)).getD gL.toNat (0:Int)%(4294967296:Int)+bJ.getD (ai (gd+gL)).toNat (0:Int)+(0:Int))/(4294967296:Int))+(((aO (val a)).getD gd.toNat (0:Int)*(aO (val b)).getD gL.toNat (0:Int)%(4294967296:Int)+bJ.getD (ai (gd+gL)).toNat (0:Int)+(0:Int))%(4294967296:Int)+bq+(0:Int))/(4294967296:Int))) (ai (gL+(1:Int))) (bJ.set (ai (gd+gL)).toNat ((((aO (val a)).getD gd.toNat (0:Int)*(aO (val b)).getD gL.toNat (0:Int)%(4294967296:Int)+bJ.getD (ai (gd+gL)).toNat (0:Int)+(0:Int))%(4294967296:Int)+bq+(0:Int))%(4294967296:Int)))/\fv (bY (bY ((aO (val a)).getD gd.toNat (0:Int)*(aO (val b)).getD gL.toNat (0:Int)/(4294967296:Int)+((aO (val a)).getD gd.toNat (0:Int)*(aO (val b)).getD gL.toNat (0:Int)%(4294967296:Int)+bJ.getD (ai (gd+gL)).toNat (0:Int)+(0:Int))/(4294967296:Int))+(((aO (val a)).getD gd.toNat (0:Int)*(aO (val b)).getD gL.toNat (0:Int)%(4294967296:Int)+bJ.getD (ai (gd+gL)).toNat (0:Int)+(0:Int))%(4294967296:Int)+bq+(0:Int))/(4294967296:Int))) (ai (gL+(1:Int))) (bJ.set (ai (gd+gL)).toNat ((((aO (val a)).getD gd.toNat (0:Int)*(aO (val b)).getD gL.toNat (0:Int)%(4294967296:Int)+bJ.getD (ai (gd+gL)).toNat (0:Int)+(0:Int))%(4294967296:Int)+bq+(0:Int))%(4294967296:Int)))<fv bq gL bJ)/\(decide (gL<↑(aO (val b)).length)=false->(0:Int)<=ai (gd+↑(aO (val b)).length)/\ai (gd+↑(aO (val b)).length)<↑bJ.length/\aQ (ai (gd+(1:Int))) (bJ.set (ai (gd+↑(aO (val b)).length)).toNat bq)/\m (ai (gd+(1:Int))) (bJ.set (ai (gd+↑(aO (val b)).length)).toNat bq)<m gd aq))/\(decide (gd<↑(aO (val a)).length)=false->(bL aq/\aq.length<=(1000000000:Nat))/\K (R.d (U.af .u32 (aO (val aq)))))
def QK:List Int->List Int->(R->Prop)->Prop:=
 fun(a b:List Int) (K:R->Prop)=>(ab.bw a/\ab.bw b)/\(decide (ab.cmp (ab.val a) (ab.val b)<(0:Int))=true->K (R.tup [R.d (U.af IntKind.u32 []),R.d (U.int IntKind.i64 (1:Int))]))/\(decide (ab.cmp (ab.val a) (ab.val b)<(0:Int))=false->(ab.bL a/\List.length a<=(1000000000:Nat))/\(ab.bL b/\List.length b<=(1000000000:Nat))/\(0:Int)<=aP (ab.aO (ab.val a))/\aP (ab.aO (ab.val a))<=aP (ab.aO (ab.val a))/\aP (ab.aO (ab.val a))*(4:Int)<=(281474976710656:Int)/\∃(aQ:Int->Int->List Int->Prop),∃(m:Int->Int->List Int->Nat),aQ (0:Int) (0:Int) (List.replicate (Int.toNat (aP (ab.aO (ab.val a)))) (0:Int))/\∀(cp v24:Int) (aq:List Int),aQ cp v24 aq->(decide (v24<aP (ab.aO (ab.val a)))=true->(0:Int)<=v24/\v24<aP (ab.aO (ab.val a))/\∃(J:Int->Prop),((decide (v24<aP (ab.aO (ab.val b)))=true->(0:Int)<=v24/\v24<aP (ab.aO (ab.val b))/\(false,ag.af IntKind.u32 aq)=(false,ag.af IntKind.u32 aq)/\J (List.getD (ab.aO (ab.val b)) (Int.toNat v24) (0:Int)))/\(decide (v24<aP (ab.aO (ab.val b)))=false->(false,ag.af IntKind.u32 aq)=(false,ag.af IntKind.u32 aq)/\J (0:Int)))/\∀(v10:Int),J v10->(ab.L (List.getD (ab.aO (ab.val a)) (Int.toNat v24) (0:Int))/\ab.L v10/\(0:Int)<=cp/\cp<=(1:Int))/\(0:Int)<=v24/\v24<aP aq/\aQ (if List.getD (ab.aO (ab.val a)) (Int.toNat v24) (0:Int)-v10-cp<(0:Int)then(1:Int)else(0:Int)) (ai (v24+(1:Int))) (List.set aq (Int.toNat v24) ((List.getD (ab.aO (ab.val a)) (Int.toNat v24) (0:Int)-v10-cp)%(4294967296:Int)))/\m (if List.getD (ab.aO (ab.val a)) (Int.toNat v24) (0:Int)-v10-cp<(0:Int)then(1:Int)else(0:Int)) (ai (v24+(1:Int))) (List.set aq (Int.toNat v24) ((List.getD (ab.aO (ab.val a)) (Int.toNat v24) (0:Int)-v10-cp)%(4294967296:Int)))<m cp v24 aq)/\(decide (v24<aP (ab.aO (ab.val a)))=false->(ab.bL aq/\List.length aq<=(1000000000:Nat))/\K (R.tup [R.d (U.af IntKind.u32 (ab.aO (ab.val aq))),R.d (U.int IntKind.i64 (0:Int))])))
def OK:List Int->Int->(R->Prop)->Prop:=
 fun(a:List Int) (d:Int) (K:R->Prop)=>(0:Int)<=aP a/\aP a<=aP a/\aP a*(4:Int)<=(281474976710656:Int)/\∃(aQ:Int->Int->List Int->Prop),∃(m:Int->Int->List Int->Nat),aQ (0:Int) (ai (aP a-(1:Int))) (List.replicate (Int.toNat (aP a)) (0:Int))/\∀(cp bq:Int) (aq:List Int),aQ cp bq aq->(decide ((0:Int)<=bq)=true->(0:Int)<=bq/\bq<aP a/\(ab.L cp/\ab.L (List.getD a (Int.toNat bq) (0:Int))/\ab.L d/\cp<d)/\(0:Int)<=bq/\bq<aP aq/\aQ ((cp*(4294967296:Int)+List.getD a (Int.toNat bq) (0:Int))%d) (ai (bq-(1:Int))) (List.set aq (Int.toNat bq) ((cp*(4294967296:Int)+List.getD a (Int.toNat bq) (0:Int))/d))/\m ((cp*(4294967296:Int)+List.getD a (Int.toNat bq) (0:Int))%d) (ai (bq-(1:Int))) (List.set aq (Int.toNat bq) ((cp*(4294967296:Int)+List.getD a (Int.toNat bq) (0:Int))/d))<m cp bq aq)/\(decide ((0:Int)<=bq)=false->(ab.bL aq/\List.length aq<=(1000000000:Nat))/\K (R.tup [R.d (U.af IntKind.u32 (ab.aO (ab.val aq))),R.d (U.int IntKind.u32 cp)]))
def Nn:List Int->List Int->(R->Prop)->Prop:=
 fun(a b:List Int) (K:R->Prop)=>((!decide (aP a=aP b))=true->K (R.d (U.bool false)))/\((!decide (aP a=aP b))=false->∃(aQ:Int->Prop),∃(m:Int->Nat),aQ (0:Int)/\∀(v5:Int),aQ v5->(decide (v5<aP a)=true->(0:Int)<=v5/\v5<aP a/\(0:Int)<=v5/\v5<aP b/\((!decide (List.getD a (Int.toNat v5) (0:Int)=List.getD b (Int.toNat v5) (0:Int)))=true->K (R.d (U.bool false)))/\((!decide (List.getD a (Int.toNat v5) (0:Int)=List.getD b (Int.toNat v5) (0:Int)))=false->aQ (ai (v5+(1:Int)))/\m (ai (v5+(1:Int)))<m v5))/\(decide (v5<aP a)=false->K (R.d (U.bool true))))
end ab
end
section
open Go Go.aj
namespace ab
theorem bP {x:Int}(h:-9223372036854775808<=x/\x<9223372036854775808):IntKind.wrap .i64 x=x:=by
 unfold IntKind.wrap;simp only[IntKind.signed,IntKind.bits,aqt,aoG,ge_iff_le];split<;>omega
theorem cS {x:Int}(h:0<=x/\x<18446744073709551616):IntKind.wrap .u64 x=x:=by
 unfold IntKind.wrap;simp[IntKind.signed,IntKind.bits];omega
theorem ia {x:Int}(h:0<=x/\x<4294967296):IntKind.wrap .u32 x=x:=by
 unfold IntKind.wrap;simp[IntKind.signed,IntKind.bits];omega
theorem kf (x:Int):IntKind.wrap .u32 x=x%4294967296:=by
 unfold IntKind.wrap;simp[IntKind.signed,IntKind.bits]
theorem Ix (x:Int):IntKind.wrap .u64 x=x%18446744073709551616:=by
 unfold IntKind.wrap;simp[IntKind.signed,IntKind.bits]
end ab
namespace ab
theorem IZ (p q s:Nat)(aZ:q<2^s)(h:p*2^s+q<18446744073709551616):cP .or .u64 ((p*2^s:Nat):Int) (q:Int)=((p*2^s+q:Nat):Int):=by
 have aA:((BitVec.ofInt 64 ((p*2^s:Nat):Int))|||(BitVec.ofInt 64 (q:Int))).toNat=p*2^s+q:=by
  rw[BitVec.toNat_or,BitVec.toNat_ofInt,BitVec.toNat_ofInt]
  have a1:(((p*2^s:Nat):Int)%((2^64:Nat):Int)).toNat=p*2^s:=by
   rw[aqW (by omega) (by omega)];exact aoD _
  have a2:((q:Int)%((2^64:Nat):Int)).toNat=q:=by
   rw[aqW (by omega) (by omega)];simp
  rw[a1,a2,<-Nat.shiftLeft_eq,<-Nat.shiftLeft_add_eq_or_of_lt aZ]
 show IntKind.wrap .u64 _=_;have aG:((BitVec.ofInt (IntKind.u64).bits ((p*2^s:Nat):Int))|||(BitVec.ofInt (IntKind.u64).bits (q:Int))).toNat=p*2^s+q:=aA;rw[aG,cS (by omega)]
theorem zy {h l:Int}(ca:L h)(az:L l):cP .or .u64 (h*4294967296) l=h*4294967296+l:=by
 unfold L at ca az;have tt:(2:Nat)^32=4294967296:=rfl;have:=IZ h.toNat l.toNat 32 (by rw[tt];omega) (by rw[tt];omega);rw[tt]at this;have aA:((h.toNat*4294967296:Nat):Int)=h*4294967296:=by omega
 have aG:((l.toNat:Nat):Int)=l:=by omega
 rw[aqN,aA,aG]at this;exact this
theorem Xr (x y:Int)(K:R->Prop)(h:Dl.T [.d (.int .u32 x), .d (.int .u32 y)] K):Mv x y K:=by
 obtain⟨⟨ak,bn⟩,ae⟩:=h;unfold L at ak bn;unfold Mv aW bY;have Fp:0<=x*y:=Int.mul_nonneg ak.1 bn.1;have anV:x*y<=4294967295*4294967295:=Int.mul_le_mul (by omega) (by omega) bn.1 (by omega);rw[cS (x:=x) (by omega),cS (x:=y) (by omega),cS (x:=x*y) (by omega),kf (x*y),apk _ (by omega),ia (by omega)];exact ae
theorem Xs (x y c:Int)(K:R->Prop)(h:Dm.T [.d (.int .u32 x), .d (.int .u32 y), .d (.int .u32 c)] K):Mw x y c K:=by
 obtain⟨⟨ak,bn,aa,ad⟩,ae⟩:=h;unfold L at ak bn;unfold Mw aW bY;rw[cS (x:=x) (by omega),cS (x:=y) (by omega),cS (x:=x+y) (by omega),cS (x:=c) (by omega),cS (x:=x+y+c) (by omega),kf (x+y+c),apk _ (by omega),ia (by omega)];exact ae
theorem Xt (h l y:Int)(K:R->Prop)(ca:Dp.T [.d (.int .u32 h), .d (.int .u32 l), .d (.int .u32 y)] K):WL h l y K:=by
 obtain⟨⟨ca,az,bn,bG⟩,ae⟩:=ca;have hW:=zy ca az;unfold L at ca az bn;refine⟨True,⟨fun _=>⟨fun h=> ?_,fun _=>trivial⟩,fun _=>trivial⟩,fun _=> ?_⟩
 ·simp at h;omega
 have Ap:IntKind.wrap .u64 y=y:=cS (by omega);have Aq:0<=h*4294967296+l:=by omega
 have pn:(h*4294967296+l)/y<4294967296:=Int.ediv_lt_of_lt_mul (by omega) (by
  have:(h+1)*4294967296<=y*4294967296:=Int.mul_le_mul_of_nonneg_right (by omega) (by omega)
  rw[Int.mul_comm 4294967296 y];omega)
 have qp:0<=(h*4294967296+l)/y:=Int.ediv_nonneg Aq bn.1;have rD:0<=(h*4294967296+l)%y:=Int.emod_nonneg _ (by omega);have an5:(h*4294967296+l)%y<y:=Int.emod_lt_of_pos _ (by omega)
 rw[Ap,cS (x:=h) (by omega),cS (x:=h*4294967296) (by omega),cS (x:=l) (by omega),hW,aqX Aq,aqY Aq,cS (x:=(h*4294967296+l)/y) (by omega),
  ia (x:=(h*4294967296+l)/y) (by omega),ia (x:=(h*4294967296+l)%y) (by omega)]
 exact⟨by omega,by omega,ae⟩
theorem YX (a:List Int)(K:R->Prop)(h:Dq.T [.d (.af .u32 a)] K):Nl a K:=by
 obtain⟨az,ae⟩:=h;unfold Nl;intro b ah;refine⟨fun h=> ?_,fun _=>⟨by omega, ?_⟩⟩
 ·rw[ah h]at ae;exact ae
 ·exact ae
theorem adm (a:List Int)(K:R->Prop)(h:DU.T [.d (.af .u32 a)] K):PD a K:=by
 obtain⟨⟨az,cr⟩,ae⟩:=h;unfold PD ai;refine⟨fun v=>bL v/\val v=val a/\v.length<=a.length,fun v=>v.length,⟨az,rfl,aoH _⟩,fun v ⟨aM,he,hle⟩=>⟨fun h=> ?_,fun h=> ?_⟩⟩
 ·simp only[aoG]at h;have e:IntKind.wrap .i64 ((Nat.cast:Nat->Int) v.length-1)=((v.length-1:Nat):Int):=by rw[bP (by omega)];omega
  rw[e,aoD];refine⟨by omega,by omega,fun bc=>⟨by omega,by omega,⟨aM.take _, ?_,by simp;omega⟩,by simp;omega⟩,fun bc=> ?_⟩
  ·simp only[aoG]at bc;rw[Xm bc,he]
  ·simp only[aoF]at bc;rw[<-yE aM (Bs (.inr bc)),he];exact ae
 ·simp only[aoF]at h;have:v=[]:=apl.1 (by omega);rw[<-yE aM (Bs (.inl this)),he];exact ae
theorem adn (a:List Int)(K:R->Prop)(h:DV.T [.d (.af .u32 a)] K):PE a K:=by
 obtain⟨⟨az,aB⟩,ae⟩:=h;unfold PE;refine⟨⟨az,by omega⟩, ?_,ae⟩;have:=hZ.2 (iE az);omega
theorem SM {x y:Int}(_:bL [x,y]):val [x,y]=x.toNat+4294967296*y.toNat:=by simp[val]
theorem X4 (u:Int)(K:R->Prop)(h:BU.T [.d (.int .u64 u)] K):MZ u K:=by
 obtain⟨hu,ae⟩:=h;unfold MZ bY;rw[apk _ (by omega),kf u,ia (x:=u/4294967296) (by omega)];have az:bL [u%4294967296,u/4294967296]:= .mk (by omega) (.mk (by omega) .nil);refine⟨⟨az,by simp⟩, ?_⟩;rw[SM az];have:(u%4294967296).toNat+4294967296*(u/4294967296).toNat=u.toNat:=by omega
 rw[this];exact ae
end ab
end
section
open Go Go.aj
namespace ab
theorem bw.TO {a:List Int}(h:bw a):bL a:=h.1
theorem jx {a:List Int}(h:bw a):(aO (val a)).length<=a.length:=hZ.2 (iE h.1)
theorem aem (a b:List Int)(K:R->Prop)(h:iG.T [.d (.af .u32 a), .d (.af .u32 b)] K):QI a b K:=by
 obtain⟨⟨aS,ah⟩,ae⟩:=h;unfold QI ai aP;refine⟨fun x y=>bw x/\bw y/\val x+val y=val a+val b/\y.length<=x.length,⟨fun h=>⟨ah,aS,Nat.add_comm _ _, ?_⟩,fun h=>⟨aS,ah,rfl, ?_⟩⟩,fun x y ⟨ak,bn,aM,hle⟩=> ?_⟩
 ·simp only[aoG]at h;omega
 ·simp only[aoF]at h;omega
 have xA:=ak.2;have e:IntKind.wrap .i64 ((Nat.cast:Nat->Int) x.length+1)=((x.length+1:Nat):Int):=by rw[bP (by omega)];omega
 rw[e,aoD]
 refine⟨by omega,by omega,by omega,fun c i o=>bL o/\o.length=x.length+1/\0<=c/\c<=1/\0<=i/\i<=x.length/\dw o i.toNat+4294967296^i.toNat*c.toNat=dw x i.toNat+dw y i.toNat/\∀j,i.toNat<=j->o.getD j 0=0,
  fun c i o=>x.length-i.toNat,⟨bL.nt _,by simp,by omega,by omega,by omega,by omega,by simp[iD],fun j _=>by simp[aoC,ap6];split<;>rfl⟩, ?_⟩
 rintro c i o ⟨aH,gp,xL,j2,Ar,m_,kh,bm⟩;refine⟨fun h=> ?_,fun h=> ?_⟩
 ·simp only[aoG]at h
  obtain⟨n,rfl⟩:∃n:Nat,i=n:=⟨i.toNat,by omega⟩
  simp only[aoD]at kh bm⊢;refine⟨by omega,by omega,fun e=>e=y.getD n 0,⟨fun ad=>⟨by omega,by simpa using ad,trivial,rfl⟩,fun ad=>⟨trivial, ?_⟩⟩, ?_⟩
  ·simp only[aoF]at ad;simp[aoC,api (show y.length<=n by omega)]
  ·rintro e rfl;have nF:=ak.1 n;have Ap:=bn.1 n;refine⟨⟨nF,Ap,xL,j2⟩,by omega,by omega, ?_⟩;have aG:IntKind.wrap .i64 ((n:Int)+1)=((n+1:Nat):Int):=by rw[bP (by omega)];omega
   rw[aG];refine⟨⟨aH.set _ (by omega),by simpa using gp,by omega,by omega,by omega,by omega, ?_,fun j aK=> ?_⟩, ?_⟩
   ·rw[aoD,gy,gy,gy,ri _ _ _ _ (aoH _),e1,aoB ⟨rfl,by omega⟩];have bR:((x.getD n 0+y.getD n 0+c)%4294967296).toNat+4294967296*((x.getD n 0+y.getD n 0+c)/4294967296).toNat=(x.getD n 0).toNat+(y.getD n 0).toNat+c.toNat:=by omega
    rw[ao2];generalize ((x.getD n 0+y.getD n 0+c)%4294967296).toNat=p at bR⊢;generalize ((x.getD n 0+y.getD n 0+c)/4294967296).toNat=q at bR⊢;generalize 4294967296^n=w at kh⊢;have cY:w*(p+4294967296*q)=w*((x.getD n 0).toNat+(y.getD n 0).toNat+c.toNat):=by rw[bR]
    simp only[aoS]at cY⊢;rw[ao4];omega
   ·rw[e1,aoA (by simp at aK;omega)];exact bm j (by simp at aK;omega)
   ·simp;omega
 ·simp only[aoF]at h;obtain rfl:i=x.length:=by omega
  simp only[aoD]at kh bm⊢;have agu:bL (o.set x.length c):=aH.set _ (by omega);refine⟨by omega,by omega,⟨agu,by simp[gp];omega⟩, ?_⟩
  have:val (o.set x.length c)=val a+val b:=by
   rw[<-hE (o.set x.length c) (i:=x.length+1) (by simp[gp]),gy,ri _ _ _ _ (aoH _),e1,aoB ⟨rfl,by omega⟩,kh,hE x (aoH _),hE y hle,aM]
  rw[this];exact ae
end ab
end
section
open Go Go.aj
namespace ab
theorem YY (a b:List Int)(K:R->Prop)(h:DW.T [.d (.af .u32 a), .d (.af .u32 b)] K):Nn a b K:=by
 obtain⟨⟨aS,ah⟩,ae⟩:=h;unfold Nn ai aP;refine⟨fun h=> ?_,fun h=> ?_⟩
 ·have cT:a≠b:=fun e=>by subst e;simp at h
  rw[apS cT]at ae;exact ae
 ·have hlen:a.length=b.length:=by
   have:((Nat.cast:Nat->Int) a.length)=b.length:=by simpa using h
   omega
  refine⟨fun i=>0<=i/\i<=a.length/\∀j,j<i.toNat->a.getD j 0=b.getD j 0,fun i=>a.length-i.toNat,⟨by omega,by omega,fun j aK=>by simp at aK⟩,fun i ⟨bc,aa,aK⟩=>⟨fun ad=> ?_,fun ad=> ?_⟩⟩
  ·simp only[aoG]at ad;refine⟨by omega,by omega,by omega,by omega,fun ax=> ?_,fun ax=> ?_⟩
   ·have cT:a≠b:=fun e=>by subst e;simp at ax
    rw[apS cT]at ae;exact ae
   ·have ax:a.getD i.toNat 0=b.getD i.toNat 0:=by simpa using ax
    rw[bP (by omega)];refine⟨⟨by omega,by omega,fun j h1=> ?_⟩,by simp only;omega⟩
    by_cases e:j=i.toNat
    ·rw[e];exact ax
    ·exact aK j (by omega)
  ·simp only[aoF]at ad
   have e:a=b:=by
    apply aqQ hlen;intro j kq nC;have:=aK j (by omega);simpa[aoC,kq,nC]using this
   rw[aqi e]at ae;exact ae
end ab
end
section
open Go Go.aj
namespace ab
def er (a:List Int)(i:Nat):Nat:=val (a.drop i)
theorem zk (a:List Int):er a 0=val a:=by simp[er]
theorem oW (a:List Int){i:Nat}(h:a.length<=i):er a i=0:=by simp[er,List.drop_of_length_le h,val]
theorem n8 (a:List Int)(i:Nat):er a i=(a.getD i 0).toNat+4294967296*er a (i+1):=by
 unfold er
 by_cases h:i<a.length
 ·rw[apZ h,val];simp[aoC,h]
 ·rw[List.drop_of_length_le (by omega),List.drop_of_length_le (by omega)];simp[val,aoC,h]
theorem Ik (a:List Int)(i j:Nat)(v:Int)(h:j<i):er (a.set j v) i=er a i:=by
 unfold er;rw[List.drop_set_of_lt h]
theorem mr (a:List Int)(i:Nat):val a=dw a i+4294967296^i*er a i:=by
 by_cases h:i<=a.length
 ·have:=NS (a.take i) (a.drop i);rw[List.take_append_drop,apf,aqV h]at this;exact this
 ·rw[hE a (by omega),oW a (by omega)];simp
theorem NU {D bC x z w:Nat}(W:Nat)(qF:W=4294967296)(dS:bC<D)(ak:x<W)(hw:w=z*D+bC):
 (bC*W+x)/D<W/\(bC*W+x)%D<D/\x+W*w=((bC*W+x)/D+W*z)*D+(bC*W+x)%D:=by
 have j_:0<D:=by omega
 have aa:(bC+1)*W<=D*W:=aoR _ (by omega);refine⟨aqr (by rw[aoX]at aa;omega),apm _ j_, ?_⟩;have Fq:=aqe (bC*W+x) D;generalize (bC*W+x)/D=q at Fq⊢;generalize (bC*W+x)%D=m at Fq⊢;subst hw;have bR:(q+W*z)*D=D*q+W*(z*D):=by rw[aoX,apa q D,ao4]
 rw[bR,aoS,apa W bC];generalize W*(z*D)=u;generalize bC*W=v at Fq⊢;generalize D*q=t at Fq⊢;omega
theorem abM (a:List Int)(d:Int)(K:R->Prop)(h:Dr.T [.d (.af .u32 a), .d (.int .u32 d)] K):OK a d K:=by
 obtain⟨⟨aS,aY,qp⟩,ae⟩:=h;have hk:=aS.2;unfold L at aY
 obtain⟨D,rfl⟩:∃D:Nat,d=D:=⟨d.toNat,by omega⟩
 simp only[aoD]at ae;unfold OK ai aP;rw[aoD];refine⟨by omega,by omega,by omega,fun r i o=>bL o/\o.length=a.length/\0<=r/\r<D/\-1<=i/\i<a.length/\er a (i+1).toNat=er o (i+1).toNat*D+r.toNat,fun r i o=>(i+1).toNat,⟨bL.nt _,by simp,by omega,by omega, ?_⟩, ?_⟩
 ·rw[bP (by omega)];refine⟨by omega,by omega, ?_⟩;rw[oW a (by omega),oW _ (by simp)];simp
 rintro r i o ⟨aH,gp,rC,gv,Ar,m_,aM⟩;refine⟨fun h=> ?_,fun h=> ?_⟩
 ·simp only[aoG]at h;have vr:=aS.1 i.toNat
  obtain⟨n,rfl⟩:∃n:Nat,i=n:=⟨i.toNat,by omega⟩
  simp only[aoD]at vr⊢;rw[bP (by omega)]
  obtain⟨bC,rfl⟩:∃bC:Nat,r=bC:=⟨r.toNat,by omega⟩
  obtain⟨x,ak⟩:∃x:Nat,a.getD n 0=x:=⟨(a.getD n 0).toNat,by omega⟩
  rw[ak]at vr⊢;have aA:((bC:Int)*4294967296+x)/D=(((bC*4294967296+x)/D:Nat):Int):=by rw[aqu,aqN,apK];rfl
  have aG:((bC:Int)*4294967296+x)%D=(((bC*4294967296+x)%D:Nat):Int):=by rw[aqH,aqN,apK];rfl
  rw[aA,aG];rw[show((n:Int)+1).toNat=n+1 by omega]at aM;have cR:=NU (z:=er o (n+1)) 4294967296 rfl (show bC<D by omega) (show x<4294967296 by omega) (by simpa using aM);obtain⟨aZ,hm,he⟩:=cR
  have hI:er (o.set n (((bC*4294967296+x)/D:Nat):Int)) n=(bC*4294967296+x)/D+4294967296*er o (n+1):=by
   rw[n8 _ n,Ik _ _ _ _ (by omega),e1,aoB ⟨rfl,by omega⟩,aoD]
  have nG:er a n=x+4294967296*er a (n+1):=by rw[n8 a n,ak,aoD]
  rw[<-nG,<-hI]at he;generalize (bC*4294967296+x)/D=q at aZ he hI⊢;generalize (bC*4294967296+x)%D=m at hm he⊢;refine⟨by omega,by omega,⟨⟨by omega,by omega⟩,⟨by omega,by omega⟩,⟨by omega,by omega⟩,by omega⟩,by omega,by omega,⟨aH.set _ ⟨by omega,by omega⟩,by simpa using gp,by omega,by omega,by omega,by omega, ?_⟩,by show(((n:Int)-1)+1).toNat<((n:Int)+1).toNat;omega⟩;rw[show((n:Int)-1+1).toNat=n by omega,aoD];exact he
 ·simp only[aoF]at h;obtain rfl:i=-1:=by omega
  simp only[show((-1:Int)+1).toNat=0 from rfl,zk]at aM;refine⟨⟨aH,by omega⟩, ?_⟩
  have aa:val a/D=val o:=by
   rw[aM,apa,Nat.mul_add_div (by omega),aqf (by omega)];omega
  have ad:((val a%D:Nat):Int)=r:=by
   rw[aM,apa,aqC,apw (by omega)];omega
  rw[aa,ad]at ae;exact ae
end ab
end
section
open Go Go.aj
namespace ab
theorem abN {x y o c:Int}(ak:L x)(bn:L y)(aH:L o)(aC:L c):
 let dj:=(x*y%4294967296+o+0)%4294967296
 let aa:=IntKind.wrap .u32 (x*y/4294967296+(x*y%4294967296+o+0)/4294967296)
 let df:=(dj+c+0)%4294967296
 let ad:=IntKind.wrap .u32 (aa+(dj+c+0)/4294967296)
 L (x*y%4294967296)/\L dj/\L df/\L ad/\df+4294967296*ad=x*y+o+c:=by
 unfold L at*;have bc:0<=x*y:=Int.mul_nonneg ak.1 bn.1;have aa:x*y<=4294967295*4294967295:=Int.mul_le_mul (by omega) (by omega) bn.1 (by omega);generalize x*y=p at bc aa⊢;intro dj tj df ad;have aA:tj=p/4294967296+(p%4294967296+o+0)/4294967296:=ia (by omega)
 have aG:ad=p/4294967296+(p%4294967296+o+0)/4294967296+(dj+c+0)/4294967296:=by
  show IntKind.wrap .u32 (tj+(dj+c+0)/4294967296)=_;rw[aA];exact ia (by omega)
 rw[aG];omega
theorem me (a:List Int)(j:Nat)(v:Int)(h:j<a.length):val (a.set j v)+4294967296^j*(a.getD j 0).toNat=val a+4294967296^j*v.toNat:=by
 rw[mr (a.set j v) (j+1),mr a (j+1),gy,gy,ri _ _ _ _ (aoH _),Ik _ _ _ _ (by omega),e1,aoB ⟨rfl,h⟩];omega
theorem aen (a b:List Int)(K:R->Prop)(h:EC.T [.d (.af .u32 a), .d (.af .u32 b)] K):QJ a b K:=by
 obtain⟨⟨aS,ah⟩,ae⟩:=h;have hk:=jx aS;have k1:=jx ah;have lL:=aS.2;have et:=ah.2;unfold QJ ai bY;refine⟨⟨aS.1,by omega⟩,⟨ah.1,by omega⟩, ?_⟩;have dM:=gx (val a);have eu:=gx (val b);have nG:=dV (val a);have nc:=dV (val b);rw[<-nG,<-nc]at ae;generalize aO (val a)=A at*;generalize aO (val b)=B at*;have hz:IntKind.wrap .i64 ((Nat.cast:Nat->Int) A.length+(Nat.cast:Nat->Int) B.length)=((A.length+B.length:Nat):Int):=by rw[bP (by omega)];omega
 rw[hz,aoD]
 refine⟨by omega,by omega,by omega,fun i o=>bL o/\o.length=A.length+B.length/\0<=i/\i<=A.length/\val o=dw A i.toNat*val B/\∀j,i.toNat+B.length<=j->o.getD j 0=0,
  fun i o=>A.length-i.toNat,⟨bL.nt _,by simp,by omega,by omega,by simp[iD,yD],fun j _=>by simp[aoC,ap6];split<;>rfl⟩, ?_⟩
 rintro i o ⟨aH,gp,Ar,m_,aM,bm⟩;refine⟨fun h=> ?_,fun h=> ?_⟩
 ·simp only[aoG]at h
  obtain⟨n,rfl⟩:∃n:Nat,i=n:=⟨i.toNat,by omega⟩
  simp only[aoD]at aM bm⊢;have aB:n<A.length:=by omega
  refine⟨by omega,by omega,fun c k p=>bL p/\p.length=A.length+B.length/\L c/\0<=k/\k<=B.length/\val p+4294967296^(n+k.toNat)*c.toNat=val o+4294967296^n*((A.getD n 0).toNat*dw B k.toNat)/\
   ∀j,n+B.length<=j->p.getD j 0=0,fun c k p=>B.length-k.toNat,⟨aH,gp,by unfold L;omega,by omega,by omega,by simp[iD],bm⟩, ?_⟩
  rintro c k p ⟨aD,jb,aC,tu,j6,ay,JK⟩;refine⟨fun ad=> ?_,fun ad=> ?_⟩
  ·simp only[aoG]at ad
   obtain⟨q,rfl⟩:∃q:Nat,k=q:=⟨k.toNat,by omega⟩
   simp only[aoD]at ay⊢;have aA:IntKind.wrap .i64 ((n:Int)+(q:Int))=((n+q:Nat):Int):=by rw[bP (by omega)];omega
   have aG:IntKind.wrap .i64 ((q:Int)+1)=((q+1:Nat):Int):=by rw[bP (by omega)];omega
   rw[aA,aG];simp only[aoD];have ak:=dM n;have bn:=eu q;have h0:=aD (n+q);obtain⟨fS,gi,iy,jL,jM⟩:=abN (x:=A.getD n 0) (y:=B.getD q 0) (o:=p.getD (n+q) 0) (c:=c) ak bn h0 aC;refine⟨by omega,by omega,⟨ak,bn⟩,by omega,by omega,⟨fS,h0,by omega,by omega⟩,⟨gi,aC,by omega,by omega⟩,by omega,by omega, ?_⟩;generalize ((A.getD n 0*B.getD q 0%4294967296+p.getD (n+q) 0+0)%4294967296+c+0)%4294967296=lo at iy jM⊢
   generalize IntKind.u32.wrap (IntKind.u32.wrap (A.getD n 0*B.getD q 0/4294967296+(A.getD n 0*B.getD q 0%4294967296+p.getD (n+q) 0+0)/4294967296)+
    ((A.getD n 0*B.getD q 0%4294967296+p.getD (n+q) 0+0)%4294967296+c+0)/4294967296)=hi at jL jM⊢
   refine⟨⟨aD.set _ iy,by simpa using jb,jL,by omega,by omega, ?_,fun j aK=> ?_⟩,by omega⟩
   ·have hI:=me p (n+q) lo (by omega);unfold L at aC iy jL
    have oJ:lo.toNat+4294967296*hi.toNat=(A.getD n 0).toNat*(B.getD q 0).toNat+(p.getD (n+q) 0).toNat+c.toNat:=by
     obtain⟨x,hv⟩:∃x:Nat,A.getD n 0=x:=⟨(A.getD n 0).toNat,by omega⟩
     obtain⟨y,nH⟩:∃y:Nat,B.getD q 0=y:=⟨(B.getD q 0).toNat,by omega⟩
     rw[hv,nH,<-apK]at jM;rw[hv,nH,aoD,aoD];generalize x*y=z at jM⊢;omega
    have cY:=apg (4294967296^(n+q)*·) oJ;simp only[aoS]at cY;have hO:4294967296^(n+(q+1))*hi.toNat=4294967296^(n+q)*(4294967296*hi.toNat):=by rw[<-apA,ao2,ao4]
    have jK:4294967296^n*((A.getD n 0).toNat*dw B (q+1))=4294967296^n*((A.getD n 0).toNat*dw B q)+4294967296^(n+q)*((A.getD n 0).toNat*(B.getD q 0).toNat):=by
     rw[gy,aoS,aoS,aph,apF (A.getD n 0).toNat,ao4]
    rw[hO,jK];omega
   ·rw[e1,aoA (by omega)];exact JK j aK
  ·simp only[aoF]at ad;obtain rfl:k=B.length:=by omega
   simp only[aoD]at ay;have vn:=aC;unfold L at vn;have aA:IntKind.wrap .i64 ((n:Int)+(Nat.cast:Nat->Int) B.length)=((n+B.length:Nat):Int):=by rw[bP (by omega)];omega
   have aG:IntKind.wrap .i64 ((n:Int)+1)=((n+1:Nat):Int):=by rw[bP (by omega)];omega
   rw[aA,aG];simp only[aoD];have hI:=me p (n+B.length) c (by omega);rw[JK _ (aoH _)]at hI;refine⟨by omega,by omega,⟨aD.set _ vn,by simpa using jb,by omega,by omega, ?_,fun j aK=> ?_⟩,by omega⟩
   ·rw[gy,aoX,<-aM,ao4];rw[hE B (aoH _)]at ay;simp at hI;omega
   ·rw[e1,aoA (by omega)];exact JK j (by omega)
 ·simp only[aoF]at h;obtain rfl:i=A.length:=by omega
  refine⟨⟨aH,by omega⟩, ?_⟩;rw[aM,aoD,hE A (aoH _)];exact ae
end ab
end
section
open Go Go.aj
namespace ab
theorem DF {a b:Nat}(h:a<b):cmp a b=-1:=by unfold cmp;rw[aoB h]
theorem DG {a b:Nat}(h:b<a):cmp a b=1:=by unfold cmp;rw[aoA (by omega),aoA (by omega)]
theorem cmp_eq (a:Nat):cmp a a=0:=by unfold cmp;rw[aoA (by omega),aoB rfl]
theorem DH {a b:Nat}(h:(aO a).length<(aO b).length):a<b:=by
 have aa:a<4294967296^(aO a).length:=hZ.1 (aoH _)
 have ad:¬b<4294967296^(aO a).length:=fun ah=>by
  have:=hZ.2 ah;omega
 omega
theorem CX {a b:List Int}(n:Nat)(aS:bL a)(aa:er a (n+1)=er b (n+1))(ad:(a.getD n 0).toNat<(b.getD n 0).toNat):val a<val b:=by
 have aA:=mr a n;have aG:=mr b n;have ax:=ru aS n;rw[n8 a n]at aA;rw[n8 b n,<-aa]at aG;generalize (a.getD n 0).toNat=x at*;generalize (b.getD n 0).toNat=y at*;generalize er a (n+1)=v at*;generalize 4294967296^n=w at*
 have aV:w*(x+4294967296*v)+w<=w*(y+4294967296*v):=by
  have:=ao3 w (show x+4294967296*v+1<=y+4294967296*v by omega);rw[aoS w (x+4294967296*v) 1,ao_]at this;exact this
 omega
theorem aeo (a b:List Int)(K:R->Prop)(h:EB.T [.d (.af .u32 a), .d (.af .u32 b)] K):QH a b K:=by
 obtain⟨⟨aS,ah⟩,ae⟩:=h;have hk:=jx aS;have k1:=jx ah;have lL:=aS.2;have et:=ah.2;unfold QH ai aP;refine⟨⟨aS.1,by omega⟩,⟨ah.1,by omega⟩,fun h=>⟨fun aa=> ?_,fun aa=> ?_⟩,fun h=> ?_⟩
 ·simp only[aoG]at aa;rw[DF (DH (by omega))]at ae;exact ae
 ·have ad:¬((Nat.cast:Nat->Int) (aO (val a)).length=(Nat.cast:Nat->Int) (aO (val b)).length):=by simpa using h
  simp only[aoF]at aa;rw[DG (DH (by omega))]at ae;exact ae
 ·have ad:(Nat.cast:Nat->Int) (aO (val a)).length=(Nat.cast:Nat->Int) (aO (val b)).length:=by simpa using h
  have dM:=gx (val a);have eu:=gx (val b);have nG:=dV (val a);have nc:=dV (val b);rw[<-nG,<-nc]at ae;generalize aO (val a)=A at*;generalize aO (val b)=B at*;refine⟨fun i=>-1<=i/\i<A.length/\er A (i+1).toNat=er B (i+1).toNat,fun i=>(i+1).toNat, ?_, ?_⟩
  ·rw[bP (by omega)];refine⟨by omega,by omega, ?_⟩;rw[oW A (by omega),oW B (by omega)]
  rintro i ⟨ax,aV,bp⟩;refine⟨fun b1=> ?_,fun b1=> ?_⟩
  ·simp only[aoG]at b1
   obtain⟨n,rfl⟩:∃n:Nat,i=n:=⟨i.toNat,by omega⟩
   rw[show((n:Int)+1).toNat=n+1 by omega]at bp;simp only[aoD];have ak:=dM n;have bn:=eu n;refine⟨by omega,by omega,by omega,by omega,fun fM=> ?_,fun fM=>⟨by omega,by omega,by omega,by omega,fun c6=> ?_,fun c6=> ?_⟩⟩
   ·simp only[aoG]at fM;rw[DF (CX n dM bp (by omega))]at ae;exact ae
   ·simp only[aoG]at c6;rw[DG (CX n eu bp.symm (by omega))]at ae;exact ae
   ·simp only[aoF]at fM c6;rw[bP (by omega)];refine⟨⟨by omega,by omega, ?_⟩,by show(((n:Int)-1)+1).toNat<((n:Int)+1).toNat;omega⟩;rw[show((n:Int)-1+1).toNat=n by omega,n8 A n,n8 B n,bp,show A.getD n 0=B.getD n 0 by omega]
  ·simp only[aoF]at b1;obtain rfl:i=-1:=by omega
   simp only[show((-1:Int)+1).toNat=0 from rfl,zk]at bp;rw[bp,cmp_eq]at ae;exact ae
theorem OL (x y:Int):cP .or .u64 x y=cP .or .u64 y x:=by
 unfold cP;simp only[BitVec.or_comm]
theorem aat {x:Int}(h:L x):cP .or .u64 0 x=x:=by
 have:=zy (h:=0) (l:=x) ⟨by decide,by decide⟩ h;simpa using this
theorem aau (a:List Int)(K:R->Prop)(h:CJ.T [.d (.af .u32 a)] K):NT a K:=by
 obtain⟨⟨aS,az⟩,ae⟩:=h;unfold NT ai aW;refine⟨fun v i=>0<=i/\i<=a.length/\v=dw a i.toNat,fun v i=>a.length-i.toNat,⟨by omega,by omega,by simp[iD]⟩, ?_⟩;rintro v i ⟨aa,ad,ax⟩;refine⟨fun aV=> ?_,fun aV=> ?_⟩
 ·simp only[aoG]at aV;have bp:i=0\/i=1:=by omega
  have ak:=aS i.toNat;have kX:=aS 0;rcases bp with rfl|rfl
  ·simp only[show Int.toNat 0=0 from rfl]at*;have aA:IntKind.wrap .i64 (32*0)=0:=bP (by omega);have aG:IntKind.wrap .i64 (0+1)=1:=bP (by omega);rw[aA,aG];simp only[show Int.toNat 0=0 from rfl,show min 0 64=0 from rfl,Int.pow_zero,Int.mul_one];rw[cS (x:=a.getD 0 0) (by omega),cS (x:=a.getD 0 0) (by omega),ax,iD];have bR:cP .or .u64 (((0:Nat):Int)) (a.getD 0 0)=a.getD 0 0:=aat ak;rw[bR];refine⟨by omega,by omega,by omega,⟨by omega,by omega, ?_⟩, ?_⟩
   ·show a.getD 0 0=((dw a 1:Nat):Int);rw[gy,iD,aqb,apX,ao8];omega
   ·show a.length-Int.toNat 1<a.length-Int.toNat 0;simp only[show Int.toNat 1=1 from rfl,show Int.toNat 0=0 from rfl];omega
  ·simp only[show Int.toNat 1=1 from rfl]at*;have aA:IntKind.wrap .i64 (32*1)=32:=bP (by omega);have aG:IntKind.wrap .i64 (1+1)=2:=bP (by omega);rw[aA,aG];simp only[show Int.toNat 32=32 from rfl,show min 32 64=32 from rfl,show(2:Int)^32=4294967296 from rfl];rw[cS (x:=a.getD 1 0) (by omega),cS (x:=a.getD 1 0*4294967296) (by omega),OL];have aM:dw a 1=(a.getD 0 0).toNat:=by rw[gy,iD];simp
   have bR:cP .or .u64 (a.getD 1 0*4294967296) v=a.getD 1 0*4294967296+v:=zy ak ⟨by omega,by rw[ax,aM];omega⟩;rw[bR];refine⟨by omega,by omega,by omega,⟨by omega,by omega, ?_⟩, ?_⟩
   ·show a.getD 1 0*4294967296+v=((dw a 2:Nat):Int);rw[gy,aM,ax,aM,Nat.pow_one];omega
   ·show a.length-Int.toNat 2<a.length-Int.toNat 1;simp only[show Int.toNat 2=2 from rfl,show Int.toNat 1=1 from rfl];omega
 ·simp only[aoF]at aV;obtain rfl:i=a.length:=by omega
  rw[ax,aoD,hE a (aoH _)];exact ae
theorem zP (x:Int)(h:L x):(BitVec.ofInt 32 x).msb=decide (2147483648<=x):=by
 rw[BitVec.msb_eq_decide,BitVec.toNat_ofInt];unfold L at h
 have e:(x%((2^32:Nat):Int)).toNat=x.toNat:=by
  rw[aqW h.1 (by have:((2^32:Nat):Int)=4294967296:=rfl
                 omega)]
 rw[e];have aG:(2^(32-1):Nat)=2147483648:=rfl;rw[aG,aqv];omega
theorem qd (B:BitVec 32):L (B.toNat:Int)/\BitVec.ofInt 32 (B.toNat:Int)=B:=by
 refine⟨⟨by omega, ?_⟩, ?_⟩
 ·have:=B.isLt;have aG:(2^32:Nat)=4294967296:=rfl;rw[aG]at this;omega
 ·rw[aqw,BitVec.ofNat_toNat,BitVec.setWidth_eq]
theorem Sj (x y:Int):cP .and .u32 x y=((BitVec.ofInt 32 x&&&BitVec.ofInt 32 y).toNat:Int):=ia (qd _).1
theorem SN (x y:Int):cP .or .u32 x y=((BitVec.ofInt 32 x|||BitVec.ofInt 32 y).toNat:Int):=ia (qd _).1
theorem Iy (x y:Int):cP .xor .u32 x y=((BitVec.ofInt 32 x^^^BitVec.ofInt 32 y).toNat:Int):=ia (qd _).1
theorem aeZ (B:BitVec 32):((B.toNat:Int)).fdiv 2147483648=if B.msb then 1 else 0:=by
 have h:=(qd B).1;have ad:=zP _ h;rw[(qd B).2]at ad;unfold L at h;rw[apk _ (by omega),ad]
 by_cases ax:2147483648<=(B.toNat:Int)
 ·rw[aqi ax,aoB rfl];omega
 ·rw[apS ax,aoA (by simp)];omega
theorem Xu (x y c:Int)(K:R->Prop)(h:Dn.T [.d (.int .u32 x), .d (.int .u32 y), .d (.int .u32 c)] K):Mx x y c K:=by
 obtain⟨⟨ak,bn,aa,ad⟩,ae⟩:=h;unfold Mx bY
 have aY:IntKind.wrap .u32 (IntKind.wrap .u32 (x-y)-c)=(x-y-c)%4294967296:=by
  rw[kf,kf,Int.emod_sub_emod]
 rw[aY];have j_:L ((x-y-c)%4294967296):=by unfold L;omega
 have ah:((cP .or .u32 (cP .and .u32 (cP .xor .u32 4294967295 x) y) (cP .and .u32 (cP .xor .u32 4294967295 (cP .xor .u32 x y)) ((x-y-c)%4294967296))).fdiv 2147483648)=if x-y-c<0 then 1 else 0:=by
  rw[SN,Sj,Sj,Iy,Iy x y,Iy,(qd _).2,(qd _).2,(qd _).2,(qd _).2,(qd _).2,aeZ];rw[BitVec.msb_or,BitVec.msb_and,BitVec.msb_and,BitVec.msb_xor,BitVec.msb_xor,BitVec.msb_xor,zP x ak,zP y bn,zP _ j_,zP 4294967295 ⟨by decide,by decide⟩];unfold L at ak bn
  by_cases a1:2147483648<=x<;>by_cases a2:2147483648<=y<;>by_cases a3:2147483648<=(x-y-c)%4294967296<;>simp[a1,a2,a3]<;>omega
 rw[ah];exact ae
theorem aep (a b:List Int)(K:R->Prop)(h:ED.T [.d (.af .u32 a), .d (.af .u32 b)] K):QK a b K:=by
 obtain⟨⟨aS,ah⟩,ae⟩:=h;have hk:=jx aS;have k1:=jx ah;have lL:=aS.2;have et:=ah.2;unfold QK ai aP
 have po:cmp (val a) (val b)<0↔val a<val b:=by
  unfold cmp;split
  ·simp[*]
  ·split<;>simp[*]
 refine⟨⟨aS,ah⟩,fun h=> ?_,fun h=>⟨⟨aS.1,by omega⟩,⟨ah.1,by omega⟩, ?_⟩⟩
 ·simp only[aoG]at h;rw[aoB (po.1 h),aoB (po.1 h)]at ae;exact ae
 ·simp only[aoF]at h;have jc:¬val a<val b:=fun ak=>h (po.2 ak);rw[aoA jc,aoA jc]at ae
  have JL:(aO (val b)).length<=(aO (val a)).length:=by
   rw[hZ];have:=hZ.1 (aoH (aO (val a)).length);omega
  have dM:=gx (val a);have eu:=gx (val b);have nG:=dV (val a);have nc:=dV (val b);rw[<-nG,<-nc]at ae jc;generalize aO (val a)=A at*;generalize aO (val b)=B at*;rw[aoD]
  refine⟨by omega,by omega,by omega,fun c i o=>bL o/\o.length=A.length/\0<=c/\c<=1/\0<=i/\i<=A.length/\dw o i.toNat+dw B i.toNat=dw A i.toNat+4294967296^i.toNat*c.toNat,
   fun c i o=>A.length-i.toNat,⟨bL.nt _,by simp,by omega,by omega,by omega,by omega,by simp[iD]⟩, ?_⟩
  rintro c i o ⟨aH,gp,xL,j2,Ar,m_,kh⟩;refine⟨fun h=> ?_,fun h=> ?_⟩
  ·simp only[aoG]at h
   obtain⟨n,rfl⟩:∃n:Nat,i=n:=⟨i.toNat,by omega⟩
   simp only[aoD]at kh⊢;refine⟨by omega,by omega,fun e=>e=B.getD n 0,⟨fun ad=> ?_,fun ad=>⟨trivial, ?_⟩⟩, ?_⟩
   ·simp only[aoG]at ad;exact⟨by omega,ad,trivial,rfl⟩
   ·simp only[aoF]at ad;simp[aoC,api (show B.length<=n by omega)]
   ·rintro e rfl;have nF:=dM n;have Ap:=eu n;refine⟨⟨nF,Ap,xL,j2⟩,by omega,by omega, ?_⟩;have aG:IntKind.wrap .i64 ((n:Int)+1)=((n+1:Nat):Int):=by rw[bP (by omega)];omega
    rw[aG];refine⟨⟨aH.set _ (by omega),by simpa using gp,by split<;>omega,by split<;>omega,by omega,by omega, ?_⟩,by simp;omega⟩;rw[aoD,gy,gy,gy,ri _ _ _ _ (aoH _),e1,aoB ⟨rfl,by omega⟩]
    have bR:((A.getD n 0-B.getD n 0-c)%4294967296).toNat+(B.getD n 0).toNat+c.toNat=(A.getD n 0).toNat+4294967296*(if A.getD n 0-B.getD n 0-c<0 then(1:Int)else 0).toNat:=by
     split<;>omega
    rw[ao2];generalize ((A.getD n 0-B.getD n 0-c)%4294967296).toNat=p at bR⊢;generalize (if A.getD n 0-B.getD n 0-c<0 then(1:Int)else 0).toNat=q at bR⊢;generalize 4294967296^n=w at kh⊢;have cY:w*(p+(B.getD n 0).toNat+c.toNat)=w*((A.getD n 0).toNat+4294967296*q):=by rw[bR]
    simp only[aoS]at cY⊢;rw[ao4];omega
  ·simp only[aoF]at h;obtain rfl:i=A.length:=by omega
   simp only[aoD]at kh;refine⟨⟨aH,by omega⟩, ?_⟩;rw[hE A (aoH _),hE B JL,hE o (by omega)]at kh;have bG:=iE aH;rw[gp]at bG
   have aC:c.toNat=0:=by
    rcases ap9 c.toNat with bc|bc
    ·exact bc
    ·have:c.toNat=1:=by omega
     rw[this]at kh;omega
   rw[aC]at kh;have:val o=val A-val B:=by omega
   rw[this];exact ae
end ab
end
section
open Go Go.aj
namespace ab
theorem PF {t f g r p lv s l3 iO:Nat}(bg:g=f/t)(ao:r=f%t)(au:0<t)(qs:l3<p)(vt:iO<4294967296):
 l3+p*(iO+4294967296*f)<(g+1)*(lv+p*(s+4294967296*t))/\t*g+r=f:=by
 have aa:t*g+r=f:=by subst bg ao;exact aqe f t
 refine⟨?_,aa⟩
 have ad:f+1<=t*(g+1):=by
  have:=apm f au;rw[aoS,ao_];omega
 have ax:p*(iO+4294967296*f)+p<=p*(4294967296*(t*(g+1))):=by
  have:=ao3 p (show iO+4294967296*f+1<=4294967296*(t*(g+1)) by omega);rw[aoS p _ 1,ao_]at this;exact this
 have aV:(g+1)*(lv+p*(s+4294967296*t))=(g+1)*lv+p*((g+1)*s)+p*(4294967296*(t*(g+1))):=by
  rw[aoS,apF (g+1) p,aoS (g+1) s,aoS p,apF (g+1) 4294967296,apa (g+1) t,apA]
 rw[aV];omega
theorem PG {t f g r p lv s l3 iO:Nat}(aa:t*g+r=f)(qs:l3<p)(aC:r*4294967296+iO<g*s):
 l3+p*(iO+4294967296*f)<g*(lv+p*(s+4294967296*t)):=by
 have ad:iO+4294967296*f+1<=g*s+4294967296*(g*t):=by
  rw[apa g t];omega
 have ax:=ao3 p ad;rw[aoS p _ 1,ao_]at ax
 have aV:g*(lv+p*(s+4294967296*t))=g*lv+p*(g*s+4294967296*(g*t)):=by
  rw[aoS,apF g p,aoS g s,apF g 4294967296]
 rw[aV];omega
theorem wG {t f g r p lv s l3 iO:Nat}(aa:t*g+r=f)(au:0<t)(rU:lv<p)(bg:g<4294967296)(aC:g*s<=r*4294967296+iO):
 g*(lv+p*(s+4294967296*t))<=l3+p*(iO+4294967296*f)+(lv+p*(s+4294967296*t)):=by
 cases g with
 |zero=>omega
 |succ g=>
  have ad:g*(s+4294967296*t+1)<=iO+4294967296*f:=by
   have aA:g*(s+4294967296*t+1)+s+4294967296*t=(g+1)*s+4294967296*(t*(g+1))+g:=by
    rw[aoS g _ 1,aoS g s,ao_,aoX g 1 s,apX,aoS t g 1,ao_,apF g 4294967296,apa g t];omega
   omega
  have ax:=ao3 p ad
  have aV:g*(lv+p*(s+4294967296*t))<=p*(g*(s+4294967296*t+1)):=by
   rw[apF p g];refine ao3 g ?_;rw[aoS p _ 1,ao_];omega
  rw[aoX g 1,apX];omega
theorem OM {g d c b u:Nat}(bg:g<4294967296)(aY:d<4294967296)(aC:c<4294967296)(ah:b<=1)(hu:u<4294967296):
 c+g*d<18446744073709551616/\∃lo T st B:Nat,(c+g*d)%4294967296=lo/\(c+g*d)/4294967296=T/\lo<4294967296/\T<4294967296/\((u:Int)-(lo:Int)-(b:Int))%4294967296=(st:Int)/\st<4294967296/\
  (if(u:Int)-(lo:Int)-(b:Int)<0 then(1:Int)else 0)=(B:Int)/\B<=1/\st+g*d+(c+b)=u+4294967296*(T+B):=by
 have aa:g*d<=4294967295*4294967295:=apG (by omega) (by omega);generalize g*d=m at aa⊢;refine⟨by omega,(c+m)%4294967296,(c+m)/4294967296,(((u:Int)-((c+m)%4294967296:Nat)-b)%4294967296).toNat,(if(u:Int)-((c+m)%4294967296:Nat)-b<0 then 1 else 0),rfl,rfl,by omega,by omega,by omega,by omega,by split<;>rfl,by split<;>omega,by split<;>omega⟩
theorem wH (n:Nat):∀k,(ki n k).length=k
 |0=>rfl
 |k+1=>by simp[ki,wH _ k]
theorem yP (k:Nat):∀n,bL (ki n k):=by
 induction k with
 |zero=>intro n;exact .nil
 |succ k bM=>
  intro n;have:n%4294967296<4294967296:=apm _ (by decide);exact .mk ⟨by omega,by omega⟩ (bM _)
theorem yQ (k:Nat):∀n,n<4294967296^k->val (ki n k)=n:=by
 induction k with
 |zero=>intro n h;simp at h;subst h;rfl
 |succ k bM=>
  intro n h
  have ad:n/4294967296<4294967296^k:=by
   rw[ao2]at h;exact aqr (by rw[apa];exact h)
  simp only[ki,val,bM _ ad,aoD];omega
theorem HV (k:Nat):∀{a:List Int},bL a->a.length=k->ki (val a) k=a:=by
 induction k with
 |zero=>intro a _ h;rw[apl.1 h];rfl
 |succ k bM=>
  intro a aS h
  cases a with
  |nil=>cases h
  |cons x r=>
   obtain⟨⟨aa,ad⟩,ao⟩:=aS.cons;have aA:val (x::r)%4294967296=x.toNat:=by rw[val];omega
   have aG:val (x::r)/4294967296=val r:=by rw[val];omega
   rw[ki,aA,aG,bM ao (by simpa using h),Int.toNat_of_nonneg aa]
theorem DI {a:List Int}(h:bL a){m:Nat}(bm:∀p,m<=p->a.getD p 0=0):val a<4294967296^m:=by
 rw[mr a m]
 have ad:er a m=0:=by
  unfold er
  have:∀l:List Int,(∀p,l.getD p 0=0)->val l=0:=fun l=>by
   induction l with
   |nil=>intro _;rfl
   |cons x r bM=>
    intro az;have bc:=az 0;have aa:=bM fun p=>by have:=az (p+1);simpa using this
    simp at bc;rw[val,aa,bc];rfl
  refine this _ fun p=> ?_;have:=bm (m+p) (by omega);simpa[aoC]using this
 rw[ad];have:=ru h m;omega
theorem QL {a:List Int}(h:bL a){m:Nat}(aM:val a<4294967296^m)(p:Nat)(aD:m<=p):a.getD p 0=0:=by
 have aa:=mr a p;have ad:=n8 a p;have ax:=h p;have aV:4294967296^m<=4294967296^p:=apd (by decide) aD
 cases ak:(a.getD p 0).toNat with
 |zero=>omega
 |succ k=>
  rw[ad,ak]at aa;have:4294967296^p*1<=4294967296^p*(k+1+4294967296*er a (p+1)):=ao3 _ (by omega);omega
end ab
end
section
open Go Go.aj
namespace ab
def My:List Int->(ag->R->Prop)->Prop:=
 fun l K=>∃(aQ:Int->Int->List Int->Prop),∃(m:Int->Int->List Int->Nat),aQ 0 (ai (↑l.length-1)) l/\∀(v2 v3:Int) (aq:List Int),aQ v2 v3 aq->(decide (v2<v3)=true->0<=v3/\v3<↑aq.length/\0<=v2/\v2<↑aq.length/\0<=v2/\v2<↑aq.length/\0<=v3/\v3<↑(aq.set v2.toNat (aq.getD v3.toNat 0)).length/\aQ (ai (v2+1)) (ai (v3-1)) ((aq.set v2.toNat (aq.getD v3.toNat 0)).set v3.toNat (aq.getD v2.toNat 0))/\m (ai (v2+1)) (ai (v3-1)) ((aq.set v2.toNat (aq.getD v3.toNat 0)).set v3.toNat (aq.getD v2.toNat 0))<m v2 v3 aq)/\(decide (v2<v3)=false->K (ag.af .u8 aq) (R.tup []))
def NV:List Int->(R->Prop)->Prop:=
 fun a K=>(bL a/\a.length<=(1000000000:Nat))/\∃(aQ:List Int->List Int->Prop),∃(m:List Int->List Int->Nat),aQ (aO (val a)) []/\∀(v0 aq:List Int),aQ v0 aq->(decide ((0:Int)<↑v0.length)=true->(bw v0/\L (1000000000:Int)/\(0:Int)<(1000000000:Int))/\∃(fK:Int->Int->List Int->Prop),∃(fv:Int->Int->List Int->Nat),fK ↑(val v0%(1000000000:Nat)) (0:Int) aq/\∀(v4 bU:Int) (bJ:List Int),fK v4 bU bJ->(decide (bU<(9:Int))=true->(decide (↑(aO (val v0/(1000000000:Nat))).length=(0:Int))=true->(decide (v4=(0:Int))=true->aQ (aO (val v0/(1000000000:Nat))) bJ/\m (aO (val v0/(1000000000:Nat))) bJ<m v0 aq)/\(decide (v4=(0:Int))=false->(↑bJ.length+↑[IntKind.u8.wrap (bY ((48:Int)+v4.tmod (10:Int)))].length)*(1:Int)<=(70368744177664:Int)/\fK (bY (v4.tdiv (10:Int))) (ai (bU+(1:Int))) (bJ++[IntKind.u8.wrap (bY ((48:Int)+v4.tmod (10:Int)))])/\fv (bY (v4.tdiv (10:Int))) (ai (bU+(1:Int))) (bJ++[IntKind.u8.wrap (bY ((48:Int)+v4.tmod (10:Int)))])<fv v4 bU bJ))/\(decide (↑(aO (val v0/(1000000000:Nat))).length=(0:Int))=false->(↑bJ.length+↑[IntKind.u8.wrap (bY ((48:Int)+v4.tmod (10:Int)))].length)*(1:Int)<=(70368744177664:Int)/\fK (bY (v4.tdiv (10:Int))) (ai (bU+(1:Int))) (bJ++[IntKind.u8.wrap (bY ((48:Int)+v4.tmod (10:Int)))])/\fv (bY (v4.tdiv (10:Int))) (ai (bU+(1:Int))) (bJ++[IntKind.u8.wrap (bY ((48:Int)+v4.tmod (10:Int)))])<fv v4 bU bJ))/\(decide (bU<(9:Int))=false->aQ (aO (val v0/(1000000000:Nat))) bJ/\m (aO (val v0/(1000000000:Nat))) bJ<m v0 aq))/\(decide ((0:Int)<↑v0.length)=false->(decide (↑aq.length=(0:Int))=true->K (R.d (U.str [(48:Int)])))/\(decide (↑aq.length=(0:Int))=false->(0:Nat)<aq.length/\aq.length<=(1000000000000:Nat)/\(∀(x:Int),x∈aq.reverse->(0:Int)<=x/\x<(256:Int))/\K (R.d (U.str aq.reverse))))
end ab
end
section
open Go Go.aj
namespace ab
theorem As {x:Int}(h:0<=x/\x<256):IntKind.wrap .u8 x=x:=by
 unfold IntKind.wrap;simp[IntKind.signed,IntKind.bits];omega
theorem abO {a b:List Int}(az:a.length=b.length)(h:∀i,i<a.length->a.getD i 0=b.getD i 0):a=b:=by
 apply aqQ az;intro j kq nC;have:=h j kq;simpa[aoC,kq,nC]using this
theorem abP (l:List Int)(i:Nat)(h:i<l.length):l.reverse.getD i 0=l.getD (l.length-1-i) 0:=by
 simp only[aoC];rw[List.getElem?_reverse h]
theorem Xv (l:List Int)(K:ag->R->Prop)(h:B_.T (.vec 0) (.af .u8 l) [] K):My l K:=by
 obtain⟨az,ae⟩:=h;unfold My ai
 refine⟨fun i j o=>o.length=l.length/\0<=i/\i+j=l.length-1/\i<=j+1/\
  ∀p:Nat,p<l.length->o.getD p 0=if(p:Int)<i\/j<(p:Int)then l.getD (l.length-1-p) 0 else l.getD p 0,fun i j o=>(j+1-i).toNat,⟨rfl,by omega, ?_, ?_, ?_⟩, ?_⟩
 ·rw[bP (by omega)];omega
 ·rw[bP (by omega)];omega
 ·intro p aD;rw[bP (by omega),aoA (by omega)]
 rintro i j o ⟨aa,ad,ax,aV,bp⟩;refine⟨fun h=> ?_,fun h=> ?_⟩
 ·simp only[aoG]at h;rw[bP (by omega),bP (by omega)];simp only[aoT];refine⟨by omega,by omega,by omega,by omega,by omega,by omega,by omega,by omega,⟨by omega,by omega,by omega,by omega,fun p aD=> ?_⟩,by show(j-1+1-(i+1)).toNat<(j+1-i).toNat;omega⟩;rw[e1,e1];simp only[aoT];have hi:=bp i.toNat (by omega);have aK:=bp j.toNat (by omega);rw[aoA (by omega)]at hi aK;have ajz:=bp p aD
  by_cases aA:p=j.toNat
  ·rw[aoB ⟨aA.symm,by omega⟩,aoB (by omega),hi,aA]
   congr 1;omega
  ·rw[aoA (fun h=>aA h.1.symm)]
   by_cases aG:p=i.toNat
   ·rw[aoB ⟨aG.symm,by omega⟩,aoB (by omega),aK,aG]
    congr 1;omega
   ·rw[aoA (fun h=>aG h.1.symm),ajz]
    by_cases bR:(p:Int)<i\/j<(p:Int)
    ·rw[aoB bR,aoB (by omega)]
    ·rw[aoA bR,aoA (by omega)]
 ·simp only[aoF]at h
  have:o=l.reverse:=by
   refine abO (by simpa using aa) fun p aD=> ?_;rw[abP l p (by omega),bp p (by omega)]
   by_cases bR:(p:Int)<i\/j<(p:Int)
   ·rw[aoB bR]
   ·rw[aoA bR]
    congr 1;omega
  rw[this];exact ae
theorem zl {n:Nat}(h:(aO n).length=0):n=0:=qU.1 (apl.1 h)
theorem aav (a:List Int)(K:R->Prop)(h:CL.T [.d (.af .u32 a)] K):NV a K:=by
 obtain⟨aS,ae⟩:=h;have hk:=jx aS;have lL:=aS.2;have anW:=QG aS.1;unfold NV ai bY;generalize dM:val a=A at*;refine⟨⟨aS.1,by omega⟩,fun v o=>∃V,v=aO V/\V<=A/\jk A=o++jk V,fun v o=>val v,⟨A,rfl,aoH _,rfl⟩, ?_⟩;rintro v o ⟨V,rfl,jP,aY⟩
 have hlen:∀{o:List Int} {n:Nat},jk A=o++jk n->o.length<=1000000000:=fun{o n} h=>by
  have:=apg List.length h;rw[ao1]at this;omega
 have hH:∀{o:List Int} {n:Nat},jk A=o++jk n->∀x∈o,48<=x/\x<58:=fun{o n} h x ak=>by
  exact abG (n:=A) (by rw[h];simp[ak])
 refine⟨fun h=> ?_,fun h=> ?_⟩
 ·simp only[aoG]at h
  have Fs:V≠0:=by
   rintro rfl;rw[kC]at h;simp at h
  have JM:(aO V).length<=100000000:=by
   have:(aO V).length<=a.length:=by
    rw[hZ];have:=iE aS.1;omega
   omega
  rw[dV];refine⟨⟨⟨gx _,JM⟩,by unfold L;omega,by omega⟩,fun r i o=>0<=i/\i<=9/\0<=r/\r.toNat<10^(9-i.toNat)/\jk A=o++jk (V/1000000000*10^(9-i.toNat)+r.toNat),fun r i o=>9-i.toNat,⟨by omega,by omega,by omega, ?_, ?_⟩, ?_⟩
  ·rw[aoD];exact apm _ (by decide)
  ·rw[aoD,aY]
   congr 2
   have:=aqe V 1000000000;rw[apa]at this;exact this.symm
  rintro r i cg ⟨aa,ad,ax,aV,bp⟩;have dH:V/1000000000<V:=aqF (by omega) (by decide);generalize V/1000000000=Q at*
  have step:¬(Q=0/\r=0)->i<9->((Nat.cast:Nat->Int) (List.length cg)+(Nat.cast:Nat->Int) (List.length [IntKind.wrap IntKind.u8 (IntKind.wrap IntKind.u32 ((48:Int)+Int.tmod r (10:Int)))]))*(1:Int)<=(70368744177664:Int)/\
   (0<=IntKind.wrap IntKind.i64 (i+1)/\IntKind.wrap IntKind.i64 (i+1)<=9/\0<=IntKind.wrap IntKind.u32 (Int.tdiv r 10)/\(IntKind.wrap IntKind.u32 (Int.tdiv r 10)).toNat<10^(9-(IntKind.wrap IntKind.i64 (i+1)).toNat)/\
     jk A=cg++[IntKind.wrap IntKind.u8 (IntKind.wrap IntKind.u32 ((48:Int)+Int.tmod r (10:Int)))]++jk (Q*10^(9-(IntKind.wrap IntKind.i64 (i+1)).toNat)+(IntKind.wrap IntKind.u32 (Int.tdiv r 10)).toNat))/\
   9-(IntKind.wrap IntKind.i64 (i+1)).toNat<9-i.toNat:=fun cT hi=>by
   have gp:=hlen bp
   obtain⟨n,rfl⟩:∃n:Nat,i=n:=⟨i.toNat,by omega⟩
   obtain⟨bC,rfl⟩:∃bC:Nat,r=bC:=⟨r.toNat,by omega⟩
   have aA:IntKind.wrap .i64 ((n:Int)+1)=((n+1:Nat):Int):=by rw[bP (by omega)];omega
   rw[aA];simp only[aoD]at*;have aD:10^(9-n)=10*10^(9-(n+1)):=by rw[show 9-n=(9-(n+1))+1 by omega,ao2,apa]
   rw[aD]at aV bp;have hle:10^(9-(n+1))<=10^9:=apd (by decide) (by omega);generalize 10^(9-(n+1))=w at*;have anX:w<=1000000000:=hle;rw[aqY (by omega),aqX (by omega),ia (x:=48+(bC:Int)%10) (by omega),As (by omega),ia (x:=(bC:Int)/10) (by omega)];refine⟨by simp;omega,⟨by omega,by omega,by omega,by omega, ?_⟩,by omega⟩;rw[bp,aqq]
   congr 1
   have ajA:Q*(10*w)+bC≠0:=fun bm=>cT ⟨by
    rcases ap9 Q with bc|bc
    ·exact bc
    ·have:0<w:=by omega
     have:0<Q*(10*w):=Nat.mul_pos bc (by omega)
     omega,by omega⟩
   rw[B9 ajA];have ajB:Q*(10*w)=10*(Q*w):=apF _ _ _;rw[ajB];generalize Q*w=z;have a1:((48+(10*z+bC)%10:Nat):Int)=48+(bC:Int)%10:=by omega
   have a2:(10*z+bC)/10=z+((bC:Int)/10).toNat:=by omega
   rw[a1,a2];rfl
  refine⟨fun h=>⟨fun b1=>⟨fun fM=> ?_,fun fM=> ?_⟩,fun b1=> ?_⟩,fun h=> ?_⟩
  ·simp only[aoG]at b1 fM;have ajC:Q=0:=zl (by omega);subst ajC fM;refine⟨⟨0,rfl,by omega, ?_⟩, ?_⟩
   ·simpa using bp
   ·simp only[dV];exact dH
  ·simp only[aoG]at h;simp only[aoF]at fM;exact step (fun ak=>fM ak.2) h
  ·simp only[aoG]at h;simp only[aoF]at b1;refine step (fun ak=>b1 ?_) h;rw[ak.1,kC];rfl
  ·simp only[aoF]at h;obtain rfl:i=9:=by omega
   simp only[show Int.toNat 9=9 from rfl,Nat.sub_self,aqb,ao_]at aV bp;refine⟨⟨Q,rfl,by omega, ?_⟩, ?_⟩
   ·rw[bp,show r.toNat=0 by omega];rfl
   ·simp only[dV];exact dH
 ·simp only[aoF]at h;have Fs:V=0:=zl (by omega);subst Fs;rw[uf,aqc]at aY;have gp:=hlen (o:=o) (n:=0) (by rw[uf,aqc];exact aY);have hm:=hH (o:=o) (n:=0) (by rw[uf,aqc];exact aY);refine⟨fun h=> ?_,fun h=>⟨?_,by omega,fun x ak=> ?_, ?_⟩⟩
  ·simp only[aoG]at h;have:o=[]:=apl.1 (by omega);rw[this,PC]at aY;rw[aY]at ae;exact ae
  ·simp only[aoF]at h;omega
  ·have:=hm x (List.mem_reverse.1 ak);omega
  ·simp only[aoF]at h
   have pe:A≠0:=by
    rintro rfl;rw[uf]at aY;subst aY;simp at h
   unfold dec at ae;rw[aoA pe,aY]at ae;exact ae
theorem agv {x:Int}(h:0<=x/\x<4294967296):bw [x]:=⟨.mk h .nil,by simp⟩
end ab
namespace ab
end ab
end
section
open Go Go.aj
namespace ab
def Mz:Int->(R->Prop)->Prop:=
 fun x K=>∃(J:Int->Int->Prop),((decide (65536<=x)=true->J (x.fdiv 65536) 16)/\(decide (65536<=x)=false->J x 0))/\∀(v0 v2:Int),J v0 v2->(decide (256<=v0)=true->0<=IntKind.u8.wrap (v0.fdiv 256)/\IntKind.u8.wrap (v0.fdiv 256)<256/\K (R.d (U.int .i64 (ai (ai (v2+8)+ai ((have y:=have y:=have y:=have y:=have y:=have y:=[8,8,8,8];8::8::8::8::y;have y:=8::8::8::8::y;8::8::8::8::y;have y:=have y:=8::8::8::8::y;8::8::8::8::y;have y:=8::8::8::8::y;8::8::8::8::y;have y:=have y:=have y:=8::8::8::8::y;8::8::8::8::y;have y:=8::8::8::8::y;8::8::8::8::y;have y:=have y:=8::8::8::8::y;8::8::8::8::y;have y:=8::8::8::8::y;8::8::8::8::y;have y:=have y:=have y:=have y:=8::8::8::8::y;8::8::8::8::y;have y:=8::8::8::8::y;8::8::8::8::y;have y:=have y:=8::8::8::8::y;8::8::8::8::y;have y:=8::8::8::8::y;8::8::8::8::y;have y:=have y:=have y:=8::8::8::8::y;8::8::8::8::y;have y:=8::8::8::8::y;8::8::8::8::y;have y:=have y:=8::8::8::8::y;8::8::8::8::y;have y:=8::8::8::8::y;8::8::8::8::y;have y:=have y:=have y:=have y:=have y:=7::7::7::7::y;7::7::7::7::y;have y:=7::7::7::7::y;7::7::7::7::y;have y:=have y:=7::7::7::7::y;7::7::7::7::y;have y:=7::7::7::7::y;7::7::7::7::y;have y:=have y:=have y:=7::7::7::7::y;7::7::7::7::y;have y:=7::7::7::7::y;7::7::7::7::y;have y:=have y:=7::7::7::7::y;7::7::7::7::y;have y:=7::7::7::7::y;7::7::7::7::y;have y:=have y:=have y:=have y:=6::6::6::6::y;6::6::6::6::y;have y:=6::6::6::6::y;6::6::6::6::y;have y:=have y:=6::6::6::6::y;6::6::6::6::y;have y:=6::6::6::6::y;6::6::6::6::y;have y:=have y:=have y:=5::5::5::5::y;5::5::5::5::y;have y:=5::5::5::5::y;5::5::5::5::y;have y:=have y:=4::4::4::4::y;4::4::4::4::y;have y:=3::3::3::3::y;0::1::2::2::y).getD (IntKind.u8.wrap (v0.fdiv 256)).toNat 0))))))/\(decide (256<=v0)=false->0<=IntKind.u8.wrap v0/\IntKind.u8.wrap v0<256/\K (R.d (U.int .i64 (ai (v2+ai ((have y:=have y:=have y:=have y:=have y:=have y:=[8,8,8,8];8::8::8::8::y;have y:=8::8::8::8::y;8::8::8::8::y;have y:=have y:=8::8::8::8::y;8::8::8::8::y;have y:=8::8::8::8::y;8::8::8::8::y;have y:=have y:=have y:=8::8::8::8::y;8::8::8::8::y;have y:=8::8::8::8::y;8::8::8::8::y;have y:=have y:=8::8::8::8::y;8::8::8::8::y;have y:=8::8::8::8::y;8::8::8::8::y;have y:=have y:=have y:=have y:=8::8::8::8::y;8::8::8::8::y;have y:=8::8::8::8::y;8::8::8::8::y;have y:=have y:=8::8::8::8::y;8::8::8::8::y;have y:=8::8::8::8::y;8::8::8::8::y;have y:=have y:=have y:=8::8::8::8::y;8::8::8::8::y;have y:=8::8::8::8::y;8::8::8::8::y;have y:=have y:=8::8::8::8::y;8::8::8::8::y;have y:=8::8::8::8::y;8::8::8::8::y;have y:=have y:=have y:=have y:=have y:=7::7::7::7::y;7::7::7::7::y;have y:=7::7::7::7::y;7::7::7::7::y;have y:=have y:=7::7::7::7::y;7::7::7::7::y;have y:=7::7::7::7::y;7::7::7::7::y;have y:=have y:=have y:=7::7::7::7::y;7::7::7::7::y;have y:=7::7::7::7::y;7::7::7::7::y;have y:=have y:=7::7::7::7::y;7::7::7::7::y;have y:=7::7::7::7::y;7::7::7::7::y;have y:=have y:=have y:=have y:=6::6::6::6::y;6::6::6::6::y;have y:=6::6::6::6::y;6::6::6::6::y;have y:=have y:=6::6::6::6::y;6::6::6::6::y;have y:=6::6::6::6::y;6::6::6::6::y;have y:=have y:=have y:=5::5::5::5::y;5::5::5::5::y;have y:=5::5::5::5::y;5::5::5::5::y;have y:=have y:=4::4::4::4::y;4::4::4::4::y;have y:=3::3::3::3::y;0::1::2::2::y).getD (IntKind.u8.wrap v0).toNat 0))))))
def Lz:Int->(R->Prop)->Prop:=
 fun x K=>L x/\K (R.d (U.int .i64 (ai (32-↑(db x.toNat)))))
def ON:List Int->Int->(ag->Prop)->Prop:=
 fun a k K=>0<=ai (↑a.length+1)/\ai (↑a.length+1)<=ai (↑a.length+1)/\ai (↑a.length+1)*4<=281474976710656/\∃(aQ:Int->List Int->Prop),∃(m:Int->List Int->Nat),aQ 0 (List.replicate (ai (↑a.length+1)).toNat 0)/\∀(bU:Int) (aq:List Int),aQ bU aq->(decide (bU<↑a.length)=true->0<=bU/\bU<↑a.length/\0<=k/\0<=bU/\bU<↑aq.length/\0<=bU/\bU<↑aq.length/\0<=ai (bU+1)/\ai (bU+1)<↑(aq.set bU.toNat (cP BinOp.or .u32 (aq.getD bU.toNat 0) (bY (aW (aW (a.getD bU.toNat 0)*2^min k.toNat 64))))).length/\aQ (ai (bU+1)) ((aq.set bU.toNat (cP BinOp.or .u32 (aq.getD bU.toNat 0) (bY (aW (aW (a.getD bU.toNat 0)*2^min k.toNat 64))))).set (ai (bU+1)).toNat (bY ((aW (aW (a.getD bU.toNat 0)*2^min k.toNat 64)).fdiv 4294967296)))/\m (ai (bU+1)) ((aq.set bU.toNat (cP BinOp.or .u32 (aq.getD bU.toNat 0) (bY (aW (aW (a.getD bU.toNat 0)*2^min k.toNat 64))))).set (ai (bU+1)).toNat (bY ((aW (aW (a.getD bU.toNat 0)*2^min k.toNat 64)).fdiv 4294967296)))<m bU aq)/\(decide (bU<↑a.length)=false->K (ag.af .u32 aq))
end ab
end
section
open Go Go.aj
namespace ab
def tab:List Int:=[0,1,2,2,3,3,3,3,4,4,4,4,4,4,4,4,5,5,5,5,5,5,5,5,5,5,5,5,5,5,5,5,6,6,6,6,6,6,6,6,6,6,6,6,6,6,6,6,6,6,6,6,6,6,6,6,6,6,6,6,6,6,6,6,7,7,7,7,7,7,7,7,7,7,7,7,7,7,7,7,7,7,7,7,7,7,7,7,7,7,7,7,7,7,7,7,7,7,7,7,7,7,7,7,7,7,7,7,7,7,7,7,7,7,7,7,7,7,7,7,7,7,7,7,7,7,7,7,8,8,8,8,8,8,8,8,8,8,8,8,8,8,8,8,8,8,8,8,8,8,8,8,8,8,8,8,8,8,8,8,8,8,8,8,8,8,8,8,8,8,8,8,8,8,8,8,8,8,8,8,8,8,8,8,8,8,8,8,8,8,8,8,8,8,8,8,8,8,8,8,8,8,8,8,8,8,8,8,8,8,8,8,8,8,8,8,8,8,8,8,8,8,8,8,8,8,8,8,8,8,8,8,8,8,8,8,8,8,8,8,8,8,8,8,8,8,8,8,8,8,8,8,8,8,8,8]
theorem QM (i:Nat)(h:i<256):tab.getD i 0=db i:=by
 have aa:((List.range 256).all fun i=>decide (tab.getD i 0=(db i:Int)))=true:=by decide+kernel
 rw[aoU]at aa;simpa using aa i (by simpa using h)
theorem ado {n m:Nat}(aa:2^m<=n)(ad:n<2^(m+1)):db n=m+1:=by
 have bc:n≠0:=by have:=apx m;omega
 unfold db;rw[aoA bc,(Nat.log2_eq_iff bc).2 ⟨aa,ad⟩]
theorem wi {n:Nat}(h:n≠0):2^(db n-1)<=n/\n<2^db n/\0<db n:=by
 unfold db;rw[aoA h];exact⟨Nat.log2_self_le h,Nat.lt_log2_self,by omega⟩
theorem yR {n k:Nat}(h:2^k<=n):db n=db (n/2^k)+k:=by
 have aD:=apx k
 have bc:n/2^k≠0:=by
  have:=Nat.div_pos h aD;omega
 obtain⟨cW,c9,iM⟩:=wi bc
 have aA:2^(db (n/2^k)-1+k)<=n:=by
  rw[aph];exact(Nat.le_div_iff_mul_le aD).1 cW
 have aG:n<2^(db (n/2^k)-1+k+1):=by
  rw[show db (n/2^k)-1+k+1=db (n/2^k)+k by omega,aph];exact(Nat.div_lt_iff_lt_mul aD).1 c9
 rw[ado aA aG];omega
theorem wW {n k:Nat}(h:n<2^k):db n<=k:=by
 by_cases bc:n=0
 ·subst bc;simp[db]
 ·obtain⟨cW,c9,iM⟩:=wi bc;have:=apN cW h;have:=(Nat.pow_lt_pow_iff_right (by decide:1<2)).1 this;omega
theorem Xw (x:Int)(K:R->Prop)(h:Ds.T [.d (.int .u32 x)] K):Mz x K:=by
 obtain⟨ak,ae⟩:=h;unfold L at ak
 obtain⟨n,rfl⟩:∃n:Nat,x=n:=⟨x.toNat,by omega⟩
 rw[aoD]at ae;unfold Mz ai;refine⟨fun v s=>∃m k:Nat,v=m/\s=k/\m<65536/\k<=16/\db n=db m+k,⟨fun h=> ?_,fun h=> ?_⟩, ?_⟩
 ·simp only[aoG]at h;have:=yR (n:=n) (k:=16) (by omega);refine⟨n/65536,16, ?_,rfl,by omega,by omega,this⟩;rw[apk _ (by omega)];omega
 ·simp only[aoF]at h;exact⟨n,0,rfl,rfl,by omega,by omega,rfl⟩
 rintro v s ⟨m,k,rfl,rfl,hm,anY,he⟩
 have fin:∀(q c:Nat),q<256->c<=24->db n=db q+c->K (.d (.int .i64 (IntKind.wrap .i64 ((c:Int)+IntKind.wrap .i64 (tab.getD q 0))))):=fun q c aZ aC e=>by
  have ah:=wW (n:=q) (k:=8) (by omega);rw[QM q aZ,bP (x:=(db q:Int)) (by omega),bP (by omega)];rw[show(c:Int)+(db q:Int)=((db n:Nat):Int) by omega];exact ae
 refine⟨fun h=> ?_,fun h=> ?_⟩
 ·simp only[aoG]at h
  have aY:IntKind.wrap .u8 (Int.fdiv (m:Int) 256)=((m/256:Nat):Int):=by
   rw[apk _ (by omega),As (by omega)];omega
  rw[aY,bP (x:=(k:Int)+8) (by omega),aoD];have:=yR (n:=m) (k:=8) (by omega);exact⟨by omega,by omega,fin (m/256) (k+8) (by omega) (by omega) (by rw[he,this];show db (m/256)+8+k=_;omega)⟩
 ·simp only[aoF]at h;rw[As (x:=(m:Int)) (by omega),aoD];exact⟨by omega,by omega,fin m k (by omega) (by omega) he⟩
theorem VD (x:Int)(K:R->Prop)(h:Ca.T [.d (.int .u32 x)] K):Lz x K:=by
 obtain⟨ak,ae⟩:=h;unfold Lz ai;have hv:=ak;unfold L at hv;have:=wW (n:=x.toNat) (k:=32) (by omega);rw[bP (by omega)];exact⟨ak,ae⟩
theorem ae0 (p q s:Nat)(aZ:q<2^s)(h:p*2^s+q<4294967296):cP .or .u32 (q:Int) ((p*2^s:Nat):Int)=((p*2^s+q:Nat):Int):=by
 rw[SN,BitVec.toNat_or,aqw,aqw,aqI,aqI];have aG:(2^32:Nat)=4294967296:=rfl;rw[aG,apw (by omega),apw (by omega),Nat.or_comm,<-Nat.shiftLeft_eq,<-Nat.shiftLeft_add_eq_or_of_lt aZ]
theorem YZ {d c k:Nat}(ae:k<32)(aY:d<4294967296)(aC:c<2^k):
 d*2^k<18446744073709551616/\d*2^k/4294967296<2^k/\cP .or .u32 (c:Int) ((d*2^k%4294967296:Nat):Int)=((d*2^k%4294967296+c:Nat):Int)/\d*2^k%4294967296+c<4294967296:=by
 have aa:d*2^k<4294967296*2^k:=aqJ aY (apx k);have ad:2^k<=2^31:=apd (by decide) (by omega);have ax:(2:Nat)^31=2147483648:=rfl
 obtain⟨j,aK⟩:∃j,4294967296=2^j*2^k:=⟨32-k,by rw[<-aph,show 32-k+k=32 by omega]⟩
 have aV:d*2^k%4294967296=d%2^j*2^k:=by rw[aK,Nat.mul_mod_mul_right]
 have bp:d%2^j*2^k+2^k<=4294967296:=by
  have:=apm d (apx j);have:=aoR (2^k) (show d%2^j+1<=2^j by omega);rw[aoX,apX,<-aK]at this;exact this
 refine⟨by omega, ?_, ?_,by rw[aV];omega⟩
 ·exact aqr (by omega)
 ·rw[aV];exact ae0 _ c k aC (by omega)
theorem aaw {tP tQ vo w P d x y c:Nat}(v1:tP+w*c=vo+w*(x+c))(v2:tQ=tP+w*P*y)(aY:P*y+x=d):tQ=vo+w*d:=by
 subst v2 aY;simp only[aoS]at v1⊢;rw[ao4];generalize w*(P*y)=A;omega
theorem abQ (a:List Int)(k:Int)(K:ag->Prop)(h:Dt.T [.d (.af .u32 a), .d (.int .u64 k)] K):ON a k K:=by
 obtain⟨⟨aS,tu,j6⟩,ae⟩:=h;have hk:=aS.2
 obtain⟨s,rfl⟩:∃n:Nat,k=n:=⟨k.toNat,by omega⟩
 rw[aoD]at ae;unfold ON ai aW bY;have hz:IntKind.wrap .i64 ((Nat.cast:Nat->Int) a.length+1)=((a.length+1:Nat):Int):=by rw[bP (by omega)];omega
 rw[hz];simp only[aoD,show min s 64=s by omega]
 refine⟨by omega,by omega,by omega,fun i o=>bL o/\o.length=a.length+1/\0<=i/\i<=a.length/\val o=dw a i.toNat*2^s/\(o.getD i.toNat 0).toNat<2^s/\∀p,i.toNat<p->o.getD p 0=0,
  fun i o=>a.length-i.toNat,⟨bL.nt _,by simp,by omega,by omega,by simp[iD,yD], ?_,fun p _=> ?_⟩, ?_⟩
 ·have:(List.replicate (a.length+1) (0:Int)).getD (Int.toNat 0) 0=0:=by simp
  rw[this];exact apx s
 ·simp[aoC,ap6];split<;>rfl
 rintro i o ⟨aH,gp,Ar,m_,aM,aC,bm⟩;refine⟨fun h=> ?_,fun h=> ?_⟩
 ·simp only[aoG]at h
  obtain⟨n,rfl⟩:∃n:Nat,i=n:=⟨i.toNat,by omega⟩
  have aA:IntKind.wrap .i64 ((n:Int)+1)=((n+1:Nat):Int):=by rw[bP (by omega)];omega
  rw[aA];simp only[aoD,aoT]at*;have aY:=aS.1 n;have ajD:=aH n
  obtain⟨d,hU⟩:∃d:Nat,a.getD n 0=d:=⟨(a.getD n 0).toNat,by omega⟩
  obtain⟨c,vn⟩:∃d:Nat,o.getD n 0=d:=⟨(o.getD n 0).toNat,by omega⟩
  rw[hU]at aY⊢;rw[vn]at ajD aC⊢;rw[aoD]at aC;obtain⟨s1,s2,k9,mE⟩:=YZ (d:=d) (c:=c) (k:=s) (by omega) (by omega) aC;have jo:(2:Int)^s=((2^s:Nat):Int):=by simp
  have w1:IntKind.wrap .u64 (IntKind.wrap .u64 (d:Int)*(2:Int)^s)=((d*2^s:Nat):Int):=by
   rw[cS (x:=(d:Int)) (by omega),jo,<-apK,cS (by omega)]
  have dq:IntKind.wrap .u32 ((d*2^s:Nat):Int)=((d*2^s%4294967296:Nat):Int):=by rw[kf];omega
  have Ft:2^s<=2^31:=apd (by decide) (by omega);have SO:(2:Nat)^31=2147483648:=rfl
  have bY:IntKind.wrap .u32 (Int.fdiv ((d*2^s:Nat):Int) 4294967296)=((d*2^s/4294967296:Nat):Int):=by
   rw[apk _ (by omega),ia (by omega)];omega
  rw[w1,dq,bY,k9]
  obtain⟨x,y,ak,bn,hdiv⟩:∃x y,d*2^s%4294967296=x/\d*2^s/4294967296=y/\4294967296*y+x=d*2^s:=⟨_,_,rfl,rfl,aqe _ _⟩
  rw[ak,bn];rw[bn]at s2;rw[ak]at mE
  have nH:y<4294967296:=by
   rw[SO]at Ft;have:=aoZ s2 Ft;omega
  have hK:(0:Int)<=((x+c:Nat):Int)/\((x+c:Nat):Int)<4294967296:=⟨apz _,by omega⟩;have et:(0:Int)<=(y:Int)/\(y:Int)<4294967296:=⟨apz _,by omega⟩;have hm:a.length-(n+1)<a.length-n:=by omega
  have Fu:n+1<o.length:=by omega
  have xO:n<o.length:=by omega
  have Sk:n+1<(o.set n ((x+c:Nat):Int)).length:=by rw[aoT];exact Fu
  have nu:(0:Int)<=(n:Int)/\(n:Int)<(a.length:Int)/\(0:Int)<=(s:Int)/\(0:Int)<=(n:Int)/\(n:Int)<(o.length:Int)/\(0:Int)<=(n:Int)/\(n:Int)<(o.length:Int)/\(0:Int)<=((n+1:Nat):Int)/\((n+1:Nat):Int)<(o.length:Int):=by omega
  have RG:(0:Int)<=((n+1:Nat):Int)/\((n+1:Nat):Int)<=(a.length:Int):=by omega
  obtain⟨g1,g2,g3,g4,g5,g6,g7,g8,g9⟩:=nu;have v1:=me o n ((x+c:Nat):Int) xO;have v2:=me (o.set n ((x+c:Nat):Int)) (n+1) (y:Int) Sk;have JN:=bm (n+1) (Nat.lt_succ_self n);rw[e1,aoA (fun h=>absurd h.1 (Nat.ne_of_lt (Nat.lt_succ_self n))),JN,show Int.toNat 0=0 from rfl,ao6,ao0,aoD]at v2;rw[vn,aoD,aoD]at v1;refine⟨g1,g2,g3,g4,g5,g6,g7,g8,g9,⟨(aH.set _ hK).set _ et,gp,RG.1,RG.2, ?_, ?_,fun p aD=> ?_⟩,hm⟩
  ·rw[ao2]at v2;rw[gy,hU,aoD,aoX,<-aM,ao4];exact aaw v1 v2 hdiv
  ·rw[e1,aoB ⟨rfl,Sk⟩,aoD];exact s2
  ·clear v1 v2 s1 s2 k9 mE Ft SO w1 dq bY aM hdiv ak bn;rw[e1,aoA (by omega),e1,aoA (by omega)];exact bm p (by omega)
 ·simp only[aoF]at h;obtain rfl:i=a.length:=by omega
  rw[aoD,hE a (aoH _)]at aM;rw[<-aM,<-gp,HV _ aH rfl]at ae;exact ae
end ab
end
section
open Go Go.aj
namespace ab
def PH:List Int->List Int->(R->Prop)->Prop:=
 fun(a b:List Int) (K:R->Prop)=>(0:Int)<=ai (aP b-(1:Int))/\ai (aP b-(1:Int))<aP b/\ab.L (List.getD b (Int.toNat (ai (aP b-(1:Int)))) (0:Int))/\∀(x:Int),x=(32:Int)-(Nat.cast:Nat->Int) (ab.db (Int.toNat (List.getD b (Int.toNat (ai (aP b-(1:Int)))) (0:Int))))->(ab.bw a/\(0:Int)<=aW x/\aW x<(32:Int))/\∀(aX:List Int),aX=ab.ki (ab.val a*(2:Nat)^Int.toNat (aW x)) (List.length a+(1:Nat))->(ab.bw b/\(0:Int)<=aW x/\aW x<(32:Int))/\∀(aU:List Int),aU=ab.ki (ab.val b*(2:Nat)^Int.toNat (aW x)) (List.length b+(1:Nat))->(ab.bL aU/\List.length aU<=(1000000000:Nat))/\∀(bo:List Int),bo=ab.aO (ab.val aU)->(0:Int)<=ai (aP bo-(1:Int))/\ai (aP bo-(1:Int))<aP bo/\(0:Int)<=ai (aP bo-(2:Int))/\ai (aP bo-(2:Int))<aP bo/\(0:Int)<=ai (aP aX-aP bo)/\ai (aP aX-aP bo)<=ai (aP aX-aP bo)/\ai (aP aX-aP bo)*(4:Int)<=(281474976710656:Int)/\∃(aQ:Int->List Int->List Int->Prop),∃(m:Int->List Int->List Int->Nat),((true,ag.af IntKind.u32 aU)=(true,ag.af IntKind.u32 aU)/\aQ (ai (aP (List.replicate (Int.toNat (ai (aP aX-aP bo))) (0:Int))-(1:Int))) aX (List.replicate (Int.toNat (ai (aP aX-aP bo))) (0:Int)))/\∀(v12:Int) (aq br:List Int),aQ v12 aq br->(decide ((0:Int)<=v12)=true->(0:Int)<=ai (v12+aP bo)/\ai (v12+aP bo)<aP aq/\(0:Int)<=ai (ai (v12+aP bo)-(1:Int))/\ai (ai (v12+aP bo)-(1:Int))<aP aq/\¬aW (List.getD bo (Int.toNat (ai (aP bo-(1:Int)))) (0:Int))=(0:Int)/\¬aW (List.getD bo (Int.toNat (ai (aP bo-(1:Int)))) (0:Int))=(0:Int)/\∃(J:Int->Prop),(∃(aQ:Int->Int->Prop),∃(m:Int->Int->Nat),((false,ag.af IntKind.u32 aq)=(false,ag.af IntKind.u32 aq)/\(true,ag.af IntKind.u32 aU)=(true,ag.af IntKind.u32 aU)/\(false,ag.af IntKind.u32 br)=(false,ag.af IntKind.u32 br)/\aQ (aW (Int.tdiv (cP BinOp.or IntKind.u64 (aW (aW (List.getD aq (Int.toNat (ai (v12+aP bo))) (0:Int))*(4294967296:Int))) (aW (List.getD aq (Int.toNat (ai (ai (v12+aP bo)-(1:Int)))) (0:Int)))) (aW (List.getD bo (Int.toNat (ai (aP bo-(1:Int)))) (0:Int))))) (Int.tmod (cP BinOp.or IntKind.u64 (aW (aW (List.getD aq (Int.toNat (ai (v12+aP bo))) (0:Int))*(4294967296:Int))) (aW (List.getD aq (Int.toNat (ai (ai (v12+aP bo)-(1:Int)))) (0:Int)))) (aW (List.getD bo (Int.toNat (ai (aP bo-(1:Int)))) (0:Int)))))/\∀(fa bU:Int),aQ fa bU->((!decide (Int.fdiv fa (4294967296:Int)=(0:Int)))=true->((!decide (Int.fdiv (aW (bU+aW (List.getD bo (Int.toNat (ai (aP bo-(1:Int)))) (0:Int)))) (4294967296:Int)=(0:Int)))=true->(false,ag.af IntKind.u32 aq)=(false,ag.af IntKind.u32 aq)/\(true,ag.af IntKind.u32 aU)=(true,ag.af IntKind.u32 aU)/\(false,ag.af IntKind.u32 br)=(false,ag.af IntKind.u32 br)/\J (aW (fa-(1:Int))))/\((!decide (Int.fdiv (aW (bU+aW (List.getD bo (Int.toNat (ai (aP bo-(1:Int)))) (0:Int)))) (4294967296:Int)=(0:Int)))=false->(false,ag.af IntKind.u32 aq)=(false,ag.af IntKind.u32 aq)/\(true,ag.af IntKind.u32 aU)=(true,ag.af IntKind.u32 aU)/\(false,ag.af IntKind.u32 br)=(false,ag.af IntKind.u32 br)/\aQ (aW (fa-(1:Int))) (aW (bU+aW (List.getD bo (Int.toNat (ai (aP bo-(1:Int)))) (0:Int))))/\m (aW (fa-(1:Int))) (aW (bU+aW (List.getD bo (Int.toNat (ai (aP bo-(1:Int)))) (0:Int))))<m fa bU))/\((!decide (Int.fdiv fa (4294967296:Int)=(0:Int)))=false->(0:Int)<=ai (ai (v12+aP bo)-(2:Int))/\ai (ai (v12+aP bo)-(2:Int))<aP aq/\(decide (cP BinOp.or IntKind.u64 (aW (bU*(4294967296:Int))) (aW (List.getD aq (Int.toNat (ai (ai (v12+aP bo)-(2:Int)))) (0:Int)))<aW (fa*aW (List.getD bo (Int.toNat (ai (aP bo-(2:Int)))) (0:Int))))=true->((!decide (Int.fdiv (aW (bU+aW (List.getD bo (Int.toNat (ai (aP bo-(1:Int)))) (0:Int)))) (4294967296:Int)=(0:Int)))=true->(false,ag.af IntKind.u32 aq)=(false,ag.af IntKind.u32 aq)/\(true,ag.af IntKind.u32 aU)=(true,ag.af IntKind.u32 aU)/\(false,ag.af IntKind.u32 br)=(false,ag.af IntKind.u32 br)/\J (aW (fa-(1:Int))))/\((!decide (Int.fdiv (aW (bU+aW (List.getD bo (Int.toNat (ai (aP bo-(1:Int)))) (0:Int)))) (4294967296:Int)=(0:Int)))=false->(false,ag.af IntKind.u32 aq)=(false,ag.af IntKind.u32 aq)/\(true,ag.af IntKind.u32 aU)=(true,ag.af IntKind.u32 aU)/\(false,ag.af IntKind.u32 br)=(false,ag.af IntKind.u32 br)/\aQ (aW (fa-(1:Int))) (aW (bU+aW (List.getD bo (Int.toNat (ai (aP bo-(1:Int)))) (0:Int))))/\m (aW (fa-(1:Int))) (aW (bU+aW (List.getD bo (Int.toNat (ai (aP bo-(1:Int)))) (0:Int))))<m fa bU))/\(decide (cP BinOp.or IntKind.u64 (aW (bU*(4294967296:Int))) (aW (List.getD aq (Int.toNat (ai (ai (v12+aP bo)-(2:Int)))) (0:Int)))<aW (fa*aW (List.getD bo (Int.toNat (ai (aP bo-(2:Int)))) (0:Int))))=false->(false,ag.af IntKind.u32 aq)=(false,ag.af IntKind.u32 aq)/\(true,ag.af IntKind.u32 aU)=(true,ag.af IntKind.u32 aU)/\(false,ag.af IntKind.u32 br)=(false,ag.af IntKind.u32 br)/\J fa)))/\∀(fa:Int),J fa->∃(fK:Int->Int->Int->List Int->List Int->Prop),∃(fv:Int->Int->Int->List Int->List Int->Nat),((true,ag.af IntKind.u32 aU)=(true,ag.af IntKind.u32 aU)/\fK (0:Int) (0:Int) (0:Int) aq br)/\∀(nd fL iv:Int) (bJ xr:List Int),fK nd fL iv bJ xr->(decide (iv<aP bo)=true->(0:Int)<=iv/\iv<aP bo/\(0:Int)<=ai (v12+iv)/\ai (v12+iv)<aP bJ/\(0:Int)<=ai (v12+iv)/\ai (v12+iv)<aP bJ/\(true,ag.af IntKind.u32 aU)=(true,ag.af IntKind.u32 aU)/\fK (Int.fdiv (aW (aW (aW (List.getD bJ (Int.toNat (ai (v12+iv))) (0:Int))-cP BinOp.and IntKind.u64 (aW (fL+aW (fa*aW (List.getD bo (Int.toNat iv) (0:Int))))) (4294967295:Int))-nd)) (9223372036854775808:Int)) (Int.fdiv (aW (fL+aW (fa*aW (List.getD bo (Int.toNat iv) (0:Int))))) (4294967296:Int)) (ai (iv+(1:Int))) (List.set bJ (Int.toNat (ai (v12+iv))) (bY (aW (aW (aW (List.getD bJ (Int.toNat (ai (v12+iv))) (0:Int))-cP BinOp.and IntKind.u64 (aW (fL+aW (fa*aW (List.getD bo (Int.toNat iv) (0:Int))))) (4294967295:Int))-nd)))) xr/\fv (Int.fdiv (aW (aW (aW (List.getD bJ (Int.toNat (ai (v12+iv))) (0:Int))-cP BinOp.and IntKind.u64 (aW (fL+aW (fa*aW (List.getD bo (Int.toNat iv) (0:Int))))) (4294967295:Int))-nd)) (9223372036854775808:Int)) (Int.fdiv (aW (fL+aW (fa*aW (List.getD bo (Int.toNat iv) (0:Int))))) (4294967296:Int)) (ai (iv+(1:Int))) (List.set bJ (Int.toNat (ai (v12+iv))) (bY (aW (aW (aW (List.getD bJ (Int.toNat (ai (v12+iv))) (0:Int))-cP BinOp.and IntKind.u64 (aW (fL+aW (fa*aW (List.getD bo (Int.toNat iv) (0:Int))))) (4294967295:Int))-nd)))) xr<fv nd fL iv bJ xr)/\(decide (iv<aP bo)=false->(0:Int)<=ai (v12+aP bo)/\ai (v12+aP bo)<aP bJ/\(0:Int)<=ai (v12+aP bo)/\ai (v12+aP bo)<aP bJ/\∃(J:Int->List Int->List Int->Prop),(((!decide (Int.fdiv (aW (aW (aW (List.getD bJ (Int.toNat (ai (v12+aP bo))) (0:Int))-fL)-nd)) (9223372036854775808:Int)=(0:Int)))=true->∃(aQ:Int->Int->List Int->List Int->Prop),∃(m:Int->Int->List Int->List Int->Nat),((true,ag.af IntKind.u32 aU)=(true,ag.af IntKind.u32 aU)/\aQ (0:Int) (0:Int) (List.set bJ (Int.toNat (ai (v12+aP bo))) (bY (aW (aW (aW (List.getD bJ (Int.toNat (ai (v12+aP bo))) (0:Int))-fL)-nd)))) xr)/\∀(fL iZ:Int) (aq br:List Int),aQ fL iZ aq br->(decide (iZ<aP bo)=true->(0:Int)<=iZ/\iZ<aP bo/\(0:Int)<=ai (v12+iZ)/\ai (v12+iZ)<aP aq/\(0:Int)<=ai (v12+iZ)/\ai (v12+iZ)<aP aq/\(true,ag.af IntKind.u32 aU)=(true,ag.af IntKind.u32 aU)/\aQ (Int.fdiv (aW (fL+aW (aW (List.getD aq (Int.toNat (ai (v12+iZ))) (0:Int))+aW (List.getD bo (Int.toNat iZ) (0:Int))))) (4294967296:Int)) (ai (iZ+(1:Int))) (List.set aq (Int.toNat (ai (v12+iZ))) (bY (aW (fL+aW (aW (List.getD aq (Int.toNat (ai (v12+iZ))) (0:Int))+aW (List.getD bo (Int.toNat iZ) (0:Int))))))) br/\m (Int.fdiv (aW (fL+aW (aW (List.getD aq (Int.toNat (ai (v12+iZ))) (0:Int))+aW (List.getD bo (Int.toNat iZ) (0:Int))))) (4294967296:Int)) (ai (iZ+(1:Int))) (List.set aq (Int.toNat (ai (v12+iZ))) (bY (aW (fL+aW (aW (List.getD aq (Int.toNat (ai (v12+iZ))) (0:Int))+aW (List.getD bo (Int.toNat iZ) (0:Int))))))) br<m fL iZ aq br)/\(decide (iZ<aP bo)=false->(0:Int)<=ai (v12+aP bo)/\ai (v12+aP bo)<aP aq/\(0:Int)<=ai (v12+aP bo)/\ai (v12+aP bo)<aP aq/\(true,ag.af IntKind.u32 aU)=(true,ag.af IntKind.u32 aU)/\J (aW (fa-(1:Int))) (List.set aq (Int.toNat (ai (v12+aP bo))) (bY (List.getD aq (Int.toNat (ai (v12+aP bo))) (0:Int)+bY fL))) br))/\((!decide (Int.fdiv (aW (aW (aW (List.getD bJ (Int.toNat (ai (v12+aP bo))) (0:Int))-fL)-nd)) (9223372036854775808:Int)=(0:Int)))=false->(true,ag.af IntKind.u32 aU)=(true,ag.af IntKind.u32 aU)/\J fa (List.set bJ (Int.toNat (ai (v12+aP bo))) (bY (aW (aW (aW (List.getD bJ (Int.toNat (ai (v12+aP bo))) (0:Int))-fL)-nd)))) xr))/\∀(fa:Int) (eb ES:List Int),J fa eb ES->(0:Int)<=v12/\v12<aP ES/\(true,ag.af IntKind.u32 aU)=(true,ag.af IntKind.u32 aU)/\aQ (ai (v12-(1:Int))) eb (List.set ES (Int.toNat v12) (bY fa))/\m (ai (v12-(1:Int))) eb (List.set ES (Int.toNat v12) (bY fa))<m v12 aq br))/\(decide ((0:Int)<=v12)=false->(0:Int)<=aP bo/\aP bo<=aP bo/\aP bo*(4:Int)<=(281474976710656:Int)/\∃(aQ:Int->List Int->List Int->List Int->Prop),∃(m:Int->List Int->List Int->List Int->Nat),((true,ag.af IntKind.u32 aU)=(true,ag.af IntKind.u32 aU)/\aQ (0:Int) aq br (List.replicate (Int.toNat (aP bo)) (0:Int)))/\∀(kj:Int) (aq br cQ:List Int),aQ kj aq br cQ->(decide (kj<aP bo)=true->(0:Int)<=ai (kj+(1:Int))/\ai (kj+(1:Int))<aP aq/\(0:Int)<=kj/\kj<aP aq/\(0:Int)<=aW x/\(0:Int)<=kj/\kj<aP cQ/\(true,ag.af IntKind.u32 aU)=(true,ag.af IntKind.u32 aU)/\aQ (ai (kj+(1:Int))) aq br (List.set cQ (Int.toNat kj) (bY (Int.fdiv (cP BinOp.or IntKind.u64 (aW (aW (List.getD aq (Int.toNat (ai (kj+(1:Int)))) (0:Int))*(4294967296:Int))) (aW (List.getD aq (Int.toNat kj) (0:Int)))) ((2:Int)^min (Int.toNat (aW x)) (64:Nat)))))/\m (ai (kj+(1:Int))) aq br (List.set cQ (Int.toNat kj) (bY (Int.fdiv (cP BinOp.or IntKind.u64 (aW (aW (List.getD aq (Int.toNat (ai (kj+(1:Int)))) (0:Int))*(4294967296:Int))) (aW (List.getD aq (Int.toNat kj) (0:Int)))) ((2:Int)^min (Int.toNat (aW x)) (64:Nat)))))<m kj aq br cQ)/\(decide (kj<aP bo)=false->(ab.bL br/\List.length br<=(1000000000:Nat))/\∀(x:List Int),x=ab.aO (ab.val br)->(ab.bL cQ/\List.length cQ<=(1000000000:Nat))/\∀(ck:List Int),ck=ab.aO (ab.val cQ)->K (R.tup [R.d (U.af IntKind.u32 x),R.d (U.af IntKind.u32 ck)])))
end ab
end
section
open Go Go.aj
namespace ab
def lm (a:List Int)(i:Nat):Nat:=(a.getD i 0).toNat
theorem iu {a:List Int}(h:bL a)(i:Nat):a.getD i 0=(lm a i:Int):=by
 have:=h i;unfold lm;omega
theorem fV {a:List Int}(h:bL a)(i:Nat):lm a i<4294967296:=by
 have:=h i;unfold lm;omega
theorem mu (a:List Int)(i:Nat):er a i=lm a i+4294967296*er a (i+1):=n8 a i
theorem HD {a:List Int}(h:bL a)(i m:Nat):∃l,er a i=l+4294967296^m*er a (i+m)/\l<4294967296^m:=by
 refine⟨dw (a.drop i) m, ?_,ru (h.drop i) m⟩;have:=mr (a.drop i) m;unfold er at this⊢;rw[List.drop_drop]at this;exact this
theorem Il {a:List Int}(h:bL a)(i:Nat):val a/4294967296^i=er a i:=by
 rw[mr a i,Nat.add_mul_div_left _ _ (Nat.pow_pos (by decide)),aqf (ru h i),ao8]
theorem HE {a:List Int}{i V:Nat}(aM:val a<4294967296^i*V):er a i<V:=by
 have:=mr a i;refine ap1 (a:=4294967296^i) ?_;omega
theorem xs {u l b:Int}(hu:0<=u/\u<4294967296)(az:0<=l/\l<4294967296)(ah:0<=b/\b<=1):
 Int.fdiv (IntKind.wrap .u64 (IntKind.wrap .u64 (IntKind.wrap .u64 u-l)-b)) 9223372036854775808=(if u-l-b<0 then 1 else 0)/\
 IntKind.wrap .u32 (IntKind.wrap .u64 (IntKind.wrap .u64 (IntKind.wrap .u64 u-l)-b))=(u-l-b)%4294967296:=by
 rw[Ix u,Ix,Ix,kf,apk _ (by omega)];refine⟨?_,by omega⟩;split<;>omega
theorem RH {p:Nat}(aD:p<18446744073709551616):cP .and .u64 (p:Int) 4294967295=((p%4294967296:Nat):Int):=by
 have aA:((BitVec.ofInt 64 (p:Int))&&&(BitVec.ofInt 64 4294967295)).toNat=p%4294967296:=by
  have:(4294967295:Int)=((2^32-1:Nat):Int):=rfl;rw[this,BitVec.toNat_and,aqw,aqw,aqI,aqI,apw (by omega),apw (by omega),Nat.and_two_pow_sub_one_eq_mod]
 show IntKind.wrap .u64 _=_;have aG:((BitVec.ofInt (IntKind.u64).bits (p:Int))&&&(BitVec.ofInt (IntKind.u64).bits 4294967295)).toNat=p%4294967296:=aA;have:p%4294967296<4294967296:=apm _ (by decide);rw[aG,cS (by omega)]
theorem Iz {h l:Nat}(ca:h<4294967296)(az:l<4294967296):cP .or .u64 (IntKind.wrap .u64 (IntKind.wrap .u64 (h:Int)*4294967296)) (IntKind.wrap .u64 (l:Int))=((h*4294967296+l:Nat):Int):=by
 rw[cS (x:=(h:Int)) (by omega),cS (x:=(h:Int)*4294967296) (by omega),cS (x:=(l:Int)) (by omega),zy ⟨by omega,by omega⟩ ⟨by omega,by omega⟩];omega
theorem M0 {im kz A k:Nat}(ae:k<32):(kz*4294967296+im)/2^k%4294967296=(im+4294967296*(kz+4294967296*A))/2^k%4294967296:=by
 have aD:=apx k
 have aa:im+4294967296*(kz+4294967296*A)=kz*4294967296+im+2^k*(4294967296*(2^(32-k)*A)):=by
  have e:2^k*(4294967296*(2^(32-k)*A))=4294967296*(4294967296*A):=by
   have aG:2^k*2^(32-k)=4294967296:=by rw[<-aph,show k+(32-k)=32 by omega]
   rw[apF,<-ao4 (2^k),aG]
  rw[e];omega
 rw[aa,Nat.add_mul_div_left _ _ aD,Nat.add_mul_mod_self_left]
theorem PI {b:List Int}(ah:bL b)(aB:Norm b)(ad:2<=b.length):
 0<lm b (b.length-1)/\db (lm b (b.length-1))<=32/\0<db (lm b (b.length-1))/\
 val b*2^(32-db (lm b (b.length-1)))<4294967296^b.length/\2147483648*4294967296^(b.length-1)<=val b*2^(32-db (lm b (b.length-1))):=by
 have tp:lm b (b.length-1)≠0:=fun bc=>by
  apply aB;have ax:=ah (b.length-1);unfold lm at bc;have aV:b.getD (b.length-1) 0=0:=by omega
  rw[List.getLast?_eq_getElem?];rw[aoC,aoQ (by omega)]at aV;rw[aoQ (by omega)];exact apg some aV
 have bG:=fV ah (b.length-1);have ajE:=wW (n:=lm b (b.length-1)) (k:=32) (by omega);obtain⟨cW,c9,iM⟩:=wi tp;have aM:=mr b (b.length-1);have nD:=ru ah (b.length-1);rw[mu,show b.length-1+1=b.length by omega,oW b (aoH _),ao6,ao0]at aM;refine⟨by omega,ajE,iM, ?_, ?_⟩
 ·have bp:val b<4294967296^(b.length-1)*2^db (lm b (b.length-1)):=by
   have:=ao3 (4294967296^(b.length-1)) (show lm b (b.length-1)+1<=2^db (lm b (b.length-1)) by omega);rw[aoS,ao_]at this;omega
  have b1:=aqJ bp (apx (32-db (lm b (b.length-1))));rw[ao4,<-aph,show db (lm b (b.length-1))+(32-db (lm b (b.length-1)))=32 by omega]at b1
  have fM:4294967296^b.length=4294967296^(b.length-1)*2^32:=by
   have:b.length=b.length-1+1:=by omega
   rw[this,ao2];rfl
  rw[fM];exact b1
 ·have bp:4294967296^(b.length-1)*2^(db (lm b (b.length-1))-1)<=val b:=by
   have:=ao3 (4294967296^(b.length-1)) cW;omega
  have b1:=aoR (2^(32-db (lm b (b.length-1)))) bp;rw[ao4,<-aph,show db (lm b (b.length-1))-1+(32-db (lm b (b.length-1)))=31 by omega]at b1;rw[apa 2147483648];exact b1
structure amj (u v:List Int)(n j V F t s iO D:Nat)(p lv l3:Nat):Prop where
 jP:V=lv+p*(s+4294967296*t)
 j_:D=l3+p*(iO+4294967296*F)
 rU:lv<p
 qs:l3<p
 au:0<t
 tg:t<4294967296
 ay:s<4294967296
 vt:iO<4294967296
 xP:D<4294967296*V
 tR:F<t*4294967296+4294967296
theorem QN {u v:List Int}{n j V:Nat}(hu:bL u)(aM:bL v)(nI:v.length=n)(aB:2<=n)(jP:val v=V)(pq:2147483648*4294967296^(n-1)<=V)(bG:val u<4294967296^(j+1)*V):
 ∃p lv l3,amj u v n j V (lm u (j+n)*4294967296+lm u (j+n-1)) (lm v (n-1)) (lm v (n-2)) (lm u (j+n-2)) (er u j) p lv l3:=by
 obtain⟨lv,aA,aG⟩:=HD aM 0 (n-2);obtain⟨l3,f1,f2⟩:=HD hu j (n-2);have an6:=HE bG;have JM:V<4294967296^n:=by rw[<-jP,<-nI];exact iE aM
 rw[zk,jP,ao8,mu,show n-2+1=n-1 by omega,mu,show n-1+1=n by omega,oW v (by omega),ao6,ao0]at aA
 have bm:er u (j+n+1)=0:=by
  have aa:val u<4294967296^(j+n+1)*1:=by
   rw[ao_,show j+n+1=j+1+n by omega,aph];exact aoZ bG (ao3 _ (aqh JM))
  have:=HE aa;omega
 have g1:er u (j+(n-2))=lm u (j+n-2)+4294967296*(lm u (j+n)*4294967296+lm u (j+n-1)):=by
  rw[mu u (j+(n-2)),show j+(n-2)+1=j+n-1 by omega,mu u (j+n-1),show j+n-1+1=j+n by omega,mu u (j+n),bm,show j+(n-2)=j+n-2 by omega];omega
 have xP:er u j<4294967296*V:=by
  have:=mu u j;have:=fV hu j;omega
 have ajF:0<lm v (n-1):=by
  rcases ap9 (lm v (n-1))with bc|bc
  ·exfalso;rw[bc]at aA;have ay:=fV aM (n-2)
   have ax:4294967296^(n-2)*(lm v (n-2)+4294967296*0)+4294967296^(n-2)<=4294967296^(n-2)*4294967296:=by
    have:=ao3 (4294967296^(n-2)) (show lm v (n-2)+4294967296*0+1<=4294967296 by omega);rw[aoS _ _ 1,ao_]at this;exact this
   rw[<-ao2,show(n-2).succ=n-1 by omega]at ax;have:1*4294967296^(n-1)<=2147483648*4294967296^(n-1):=aoR _ (by decide);omega
  ·exact bc
 refine⟨4294967296^(n-2),lv,l3,aA,by rw[f1,g1],aG,f2,ajF,fV aM _,fV aM _,fV hu _,xP, ?_⟩;have aV:er u (j+1)=er u (j+1):=rfl;obtain⟨dj,a7,bl⟩:=HD hu (j+1) (n-1);rw[show j+1+(n-1)=j+n by omega,mu u (j+n),bm,ao6,ao0 (lm u (j+n))]at a7
 have an7:V<4294967296^(n-1)*(lm v (n-1)+1):=by
  have bR:V+4294967296^(n-2)*1<=4294967296^(n-2)*(4294967296*(lm v (n-1)+1))+lv:=by
   have:=ao3 (4294967296^(n-2)) (show lm v (n-2)+4294967296*lm v (n-1)+1<=4294967296*(lm v (n-1)+1) by have:=fV aM (n-2);omega);rw[aoS _ _ 1]at this;omega
  have cY:4294967296^(n-1)*(lm v (n-1)+1)=4294967296^(n-2)*(4294967296*(lm v (n-1)+1)):=by
   rw[show n-1=n-2+1 by omega,ao2,ao4]
  rw[cY];omega
 have bp:lm u (j+n)<lm v (n-1)+1:=by
  refine ap1 (a:=4294967296^(n-1)) ?_;omega
 have:=fV hu (j+n-1);have:lm u (j+n)*4294967296<=lm v (n-1)*4294967296:=aoR _ (by omega);omega
theorem Im {h l:Nat}(ca:h<4294967296)(az:l<4294967296):cP .or .u64 (IntKind.wrap .u64 ((h:Int)*4294967296)) (IntKind.wrap .u64 (l:Int))=((h*4294967296+l:Nat):Int):=by
 rw[cS (x:=(h:Int)*4294967296) (by omega),cS (x:=(l:Int)) (by omega),zy ⟨by omega,by omega⟩ ⟨by omega,by omega⟩];omega
theorem QO {tQ tP gw w A fo st UQ C B S:Nat}(a1:tQ+w*fo=tP+w*st)(a2:tP+A=gw+w*(C+B))(a3:st+UQ+(C+B)=fo+4294967296*S):tQ+(A+w*UQ)=gw+w*(4294967296*S):=by
 have h:=apg (w*·) a3;simp only[aoS]at h a2⊢;omega
theorem QP {iP UR v2 w A fo st d C T:Nat}(a1:UR+w*fo=iP+w*st)(a2:iP+w*C=v2+A)(a3:st+4294967296*T=C+fo+d):UR+w*(4294967296*T)=v2+(A+w*d):=by
 have h:=apg (w*·) a3;simp only[aoS]at h;omega
theorem adp {v1 v2 gw w y C B G V dE l D:Nat}(e:v1+dE*(G*V)=gw+w*(C+B))(ay:v2+w*y=v1+w*(y-C-B))(bn:C+B<=y)(ov:gw=l+dE*D)(az:l<dE)(rV:D<(G+1)*V):
 v2+dE*(G*V)=gw/\v2<dE*V:=by
 have aa:w*y=w*(y-C-B)+w*(C+B):=by rw[<-aoS];congr 1;omega
 have ad:v2+dE*(G*V)=gw:=by omega
 refine⟨ad, ?_⟩;have ax:=ao3 dE (show D+1<=(G+1)*V from rV);rw[aoX,apX,aoS,aoS,ao_]at ax;omega
theorem adq {v1 v2 gw w y C B G V dE l D:Nat}(e:v1+dE*(G*V)=gw+w*(C+B))(ay:v2+w*y=v1+w*(y+4294967296-C-B))(_:y<C+B)(l4:C+B<=4294967296)(ad:v2<w*4294967296)(ov:gw=l+dE*D)(At:G*V<=D+V):
 v2+dE*(G*V)=gw+w*4294967296/\1<=G/\gw<dE*(G*V)/\dE*((G-1)*V)<=gw/\dE*(G*V)=dE*((G-1)*V)+dE*V:=by
 have aa:w*(y+4294967296-C-B)+w*(C+B)=w*y+w*4294967296:=by rw[<-aoS,<-aoS];congr 1;omega
 have ax:v2+dE*(G*V)=gw+w*4294967296:=by omega
 have il:1<=G:=by
  rcases ap9 G with bc|bc
  ·rw[bc,apY,ao6]at ax;omega
  ·exact bc
 have aV:G*V=(G-1)*V+V:=by rw[<-Nat.succ_mul];congr 1;omega
 have bp:dE*(G*V)=dE*((G-1)*V)+dE*V:=by rw[aV,aoS]
 refine⟨ax,il,by omega, ?_,bp⟩;have b1:(G-1)*V<=D:=by omega
 have:=ao3 dE b1;omega
theorem abR {v2 v3 v4 gw w y C G V dE low:Nat}(ax:v2+dE*(G*V)=gw+w*4294967296)(bp:dE*(G*V)=dE*((G-1)*V)+dE*V)(b1:dE*((G-1)*V)<=gw)(fM:gw<dE*(G*V))
 (aS:v3+w*C=v2+dE*V) (I0:v3=low+w*y) (az:low<w) (bn:y<4294967296) (l4:C<=1) (ay:v4+w*y=v3):
 y+C=4294967296/\v4+dE*((G-1)*V)=gw/\v4<dE*V:=by
 have c6:v3+w*C+dE*((G-1)*V)=gw+w*4294967296:=by omega
 have k6:y+C=4294967296:=by
  refine Nat.le_antisymm (by omega) (Nat.le_of_not_lt fun bG=> ?_);have:=ao3 w (show y+C+1<=4294967296 by omega);rw[aoS,aoS,ao_]at this;omega
 have Fb:w*y+w*C=w*4294967296:=by rw[<-aoS,k6]
 refine⟨k6,by omega,by omega⟩
end ab
end
section
open Go Go.aj
namespace ab
structure ajG (u c2:List Int)(j n V Q:Nat):Prop where
 TO:bL c2
 len:c2.length=u.length
 ajH:Q<4294967296
 eq:val c2+4294967296^j*(Q*V)=val u
 lt:val c2<4294967296^j*V
set_option maxHeartbeats 1000000 in
theorem adr (a b:List Int)(K:R->Prop)(h:DX.T [.d (.af .u32 a), .d (.af .u32 b)] K):PH a b K:=by
 obtain⟨⟨aS,ah,xM,rO,et,hle⟩,ae⟩:=h;have hk:=aS.2;have k1:=ah.2;obtain⟨eY,hy,vQ,nQ,r7⟩:=PI ah.1 rO et;unfold PH ai aW bY aP;have aA:IntKind.wrap .i64 ((Nat.cast:Nat->Int) b.length-1)=((b.length-1:Nat):Int):=by rw[bP (by omega)];omega
 rw[aA,aoD,iu ah.1,aoD];have JO:=fV ah.1 (b.length-1);refine⟨by omega,by omega,⟨by omega,by omega⟩, ?_⟩;rintro x rfl
 obtain⟨k,tu⟩:∃k,32-db (lm b (b.length-1))=k:=⟨_,rfl⟩
 rw[tu]at nQ r7;have ET:k<32:=by omega
 have aG:IntKind.wrap .u64 (32-(db (lm b (b.length-1)):Int))=(k:Int):=by rw[cS (by omega)];omega
 rw[aG];simp only[aoD]
 have JP:2^k<=2147483648:=by
  have:=apd (show 0<2 by decide) (show k<=31 by omega);exact this
 have IA:4294967296^(b.length-1)<=val b:=by
  have aa:=mr b (b.length-1);rw[mu]at aa;have ad:=ao3 (4294967296^(b.length-1)) (show 1<=lm b (b.length-1)+4294967296*er b (b.length-1+1) by omega);omega
 have hlen:b.length<=a.length:=by
  have aa:=iE aS.1;have ad:4294967296^(b.length-1)<4294967296^a.length:=by omega
  have:=(Nat.pow_lt_pow_iff_right (by decide:1<4294967296)).1 ad;omega
 refine⟨⟨aS,by omega,by omega⟩, ?_⟩;rintro im tv;refine⟨⟨ah,by omega,by omega⟩, ?_⟩;rintro v0 lR
 have xt:val v0=val b*2^k:=by
  rw[lR];refine yQ _ _ (aoZ nQ (apd (by decide) (by omega)))
 have s8:val im=val a*2^k:=by
  rw[tv];refine yQ _ _ ?_;rw[ao2];exact Nat.mul_lt_mul'' (iE aS.1) (by omega)
 have I1:bL im:=tv▸yP _ _;have EU:bL v0:=lR▸yP _ _;have SP:im.length=a.length+1:=by rw[tv,wH]
 have SQ:v0.length=b.length+1:=by rw[lR,wH]
 refine⟨⟨EU,by omega⟩, ?_⟩;rintro v aM;have pr:val v=val b*2^k:=by rw[aM,dV,xt]
 have ow:bL v:=aM▸gx _
 have nI:v.length=b.length:=by
  rw[aM,xt];refine Nat.le_antisymm (hZ.2 nQ) ?_;refine Nat.le_of_not_lt fun ak=> ?_;have aa:=hZ.1 (show(aO (val b*2^k)).length<=b.length-1 by omega);have ad:1*4294967296^(b.length-1)<=2147483648*4294967296^(b.length-1):=aoR _ (by decide);omega
 have j1:val a/val b=val im/val v:=by rw[s8,pr,Nat.mul_div_mul_right _ _ (apx k)]
 have ic:(val a%val b)*2^k=val im%val v:=by rw[s8,pr,Nat.mul_mod_mul_right]
 have anH:0<val b:=aoZ (Nat.pow_pos (by decide)) IA;have pq:2147483648*4294967296^(b.length-1)<=val v:=by rw[pr];exact r7
 have tw:val v<4294967296^b.length:=by rw[pr];exact nQ
 have A1:val im<4294967296^(a.length+1-b.length)*val v:=by
  rw[s8];have aa:val a*2^k<4294967296^a.length*2147483648:=aoZ (aqJ (iE aS.1) (apx k)) (ao3 _ JP);have ad:=ao3 (4294967296^(a.length+1-b.length)) pq;rw[apF,<-aph,show a.length+1-b.length+(b.length-1)=a.length by omega,apa 2147483648]at ad;exact aoZ aa ad
 rw[nI,SP];clear aM tv lR pr s8 xt nQ r7 IA hle aG aA tu eY hy vQ JO EU SQ
 obtain⟨m,hm⟩:∃m,a.length+1-b.length=m:=⟨_,rfl⟩
 obtain⟨n,aB⟩:∃n,b.length=n:=⟨_,rfl⟩
 have ajI:1<=m:=by omega
 rw[hm]at A1;rw[aB]at pq tw nI et hlen⊢;have cY:IntKind.wrap .i64 ((n:Int)-1)=((n-1:Nat):Int):=by rw[bP (by omega)];omega
 have hO:IntKind.wrap .i64 ((n:Int)-2)=((n-2:Nat):Int):=by rw[bP (by omega)];omega
 have jK:IntKind.wrap .i64 (((a.length+1:Nat):Int)-(n:Int))=(m:Int):=by rw[bP (by omega)];omega
 rw[cY,hO,jK];simp only[aoD,List.length_replicate]
 refine⟨by omega,by omega,by omega,by omega,by omega,by omega,by omega,fun j u q=>-1<=j/\j<m/\bL u/\u.length=m+n/\bL q/\q.length=m/\val im=val q*val v+val u/\val u<4294967296^(j+1).toNat*val v/\∀p:Nat,(p:Int)<=j->q.getD p 0=0,
  fun j u q=>(j+1).toNat,⟨by first|rfl|trivial, ?_⟩, ?_⟩
 ·rw[bP (by omega)];refine⟨by omega,by omega,I1,by omega,bL.nt _,by simp,by rw[yD,apY,ao8], ?_,fun p _=>by simp[aoC,ap6];split<;>rfl⟩;rw[show((m:Int)-1+1).toNat=m by omega];exact A1
 rintro j u q ⟨xx,kq,hu,nB,aZ,vf,heq,bG,Au⟩;refine⟨fun aK=> ?_,fun aK=> ?_⟩
 ·simp only[aoG]at aK
  obtain⟨j,rfl⟩:∃i:Nat,j=i:=⟨j.toNat,by omega⟩
  rw[show((j:Int)+1).toNat=j+1 by omega]at bG;have mF:IntKind.wrap .i64 ((j:Int)+(n:Int))=((j+n:Nat):Int):=by rw[bP (by omega)];omega
  have l2:IntKind.wrap .i64 (((j+n:Nat):Int)-1)=((j+n-1:Nat):Int):=by rw[bP (by omega)];omega
  have qy:IntKind.wrap .i64 (((j+n:Nat):Int)-2)=((j+n-2:Nat):Int):=by rw[bP (by omega)];omega
  rw[mF,l2,qy];simp only[aoD];obtain⟨p,lv,l3,aY⟩:=QN (j:=j) hu ow nI et rfl pq bG;simp only[iu hu,iu ow,Iz (fV hu (j+n)) (fV hu (j+n-1))];have Fv:IntKind.wrap .u64 ((lm v (n-1):Nat):Int)=((lm v (n-1):Nat):Int):=cS (by have:=aY.tg;omega);have Fw:IntKind.wrap .u64 ((lm v (n-2):Nat):Int)=((lm v (n-2):Nat):Int):=cS (by have:=aY.ay;omega);simp only[Fv,Fw]
  obtain⟨F,Av⟩:∃F,lm u (j+n)*4294967296+lm u (j+n-1)=F:=⟨_,rfl⟩
  rw[Av]at aY;simp only[Av]
  have j_:∃D,er u j=D:=⟨_,rfl⟩
  obtain⟨D,Aw⟩:=j_;rw[Aw]at aY
  obtain⟨t,rW⟩:∃t,lm v (n-1)=t:=⟨_,rfl⟩
  obtain⟨s,qt⟩:∃s,lm v (n-2)=s:=⟨_,rfl⟩
  obtain⟨iO,zQ⟩:∃s,lm u (j+n-2)=s:=⟨_,rfl⟩
  rw[rW,qt,zQ]at aY;rw[rW]at Fv;rw[qt]at Fw;simp only[rW,qt,zQ];obtain⟨jP,pv,rU,qs,au,tg,ay,vt,xP,tR⟩:=aY;have Kt:Int.tdiv (F:Int) (t:Int)=((F/t:Nat):Int):=by rw[aqX (by omega),aqu]
  have Ku:Int.tmod (F:Int) (t:Int)=((F%t:Nat):Int):=by rw[aqY (by omega),aqH]
  simp only[Kt,Ku];have ajJ:F<18446744073709551616:=by omega
  have JQ:F/t<=F:=aqZ _ _;have ajK:F%t<t:=apm _ au
  have A2:∀r8:Nat,r8<=F->IntKind.wrap .u64 (r8:Int)=(r8:Int):=fun r8 h=>cS (by omega)
  simp only[A2 _ JQ];refine⟨by omega,by omega,by omega,by omega,by omega,by omega,fun g=>∃G:Nat,g=G/\G<4294967296/\D<(G+1)*val v/\G*val v<=D+val v, ?_, ?_⟩
  ·refine⟨fun g r=>∃G bC:Nat,g=G/\r=bC/\t*G+bC=F/\bC<4294967296/\D<(G+1)*val v,fun g r=>g.toNat,⟨by first|rfl|trivial,by first|rfl|trivial,by first|rfl|trivial,F/t,F%t,rfl,rfl,aqe F t,by omega, ?_⟩, ?_⟩
   ·rw[pv,jP];exact(PF (lv:=lv) (s:=s) rfl rfl au qs vt).1
   rintro g r ⟨G,bC,rfl,rfl,Ax,dS,rV⟩
   have ajL:G<=F:=by
    have:1*G<=t*G:=aoR _ au;omega
   have JR:IntKind.wrap .u64 ((bC:Int)+(t:Int))=((bC+t:Nat):Int):=by rw[cS (by omega)];omega
   have ajM:((bC+t:Nat):Int).fdiv 4294967296=((bC+t:Nat):Int)/4294967296:=apk _ (by omega);have ajN:(G:Int).fdiv 4294967296=(G:Int)/4294967296:=apk _ (by omega);simp only[JR,ajM,ajN];refine⟨fun il=> ?_,fun il=>⟨by omega,by omega, ?_⟩⟩
   ·have tx:¬((G:Int)/4294967296=0):=by simpa using il
    have jY:D<G*val v:=aoZ xP (aoR _ (by omega))
    have JS:1<=G:=by
     rcases ap9 G with bc|bc
     ·rw[bc,apY]at jY;omega
     ·exact bc
    have pB:IntKind.wrap .u64 ((G:Int)-1)=((G-1:Nat):Int):=by rw[cS (by omega)];omega
    have o4:t*(G-1)+(bC+t)=F:=by
     have:t*G=t*(G-1)+t:=by rw[<-Nat.mul_succ];congr 1;omega
     omega
    have o5:D<(G-1+1)*val v:=by rw[show G-1+1=G by omega];exact jY
    simp only[pB];refine⟨fun ao=>⟨by first|rfl|trivial,by first|rfl|trivial,by first|rfl|trivial,G-1,rfl, ?_,o5, ?_⟩,fun ao=>⟨by first|rfl|trivial,by first|rfl|trivial,by first|rfl|trivial,⟨G-1,bC+t,rfl,rfl,o4, ?_,o5⟩, ?_⟩⟩
    ·have vu:¬(((bC+t:Nat):Int)/4294967296=0):=by simpa using ao
     refine ap1 (a:=t) ?_;omega
    ·have vu:¬(((bC+t:Nat):Int)/4294967296=0):=by simpa using ao
     have lU:G-1<4294967296:=by
      refine ap1 (a:=t) ?_;omega
     have j2:(G-1)*s<=(bC+t)*4294967296+iO:=by
      have aa:(G-1)*s<=4294967296*4294967296:=apG (by omega) (by omega);have ad:4294967296*4294967296<=(bC+t)*4294967296:=aoR _ (by omega);omega
     rw[pv,jP];exact wG o4 au rU lU j2
    ·have vu:((bC+t:Nat):Int)/4294967296=0:=by simpa using ao
     omega
    ·show((G-1:Nat):Int).toNat<(G:Int).toNat;omega
   ·have tx:(G:Int)/4294967296=0:=by simpa using il
    have Kv:IntKind.wrap .u64 ((G:Int)*(s:Int))=((G*s:Nat):Int):=by
     have:G*s<=4294967295*4294967295:=apG (by omega) (by omega);rw[<-apK,cS ⟨apz _,by omega⟩]
    have Kw:=Im (h:=bC) (l:=iO) dS vt;simp only[Kv,Kw];refine⟨fun aC=> ?_,fun aC=>⟨by first|rfl|trivial,by first|rfl|trivial,by first|rfl|trivial,G,rfl,by omega,rV, ?_⟩⟩
    ·simp only[aoG,ap_]at aC;have jY:D<G*val v:=by rw[pv,jP];exact PG Ax qs aC
     have JS:1<=G:=by
      rcases ap9 G with bc|bc
      ·rw[bc,apY]at jY;omega
      ·exact bc
     have pB:IntKind.wrap .u64 ((G:Int)-1)=((G-1:Nat):Int):=by rw[cS (by omega)];omega
     have o4:t*(G-1)+(bC+t)=F:=by
      have:t*G=t*(G-1)+t:=by rw[<-Nat.mul_succ];congr 1;omega
      omega
     have o5:D<(G-1+1)*val v:=by rw[show G-1+1=G by omega];exact jY
     simp only[pB];refine⟨fun ao=>⟨by first|rfl|trivial,by first|rfl|trivial,by first|rfl|trivial,G-1,rfl, ?_,o5, ?_⟩,fun ao=>⟨by first|rfl|trivial,by first|rfl|trivial,by first|rfl|trivial,⟨G-1,bC+t,rfl,rfl,o4, ?_,o5⟩, ?_⟩⟩
     ·have vu:¬(((bC+t:Nat):Int)/4294967296=0):=by simpa using ao
      refine ap1 (a:=t) ?_;omega
     ·have vu:¬(((bC+t:Nat):Int)/4294967296=0):=by simpa using ao
      have lU:G-1<4294967296:=by
       refine ap1 (a:=t) ?_;omega
      have j2:(G-1)*s<=(bC+t)*4294967296+iO:=by
       have aa:(G-1)*s<=4294967296*4294967296:=apG (by omega) (by omega);have ad:4294967296*4294967296<=(bC+t)*4294967296:=aoR _ (by omega);omega
      rw[pv,jP];exact wG o4 au rU lU j2
     ·have vu:((bC+t:Nat):Int)/4294967296=0:=by simpa using ao
      omega
     ·show((G-1:Nat):Int).toNat<(G:Int).toNat;omega
    ·simp only[aoF,ap_]at aC;rw[pv,jP];exact wG Ax au rU (by omega) (by omega)
  ·rintro g ⟨G,rfl,tx,rV,At⟩
   have ov:∃l,val u=l+4294967296^j*D/\l<4294967296^j:=⟨dw u j,by rw[<-Aw];exact mr u j,ru hu j⟩
   obtain⟨l,ov,az⟩:=ov
   have bm:∀p,j+n<p->u.getD p 0=0:=fun p aD=>by
    refine QL hu (m:=j+n+1) ?_ p (by omega);rw[show j+n+1=j+1+n by omega,aph];exact aoZ bG (ao3 _ (aqh tw))
   refine⟨fun A3 c i c2 nK=>nK=q/\bL c2/\c2.length=m+n/\∃C B i0:Nat,A3=B/\c=C/\i=i0/\i0<=n/\B<=1/\C<4294967296/\val c2+4294967296^j*(G*dw v i0)=val u+4294967296^(j+i0)*(C+B)/\∀p,j+n<p->c2.getD p 0=0,
    fun _ _ i _ _=>n-i.toNat,⟨by first|rfl|trivial,rfl,hu,nB,0,0,0,rfl,rfl,rfl,by omega,by omega,by omega,by rw[iD,ao6,ao6,ao6],bm⟩, ?_⟩
   rintro A3 c i c2 nK ⟨rfl,jn,u2,C,B,i,rfl,rfl,rfl,fh,eu,l4,jZ,dn⟩;refine⟨fun h=> ?_,fun h=> ?_⟩
   ·simp only[aoG]at h;have Kx:IntKind.wrap .i64 ((j:Int)+(i:Int))=((j+i:Nat):Int):=by rw[bP (by omega)];omega
    have Ay:IntKind.wrap .i64 ((i:Int)+1)=((i+1:Nat):Int):=by rw[bP (by omega)];omega
    simp only[Kx,Ay,aoD,iu jn];have pn:=fV ow i;have zR:=fV jn (j+i)
    obtain⟨d,ku⟩:∃d,lm v i=d:=⟨_,rfl⟩
    obtain⟨fo,mB⟩:∃d,lm c2 (j+i)=d:=⟨_,rfl⟩
    rw[ku]at pn;rw[mB]at zR;simp only[ku,mB];obtain⟨t1,lo,tS,st,ni,I2,Fx,hV,t2,cR,zK,tz,ox,t4⟩:=OM (g:=G) (d:=d) (c:=C) (b:=B) (u:=fo) tx pn l4 eu zR;have ajO:G*d<=4294967295*4294967295:=apG (by omega) (by omega);have w1:IntKind.wrap .u64 (d:Int)=(d:Int):=cS (by omega);have dq:IntKind.wrap .u64 ((G:Int)*(d:Int))=((G*d:Nat):Int):=by rw[<-apK,cS ⟨apz _,by omega⟩]
    have bY:IntKind.wrap .u64 ((C:Int)+((G*d:Nat):Int))=((C+G*d:Nat):Int):=by rw[<-aqN,cS ⟨apz _,by omega⟩]
    have kA:=RH t1;rw[I2]at kA;have x7:((C+G*d:Nat):Int).fdiv 4294967296=(((C+G*d)/4294967296:Nat):Int):=by rw[apk _ (by omega),aqu];rfl
    obtain⟨cM,cA⟩:=xs (u:=(fo:Int)) (l:=(lo:Int)) (b:=(B:Int)) (by omega) (by omega) (by omega);rw[tz]at cM;rw[cR]at cA;rw[Fx]at x7;simp only[w1,dq,bY,kA,x7,cM,cA];have kt:=me c2 (j+i) (st:Int) (by omega);rw[show(c2.getD (j+i) 0).toNat=fo from mB,aoD]at kt;have nD:dw v (i+1)=dw v i+4294967296^i*d:=by rw[gy,show(v.getD i 0).toNat=d from ku]
    have kk:=QO kt jZ t4;refine⟨by omega,by omega,by omega,by omega,by omega,by omega,by first|rfl|trivial,⟨by first|rfl|trivial,jn.set _ ⟨by omega,by omega⟩,by rw[aoT];exact u2,tS,ni,i+1,rfl,rfl,rfl,by omega,ox,t2, ?_,fun p aD=> ?_⟩,by show n-((i+1:Nat):Int).toNat<n-(i:Int).toNat;omega⟩
    ·have pj:4294967296^j*(G*dw v (i+1))=4294967296^j*(G*dw v i)+4294967296^(j+i)*(G*d):=by
      rw[nD,aoS,aoS,aph,apF G,ao4]
     have vv:4294967296^(j+(i+1))*(tS+ni)=4294967296^(j+i)*(4294967296*(tS+ni)):=by
      rw[<-apA,ao2,ao4]
     rw[pj,vv];exact kk
    ·rw[e1,aoA (by omega)];exact dn p aD
   ·simp only[aoF]at h;obtain rfl:i=n:=by omega
    rw[hE v (by omega)]at jZ;have bn:=fV jn (j+i);simp only[iu jn]
    obtain⟨y,JT⟩:∃y,lm c2 (j+i)=y:=⟨_,rfl⟩
    rw[JT]at bn;simp only[JT];obtain⟨cM,cA⟩:=xs (u:=(y:Int)) (l:=(C:Int)) (b:=(B:Int)) (by omega) (by omega) (by omega);simp only[cM,cA];have kt:=me c2 (j+i) (((y:Int)-(C:Int)-(B:Int))%4294967296) (by omega);rw[show(c2.getD (j+i) 0).toNat=y from JT]at kt;refine⟨by omega,by omega,by omega,by omega,fun g JU Fy=>∃Q:Nat,g=Q/\Fy=nK/\ajG u JU j i (val v) Q,⟨fun ak=> ?_,fun ak=> ?_⟩, ?_⟩
    ·have JV:y<C+B:=by
      by_cases aC:(y:Int)-C-B<0
      ·omega
      ·rw[aoA aC]at ak;simp at ak
     rw[show(((y:Int)-(C:Int)-(B:Int))%4294967296)=((y+4294967296-C-B:Nat):Int) by omega]at kt;simp only[show(((y:Int)-(C:Int)-(B:Int))%4294967296)=((y+4294967296-C-B:Nat):Int) by omega];rw[aoD]at kt;have I3:bL (c2.set (j+i) ((y+4294967296-C-B:Nat):Int)):=jn.set _ ⟨by omega,by omega⟩;have SR:(c2.set (j+i) ((y+4294967296-C-B:Nat):Int)).length=m+i:=by rw[aoT];exact u2
     have na:∀p,j+i<p->(c2.set (j+i) ((y+4294967296-C-B:Nat):Int)).getD p 0=0:=fun p aD=>by
      rw[e1,aoA (by omega)];exact dn p aD
     obtain⟨lg,o_⟩:∃lg,c2.set (j+i) ((y+4294967296-C-B:Nat):Int)=lg:=⟨_,rfl⟩
     rw[o_]at kt I3 SR na;simp only[o_];have mA:val lg<4294967296^(j+i)*4294967296:=by rw[<-ao2];exact DI I3 (m:=j+i+1) fun p aD=>na p (by omega)
     obtain⟨g3,g1,g7,g6,g5⟩:=adq jZ kt JV (by omega) mA ov At;have pB:IntKind.wrap .u64 ((G:Int)-1)=((G-1:Nat):Int):=by rw[cS (by omega)];omega
     simp only[pB]
     refine⟨fun c i3 ej cV=>cV=nK/\bL ej/\ej.length=m+i/\∃hB i0:Nat,c=hB/\i3=i0/\i0<=i/\hB<=1/\val ej+4294967296^(j+i0)*hB=val lg+4294967296^j*dw v i0/\∀p,j+i<p->ej.getD p 0=0,fun _ i3 _ _=>i-i3.toNat,
      ⟨by first|rfl|trivial,by first|rfl|trivial,I3,SR,0,0,rfl,rfl,by omega,by omega,by rw[iD,ao6,ao6],na⟩, ?_⟩
     rintro c i3 ej cV ⟨rfl,nf,zS,hB,i3,rfl,rfl,ajP,TP,uQ,Az⟩;refine⟨fun ax=> ?_,fun ax=> ?_⟩
     ·simp only[aoG]at ax;have tN:IntKind.wrap .i64 ((j:Int)+(i3:Int))=((j+i3:Nat):Int):=by rw[bP (by omega)];omega
      have JW:IntKind.wrap .i64 ((i3:Int)+1)=((i3+1:Nat):Int):=by rw[bP (by omega)];omega
      simp only[tN,JW,aoD,iu nf];have pn:=fV ow i3;have zR:=fV nf (j+i3)
      obtain⟨d,ku⟩:∃d,lm v i3=d:=⟨_,rfl⟩
      obtain⟨fo,mB⟩:∃d,lm ej (j+i3)=d:=⟨_,rfl⟩
      rw[ku]at pn;rw[mB]at zR;simp only[ku,mB]
      have w1:IntKind.wrap .u64 (hB+IntKind.wrap .u64 (IntKind.wrap .u64 (fo:Int)+IntKind.wrap .u64 (d:Int)))=((hB+(fo+d):Nat):Int):=by
       rw[cS (x:=(d:Int)) (by omega),cS (x:=(fo:Int)) (by omega),cS (x:=(fo:Int)+(d:Int)) (by omega),cS (by omega)];omega
      have dq:((hB+(fo+d):Nat):Int).fdiv 4294967296=(((hB+(fo+d))/4294967296:Nat):Int):=by rw[apk _ (by omega),aqu];rfl
      have bY:IntKind.wrap .u32 ((hB+(fo+d):Nat):Int)=(((hB+(fo+d))%4294967296:Nat):Int):=by rw[kf];omega
      simp only[w1,dq,bY];have cR:(hB+(fo+d))%4294967296<4294967296:=apm _ (by decide);have zT:=me ej (j+i3) (((hB+(fo+d))%4294967296:Nat):Int) (by omega);rw[show(ej.getD (j+i3) 0).toNat=fo from mB,aoD]at zT;have nD:dw v (i3+1)=dw v i3+4294967296^i3*d:=by rw[gy,show(v.getD i3 0).toNat=d from ku]
      have kk:=QP (T:=(hB+(fo+d))/4294967296) (d:=d) zT uQ (by omega);refine⟨by omega,by omega,by omega,by omega,by omega,by omega,by first|rfl|trivial,⟨by first|rfl|trivial,nf.set _ ⟨by omega,by omega⟩,by rw[aoT];exact zS,(hB+(fo+d))/4294967296,i3+1,rfl,rfl,by omega,by omega, ?_,fun p aD=> ?_⟩,by show i-((i3+1:Nat):Int).toNat<i-(i3:Int).toNat;omega⟩
      ·have pj:4294967296^j*dw v (i3+1)=4294967296^j*dw v i3+4294967296^(j+i3)*d:=by
        rw[nD,aoS,aph,ao4]
       have vv:4294967296^(j+(i3+1))*((hB+(fo+d))/4294967296)=4294967296^(j+i3)*(4294967296*((hB+(fo+d))/4294967296)):=by
        rw[<-apA,ao2,ao4]
       rw[pj,vv];exact kk
      ·rw[e1,aoA (by omega)];exact Az p aD
     ·simp only[aoF]at ax;obtain rfl:i3=i:=by omega
      rw[hE v (by omega)]at uQ;have TQ:=fV nf (j+i3);simp only[iu nf]
      obtain⟨FL,EV⟩:∃y,lm ej (j+i3)=y:=⟨_,rfl⟩
      rw[EV]at TQ;simp only[EV];have I0:=mr ej (j+i3)
      have ko:er ej (j+i3+1)=0:=by
       have:=HE (a:=ej) (i:=j+i3+1) (V:=1) (by rw[ao_];exact DI nf fun p aD=>Az p (by omega));omega
      rw[mu,ko,ao6,ao0,EV]at I0;have SS:=me ej (j+i3) 0 (by omega);rw[show(ej.getD (j+i3) 0).toNat=FL from EV,show Int.toNat 0=0 from rfl,ao6,ao0]at SS;obtain⟨a7,bl,bH⟩:=abR g3 g5 g6 g7 uQ I0 (ru nf _) TQ TP SS
      have w1:IntKind.wrap .u32 ((FL:Int)+IntKind.wrap .u32 (hB:Int))=0:=by
       rw[ia (x:=(hB:Int)) (by omega),kf];omega
      simp only[w1];exact⟨by omega,by omega,by omega,by omega,by first|rfl|trivial,G-1,rfl,by first|rfl|trivial,nf.set _ (by omega),by rw[aoT,zS,nB],by omega,bl,bH⟩
    ·have JV:C+B<=y:=by
      by_cases aC:(y:Int)-C-B<0
      ·rw[aoB aC]at ak;simp at ak
      ·omega
     rw[show(((y:Int)-(C:Int)-(B:Int))%4294967296)=((y-C-B:Nat):Int) by omega]at kt⊢;rw[aoD]at kt;obtain⟨f1,f2⟩:=adp jZ kt JV ov az rV;exact⟨by first|rfl|trivial,G,rfl,rfl,jn.set _ ⟨by omega,by omega⟩,by rw[aoT,u2,nB],tx,f1,f2⟩
    ·rintro g JU Fy ⟨Q,rfl,rfl,AA⟩;have dH:=AA.ajH;have amk:IntKind.wrap .u32 (Q:Int)=(Q:Int):=ia (by omega);have dE:IntKind.wrap .i64 ((j:Int)-1)=(j:Int)-1:=bP (by omega);rw[amk,dE];have xQ:=Au j (by omega);have AB:=me Fy j (Q:Int) (by omega);rw[xQ,show Int.toNat 0=0 from rfl,ao6,ao0,aoD]at AB
     have agw:val im=(val Fy+4294967296^j*Q)*val v+val JU:=by
      rw[heq,<-AA.eq,aoX,ao4];omega
     refine⟨by omega,by omega,by first|rfl|trivial,⟨by omega,by omega,AA.TO,by rw[AA.len];exact nB,aZ.set _ ⟨by omega,by omega⟩,by rw[aoT];exact vf,by rw[AB];exact agw, ?_,fun p aD=> ?_⟩, ?_⟩
     ·rw[show((j:Int)-1+1).toNat=j by omega];exact AA.lt
     ·rw[e1,aoA (by omega)];exact Au p (by omega)
     ·show((j:Int)-1+1).toNat<((j:Int)+1).toNat;omega
 ·simp only[aoF]at aK;obtain rfl:j=-1:=by omega
  rw[show((-1:Int)+1).toNat=0 from rfl,aqb,apX]at bG
  have Ak:val im/val v=val q:=by
   rw[heq,apa,Nat.mul_add_div (by omega),aqf bG,ao0]
  have xy:val im%val v=val u:=by
   rw[heq,apa,aqC,apw bG]
  have dS:val u/2^k=val a%val b:=by rw[<-xy,<-ic,Nat.mul_div_cancel _ (apx k)]
  refine⟨by omega,by omega,by omega,fun i c2 nK r=>c2=u/\nK=q/\bL r/\r.length=n/\∃i0:Nat,i=i0/\i0<=n/\dw r i0=val u/2^k%4294967296^i0,fun i _ _ _=>n-i.toNat,⟨by first|rfl|trivial,rfl,rfl,bL.nt _,by simp,0,rfl,by omega,by rw[iD,aqb,Nat.mod_one]⟩, ?_⟩;rintro i c2 nK r ⟨rfl,rfl,ao,z_,i,rfl,fh,JX⟩;refine⟨fun h=> ?_,fun h=> ?_⟩
  ·simp only[aoG]at h;have Ay:IntKind.wrap .i64 ((i:Int)+1)=((i+1:Nat):Int):=by rw[bP (by omega)];omega
   simp only[Ay,aoD,iu hu,Iz (fV hu (i+1)) (fV hu i),show min k 64=k by omega];have jo:(2:Int)^k=((2^k:Nat):Int):=by simp
   have w1:Int.fdiv ((lm c2 (i+1)*4294967296+lm c2 i:Nat):Int) ((2:Int)^k)=(((lm c2 (i+1)*4294967296+lm c2 i)/2^k:Nat):Int):=by
    rw[jo,apk _ (apz _),aqu]
   have dq:IntKind.wrap .u32 (((lm c2 (i+1)*4294967296+lm c2 i)/2^k:Nat):Int)=(((lm c2 (i+1)*4294967296+lm c2 i)/2^k%4294967296:Nat):Int):=by
    rw[kf,aqH];rfl
   simp only[w1,dq]
   have IB:(lm c2 (i+1)*4294967296+lm c2 i)/2^k%4294967296=val c2/2^k/4294967296^i%4294967296:=by
    rw[M0 (A:=er c2 (i+2)) ET,<-mu,<-mu,<-Il hu i,Nat.div_div_eq_div_mul,Nat.div_div_eq_div_mul,apa]
   rw[IB];have jq:val c2/2^k/4294967296^i%4294967296<4294967296:=apm _ (by decide);refine⟨by omega,by omega,by omega,by omega,by omega,by omega,by omega,by first|rfl|trivial,⟨by first|rfl|trivial,by first|rfl|trivial,ao.set _ ⟨apz _,by omega⟩,by rw[aoT];exact z_,i+1,rfl,by omega, ?_⟩,by show n-((i+1:Nat):Int).toNat<n-(i:Int).toNat;omega⟩;rw[gy,ri _ _ _ _ (aoH _),e1,aoB ⟨rfl,by omega⟩,aoD,JX,ao2,Nat.mod_mul]
  ·simp only[aoF]at h;obtain rfl:i=n:=by omega
   rw[hE r (by omega),apw (apN (aqZ _ _) (Nat.lt_trans bG tw)),dS]at JX;refine⟨⟨aZ,by omega⟩, ?_⟩;rintro x rfl;refine⟨⟨ao,by omega⟩, ?_⟩;rintro hA rfl;rw[JX,<-Ak,<-j1];exact ae
end ab
end
section
open Go Go.aj
namespace ab
def NW:List Int->List Int->(R->Prop)->Prop:=
 fun a b K=>(bL a/\a.length<=(1000000000:Nat))/\(bL b/\b.length<=(1000000000:Nat))/\(decide (↑(aO (val b)).length=(0:Int))=true->K (R.tup [R.d (U.af .u32 []),R.d (U.af .u32 []),R.d (U.int .i64 (3:Int))]))/\(decide (↑(aO (val b)).length=(0:Int))=false->(bw (aO (val a))/\bw (aO (val b)))/\(decide (cmp (val (aO (val a))) (val (aO (val b)))<(0:Int))=true->(aO (val a)).length<=(100000000:Nat)/\K (R.tup [R.d (U.af .u32 []),R.d (U.af .u32 (aO (val a))),R.d (U.int .i64 (0:Int))]))/\(decide (cmp (val (aO (val a))) (val (aO (val b)))<(0:Int))=false->(decide (↑(aO (val b)).length=(1:Int))=true->(0:Int)<=(0:Int)/\(0:Int)<↑(aO (val b)).length/\(bw (aO (val a))/\L ((aO (val b)).getD (0:Nat) (0:Int))/\(0:Int)<(aO (val b)).getD (0:Nat) (0:Int))/\((0:Int)<=aW ↑(val (aO (val a))%((aO (val b)).getD (0:Nat) (0:Int)).toNat)/\aW ↑(val (aO (val a))%((aO (val b)).getD (0:Nat) (0:Int)).toNat)<(18446744073709551616:Int))/\K (R.tup [R.d (U.af .u32 (aO (val (aO (val a))/((aO (val b)).getD (0:Nat) (0:Int)).toNat))),R.d (U.af .u32 (aO (aW ↑(val (aO (val a))%((aO (val b)).getD (0:Nat) (0:Int)).toNat)).toNat)),R.d (U.int .i64 (0:Int))]))/\(decide (↑(aO (val b)).length=(1:Int))=false->(bw (aO (val a))/\bw (aO (val b))/\Norm (aO (val a))/\Norm (aO (val b))/\(2:Nat)<=(aO (val b)).length/\val (aO (val b))<=val (aO (val a)))/\K (R.tup [R.d (U.af .u32 (aO (val (aO (val a))/val (aO (val b))))),R.d (U.af .u32 (aO (val (aO (val a))%val (aO (val b))))),R.d (U.int .i64 (0:Int))]))))
end ab
end
section
open Go Go.aj
namespace ab
theorem aax (a b:List Int)(K:R->Prop)(h:CK.T [.d (.af .u32 a), .d (.af .u32 b)] K):NW a b K:=by
 obtain⟨⟨aS,ah⟩,ae⟩:=h;have hk:=jx aS;have k1:=jx ah;have lL:=aS.2;have et:=ah.2;unfold NW aW;simp only[dV];refine⟨⟨aS.1,by omega⟩,⟨ah.1,by omega⟩,fun h=> ?_,fun h=> ?_⟩
 ·simp only[aoG]at h;have bc:val b=0:=zl (by omega);simp only[bc,apc]at ae;exact ae
 ·simp only[aoF]at h;have bc:val b≠0:=fun e=>h (by rw[e,kC];rfl);simp only[aoA bc]at ae;refine⟨⟨⟨gx _,by omega⟩,⟨gx _,by omega⟩⟩,fun aa=>⟨by omega, ?_⟩,fun aa=>⟨fun ad=> ?_,fun ad=> ?_⟩⟩
  ·simp only[aoG]at aa
   have bG:val a<val b:=by
    unfold cmp at aa;split at aa
    ·assumption
    ·split at aa<;>omega
   rw[aqf bG,apw bG,kC]at ae;exact ae
  ·simp only[aoG]at ad
   have eu:((aO (val b)).getD 0 0).toNat=val b:=by
    have:=hE (aO (val b)) (i:=1) (by omega);rw[gy,iD,dV]at this;simpa using this
   have JY:=gx (val b) 0;rw[eu];have hm:val a%val b<val b:=apm _ (by omega);rw[cS (by omega),aoD];exact⟨by omega,by omega,⟨⟨gx _,by omega⟩,JY,by omega⟩,⟨by omega,by omega⟩,ae⟩
  ·simp only[aoF]at aa ad
   have jc:val b<=val a:=by
    unfold cmp at aa;split at aa
    ·exact absurd (by decide) aa
    ·omega
   exact⟨⟨⟨gx _,by omega⟩,⟨gx _,by omega⟩,G2 _,G2 _,by omega,jc⟩,ae⟩
end ab
end
section
open Go Go.aj
namespace ab
def kb (n k:Nat):Prop:=n<4294967296^k
theorem kb.of {a:List Int}(h:bL a){k:Nat}(ae:a.length<=k):kb (val a) k:=aoZ (iE h) (apd (by decide) ae)
theorem kb.cx {n k:Nat}(h:kb n k)(ae:k<=100000000):bw (aO n):=⟨gx n,aoV (hZ.2 h) ae⟩
theorem kb.len {n k:Nat}(h:kb n k){j:Nat}(ae:k<=j):(aO n).length<=j:=aoV (hZ.2 h) ae
theorem kb.add {x y j k:Nat}(h:kb x j)(ad:kb y k):kb (x+y) (j+k+1):=by
 unfold kb at*;have ax:4294967296^j<=4294967296^(j+k):=apd (by decide) (by omega);have aV:4294967296^k<=4294967296^(j+k):=apd (by decide) (by omega);rw[ao2];omega
theorem kb.mul {x y j k:Nat}(h:kb x j)(ad:kb y k):kb (x*y) (j+k):=by
 unfold kb at*;rw[aph];exact Nat.mul_lt_mul'' h ad
theorem kb.le {x y k:Nat}(h:kb y k)(ak:x<=y):kb x k:=apN ak h
theorem ae1 (p k:Nat)(aD:p<9223372036854775808)(ae:2^k<=4611686018427387904):cP .and .i64 (p:Int) ((2^k-1:Nat):Int)=((p%2^k:Nat):Int):=by
 have aA:((BitVec.ofInt 64 (p:Int))&&&(BitVec.ofInt 64 ((2^k-1:Nat):Int))).toNat=p%2^k:=by
  rw[BitVec.toNat_and,aqw,aqw,aqI,aqI,apw (by omega),apw (by omega),Nat.and_two_pow_sub_one_eq_mod]
 show IntKind.wrap .i64 _=_;have aG:((BitVec.ofInt (IntKind.i64).bits (p:Int))&&&(BitVec.ofInt (IntKind.i64).bits ((2^k-1:Nat):Int))).toNat=p%2^k:=aA;have:p%2^k<2^k:=apm _ (apx k);rw[aG,bP (by omega)]
end ab
namespace ab
end ab
end
section
open Go Go.aj
namespace ab
def QQ:List Int->List Int->(R->Prop)->Prop:=
 fun a b K=>bw a/\∀x,x=aO (val a)->bw b/\∀aX,aX=aO (val b)->∃(aQ:List Int->List Int->Prop),∃(m:List Int->List Int->Nat),aQ x aX/\∀(v0 v1:List Int),aQ v0 v1->(decide ((2:Int)<↑v0.length)=true->(decide (↑v1.length=(0:Int))=true->K (R.d (U.af .u32 v0)))/\(decide (↑v1.length=(0:Int))=false->(bw v0/\bw v1)/\∀x,(x=if val v1=(0:Nat)then[]else aO (val v0/val v1))->∀x,(x=if val v1=(0:Nat)then[]else aO (val v0%val v1))->∀aU,(aU=if val v1=(0:Nat)then(3:Int)else(0:Int))->aQ v1 x/\m v1 x<m v0 v1))/\(decide ((2:Int)<↑v0.length)=false->(decide ((2:Int)<↑v1.length)=true->(decide (↑v1.length=(0:Int))=true->K (R.d (U.af .u32 v0)))/\(decide (↑v1.length=(0:Int))=false->(bw v0/\bw v1)/\∀x,(x=if val v1=(0:Nat)then[]else aO (val v0/val v1))->∀x,(x=if val v1=(0:Nat)then[]else aO (val v0%val v1))->∀aU,(aU=if val v1=(0:Nat)then(3:Int)else(0:Int))->aQ v1 x/\m v1 x<m v0 v1))/\(decide ((2:Int)<↑v1.length)=false->(bL v0/\v0.length<=(2:Nat))/\∀x,x=↑(val v0)->(bL v1/\v1.length<=(2:Nat))/\∀aU,aU=↑(val v1)->∃(aQ:Int->Int->Prop),∃(m:Int->Int->Nat),aQ x aU/\∀(bq v9:Int),aQ bq v9->((!decide (v9=(0:Int)))=true->¬v9=(0:Int)/\aQ v9 (bq.tmod v9)/\m v9 (bq.tmod v9)<m bq v9)/\((!decide (v9=(0:Int)))=false->((0:Int)<=bq/\bq<(18446744073709551616:Int))/\∀x,x=aO bq.toNat->K (R.d (U.af .u32 x)))))
def No:List Int->(ag->Prop)->Prop:=
 fun a K=>∃(aQ:Int->Prop),∃(m:Int->Nat),aQ ↑a.length/\∀(v3:Int),aQ v3->(decide ((0:Int)<v3)=true->(0:Int)<=ai (v3-(1:Int))/\ai (v3-(1:Int))<↑a.length/\(decide (a.getD (ai (v3-(1:Int))).toNat (0:Int)=(0:Int))=true->aQ (ai (v3-(1:Int)))/\m (ai (v3-(1:Int)))<m v3)/\(decide (a.getD (ai (v3-(1:Int))).toNat (0:Int)=(0:Int))=false->(0:Int)<=v3/\v3<=↑a.length/\↑(List.take v3.toNat a).length*(4:Int)<=(70368744177664:Int)/\K (ag.af .u32 (List.take v3.toNat a))))/\(decide ((0:Int)<v3)=false->(0:Int)<=v3/\v3<=↑a.length/\↑(List.take v3.toNat a).length*(4:Int)<=(70368744177664:Int)/\K (ag.af .u32 (List.take v3.toNat a)))
def NX:List Int->List Int->(R->Prop)->Prop:=
 fun(a b:List Int) (K:R->Prop)=>ab.bw a/\ab.bw b/\((!decide (aP (ab.aO (ab.val a))=aP (ab.aO (ab.val b))))=true->(decide (aP (ab.aO (ab.val a))<aP (ab.aO (ab.val b)))=true->K (R.d (U.int IntKind.i64 (-1:Int))))/\(decide (aP (ab.aO (ab.val a))<aP (ab.aO (ab.val b)))=false->K (R.d (U.int IntKind.i64 (1:Int)))))/\((!decide (aP (ab.aO (ab.val a))=aP (ab.aO (ab.val b))))=false->∃(aQ:Int->Prop),∃(m:Int->Nat),((false,ag.af IntKind.u32 (ab.aO (ab.val a)))=(false,ag.af IntKind.u32 (ab.aO (ab.val a)))/\(false,ag.af IntKind.u32 (ab.aO (ab.val b)))=(false,ag.af IntKind.u32 (ab.aO (ab.val b)))/\aQ (ai (aP (ab.aO (ab.val a))-(1:Int))))/\∀(v5:Int),aQ v5->(decide ((0:Int)<=v5)=true->(0:Int)<=v5/\v5<aP (ab.aO (ab.val a))/\(0:Int)<=v5/\v5<aP (ab.aO (ab.val b))/\(decide (List.getD (ab.aO (ab.val a)) (Int.toNat v5) (0:Int)<List.getD (ab.aO (ab.val b)) (Int.toNat v5) (0:Int))=true->K (R.d (U.int IntKind.i64 (-1:Int))))/\(decide (List.getD (ab.aO (ab.val a)) (Int.toNat v5) (0:Int)<List.getD (ab.aO (ab.val b)) (Int.toNat v5) (0:Int))=false->(0:Int)<=v5/\v5<aP (ab.aO (ab.val a))/\(0:Int)<=v5/\v5<aP (ab.aO (ab.val b))/\(decide (List.getD (ab.aO (ab.val b)) (Int.toNat v5) (0:Int)<List.getD (ab.aO (ab.val a)) (Int.toNat v5) (0:Int))=true->K (R.d (U.int IntKind.i64 (1:Int))))/\(decide (List.getD (ab.aO (ab.val b)) (Int.toNat v5) (0:Int)<List.getD (ab.aO (ab.val a)) (Int.toNat v5) (0:Int))=false->(false,ag.af IntKind.u32 (ab.aO (ab.val a)))=(false,ag.af IntKind.u32 (ab.aO (ab.val a)))/\(false,ag.af IntKind.u32 (ab.aO (ab.val b)))=(false,ag.af IntKind.u32 (ab.aO (ab.val b)))/\aQ (ai (v5-(1:Int)))/\m (ai (v5-(1:Int)))<m v5)))/\(decide ((0:Int)<=v5)=false->K (R.d (U.int IntKind.i64 (0:Int)))))
def M1:List Int->Int->(R->Prop)->Prop:=
 fun(a:List Int) (d:Int) (K:R->Prop)=>(0:Int)<=aP a/\aP a<=aP a/\aP a*(4:Int)<=(281474976710656:Int)/\∃(aQ:Int->Int->List Int->Prop),∃(m:Int->Int->List Int->Nat),aQ (0:Int) (ai (aP a-(1:Int))) (List.replicate (Int.toNat (aP a)) (0:Int))/\∀(cp bq:Int) (aq:List Int),aQ cp bq aq->(decide ((0:Int)<=bq)=true->(0:Int)<=bq/\bq<aP a/\¬aW d=(0:Int)/\(0:Int)<=bq/\bq<aP aq/\¬aW d=(0:Int)/\aQ (Int.tmod (cP BinOp.or IntKind.u64 (aW (cp*(4294967296:Int))) (aW (List.getD a (Int.toNat bq) (0:Int)))) (aW d)) (ai (bq-(1:Int))) (List.set aq (Int.toNat bq) (bY (aW (Int.tdiv (cP BinOp.or IntKind.u64 (aW (cp*(4294967296:Int))) (aW (List.getD a (Int.toNat bq) (0:Int)))) (aW d)))))/\m (Int.tmod (cP BinOp.or IntKind.u64 (aW (cp*(4294967296:Int))) (aW (List.getD a (Int.toNat bq) (0:Int)))) (aW d)) (ai (bq-(1:Int))) (List.set aq (Int.toNat bq) (bY (aW (Int.tdiv (cP BinOp.or IntKind.u64 (aW (cp*(4294967296:Int))) (aW (List.getD a (Int.toNat bq) (0:Int)))) (aW d)))))<m cp bq aq)/\(decide ((0:Int)<=bq)=false->ab.bw aq/\K (R.tup [R.d (U.af IntKind.u32 (ab.aO (ab.val aq))),R.d (U.int IntKind.u32 (bY cp))]))
end ab
end
section
open Go Go.aj
namespace ab
theorem Ck {A B:Nat}:Nat.gcd B (A%B)=Nat.gcd A B:=by
 rw[Nat.gcd_comm A B,Nat.gcd_rec B A,Nat.gcd_comm]
theorem aer (a b:List Int)(K:R->Prop)(h:EE.T [.d (.af .u32 a), .d (.af .u32 b)] K):QQ a b K:=by
 obtain⟨⟨aS,ah⟩,ae⟩:=h;unfold QQ
 obtain⟨G,il⟩:∃G,Nat.gcd (val a) (val b)=G:=⟨_,rfl⟩
 rw[il]at ae;refine⟨aS, ?_⟩;rintro x rfl;refine⟨ah, ?_⟩;rintro y rfl;have hk:=jx aS;have k1:=jx ah;have lL:=aS.2;have et:=ah.2;refine⟨fun u v=>∃A B:Nat,u=aO A/\v=aO B/\Nat.gcd A B=G/\(aO A).length<=100000000/\(aO B).length<=100000000,fun u v=>val v,⟨val a,val b,rfl,rfl,il,by omega,by omega⟩, ?_⟩;rintro u v ⟨A,B,rfl,rfl,rX,dM,eu⟩;have US:bw (aO A):=⟨gx _,dM⟩;have UT:bw (aO B):=⟨gx _,eu⟩;simp only[dV]
 have zero:∀{n:Nat},decide ((Nat.cast:Nat->Int) (aO n).length=0)=true->n=0:=fun h=>by
  simp only[aoG]at h;exact zl (by omega)
 have UU:∀{n:Nat},decide ((Nat.cast:Nat->Int) (aO n).length=0)=false->n≠0:=fun h e=>by
  subst e;rw[kC]at h;simp at h
 have stop:B=0->K (.d (.af .u32 (aO A))):=fun h=>by
  subst h;rw[Nat.gcd_zero_right]at rX;rw[rX];exact ae
 have bG:B≠0->A%B<B:=fun h=>apm _ (by omega)
 have hlen:B≠0->(aO (A%B)).length<=100000000:=fun h=>by
  refine aoV (hZ.2 ?_) eu;exact Nat.lt_trans (bG h) (hZ.1 (aoH _))
 refine⟨fun _=>⟨fun h=>stop (zero h),fun h=>⟨⟨US,UT⟩, ?_⟩⟩,fun aa=>⟨fun _=>⟨fun h=>stop (zero h),fun h=>⟨⟨US,UT⟩, ?_⟩⟩,fun ad=> ?_⟩⟩
 ·have pw:=UU h;rintro q rfl r rfl e rfl;rw[aoA pw];exact⟨⟨B,A%B,rfl,rfl,by rw[Ck];exact rX,eu,hlen pw⟩,by rw[dV];exact bG pw⟩
 ·have pw:=UU h;rintro q rfl r rfl e rfl;rw[aoA pw];exact⟨⟨B,A%B,rfl,rfl,by rw[Ck];exact rX,eu,hlen pw⟩,by rw[dV];exact bG pw⟩
 ·simp only[aoF]at aa ad;have ky:(4294967296:Nat)^2=18446744073709551616:=by decide
  have JF:A<18446744073709551616:=by rw[<-ky];exact hZ.1 (by omega)
  have tz:B<18446744073709551616:=by rw[<-ky];exact hZ.1 (by omega)
  refine⟨⟨gx _,by omega⟩, ?_⟩;rintro x rfl;refine⟨⟨gx _,by omega⟩, ?_⟩;rintro y rfl;refine⟨fun x y=>∃p q:Nat,x=p/\y=q/\p<18446744073709551616/\q<18446744073709551616/\Nat.gcd p q=G,fun x y=>y.toNat,⟨A,B,rfl,rfl,JF,tz,rX⟩, ?_⟩;rintro x y ⟨p,q,rfl,rfl,aD,aZ,bg⟩;refine⟨fun h=> ?_,fun h=> ?_⟩
  ·have vm:¬((q:Int)=0):=by simpa using h
   have au:Int.tmod (p:Int) (q:Int)=((p%q:Nat):Int):=by rw[aqY (by omega),aqH]
   have hm:p%q<q:=apm _ (by omega);rw[au];refine⟨vm,⟨q,p%q,rfl,rfl,aZ,by omega,by rw[Ck];exact bg⟩, ?_⟩;show((p%q:Nat):Int).toNat<(q:Int).toNat;rw[aoD,aoD];exact hm
  ·have vm:((q:Int)=0):=by simpa using h
   obtain rfl:q=0:=by omega
   rw[Nat.gcd_zero_right]at bg;refine⟨⟨by omega,by omega⟩, ?_⟩;rintro r rfl;rw[aoD,bg];exact ae
theorem aaB {a:List Int}{k:Nat}(ae:0<k)(_:k<=a.length)(h:a.getD (k-1) 0=0):val (a.take (k-1))=val (a.take k):=by
 have:=gy a (k-1);rw[show k-1+1=k by omega,h]at this;unfold dw at this;rw[this];simp
theorem Y0 (a:List Int)(K:ag->Prop)(h:Cb.T [.d (.af .u32 a)] K):No a K:=by
 obtain⟨aS,ae⟩:=h;have hk:=aS.2;unfold No ai;refine⟨fun i=>∃k:Nat,i=k/\k<=a.length/\val (a.take k)=val a,fun i=>i.toNat,⟨a.length,rfl,aoH _,by rw[ap2]⟩, ?_⟩;rintro i ⟨k,rfl,ti,aM⟩
 have pb:∀j,j<k->(a.take k).getD j 0=a.getD j 0:=fun j aK=>by simp[aoC,aK]
 refine⟨fun h=> ?_,fun h=> ?_⟩
 ·simp only[aoG]at h;have e:IntKind.wrap .i64 ((k:Int)-1)=((k-1:Nat):Int):=by rw[bP (by omega)];omega
  rw[e];simp only[aoD];refine⟨by omega,by omega,fun bc=> ?_,fun bc=>⟨by omega,by omega, ?_, ?_⟩⟩
  ·simp only[aoG]at bc;exact⟨⟨k-1,rfl,by omega,by rw[aaB (by omega) ti bc,aM]⟩,by show((k-1:Nat):Int).toNat<(k:Int).toNat;omega⟩
  ·rw[apf];omega
  ·simp only[aoF]at bc;rw[<-yE (aS.1.take k) (Bs (.inr ?_)),aM]
   ·exact ae
   ·rw[apf,aqV ti,pb _ (by omega)];exact bc
 ·simp only[aoF]at h;obtain rfl:k=0:=by omega
  simp only[aoD];refine⟨by omega,by omega,by rw[apf];omega, ?_⟩;rw[<-yE (aS.1.take 0) (Bs (.inl (by simp))),aM];exact ae
theorem X5 (a:List Int)(d:Int)(K:R->Prop)(h:BV.T [.d (.af .u32 a), .d (.int .u32 d)] K):M1 a d K:=by
 obtain⟨⟨aS,aY,qp⟩,ae⟩:=h;have hk:=aS.2;unfold L at aY
 obtain⟨D,rfl⟩:∃D:Nat,d=D:=⟨d.toNat,by omega⟩
 simp only[aoD]at ae;unfold M1 ai aW bY aP;rw[aoD];have aml:IntKind.wrap .u64 (D:Int)=D:=cS (by omega);simp only[aml];refine⟨by omega,by omega,by omega,fun r i o=>bL o/\o.length=a.length/\0<=r/\r<D/\-1<=i/\i<a.length/\er a (i+1).toNat=er o (i+1).toNat*D+r.toNat,fun r i o=>(i+1).toNat,⟨bL.nt _,by simp,by omega,by omega, ?_⟩, ?_⟩
 ·rw[bP (by omega)];refine⟨by omega,by omega, ?_⟩;rw[oW a (by omega),oW _ (by simp)];simp
 rintro r i o ⟨aH,gp,rC,gv,Ar,m_,aM⟩;refine⟨fun h=> ?_,fun h=> ?_⟩
 ·simp only[aoG]at h
  obtain⟨n,rfl⟩:∃n:Nat,i=n:=⟨i.toNat,by omega⟩
  simp only[aoD,iu aS.1];rw[bP (by omega)]
  obtain⟨bC,rfl⟩:∃bC:Nat,r=bC:=⟨r.toNat,by omega⟩
  have ak:=fV aS.1 n;have TS:(a.getD n 0).toNat=lm a n:=rfl
  obtain⟨x,hv⟩:∃x,lm a n=x:=⟨_,rfl⟩
  rw[hv]at ak TS;simp only[hv,Im (h:=bC) (l:=x) (by omega) ak];have aA:Int.tdiv ((bC*4294967296+x:Nat):Int) (D:Int)=(((bC*4294967296+x)/D:Nat):Int):=by rw[aqX (apz _),aqu]
  have aG:Int.tmod ((bC*4294967296+x:Nat):Int) (D:Int)=(((bC*4294967296+x)%D:Nat):Int):=by rw[aqY (apz _),aqH]
  rw[show((n:Int)+1).toNat=n+1 by omega]at aM;have cR:=NU (z:=er o (n+1)) 4294967296 rfl (show bC<D by omega) ak (by simpa using aM);obtain⟨aZ,hm,he⟩:=cR;have nG:er a n=x+4294967296*er a (n+1):=by rw[n8 a n,TS]
  rw[<-nG]at he;simp only[aA,aG];generalize (bC*4294967296+x)/D=q at aZ he⊢;generalize (bC*4294967296+x)%D=m at hm he⊢;have w1:IntKind.wrap .u32 (IntKind.wrap .u64 (q:Int))=(q:Int):=by rw[cS (by omega),ia (by omega)]
  simp only[w1]
  have hI:er (o.set n (q:Int)) n=q+4294967296*er o (n+1):=by
   rw[n8 _ n,Ik _ _ _ _ (by omega),e1,aoB ⟨rfl,by omega⟩,aoD]
  rw[<-hI]at he;refine⟨by omega,by omega,by omega,by omega,by omega,by omega,⟨aH.set _ ⟨by omega,by omega⟩,by simpa using gp,by omega,by omega,by omega,by omega, ?_⟩,by show(((n:Int)-1)+1).toNat<((n:Int)+1).toNat;omega⟩;rw[show((n:Int)-1+1).toNat=n by omega,aoD];exact he
 ·simp only[aoF]at h;obtain rfl:i=-1:=by omega
  simp only[show((-1:Int)+1).toNat=0 from rfl,zk]at aM;refine⟨⟨aH,by omega⟩, ?_⟩
  have aa:val a/D=val o:=by
   rw[aM,apa,Nat.mul_add_div (by omega),aqf (by omega)];omega
  have ad:((val a%D:Nat):Int)=r:=by
   rw[aM,apa,aqC,apw (by omega)];omega
  rw[aa,ad]at ae;rw[ia (by omega)];exact ae
theorem aaC (a b:List Int)(K:R->Prop)(h:CM.T [.d (.af .u32 a), .d (.af .u32 b)] K):NX a b K:=by
 obtain⟨⟨aS,ah⟩,ae⟩:=h;have hk:=jx aS;have k1:=jx ah;have lL:=aS.2;have et:=ah.2;unfold NX ai aP;refine⟨aS,ah,fun h=>⟨fun aa=> ?_,fun aa=> ?_⟩,fun h=> ?_⟩
 ·simp only[aoG]at aa;rw[DF (DH (by omega))]at ae;exact ae
 ·have ad:¬((Nat.cast:Nat->Int) (aO (val a)).length=(Nat.cast:Nat->Int) (aO (val b)).length):=by simpa using h
  simp only[aoF]at aa;rw[DG (DH (by omega))]at ae;exact ae
 ·have ad:(Nat.cast:Nat->Int) (aO (val a)).length=(Nat.cast:Nat->Int) (aO (val b)).length:=by simpa using h
  have dM:=gx (val a);have eu:=gx (val b);have nG:=dV (val a);have nc:=dV (val b);rw[<-nG,<-nc]at ae;generalize aO (val a)=A at*;generalize aO (val b)=B at*;refine⟨fun i=>-1<=i/\i<A.length/\er A (i+1).toNat=er B (i+1).toNat,fun i=>(i+1).toNat,⟨by first|rfl|trivial,by first|rfl|trivial, ?_⟩, ?_⟩
  ·rw[bP (by omega)];refine⟨by omega,by omega, ?_⟩;rw[oW A (by omega),oW B (by omega)]
  rintro i ⟨ax,aV,bp⟩;refine⟨fun b1=> ?_,fun b1=> ?_⟩
  ·simp only[aoG]at b1
   obtain⟨n,rfl⟩:∃n:Nat,i=n:=⟨i.toNat,by omega⟩
   rw[show((n:Int)+1).toNat=n+1 by omega]at bp;simp only[aoD];have ak:=dM n;have bn:=eu n;refine⟨by omega,by omega,by omega,by omega,fun fM=> ?_,fun fM=>⟨by omega,by omega,by omega,by omega,fun c6=> ?_,fun c6=> ?_⟩⟩
   ·simp only[aoG]at fM;rw[DF (CX n dM bp (by omega))]at ae;exact ae
   ·simp only[aoG]at c6;rw[DG (CX n eu bp.symm (by omega))]at ae;exact ae
   ·simp only[aoF]at fM c6;rw[bP (by omega)];refine⟨by first|rfl|trivial,by first|rfl|trivial,⟨by omega,by omega, ?_⟩,by show(((n:Int)-1)+1).toNat<((n:Int)+1).toNat;omega⟩;rw[show((n:Int)-1+1).toNat=n by omega,n8 A n,n8 B n,bp,show A.getD n 0=B.getD n 0 by omega]
  ·simp only[aoF]at b1;obtain rfl:i=-1:=by omega
   simp only[show((-1:Int)+1).toNat=0 from rfl,zk]at bp;rw[bp,cmp_eq]at ae;exact ae
end ab
end
section
open Go Go.aj
namespace ab
end ab
end
section
open Go Go.aj
namespace ab
def NY:List Int->List Int->(R->Prop)->Prop:=
 fun(a b:List Int) (K:R->Prop)=>(0:Int)<=ai ((if aP a<aP b then aP b else aP a)+(1:Int))/\ai ((if aP a<aP b then aP b else aP a)+(1:Int))<=ai ((if aP a<aP b then aP b else aP a)+(1:Int))/\ai ((if aP a<aP b then aP b else aP a)+(1:Int))*(4:Int)<=(281474976710656:Int)/\∃(aQ:Int->Int->List Int->Prop),∃(m:Int->Int->List Int->Nat),aQ (0:Int) (0:Int) (List.replicate (Int.toNat (ai ((if aP a<aP b then aP b else aP a)+(1:Int)))) (0:Int))/\∀(v6 cp:Int) (aq:List Int),aQ v6 cp aq->(decide (cp<aP aq)=true->∃(J:Int->Prop),((decide (cp<aP a)=true->(0:Int)<=cp/\cp<aP a/\(false,ag.af IntKind.u32 aq)=(false,ag.af IntKind.u32 aq)/\J (aW (v6+aW (List.getD a (Int.toNat cp) (0:Int)))))/\(decide (cp<aP a)=false->(false,ag.af IntKind.u32 aq)=(false,ag.af IntKind.u32 aq)/\J v6))/\∀(I4:Int),J I4->∃(J:Int->Prop),((decide (cp<aP b)=true->(0:Int)<=cp/\cp<aP b/\(false,ag.af IntKind.u32 aq)=(false,ag.af IntKind.u32 aq)/\J (aW (I4+aW (List.getD b (Int.toNat cp) (0:Int)))))/\(decide (cp<aP b)=false->(false,ag.af IntKind.u32 aq)=(false,ag.af IntKind.u32 aq)/\J I4))/\∀(zU:Int),J zU->(0:Int)<=cp/\cp<aP aq/\aQ (Int.fdiv zU (4294967296:Int)) (ai (cp+(1:Int))) (List.set aq (Int.toNat cp) (bY zU))/\m (Int.fdiv zU (4294967296:Int)) (ai (cp+(1:Int))) (List.set aq (Int.toNat cp) (bY zU))<m v6 cp aq)/\(decide (cp<aP aq)=false->ab.bw aq/\K (R.d (U.af IntKind.u32 (ab.aO (ab.val aq)))))
def NZ:List Int->List Int->(R->Prop)->Prop:=
 fun a b K=>0<=ai (ai (↑a.length+↑b.length)+1)/\ai (ai (↑a.length+↑b.length)+1)<=ai (ai (↑a.length+↑b.length)+1)/\ai (ai (↑a.length+↑b.length)+1)*4<=281474976710656/\∃(aQ:Int->List Int->Prop),∃(m:Int->List Int->Nat),aQ 0 (List.replicate (ai (ai (↑a.length+↑b.length)+1)).toNat 0)/\∀(v6:Int) (aq:List Int),aQ v6 aq->(decide (v6<↑a.length)=true->∃(fK:Int->Int->List Int->Prop),∃(fv:Int->Int->List Int->Nat),fK 0 0 aq/\∀(cp bq:Int) (bJ:List Int),fK cp bq bJ->(decide (bq<↑b.length)=true->0<=v6/\v6<↑a.length/\0<=bq/\bq<↑b.length/\0<=ai (v6+bq)/\ai (v6+bq)<↑bJ.length/\0<=ai (v6+bq)/\ai (v6+bq)<↑bJ.length/\fK ((aW (aW (aW (aW (a.getD v6.toNat 0)*aW (b.getD bq.toNat 0))+aW (bJ.getD (ai (v6+bq)).toNat 0))+cp)).fdiv 4294967296) (ai (bq+1)) (bJ.set (ai (v6+bq)).toNat (bY (aW (aW (aW (aW (a.getD v6.toNat 0)*aW (b.getD bq.toNat 0))+aW (bJ.getD (ai (v6+bq)).toNat 0))+cp))))/\fv ((aW (aW (aW (aW (a.getD v6.toNat 0)*aW (b.getD bq.toNat 0))+aW (bJ.getD (ai (v6+bq)).toNat 0))+cp)).fdiv 4294967296) (ai (bq+1)) (bJ.set (ai (v6+bq)).toNat (bY (aW (aW (aW (aW (a.getD v6.toNat 0)*aW (b.getD bq.toNat 0))+aW (bJ.getD (ai (v6+bq)).toNat 0))+cp))))<fv cp bq bJ)/\(decide (bq<↑b.length)=false->∃(JZ:Int->Int->List Int->Prop),∃(TT:Int->Int->List Int->Nat),JZ cp (ai (v6+↑b.length)) bJ/\∀(cp v10:Int) (eb:List Int),JZ cp v10 eb->(decide (0<cp)=true->0<=v10/\v10<↑eb.length/\0<=v10/\v10<↑eb.length/\JZ ((aW (aW (eb.getD v10.toNat 0)+cp)).fdiv 4294967296) (ai (v10+1)) (eb.set v10.toNat (bY (aW (aW (eb.getD v10.toNat 0)+cp))))/\TT ((aW (aW (eb.getD v10.toNat 0)+cp)).fdiv 4294967296) (ai (v10+1)) (eb.set v10.toNat (bY (aW (aW (eb.getD v10.toNat 0)+cp))))<TT cp v10 eb)/\(decide (0<cp)=false->aQ (ai (v6+1)) eb/\m (ai (v6+1)) eb<m v6 aq)))/\(decide (v6<↑a.length)=false->bw aq/\K (R.d (U.af .u32 (aO (val aq)))))
def N0:List Int->List Int->(R->Prop)->Prop:=
 fun a b K=>(bw a/\bw b)/\(decide (cmp (val a) (val b)<0)=true->K (R.tup [R.d (U.af .u32 []),R.d (U.int .i64 1)]))/\(decide (cmp (val a) (val b)<0)=false->bw a/\bw b/\∃(aQ:Int->Int->List Int->List Int->Prop),∃(m:Int->Int->List Int->List Int->Nat),aQ 0 0 (aO (val a)) (aO (val b))/\∀(cp bq:Int) (aq bu:List Int),aQ cp bq aq bu->(decide (bq<↑aq.length)=true->∃(J:Int->Prop),((decide (bq<↑bu.length)=true->0<=bq/\bq<↑bu.length/\(false,ag.af .u32 aq)=(false,ag.af .u32 aq)/\(false,ag.af .u32 bu)=(false,ag.af .u32 bu)/\J (aW (cp+aW (bu.getD bq.toNat 0))))/\(decide (bq<↑bu.length)=false->(false,ag.af .u32 aq)=(false,ag.af .u32 aq)/\(false,ag.af .u32 bu)=(false,ag.af .u32 bu)/\J cp))/\∀(v9:Int),J v9->0<=bq/\bq<↑aq.length/\(decide (aW (aq.getD bq.toNat 0)<v9)=true->0<=bq/\bq<↑aq.length/\aQ 1 (ai (bq+1)) (aq.set bq.toNat (bY (aW (aW (aW (aq.getD bq.toNat 0)+4294967296)-v9)))) bu/\m 1 (ai (bq+1)) (aq.set bq.toNat (bY (aW (aW (aW (aq.getD bq.toNat 0)+4294967296)-v9)))) bu<m cp bq aq bu)/\(decide (aW (aq.getD bq.toNat 0)<v9)=false->0<=bq/\bq<↑aq.length/\aQ 0 (ai (bq+1)) (aq.set bq.toNat (bY (aW (aW (aq.getD bq.toNat 0)-v9)))) bu/\m 0 (ai (bq+1)) (aq.set bq.toNat (bY (aW (aW (aq.getD bq.toNat 0)-v9)))) bu<m cp bq aq bu))/\(decide (bq<↑aq.length)=false->bw aq/\K (R.tup [R.d (U.af .u32 (aO (val aq))),R.d (U.int .i64 0)])))
def M3:List Int->Int->(ag->Prop)->Prop:=
 fun(a:List Int) (k:Int) (K:ag->Prop)=>(0:Int)<=ai (aP a+(1:Int))/\ai (aP a+(1:Int))<=ai (aP a+(1:Int))/\ai (aP a+(1:Int))*(4:Int)<=(281474976710656:Int)/\∃(aQ:Int->Int->List Int->Prop),∃(m:Int->Int->List Int->Nat),aQ (0:Int) (0:Int) (List.replicate (Int.toNat (ai (aP a+(1:Int)))) (0:Int))/\∀(v6 cp:Int) (aq:List Int),aQ v6 cp aq->(decide (cp<aP a)=true->(0:Int)<=cp/\cp<aP a/\(0:Int)<=aW k/\(0:Int)<=cp/\cp<aP aq/\aQ (Int.fdiv (cP BinOp.or IntKind.u64 (aW (aW (List.getD a (Int.toNat cp) (0:Int))*(2:Int)^min (Int.toNat (aW k)) (64:Nat))) v6) (4294967296:Int)) (ai (cp+(1:Int))) (List.set aq (Int.toNat cp) (bY (cP BinOp.or IntKind.u64 (aW (aW (List.getD a (Int.toNat cp) (0:Int))*(2:Int)^min (Int.toNat (aW k)) (64:Nat))) v6)))/\m (Int.fdiv (cP BinOp.or IntKind.u64 (aW (aW (List.getD a (Int.toNat cp) (0:Int))*(2:Int)^min (Int.toNat (aW k)) (64:Nat))) v6) (4294967296:Int)) (ai (cp+(1:Int))) (List.set aq (Int.toNat cp) (bY (cP BinOp.or IntKind.u64 (aW (aW (List.getD a (Int.toNat cp) (0:Int))*(2:Int)^min (Int.toNat (aW k)) (64:Nat))) v6)))<m v6 cp aq)/\(decide (cp<aP a)=false->(0:Int)<=aP a/\aP a<aP aq/\K (ag.af IntKind.u32 (List.set aq (Int.toNat (aP a)) (bY v6))))
def Mc:List Int->Int->(R->Prop)->Prop:=
 fun(a:List Int) (k:Int) (K:R->Prop)=>(0:Int)<=aP a/\aP a<=aP a/\aP a*(4:Int)<=(281474976710656:Int)/\∃(aQ:Int->List Int->Prop),∃(m:Int->List Int->Nat),aQ (0:Int) (List.replicate (Int.toNat (aP a)) (0:Int))/\∀(v6:Int) (aq:List Int),aQ v6 aq->(decide (v6<aP a)=true->(0:Int)<=v6/\v6<aP a/\∃(J:Int->Prop),((decide (ai (v6+(1:Int))<aP a)=true->(0:Int)<=ai (v6+(1:Int))/\ai (v6+(1:Int))<aP a/\(false,ag.af IntKind.u32 aq)=(false,ag.af IntKind.u32 aq)/\J (cP BinOp.or IntKind.u64 (aW (List.getD a (Int.toNat v6) (0:Int))) (aW (aW (List.getD a (Int.toNat (ai (v6+(1:Int)))) (0:Int))*(4294967296:Int)))))/\(decide (ai (v6+(1:Int))<aP a)=false->(false,ag.af IntKind.u32 aq)=(false,ag.af IntKind.u32 aq)/\J (aW (List.getD a (Int.toNat v6) (0:Int)))))/\∀(cp:Int),J cp->(0:Int)<=aW k/\(0:Int)<=v6/\v6<aP aq/\aQ (ai (v6+(1:Int))) (List.set aq (Int.toNat v6) (bY (Int.fdiv cp ((2:Int)^min (Int.toNat (aW k)) (64:Nat)))))/\m (ai (v6+(1:Int))) (List.set aq (Int.toNat v6) (bY (Int.fdiv cp ((2:Int)^min (Int.toNat (aW k)) (64:Nat)))))<m v6 aq)/\(decide (v6<aP a)=false->ab.bw aq/\K (R.d (U.af IntKind.u32 (ab.aO (ab.val aq)))))
def Md:Int->(R->Prop)->Prop:=
 fun n K=>(decide (n<0)=true->K (R.tup [R.d (U.af .u32 []),R.d (U.int .i64 1)]))/\(decide (n<0)=false->bw [bY (cP BinOp.and .i64 n 4294967295),bY (n.fdiv 4294967296)]/\K (R.tup [R.d (U.af .u32 (aO (val [bY (cP BinOp.and .i64 n 4294967295),bY (n.fdiv 4294967296)]))),R.d (U.int .i64 0)]))
end ab
end
section
open Go Go.aj
namespace ab
theorem yS {b:List Int}{n:Nat}(h:b.length<=n):b.getD n 0=0:=by
 simp[aoC,api h]
theorem abS {Ky V UW UX w x y C T st:Nat}(aa:V+w*C=UW+UX)(ad:st+4294967296*T=C+x+y)(ax:Ky=V+w*st):Ky+w*(4294967296*T)=(UW+w*x)+(UX+w*y):=by
 have h:=apg (w*·) ad;simp only[aoS]at h;omega
theorem aaD (a b:List Int)(K:R->Prop)(h:CN.T [.d (.af .u32 a), .d (.af .u32 b)] K):NY a b K:=by
 obtain⟨⟨aS,ah,hk,k1⟩,ae⟩:=h;unfold NY ai aW bY aP
 obtain⟨M,iN,ajQ,ajR,an8⟩:∃M:Nat,IntKind.wrap .i64 ((if(Nat.cast:Nat->Int) a.length<(Nat.cast:Nat->Int) b.length then(Nat.cast:Nat->Int) b.length else(Nat.cast:Nat->Int) a.length)+1)=(M:Int)/\a.length<M/\b.length<M/\M<=90000001:=by
  split
  ·exact⟨b.length+1,by rw[bP (by omega)];omega,by omega,by omega,by omega⟩
  ·exact⟨a.length+1,by rw[bP (by omega)];omega,by omega,by omega,by omega⟩
 rw[iN];simp only[aoD];refine⟨by omega,by omega,by omega,fun c i o=>bL o/\o.length=M/\∃C i0:Nat,c=C/\i=i0/\i0<=M/\C<=1/\dw o i0+4294967296^i0*C=dw a i0+dw b i0,fun c i o=>M-i.toNat,⟨bL.nt _,by simp,0,0,rfl,rfl,by omega,by omega,by simp[iD]⟩, ?_⟩;rintro c i o ⟨aH,gp,C,n,rfl,rfl,aB,l4,ay⟩;rw[gp];refine⟨fun h=> ?_,fun h=> ?_⟩
 ·simp only[aoG]at h;simp only[aoD,iu aS,iu ah];have ak:=fV aS n;have bn:=fV ah n;refine⟨fun v=>v=((C+lm a n:Nat):Int),⟨fun aa=> ?_,fun aa=> ?_⟩, ?_⟩
  ·simp only[aoG]at aa;refine⟨by omega,aa,by first|rfl|trivial, ?_⟩;rw[cS (x:=(lm a n:Int)) (by omega),cS (by omega)];omega
  ·simp only[aoF]at aa;refine⟨by first|rfl|trivial, ?_⟩;have:lm a n=0:=by unfold lm;rw[yS (by omega)];rfl
   rw[this];rfl
  rintro v rfl;refine⟨fun v=>v=((C+lm a n+lm b n:Nat):Int),⟨fun aa=> ?_,fun aa=> ?_⟩, ?_⟩
  ·simp only[aoG]at aa;refine⟨by omega,aa,by first|rfl|trivial, ?_⟩;rw[cS (x:=(lm b n:Int)) (by omega),cS (by omega)];omega
  ·simp only[aoF]at aa;refine⟨by first|rfl|trivial, ?_⟩;have:lm b n=0:=by unfold lm;rw[yS (by omega)];rfl
   rw[this];rfl
  rintro v rfl;have aA:IntKind.wrap .i64 ((n:Int)+1)=((n+1:Nat):Int):=by rw[bP (by omega)];omega
  have aG:IntKind.wrap .u32 ((C+lm a n+lm b n:Nat):Int)=(((C+lm a n+lm b n)%4294967296:Nat):Int):=by rw[kf];omega
  have bR:Int.fdiv ((C+lm a n+lm b n:Nat):Int) 4294967296=(((C+lm a n+lm b n)/4294967296:Nat):Int):=by rw[apk _ (by omega)];omega
  simp only[aA,aG,bR];refine⟨by omega,by omega,⟨aH.set _ ⟨by omega,by omega⟩,by rw[aoT];exact gp,_,n+1,rfl,rfl,by omega,by omega, ?_⟩,by show M-((n+1:Nat):Int).toNat<M-(n:Int).toNat;omega⟩
  have hw:dw (o.set n (((C+lm a n+lm b n)%4294967296:Nat):Int)) (n+1)=dw o n+4294967296^n*((C+lm a n+lm b n)%4294967296):=by
   rw[gy,ri _ _ _ _ (aoH _),e1,aoB ⟨rfl,by omega⟩,aoD]
  have aT:=abS (x:=lm a n) (y:=lm b n) (T:=(C+lm a n+lm b n)/4294967296) ay (by omega) hw;rw[ao2,ao4,gy a,gy b];exact aT
 ·simp only[aoF]at h;obtain rfl:n=M:=by omega
  refine⟨⟨aH,by omega⟩, ?_⟩;rw[hE a (by omega),hE b (by omega),hE o (by omega)]at ay;have aa:=iE aS;have ad:=iE ah
  have AD:C=0:=by
   rcases ap9 C with bc|bc
   ·exact bc
   ·exfalso;have ax:4294967296^a.length*4294967296<=4294967296^n:=by rw[<-ao2];exact apd (by decide) ajQ
    have aV:4294967296^b.length*4294967296<=4294967296^n:=by rw[<-ao2];exact apd (by decide) ajR
    have bp:=ao3 (4294967296^n) bc;omega
  rw[AD,ao6,ao0]at ay;rw[ay];exact ae
theorem QR {tP tQ vo w fo st X C T A:Nat}(a1:tQ+w*fo=tP+w*st)(a2:tP+w*C=vo+A)(a3:st+4294967296*T=X+fo+C):tQ+w*(4294967296*T)=vo+(A+w*X):=by
 have h:=apg (w*·) a3;simp only[aoS]at h;omega
theorem QS {x y:Nat}(ak:x<4294967296)(bn:y<4294967296):x*y<=18446744065119617025:=by
 have:x*y<=4294967295*4294967295:=apG (by omega) (by omega);omega
theorem aaE (a b:List Int)(K:R->Prop)(h:CO.T [.d (.af .u32 a), .d (.af .u32 b)] K):NZ a b K:=by
 obtain⟨⟨aS,ah,hk,k1⟩,ae⟩:=h;unfold NZ ai aW bY
 have hz:IntKind.wrap .i64 (IntKind.wrap .i64 ((Nat.cast:Nat->Int) a.length+(Nat.cast:Nat->Int) b.length)+1)=((a.length+b.length+1:Nat):Int):=by
  rw[bP (x:=(Nat.cast:Nat->Int) a.length+(Nat.cast:Nat->Int) b.length) (by omega),bP (by omega)];omega
 rw[hz];simp only[aoD];refine⟨by omega,by omega,by omega,fun i o=>bL o/\o.length=a.length+b.length+1/\∃n:Nat,i=n/\n<=a.length/\val o=dw a n*val b,fun i o=>a.length-i.toNat,⟨bL.nt _,by simp,0,rfl,by omega,by rw[yD,iD,apY]⟩, ?_⟩;rintro i o ⟨aH,gp,n,rfl,aB,aM⟩;refine⟨fun h=> ?_,fun h=> ?_⟩
 ·simp only[aoG]at h;simp only[aoD,iu aS,iu ah]
  refine⟨fun c k p=>bL p/\p.length=a.length+b.length+1/\∃C q:Nat,c=C/\k=q/\q<=b.length/\C<4294967296/\val p+4294967296^(n+q)*C=val o+4294967296^n*(lm a n*dw b q),fun c k p=>b.length-k.toNat,
   ⟨aH,gp,0,0,rfl,rfl,by omega,by omega,by rw[iD,ao6,ao6,ao6]⟩, ?_⟩
  rintro c k p ⟨aD,jb,C,q,rfl,rfl,aZ,l4,ay⟩;refine⟨fun ad=> ?_,fun ad=> ?_⟩
  ·simp only[aoG]at ad;have aA:IntKind.wrap .i64 ((n:Int)+(q:Int))=((n+q:Nat):Int):=by rw[bP (by omega)];omega
   have aG:IntKind.wrap .i64 ((q:Int)+1)=((q+1:Nat):Int):=by rw[bP (by omega)];omega
   simp only[aA,aG,aoD,iu aD];have ak:=fV aS n;have bn:=fV ah q;have h0:=fV aD (n+q);have Fp:=QS ak bn;have rI:(p.getD (n+q) 0).toNat=lm p (n+q):=rfl;have TU:(b.getD q 0).toNat=lm b q:=rfl
   obtain⟨x,hv⟩:∃x,lm a n=x:=⟨_,rfl⟩
   obtain⟨y,nH⟩:∃x,lm b q=x:=⟨_,rfl⟩
   obtain⟨z,dn⟩:∃x,lm p (n+q)=x:=⟨_,rfl⟩
   rw[hv]at ay ak Fp;rw[nH]at bn Fp TU;rw[dn]at h0 rI;simp only[hv,nH,dn]
   have w1:IntKind.wrap .u64 (IntKind.wrap .u64 (IntKind.wrap .u64 (IntKind.wrap .u64 (x:Int)*IntKind.wrap .u64 (y:Int))+IntKind.wrap .u64 (z:Int))+(C:Int))=((x*y+z+C:Nat):Int):=by
    rw[cS (x:=(x:Int)) (by omega),cS (x:=(y:Int)) (by omega),cS (x:=(z:Int)) (by omega),<-apK];generalize x*y=UY at Fp⊢;rw[cS (x:=(UY:Int)) (by omega),cS (x:=(UY:Int)+(z:Int)) (by omega),cS (by omega)];omega
   simp only[w1]
   obtain⟨S,gh⟩:∃S,x*y+z+C=S:=⟨_,rfl⟩
   simp only[gh];have dq:IntKind.wrap .u32 (S:Int)=((S%4294967296:Nat):Int):=by rw[kf];omega
   have bY:Int.fdiv (S:Int) 4294967296=((S/4294967296:Nat):Int):=by rw[apk _ (by omega)];omega
   simp only[dq,bY];have TV:S<18446744073709551616:=by omega
   have hI:=me p (n+q) ((S%4294967296:Nat):Int) (by omega);rw[rI,aoD]at hI;have aT:=QR (X:=x*y) (T:=S/4294967296) hI ay (by omega);refine⟨by omega,by omega,by omega,by omega,by omega,by omega,by omega,by omega,⟨aD.set _ ⟨by omega,by omega⟩,by rw[aoT];exact jb,_,q+1,rfl,rfl,by omega,by omega, ?_⟩,by show b.length-((q+1:Nat):Int).toNat<b.length-(q:Int).toNat;omega⟩;have hO:4294967296^(n+(q+1))*(S/4294967296)=4294967296^(n+q)*(4294967296*(S/4294967296)):=by rw[<-apA,ao2,ao4]
   have jK:4294967296^n*(x*dw b (q+1))=4294967296^n*(x*dw b q)+4294967296^(n+q)*(x*y):=by
    rw[gy,TU,aoS,aoS,aph,apF x,ao4]
   rw[hO,jK];exact aT
  ·simp only[aoF]at ad;obtain rfl:q=b.length:=by omega
   have aA:IntKind.wrap .i64 ((n:Int)+(Nat.cast:Nat->Int) b.length)=((n+b.length:Nat):Int):=by rw[bP (by omega)];omega
   rw[aA];rw[hE b (aoH _)]at ay
   have agx:val o+4294967296^n*(lm a n*val b)=dw a (n+1)*val b:=by
    rw[aM,gy,aoX,ao4];rfl
   have hbound:dw a (n+1)*val b<4294967296^(a.length+b.length+1):=by
    have aa:=ru aS (n+1);have ad:=iE ah;have ax:=Nat.mul_lt_mul'' aa ad;rw[<-aph]at ax;exact aoZ ax (apd (by decide) (by omega))
   rw[agx]at ay
   refine⟨fun c k p=>bL p/\p.length=a.length+b.length+1/\∃C q:Nat,c=C/\k=q/\q<=a.length+b.length+1/\C<4294967296/\val p+4294967296^q*C=dw a (n+1)*val b,fun c k p=>a.length+b.length+1-k.toNat,
    ⟨aD,jb,C,n+b.length,rfl,rfl,by omega,l4,ay⟩, ?_⟩
   rintro c k p ⟨aD,jb,C,q,rfl,rfl,aZ,l4,ay⟩;refine⟨fun ax=> ?_,fun ax=> ?_⟩
   ·simp only[aoG]at ax
    have vf:q<a.length+b.length+1:=by
     rcases aqg q (a.length+b.length+1)with aV|aV
     ·exact aV
     ·exfalso;have bp:4294967296^(a.length+b.length+1)<=4294967296^q:=apd (by decide) aV;have b1:=ao3 (4294967296^q) (show 1<=C by omega);omega
    have aG:IntKind.wrap .i64 ((q:Int)+1)=((q+1:Nat):Int):=by rw[bP (by omega)];omega
    simp only[aG,aoD,iu aD];have h0:=fV aD q;have rI:(p.getD q 0).toNat=lm p q:=rfl
    obtain⟨z,dn⟩:∃x,lm p q=x:=⟨_,rfl⟩
    rw[dn]at h0 rI;simp only[dn];have w1:IntKind.wrap .u64 (IntKind.wrap .u64 (z:Int)+(C:Int))=((z+C:Nat):Int):=by rw[cS (x:=(z:Int)) (by omega),cS (by omega)];omega
    simp only[w1]
    obtain⟨S,gh⟩:∃S,z+C=S:=⟨_,rfl⟩
    simp only[gh];have dq:IntKind.wrap .u32 (S:Int)=((S%4294967296:Nat):Int):=by rw[kf];omega
    have bY:Int.fdiv (S:Int) 4294967296=((S/4294967296:Nat):Int):=by rw[apk _ (by omega)];omega
    simp only[dq,bY];have hI:=me p q ((S%4294967296:Nat):Int) (by omega);rw[rI,aoD]at hI;have aT:=QR (X:=0) (A:=dw a (n+1)*val b) (vo:=0) (C:=C) (T:=S/4294967296) hI (by rw[ao8];exact ay) (by omega);rw[ao6,ao0,ao8]at aT;refine⟨by omega,by omega,by omega,by omega,⟨aD.set _ ⟨by omega,by omega⟩,by rw[aoT];exact jb,_,q+1,rfl,rfl,by omega,by omega, ?_⟩,by show a.length+b.length+1-((q+1:Nat):Int).toNat<a.length+b.length+1-(q:Int).toNat;omega⟩;have hO:4294967296^(q+1)*(S/4294967296)=4294967296^q*(4294967296*(S/4294967296)):=by rw[ao2,ao4]
    rw[hO];exact aT
   ·simp only[aoF]at ax;obtain rfl:C=0:=by omega
    have bR:IntKind.wrap .i64 ((n:Int)+1)=((n+1:Nat):Int):=by rw[bP (by omega)];omega
    rw[bR];refine⟨⟨aD,jb,n+1,rfl,by omega,by omega⟩,by show a.length-((n+1:Nat):Int).toNat<a.length-(n:Int).toNat;omega⟩
 ·simp only[aoF]at h;obtain rfl:n=a.length:=by omega
  refine⟨⟨aH,by omega⟩, ?_⟩;rw[aM,hE a (aoH _)];exact ae
end ab
end
section
open Go Go.aj
namespace ab
end ab
end
section
namespace ab
open Go Go.aj Go.Sort
def dZ (l:List Row)(i j:Nat):List Row:=(l.set i (l.getD j [])).set j (l.getD i [])
theorem wX (l:List Row)(j:Nat):l.toArray[j]! =l.getD j []:=by
 simp[aoC];cases h:l[j]? <;>simp[h];rfl
theorem kK (l:List Row)(i j:Nat):swp l.toArray i j=(dZ l i j).toArray:=by
 unfold swp dZ;rw[wX,wX];simp
theorem sP (l:List Row)(i j:Nat):(dZ l i j).length=l.length:=by simp[dZ]
theorem dh.get {l:List Row}(h:dh l){i:Nat}(hi:i<l.length):eO (l.getD i []):=by
 rw[aoC,aoQ hi];exact h _ (apJ hi)
theorem eO.len {r:Row}(h:eO r):r.length=11:=by
 obtain⟨_,_,_,_,_,_,_,_,_,_,_,rfl⟩:=h;rfl
theorem dh.len {l:List Row}(h:dh l){i:Nat}(hi:i<l.length):(l.getD i []).length=11:=(h.get hi).len
theorem dh.set {l:List Row}(h:dh l){i:Nat}{r:Row}(ao:eO r):dh (l.set i r):=fun x ak=>by
 rcases aqU ak with ak|rfl
 ·exact h x ak
 ·exact ao
theorem dh.dZ {l:List Row}(h:dh l){i j:Nat}(hi:i<l.length)(aK:j<l.length):dh (dZ l i j):=(h.set (h.get aK)).set (h.get hi)
theorem ml (l:List Row)(i j:Nat):bk l.toArray[i]! l.toArray[j]! =decide (gQ (l.getD i []) (l.getD j [])<0):=by
 rw[wX,wX];rfl
theorem abT {A j:Nat}{l:List Row}(aa:A<j+1)(ad:gQ (l.getD (j+1) []) (l.getD j [])<0):insInner bk A (j+1) l.toArray=insInner bk A j (dZ l (j+1) j).toArray:=by
 rw[insInner,ml,aqi ad,<-kK];simp;omega
theorem PJ {A j:Nat}{l:List Row}(h:j<=A\/¬gQ (l.getD j []) (l.getD (j-1) [])<0):insInner bk A j l.toArray=l.toArray:=by
 cases j with
 |zero=>rfl
 |succ j=>
  rw[insInner,ml];rcases h with h|h
  ·rw[aoA];simp;omega
  ·rw[aoA];simp at h;simp[h]
theorem K1 (l:List Row)(a b:Int)(K:ag->R->Prop)(h:fW l a b/\K (.av 11 (insertionSort bk l.toArray a.toNat b.toNat).toList) (.tup [])):KX l a b K:=by
 obtain⟨⟨az,aS,jH,ah,aB⟩,ae⟩:=h;obtain⟨A,rfl⟩:=aoI aS;obtain⟨B,rfl⟩:=aoI (ap3 aS jH);simp only[aoD]at ae;unfold KX ai List.aR;rw[bP (x:=(A:Int)+1) (by omega)];refine⟨fun v o=>(A:Int)+1<=v/\v<=B+1/\dh o/\o.length=l.length/\insOuter bk A B v.toNat o.toArray=insertionSort bk l.toArray A B,fun v _=>(B+1-v:Int).toNat,⟨by omega,by omega,az,rfl,rfl⟩, ?_⟩;rintro v o ⟨aa,ad,ax,aV,bp⟩;obtain⟨V,rfl⟩:=aoI (a:=v) (by omega);refine⟨fun h=> ?_,fun h=> ?_⟩
 ·have h:=aoN h;refine⟨fun j cg=>(A:Int)<=j/\j<=V/\dh cg/\cg.length=l.length/\insInner bk A j.toNat cg.toArray=insInner bk A V o.toArray,fun j _=>j.toNat,⟨by omega,by omega,ax,aV,rfl⟩, ?_⟩;rintro j cg ⟨g1,g2,g3,g4,g5⟩;obtain⟨J,rfl⟩:=aoI (a:=j) (by omega)
  have fin:insInner bk A J cg.toArray=cg.toArray->(A:Int)+1<=IntKind.wrap .i64 ((V:Int)+1)/\IntKind.wrap .i64 ((V:Int)+1)<=B+1/\dh cg/\cg.length=l.length/\insOuter bk A B (IntKind.wrap .i64 ((V:Int)+1)).toNat cg.toArray=insertionSort bk l.toArray A B:=fun e=>by
   rw[bP (x:=(V:Int)+1) (by omega)];refine⟨by omega,by omega,g3,g4, ?_⟩;rw[show((V:Int)+1).toNat=V+1 by omega,<-bp,aoD]
   conv=>rhs;rw[insOuter]
   rw[aoB (by omega),<-g5,aoD,e]
  have dec:(B+1-IntKind.wrap .i64 ((V:Int)+1):Int).toNat<(B+1-(V:Int)).toNat:=by rw[bP (x:=(V:Int)+1) (by omega)];omega
  refine⟨fun aK=> ?_,fun aK=> ?_⟩
  ·have aK:=aoN aK;rw[bP (x:=(J:Int)-1) (by omega)]
   obtain⟨fX,rfl⟩:∃fX,J=fX+1:=⟨J-1,by omega⟩
   rw[show((fX+1:Nat):Int)-1=(fX:Int) by omega];simp only[aoD,aoT]at g5⊢;have cW:fX+1<cg.length:=by omega
   have c9:fX<cg.length:=by omega
   refine⟨by omega,by omega,g3.len cW,by omega,by omega,g3.len c9,⟨g3.get cW,g3.get c9⟩, ?_⟩;rintro _ rfl;refine⟨fun aC=> ?_,fun aC=> ?_⟩
   ·have aC:=aoN aC;refine⟨by omega,by omega,g3.len c9,by omega,by omega,g3.len cW,by omega,by omega,by omega,by omega,⟨by omega,by omega,g3.dZ cW c9,g4, ?_⟩,by omega⟩;rw[<-g5,abT (by omega) aC];rfl
   ·have aC:=aoP aC;exact⟨fin (PJ (.inr aC)),dec⟩
  ·have aK:=aoP aK;exact⟨fin (PJ (.inl (by omega))),dec⟩
 ·have h:=aoP h;rw[<-bp,insOuter,aoA (by rw[aoD];omega)]at ae;exact ae
def Child (hi f r:Nat)(l:List Row)(c:Nat):Prop:=
 (c=2*r+2/\2*r+2<hi/\gQ (l.getD (f+(2*r+1)) []) (l.getD (f+(2*r+1)+1) [])<0)\/
 (c=2*r+1/\2*r+1<hi/\¬(2*r+2<hi/\gQ (l.getD (f+(2*r+1)) []) (l.getD (f+(2*r+1)+1) [])<0))
theorem Hh {hi f r:Nat}{d:Array Row}(h:hi<=2*r+1):siftDown bk hi f r d=d:=by
 rw[siftDown,dif_pos h]
theorem OO {hi f r c:Nat}{l:List Row}(aC:Child hi f r l c)(h:¬gQ (l.getD (f+r) []) (l.getD (f+c) [])<0):siftDown bk hi f r l.toArray=l.toArray:=by
 rcases aC with⟨rfl,aa,ad⟩|⟨rfl,aa,ad⟩
 ·rw[siftDown,dif_neg (by omega),ml,ml,ml,aoB (by simp;exact⟨aa,ad⟩),aoB (by simp at h;simp[h])]
 ·rw[siftDown,dif_neg (by omega),ml,ml,ml,aoA (by simpa using ad),aoB (by simp at h;simp[h])]
theorem QT {hi f r c:Nat}{l:List Row}(aC:Child hi f r l c)(h:gQ (l.getD (f+r) []) (l.getD (f+c) [])<0):siftDown bk hi f r l.toArray=siftDown bk hi f c (dZ l (f+r) (f+c)).toArray:=by
 rcases aC with⟨rfl,aa,ad⟩|⟨rfl,aa,ad⟩
 ·rw[siftDown,dif_neg (by omega),ml,ml,ml,aoB (by simp;exact⟨aa,ad⟩),aoA (by simpa using h),dif_pos aa,kK]
 ·rw[siftDown,dif_neg (by omega),ml,ml,ml,aoA (by simpa using ad),aoA (by simpa using h),kK]
theorem Lg (l:List Row)(lo hi f:Int)(K:ag->R->Prop)(h:(dh l/\0<=lo/\lo<=(l.length:Int)/\0<=hi/\0<=f/\f+hi<=(l.length:Int)/\l.length<1000000000000000)/\K (.av 11 (siftDown bk hi.toNat f.toNat lo.toNat l.toArray).toList) (.tup [])):Lc l lo hi f K:=by
 obtain⟨⟨az,bc,aa,ad,ax,aV,aB⟩,ae⟩:=h;obtain⟨bC,rfl⟩:=aoI bc;obtain⟨H,rfl⟩:=aoI ad;obtain⟨F,rfl⟩:=aoI ax;simp only[aoD]at ae;unfold Lc ai;refine⟨fun v o=>0<=v/\v<=(l.length:Int)/\dh o/\o.length=l.length/\siftDown bk H F v.toNat o.toArray=siftDown bk H F bC l.toArray,fun v _=>(H-v:Int).toNat,⟨by omega,by omega,az,rfl,rfl⟩, ?_⟩;rintro v o ⟨g1,g2,g3,g4,g5⟩;obtain⟨V,rfl⟩:=aoI g1;simp only[aoD]at g5;have w1:IntKind.wrap .i64 ((2:Int)*(V:Int))=((2*V:Nat):Int):=by rw[bP (by omega)];omega
 have dq:IntKind.wrap .i64 (((2*V:Nat):Int)+1)=((2*V+1:Nat):Int):=by rw[bP (by omega)];omega
 have bY:IntKind.wrap .i64 (((2*V+1:Nat):Int)+1)=((2*V+2:Nat):Int):=by rw[bP (by omega)];omega
 have kA:IntKind.wrap .i64 ((F:Int)+((2*V+1:Nat):Int))=((F+(2*V+1):Nat):Int):=by rw[bP (by omega)];omega
 have x7:IntKind.wrap .i64 (((F+(2*V+1):Nat):Int)+1)=((F+(2*V+1)+1:Nat):Int):=by rw[bP (by omega)];omega
 have ai:IntKind.wrap .i64 ((F:Int)+(V:Int))=((F+V:Nat):Int):=by rw[bP (by omega)];omega
 simp only[w1,dq,bY,kA,x7,ai,aoD];refine⟨fun h=> ?_,fun h=> ?_⟩
 ·have h:=aoN h;rw[<-g5,Hh (by omega)]at ae;exact ae
 ·have h:=aoP h;have b9:F+V<o.length:=by omega
  refine⟨fun c bu=>bu=o/\0<=c/\Child H F V o c.toNat,⟨fun ad=> ?_,fun ad=> ?_⟩, ?_⟩
  ·have ad:=aoN ad;have cW:F+(2*V+1)<o.length:=by omega
   have c9:F+(2*V+1)+1<o.length:=by omega
   refine⟨by omega,by omega,g3.len cW,by omega,by omega,g3.len c9,⟨g3.get cW,g3.get c9⟩, ?_⟩;rintro _ rfl;refine⟨fun ax=> ?_,fun ax=> ?_⟩
   ·have ax:=aoN ax;exact⟨rfl,by omega, .inl ⟨by omega,by omega,ax⟩⟩
   ·have ax:=aoP ax;exact⟨rfl,by omega, .inr ⟨by omega,by omega,fun h=>ax h.2⟩⟩
  ·have ad:=aoP ad;exact⟨rfl,by omega, .inr ⟨by omega,by omega,fun h=>ad (by omega)⟩⟩
  ·rintro c bu ⟨rfl,tT,aC⟩;obtain⟨C,rfl⟩:=aoI tT;simp only[aoD]at aC;have l4:C<H/\V<C:=by rcases aC with⟨rfl,_,_⟩|⟨rfl,_,_⟩<;>omega
   have aW:IntKind.wrap .i64 ((F:Int)+(C:Int))=((F+C:Nat):Int):=by rw[bP (by omega)];omega
   simp only[aW,aoD,aoT];have iM:F+C<bu.length:=by omega
   refine⟨by omega,by omega,g3.len b9,by omega,by omega,g3.len iM,⟨g3.get b9,g3.get iM⟩, ?_⟩;rintro _ rfl;refine⟨fun ax=> ?_,fun ax=> ?_⟩
   ·have ax:¬(gQ (bu.getD (F+V) []) (bu.getD (F+C) [])<0):=by simpa using ax
    rw[<-g5,OO aC ax]at ae;exact ae
   ·have ax:gQ (bu.getD (F+V) []) (bu.getD (F+C) [])<0:=by simpa using ax
    refine⟨by omega,by omega,g3.len iM,by omega,by omega,g3.len b9,by omega,by omega,by omega,by omega,⟨by omega,by omega,g3.dZ b9 iM,g4, ?_⟩,by omega⟩;rw[<-g5,QT aC ax];rfl
theorem abU {d:Array Row}{n i j:Nat}(h:d.size=n/\dh d.toList)(hi:i<n)(aK:j<n):(swp d i j).size=n/\dh (swp d i j).toList:=by
 obtain⟨l⟩:=d;rw[kK];have aa:l.length=n:=by simpa using h.1
 have ad:dh l:=h.2;exact⟨by simpa[sP]using aa,dh.dZ ad (by omega) (by omega)⟩
theorem aaF (hi f n:Nat)(ay:f+hi<=n):∀(m root:Nat) (d:Array Row),hi-root<=m->(d.size=n/\dh d.toList)->(siftDown bk hi f root d).size=n/\dh (siftDown bk hi f root d).toList:=by
 intro m
 induction m with
 |zero=>intro root d h aY;rw[Hh (by omega)];exact aY
 |succ m bM=>
  intro root d h aY;obtain⟨l⟩:=d
  by_cases aa:hi<=2*root+1
  ·rw[Hh aa];exact aY
  ·obtain⟨c,aC⟩:∃c,Child hi f root l c:=by
    by_cases ad:2*root+2<hi/\gQ (l.getD (f+(2*root+1)) []) (l.getD (f+(2*root+1)+1) [])<0
    ·exact⟨_, .inl ⟨rfl,ad.1,ad.2⟩⟩
    ·exact⟨_, .inr ⟨rfl,by omega,ad⟩⟩
   have ks:c<hi/\root<c:=by rcases aC with⟨rfl,_,_⟩|⟨rfl,_,_⟩<;>omega
   by_cases ax:gQ (l.getD (f+root) []) (l.getD (f+c) [])<0
   ·rw[QT aC ax,<-kK];exact bM c _ (by omega) (abU aY (by omega) (by omega))
   ·rw[OO aC ax];exact aY
theorem OP {hi f root:Nat}{l:List Row}(ay:f+hi<=l.length)(h:dh l):(siftDown bk hi f root l.toArray).toList.length=l.length/\dh (siftDown bk hi f root l.toArray).toList:=by
 have:=aaF hi f l.length ay (hi-root) root l.toArray (aoH _) ⟨by simp,h⟩;exact⟨by simpa using this.1,this.2⟩
theorem Lh (l:List Row)(a b:Int)(K:ag->R->Prop)(h:(fW l a b/\a<b)/\K (.av 11 (heapSort bk l.toArray a.toNat b.toNat).toList) (.tup [])):Ld l a b K:=by
 obtain⟨⟨⟨az,aS,jH,ah,aB⟩,bG⟩,ae⟩:=h;obtain⟨A,rfl⟩:=aoI aS;obtain⟨B,rfl⟩:=aoI (ap3 aS jH)
 obtain⟨H,rfl⟩:∃H,B=A+H:=⟨B-A,by omega⟩
 simp only[aoD]at ae;unfold Ld ai List.aR;have w1:IntKind.wrap .i64 (((A+H:Nat):Int)-(A:Int))=(H:Int):=by rw[bP (by omega)];omega
 have dq:IntKind.wrap .i64 ((H:Int)-1)=(H:Int)-1:=bP (by omega)
 have bY:IntKind.wrap .i64 (Int.tdiv ((H:Int)-1) 2)=(((H-1)/2:Nat):Int):=by
  have:(H:Int)-1=((H-1:Nat):Int):=by omega
  have aG:Int.tdiv ((H-1:Nat):Int) 2=(((H-1)/2:Nat):Int):=(Int.ofNat_tdiv (H-1) 2).symm;rw[this,aG,bP (by omega)]
 simp only[w1,dq,bY,aoD];refine⟨fun o=>dh o/\o.length=l.length/\heapPop bk A H o.toArray=heapSort bk l.toArray A (A+H),⟨fun v o=>-1<=v/\v<=H/\dh o/\o.length=l.length/\heapBuild bk H A (v+1).toNat o.toArray=heapBuild bk H A ((H-1)/2+1) l.toArray,fun v _=>(v+1).toNat,⟨by omega,by omega,az,rfl, ?_⟩, ?_⟩, ?_⟩
 ·rw[show((((H-1)/2:Nat):Int)+1).toNat=(H-1)/2+1 by omega]
 ·rintro v o ⟨g1,g2,g3,g4,g5⟩;refine⟨fun h=> ?_,fun h=> ?_⟩
  ·have h:=aoN h;obtain⟨V,rfl⟩:=aoI h;rw[bP (x:=(V:Int)-1) (by omega)];obtain⟨a7,bl⟩:=OP (hi:=H) (f:=A) (root:=V) (l:=o) (by omega) g3;refine⟨by omega,⟨g3,by omega,by omega,by omega,by omega,by omega,by omega⟩,⟨by omega,by omega,bl,by rw[<-g4];exact a7, ?_⟩, ?_⟩
   ·rw[<-g5,show((V:Int)+1).toNat=V+1 by omega,show((V:Int)-1+1).toNat=V by omega]
    rfl
   ·show((V:Int)-1+1).toNat<((V:Int)+1).toNat;omega
  ·have h:=aoP h;refine⟨g3,g4, ?_⟩;unfold heapSort;rw[show A+H-A=H by omega,<-g5,show(v+1).toNat=0 by omega];rfl
 ·rintro o ⟨g1,g2,g3⟩;refine⟨fun v cg=>-1<=v/\v<H/\dh cg/\cg.length=l.length/\heapPop bk A (v+1).toNat cg.toArray=heapSort bk l.toArray A (A+H),fun v _=>(v+1).toNat,⟨by omega,by omega,g1,g2,by rw[show((H:Int)-1+1).toNat=H by omega];exact g3⟩, ?_⟩;rintro v cg ⟨q1,cI,cV,gF,dX⟩;refine⟨fun h=> ?_,fun h=> ?_⟩
  ·have h:=aoN h;obtain⟨V,rfl⟩:=aoI h;have kA:IntKind.wrap .i64 ((A:Int)+(V:Int))=((A+V:Nat):Int):=by rw[bP (by omega)];omega
   have cW:A<cg.length:=by omega
   have c9:A+V<cg.length:=by omega
   have ij:=cV.dZ cW c9;have hb:(dZ cg A (A+V)).length=l.length:=by rw[sP];exact gF
   obtain⟨a7,bl⟩:=OP (hi:=V) (f:=A) (root:=0) (l:=dZ cg A (A+V)) (by omega) ij;simp only[kA,aoD];rw[bP (x:=(V:Int)-1) (by omega),show(cg.set A (cg.getD (A+V) [])).set (A+V) (cg.getD A [])=dZ cg A (A+V)from rfl];refine⟨by omega,by omega,cV.len c9,by omega,by omega,cV.len cW,by omega,by omega,by omega,by simp;omega,by omega,⟨ij,by omega,by omega,by omega,by omega,by omega,by omega⟩,⟨by omega,by omega,bl,by rw[<-hb];exact a7, ?_⟩, ?_⟩
   ·rw[<-dX,show((V:Int)+1).toNat=V+1 by omega,show((V:Int)-1+1).toNat=V by omega,heapPop,kK]
   ·show((V:Int)-1+1).toNat<((V:Int)+1).toNat;omega
  ·have h:=aoP h;rw[<-dX,show(v+1).toNat=0 by omega]at ae;exact ae
theorem abV {i j:Nat}{o:List Row}(h:i<j):reverseLoop i j o.toArray=reverseLoop (i+1) (j-1) (dZ o i j).toArray:=by
 rw[reverseLoop,aoB h,kK]
theorem abW {i j:Nat}{d:Array Row}(h:¬i<j):reverseLoop i j d=d:=by rw[reverseLoop,aoA h]
theorem K4 (l:List Row)(a b:Int)(K:ag->R->Prop)(h:fW l a b/\K (.av 11 (reverseRange l.toArray a.toNat b.toNat).toList) (.tup [])):K0 l a b K:=by
 obtain⟨⟨az,aS,jH,ah,aB⟩,ae⟩:=h;obtain⟨A,rfl⟩:=aoI aS;obtain⟨B,rfl⟩:=aoI (ap3 aS jH);simp only[aoD]at ae;unfold K0 ai List.aR;rw[bP (x:=(B:Int)-1) (by omega)];refine⟨fun i j o=>0<=i/\i<=(l.length:Int)/\-1<=j/\j<(l.length:Int)/\dh o/\o.length=l.length/\(if i<j then reverseLoop i.toNat j.toNat o.toArray else o.toArray)=reverseRange l.toArray A B,fun i j _=>(j-i).toNat,⟨by omega,by omega,by omega,by omega,az,rfl, ?_⟩, ?_⟩
 ·unfold reverseRange;split
  ·rw[show((B:Int)-1).toNat=B-1 by omega,aoD]
  ·rw[reverseLoop,aoA (by omega)]
 ·rintro i j o ⟨g1,g2,g3,g4,g5,g6,g7⟩;refine⟨fun h=> ?_,fun h=> ?_⟩
  ·have h:=aoN h;obtain⟨aQ,rfl⟩:=aoI g1;obtain⟨J,rfl⟩:=aoI (a:=j) (by omega);rw[bP (x:=(aQ:Int)+1) (by omega),bP (x:=(J:Int)-1) (by omega)];simp only[aoD,aoT]at g7⊢;have cW:aQ<o.length:=by omega
   have c9:J<o.length:=by omega
   rw[show(o.set aQ (o.getD J [])).set J (o.getD aQ [])=dZ o aQ J from rfl];refine⟨by omega,by omega,g5.len c9,by omega,by omega,g5.len cW,by omega,by omega,by omega,by omega,⟨by omega,by omega,by omega,by omega,g5.dZ cW c9,g6, ?_⟩,by omega⟩;rw[<-g7,aoB h,abV (i:=aQ) (j:=J) (o:=o) (by omega),show((aQ:Int)+1).toNat=aQ+1 by omega,show((J:Int)-1).toNat=J-1 by omega];split
   ·rfl
   ·rw[abW (by omega)]
  ·have h:=aoP h;rw[<-g7,aoA h]at ae;exact ae
end ab
end
section
namespace ab
open Go Go.aj Go.Sort
theorem HW {p:Row->Bool}{d:Array Row}{j i:Nat}(h:i<=j)(aD:p d[i]! =true):scanUp p d j i=scanUp p d j (i+1):=by
 rw[scanUp,aoB (by simp[h,aD])]
theorem wY {p:Row->Bool}{d:Array Row}{j i:Nat}(h:j<i\/p d[i]! =false):scanUp p d j i=i:=by
 rw[scanUp,aoA];rcases h with h|h
 ·simp;omega
 ·simp[h]
theorem HX {p:Row->Bool}{d:Array Row}{i j:Nat}(h:i<=j+1)(aD:p d[j+1]! =true):scanDown p d i (j+1)=scanDown p d i j:=by
 rw[scanDown,aoB (by simp[h,aD])]
theorem wZ {p:Row->Bool}{d:Array Row}{i j:Nat}(hi:1<=i)(h:j<i\/p d[j]! =false):scanDown p d i j=j:=by
 cases j with
 |zero=>rfl
 |succ j=>
  rw[scanDown,aoA];rcases h with h|h
  ·simp;omega
  ·simp[h]
theorem jD (o:List Row)(i a:Nat):bk o.toArray[i]! o.toArray[a]! =decide (gQ (o.getD i []) (o.getD a [])<0):=ml o i a
theorem Y1 {l:List Row}{A B Q aQ J:Nat}(aa:scanUp (fun x=>bk x (dZ l A Q).toArray[A]!) (dZ l A Q).toArray (B-1) (A+1)=aQ)(ad:scanDown (fun x=> !bk x (dZ l A Q).toArray[A]!) (dZ l A Q).toArray aQ (B-1)=J)(h:aQ>J):
 partition bk l.toArray A B Q=(J,true,(dZ (dZ l A Q) J A).toArray):=by
 unfold partition;simp only[kK,aa,ad,aoB h]
theorem aaG {l:List Row}{A B Q aQ J:Nat}(aa:scanUp (fun x=>bk x (dZ l A Q).toArray[A]!) (dZ l A Q).toArray (B-1) (A+1)=aQ)(ad:scanDown (fun x=> !bk x (dZ l A Q).toArray[A]!) (dZ l A Q).toArray aQ (B-1)=J)(h:¬aQ>J):
 partition bk l.toArray A B Q=((partLoop bk A (aQ+1) (J-1) (dZ (dZ l A Q) aQ J).toArray).1,false,swp (partLoop bk A (aQ+1) (J-1) (dZ (dZ l A Q) aQ J).toArray).2 (partLoop bk A (aQ+1) (J-1) (dZ (dZ l A Q) aQ J).toArray).1 A):=by
 unfold partition;simp only[kK,aa,ad,aoA h]
theorem Y2 {a i j i2 eU:Nat}{d:Array Row}(aa:scanUp (fun x=>bk x d[a]!) d j i=i2)(ad:scanDown (fun x=> !bk x d[a]!) d i2 j=eU)(h:i2>eU):partLoop bk a i j d=(eU,d):=by
 rw[partLoop];simp only[aa,ad,aoB h]
theorem abX {a i j i2 eU:Nat}{l:List Row}(aa:scanUp (fun x=>bk x l.toArray[a]!) l.toArray j i=i2)(ad:scanDown (fun x=> !bk x l.toArray[a]!) l.toArray i2 j=eU)(h:¬i2>eU)(g:eU-1+1-(i2+1)<j+1-i):
 partLoop bk a i j l.toArray=partLoop bk a (i2+1) (eU-1) (dZ l i2 eU).toArray:=by
 rw[partLoop];simp only[aa,ad,aoA h,dif_pos g,kK]
theorem Le (l:List Row)(a b p:Int)(K:ag->R->Prop)(h:(fW l a b/\a<=p/\p<b)/\K (.av 11 (partition bk l.toArray a.toNat b.toNat p.toNat).2.2.toList) (.tup [.d (.int .i64 (partition bk l.toArray a.toNat b.toNat p.toNat).1), .d (.bool (partition bk l.toArray a.toNat b.toNat p.toNat).2.1)])):La l a b p K:=by
 obtain⟨⟨⟨az,aS,jH,ah,aB⟩,J0,rJ⟩,ae⟩:=h;obtain⟨A,rfl⟩:=aoI aS;obtain⟨B,rfl⟩:=aoI (ap3 aS jH);obtain⟨Q,rfl⟩:=aoI (ap3 aS J0);simp only[aoD]at ae;unfold La ai aP List.aR;have vR:A<l.length:=by omega
 have A4:Q<l.length:=by omega
 rw[bP (x:=(A:Int)+1) (by omega),bP (x:=(B:Int)-1) (by omega)];simp only[aoD,aoT];rw[show(l.set A (l.getD Q [])).set Q (l.getD A [])=dZ l A Q from rfl];have gn:=az.dZ vR A4;have eY:(dZ l A Q).length=l.length:=sP _ _ _;have aC:= @Y1 l A B Q;have aD:= @aaG l A B Q;generalize dZ l A Q=dj at gn eY aC aD;refine⟨by omega,by omega,az.len A4,by omega,by omega,az.len vR,by omega,by omega,by omega,by omega, ?_⟩;refine⟨fun i o=>o=dj/\(A:Int)+1<=i/\i<=B/\scanUp (fun x=>bk x dj.toArray[A]!) dj.toArray (B-1) (A+1)=i.toNat,⟨fun i o=>o=dj/\(A:Int)+1<=i/\i<=B/\scanUp (fun x=>bk x dj.toArray[A]!) dj.toArray (B-1) (A+1)=scanUp (fun x=>bk x dj.toArray[A]!) dj.toArray (B-1) i.toNat,fun i _=>(B-i:Int).toNat,⟨rfl,by omega,by omega, ?_⟩, ?_⟩, ?_⟩
 ·rw[show((A:Int)+1).toNat=A+1 by omega]
 ·rintro i o ⟨rfl,g1,g2,g3⟩;obtain⟨aQ,rfl⟩:=aoI (a:=i) (by omega);simp only[aoD]at g3⊢;refine⟨fun h=> ?_,fun h=> ?_⟩
  ·have h:=aoN h;have cW:aQ<o.length:=by omega
   have c9:A<o.length:=by omega
   rw[bP (x:=(aQ:Int)+1) (by omega)];refine⟨by omega,by omega,gn.len cW,by omega,by omega,gn.len c9,⟨gn.get cW,gn.get c9⟩, ?_⟩;rintro _ rfl;refine⟨fun ad=>⟨⟨trivial,by omega,by omega, ?_⟩,by omega⟩,fun ad=>⟨trivial,by omega,by omega, ?_⟩⟩
   ·rw[g3,HW (by omega) (by rw[jD];exact ad),show((aQ:Int)+1).toNat=aQ+1 by omega]
   ·rw[g3,wY (.inr (by rw[jD];exact ad))]
  ·have h:=aoP h;exact⟨trivial,by omega,by omega,by rw[g3,wY (.inl (by omega))]⟩
 rintro i o ⟨rfl,g1,g2,g3⟩;obtain⟨aQ,rfl⟩:=aoI (a:=i) (by omega);simp only[aoD]at g3⊢;refine⟨fun j cg=>cg=o/\(A:Int)<=j/\j<B/\scanDown (fun x=> !bk x o.toArray[A]!) o.toArray aQ (B-1)=j.toNat,⟨fun j cg=>cg=o/\(A:Int)<=j/\j<B/\scanDown (fun x=> !bk x o.toArray[A]!) o.toArray aQ (B-1)=scanDown (fun x=> !bk x o.toArray[A]!) o.toArray aQ j.toNat,fun j _=>j.toNat,⟨rfl,by omega,by omega, ?_⟩, ?_⟩, ?_⟩
 ·rw[show((B:Int)-1).toNat=B-1 by omega]
 ·rintro j cg ⟨rfl,a7,bl,bH⟩;obtain⟨J,rfl⟩:=aoI (a:=j) (by omega);simp only[aoD]at bH⊢;refine⟨fun h=> ?_,fun h=> ?_⟩
  ·have h:=aoN h;have cW:J<cg.length:=by omega
   have c9:A<cg.length:=by omega
   rw[bP (x:=(J:Int)-1) (by omega)]
   obtain⟨fX,rfl⟩:∃fX,J=fX+1:=⟨J-1,by omega⟩
   refine⟨by omega,by omega,gn.len cW,by omega,by omega,gn.len c9,⟨gn.get cW,gn.get c9⟩, ?_⟩;rintro _ rfl;refine⟨fun ad=>⟨⟨trivial,by omega,by omega, ?_⟩,by omega⟩,fun ad=>⟨trivial,by omega,by omega, ?_⟩⟩
   ·rw[bH,HX (by omega) (by rw[jD];exact ad),show(((fX+1:Nat):Int)-1).toNat=fX by omega]
   ·rw[bH,wZ (by omega) (.inr (by rw[jD];exact ad))]
  ·have h:=aoP h;exact⟨trivial,by omega,by omega,by rw[bH,wZ (by omega) (.inl (by omega))]⟩
 rintro j cg ⟨rfl,a7,bl,bH⟩;obtain⟨J,rfl⟩:=aoI (a:=j) (by omega);simp only[aoD]at bH⊢;have TW:A<cg.length:=by omega
 have x8:J<cg.length:=by omega
 refine⟨fun h=> ?_,fun h=> ?_⟩
 ·have h:=aoN h;rw[aC g3 bH (by omega)]at ae;exact⟨by omega,by omega,gn.len TW,by omega,by omega,gn.len x8,by omega,by omega,by omega,by omega,ae⟩
 ·have h:=aoP h;rw[aD g3 bH (by omega)]at ae;have Kz:aQ<cg.length:=by omega
  rw[bP (x:=(aQ:Int)+1) (by omega),bP (x:=(J:Int)-1) (by omega),show(cg.set aQ (cg.getD J [])).set J (cg.getD aQ [])=dZ cg aQ J from rfl];have jm:=gn.dZ Kz x8;have hy:(dZ cg aQ J).length=l.length:=by rw[sP];exact eY
  clear aC aD g3 bH;generalize dZ cg aQ J=df at jm hy ae;refine⟨by omega,by omega,gn.len x8,by omega,by omega,gn.len Kz,by omega,by omega,by omega,by omega, ?_⟩;clear gn TW x8 Kz eY;generalize dS:partLoop bk A (aQ+1) (J-1) df.toArray=bC at ae;refine⟨fun j o=>(A:Int)<=j/\j<B/\dh o/\o.length=l.length/\bC=(j.toNat,o.toArray),⟨fun i j o=>(A:Int)+1<=i/\i<=j+2/\(A:Int)<=j/\j<B/\dh o/\o.length=l.length/\partLoop bk A i.toNat j.toNat o.toArray=bC,fun i j _=>(j+2-i:Int).toNat,⟨by omega,by omega,by omega,by omega,jm,hy, ?_⟩, ?_⟩, ?_⟩
  ·rw[show((aQ:Int)+1).toNat=aQ+1 by omega,show((J:Int)-1).toNat=J-1 by omega];exact dS
  ·rintro i j o ⟨q1,cI,cV,gF,dX,ij,hb⟩;obtain⟨pC,rfl⟩:=aoI (a:=i) (by omega);obtain⟨h4,rfl⟩:=aoI (a:=j) (by omega);simp only[aoD]at hb⊢;have c9:A<o.length:=by omega
   refine⟨fun i2 br=>br=o/\(pC:Int)<=i2/\i2<=(h4:Int)+2/\scanUp (fun x=>bk x o.toArray[A]!) o.toArray h4 pC=i2.toNat,⟨fun i2 br=>br=o/\(pC:Int)<=i2/\i2<=(h4:Int)+2/\scanUp (fun x=>bk x o.toArray[A]!) o.toArray h4 pC=scanUp (fun x=>bk x o.toArray[A]!) o.toArray h4 i2.toNat,fun i2 _=>((h4:Int)+2-i2).toNat,⟨rfl,by omega,by omega,by rw[aoD]⟩, ?_⟩, ?_⟩
   ·rintro i2 br ⟨rfl,kz,lg,ej⟩;obtain⟨c_,rfl⟩:=aoI (a:=i2) (by omega);simp only[aoD]at ej⊢;refine⟨fun h=> ?_,fun h=> ?_⟩
    ·have h:=aoN h;have cW:c_<br.length:=by omega
     rw[bP (x:=(c_:Int)+1) (by omega)];refine⟨by omega,by omega,dX.len cW,by omega,by omega,dX.len c9,⟨dX.get cW,dX.get c9⟩, ?_⟩;rintro _ rfl;refine⟨fun ad=>⟨⟨trivial,by omega,by omega, ?_⟩,by omega⟩,fun ad=>⟨trivial,by omega,by omega, ?_⟩⟩
     ·rw[ej,HW (by omega) (by rw[jD];exact ad),show((c_:Int)+1).toNat=c_+1 by omega]
     ·rw[ej,wY (.inr (by rw[jD];exact ad))]
    ·have h:=aoP h;exact⟨trivial,by omega,by omega,by rw[ej,wY (.inl (by omega))]⟩
   rintro i2 br ⟨rfl,kz,lg,ej⟩;obtain⟨c_,rfl⟩:=aoI (a:=i2) (by omega);simp only[aoD]at ej⊢;refine⟨fun eU cQ=>cQ=br/\(A:Int)<=eU/\eU<=h4/\scanDown (fun x=> !bk x br.toArray[A]!) br.toArray c_ h4=eU.toNat,⟨fun eU cQ=>cQ=br/\(A:Int)<=eU/\eU<=h4/\scanDown (fun x=> !bk x br.toArray[A]!) br.toArray c_ h4=scanDown (fun x=> !bk x br.toArray[A]!) br.toArray c_ eU.toNat,fun eU _=>eU.toNat,⟨rfl,by omega,by omega,by rw[aoD]⟩, ?_⟩, ?_⟩
   ·rintro eU cQ ⟨rfl,a7,bl,bH⟩;obtain⟨hY,rfl⟩:=aoI (a:=eU) (by omega);simp only[aoD]at bH⊢;refine⟨fun h=> ?_,fun h=> ?_⟩
    ·have h:=aoN h;have cW:hY<cQ.length:=by omega
     rw[bP (x:=(hY:Int)-1) (by omega)]
     obtain⟨fX,rfl⟩:∃fX,hY=fX+1:=⟨hY-1,by omega⟩
     refine⟨by omega,by omega,dX.len cW,by omega,by omega,dX.len c9,⟨dX.get cW,dX.get c9⟩, ?_⟩;rintro _ rfl;refine⟨fun ad=>⟨⟨trivial,by omega,by omega, ?_⟩,by omega⟩,fun ad=>⟨trivial,by omega,by omega, ?_⟩⟩
     ·rw[bH,HX (by omega) (by rw[jD];exact ad),show(((fX+1:Nat):Int)-1).toNat=fX by omega]
     ·rw[bH,wZ (by omega) (.inr (by rw[jD];exact ad))]
    ·have h:=aoP h;exact⟨trivial,by omega,by omega,by rw[bH,wZ (by omega) (.inl (by omega))]⟩
   rintro eU cQ ⟨rfl,a7,bl,bH⟩;obtain⟨hY,rfl⟩:=aoI (a:=eU) (by omega);simp only[aoD]at bH⊢;have AE:hY<cQ.length:=by omega
   refine⟨fun h=> ?_,fun h=> ?_⟩
   ·have h:=aoN h;exact⟨by omega,by omega,dX,ij,by rw[<-hb,Y2 ej bH (by omega)]⟩
   ·have h:=aoP h;have AF:c_<cQ.length:=by omega
    rw[bP (x:=(c_:Int)+1) (by omega),bP (x:=(hY:Int)-1) (by omega),show(cQ.set c_ (cQ.getD hY [])).set hY (cQ.getD c_ [])=dZ cQ c_ hY from rfl];refine⟨by omega,by omega,dX.len AE,by omega,by omega,dX.len AF,by omega,by omega,by omega,by omega,⟨by omega,by omega,by omega,by omega,dX.dZ AF AE,by rw[sP];exact ij, ?_⟩,by show((hY:Int)-1+2-(c_+1)).toNat<((h4:Int)+2-pC).toNat;omega⟩;rw[<-hb,abX ej bH (by omega) (by omega),show((c_:Int)+1).toNat=c_+1 by omega,show((hY:Int)-1).toNat=hY-1 by omega]
  ·rintro j o ⟨q1,cI,cV,gF,rfl⟩;obtain⟨h4,rfl⟩:=aoI (a:=j) (by omega);simp only[aoD]at ae⊢;have vR:A<o.length:=by omega
   have x8:h4<o.length:=by omega
   rw[kK]at ae;exact⟨by omega,by omega,cV.len vR,by omega,by omega,cV.len x8,by omega,by omega,by omega,by omega,ae⟩
theorem Y3 {a i j i2 eU:Nat}{d:Array Row}(aa:scanUp (fun x=> !bk d[a]! x) d j i=i2)(ad:scanDown (fun x=>bk d[a]! x) d i2 j=eU)(h:i2>eU):partEqLoop bk a i j d=(i2,d):=by
 rw[partEqLoop];simp only[aa,ad,aoB h]
theorem abY {a i j i2 eU:Nat}{l:List Row}(aa:scanUp (fun x=> !bk l.toArray[a]! x) l.toArray j i=i2)(ad:scanDown (fun x=>bk l.toArray[a]! x) l.toArray i2 j=eU)(h:¬i2>eU)(g:eU-1+1-(i2+1)<j+1-i):
 partEqLoop bk a i j l.toArray=partEqLoop bk a (i2+1) (eU-1) (dZ l i2 eU).toArray:=by
 rw[partEqLoop];simp only[aa,ad,aoA h,dif_pos g,kK]
theorem KY (l:List Row)(a b p:Int)(K:ag->R->Prop)(h:(fW l a b/\a<=p/\p<b)/\K (.av 11 (partitionEqual bk l.toArray a.toNat b.toNat p.toNat).2.toList) (.d (.int .i64 (partitionEqual bk l.toArray a.toNat b.toNat p.toNat).1))):KV l a b p K:=by
 obtain⟨⟨⟨az,aS,jH,ah,aB⟩,J0,rJ⟩,ae⟩:=h;obtain⟨A,rfl⟩:=aoI aS;obtain⟨B,rfl⟩:=aoI (ap3 aS jH);obtain⟨Q,rfl⟩:=aoI (ap3 aS J0);simp only[aoD]at ae;unfold KV ai aP List.aR;have vR:A<l.length:=by omega
 have A4:Q<l.length:=by omega
 rw[bP (x:=(A:Int)+1) (by omega),bP (x:=(B:Int)-1) (by omega)];simp only[aoD,aoT];rw[show(l.set A (l.getD Q [])).set Q (l.getD A [])=dZ l A Q from rfl];have gn:=az.dZ vR A4;have eY:(dZ l A Q).length=l.length:=sP _ _ _;unfold partitionEqual at ae;rw[kK]at ae;generalize dZ l A Q=dj at gn eY ae;refine⟨by omega,by omega,az.len A4,by omega,by omega,az.len vR,by omega,by omega,by omega,by omega, ?_⟩;generalize dS:partEqLoop bk A (A+1) (B-1) dj.toArray=bC at ae;refine⟨fun i o=>bC=(i.toNat,o.toArray)/\0<=i,⟨fun i j o=>(A:Int)+1<=i/\i<=j+2/\(A:Int)<=j/\j<B/\dh o/\o.length=l.length/\partEqLoop bk A i.toNat j.toNat o.toArray=bC,fun i j _=>(j+2-i:Int).toNat,⟨by omega,by omega,by omega,by omega,gn,eY, ?_⟩, ?_⟩, ?_⟩
 ·rw[show((A:Int)+1).toNat=A+1 by omega,show((B:Int)-1).toNat=B-1 by omega];exact dS
 ·rintro i j o ⟨q1,cI,cV,gF,dX,ij,hb⟩;obtain⟨pC,rfl⟩:=aoI (a:=i) (by omega);obtain⟨h4,rfl⟩:=aoI (a:=j) (by omega);simp only[aoD]at hb⊢;have c9:A<o.length:=by omega
  refine⟨fun i2 br=>br=o/\(pC:Int)<=i2/\i2<=(h4:Int)+2/\scanUp (fun x=> !bk o.toArray[A]! x) o.toArray h4 pC=i2.toNat,⟨fun i2 br=>br=o/\(pC:Int)<=i2/\i2<=(h4:Int)+2/\scanUp (fun x=> !bk o.toArray[A]! x) o.toArray h4 pC=scanUp (fun x=> !bk o.toArray[A]! x) o.toArray h4 i2.toNat,fun i2 _=>((h4:Int)+2-i2).toNat,⟨rfl,by omega,by omega,by rw[aoD]⟩, ?_⟩, ?_⟩
  ·rintro i2 br ⟨rfl,kz,lg,ej⟩;obtain⟨c_,rfl⟩:=aoI (a:=i2) (by omega);simp only[aoD]at ej⊢;refine⟨fun h=> ?_,fun h=> ?_⟩
   ·have h:=aoN h;have cW:c_<br.length:=by omega
    rw[bP (x:=(c_:Int)+1) (by omega)];refine⟨by omega,by omega,dX.len c9,by omega,by omega,dX.len cW,⟨dX.get c9,dX.get cW⟩, ?_⟩;rintro _ rfl;refine⟨fun ad=>⟨⟨trivial,by omega,by omega, ?_⟩,by omega⟩,fun ad=>⟨trivial,by omega,by omega, ?_⟩⟩
    ·rw[ej,HW (by omega) (by rw[jD];exact ad),show((c_:Int)+1).toNat=c_+1 by omega]
    ·rw[ej,wY (.inr (by rw[jD];exact ad))]
   ·have h:=aoP h;exact⟨trivial,by omega,by omega,by rw[ej,wY (.inl (by omega))]⟩
  rintro i2 br ⟨rfl,kz,lg,ej⟩;obtain⟨c_,rfl⟩:=aoI (a:=i2) (by omega);simp only[aoD]at ej⊢;refine⟨fun eU cQ=>cQ=br/\(A:Int)<=eU/\eU<=h4/\scanDown (fun x=>bk br.toArray[A]! x) br.toArray c_ h4=eU.toNat,⟨fun eU cQ=>cQ=br/\(A:Int)<=eU/\eU<=h4/\scanDown (fun x=>bk br.toArray[A]! x) br.toArray c_ h4=scanDown (fun x=>bk br.toArray[A]! x) br.toArray c_ eU.toNat,fun eU _=>eU.toNat,⟨rfl,by omega,by omega,by rw[aoD]⟩, ?_⟩, ?_⟩
  ·rintro eU cQ ⟨rfl,a7,bl,bH⟩;obtain⟨hY,rfl⟩:=aoI (a:=eU) (by omega);simp only[aoD]at bH⊢;refine⟨fun h=> ?_,fun h=> ?_⟩
   ·have h:=aoN h;have cW:hY<cQ.length:=by omega
    rw[bP (x:=(hY:Int)-1) (by omega)]
    obtain⟨fX,rfl⟩:∃fX,hY=fX+1:=⟨hY-1,by omega⟩
    refine⟨by omega,by omega,dX.len c9,by omega,by omega,dX.len cW,⟨dX.get c9,dX.get cW⟩, ?_⟩;rintro _ rfl;refine⟨fun ad=>⟨⟨trivial,by omega,by omega, ?_⟩,by omega⟩,fun ad=>⟨trivial,by omega,by omega, ?_⟩⟩
    ·rw[bH,HX (by omega) (by rw[jD];exact ad),show(((fX+1:Nat):Int)-1).toNat=fX by omega]
    ·rw[bH,wZ (by omega) (.inr (by rw[jD];exact ad))]
   ·have h:=aoP h;exact⟨trivial,by omega,by omega,by rw[bH,wZ (by omega) (.inl (by omega))]⟩
  rintro eU cQ ⟨rfl,a7,bl,bH⟩;obtain⟨hY,rfl⟩:=aoI (a:=eU) (by omega);simp only[aoD]at bH⊢;have AE:hY<cQ.length:=by omega
  refine⟨fun h=> ?_,fun h=> ?_⟩
  ·have h:=aoN h;exact⟨by rw[<-hb,Y3 ej bH (by omega)],by omega⟩
  ·have h:=aoP h;have AF:c_<cQ.length:=by omega
   rw[bP (x:=(c_:Int)+1) (by omega),bP (x:=(hY:Int)-1) (by omega),show(cQ.set c_ (cQ.getD hY [])).set hY (cQ.getD c_ [])=dZ cQ c_ hY from rfl];refine⟨by omega,by omega,dX.len AE,by omega,by omega,dX.len AF,by omega,by omega,by omega,by omega,⟨by omega,by omega,by omega,by omega,dX.dZ AF AE,by rw[sP];exact ij, ?_⟩,by show((hY:Int)-1+2-(c_+1)).toNat<((h4:Int)+2-pC).toNat;omega⟩;rw[<-hb,abY ej bH (by omega) (by omega),show((c_:Int)+1).toNat=c_+1 by omega,show((hY:Int)-1).toNat=hY-1 by omega]
 ·rintro j o ⟨rfl,aK⟩;obtain⟨h4,rfl⟩:=aoI aK;exact ae
end ab
end
section
namespace ab
open Go Go.aj Go.Sort
theorem ads {d:Array Row}{b i:Nat}(h:i<b)(aD:bk d[i]! d[i-1]! =false):scanSorted bk d b i=scanSorted bk d b (i+1):=by
 rw[scanSorted,aoB (by simp[h,aD])]
theorem QU {d:Array Row}{b i:Nat}(h:b<=i\/bk d[i]! d[i-1]! =true):scanSorted bk d b i=i:=by
 rw[scanSorted,aoA];rcases h with h|h
 ·simp;omega
 ·simp[h]
theorem aes {a b s i:Nat}{d:Array Row}(h:scanSorted bk d b i=b):partialIns bk a b (s+1) i d=(d,true):=by
 rw[partialIns];simp only[h,apc]
theorem abZ {a b s i j:Nat}{d:Array Row}(h:scanSorted bk d b i=j)(aK:j≠b)(ay:b-a<50):partialIns bk a b (s+1) i d=(d,false):=by
 rw[partialIns];simp only[h,aoA aK,aoB ay]
theorem ae2 {a b s i j:Nat}{d:Array Row}(h:scanSorted bk d b i=j)(aK:j≠b)(ay:¬b-a<50){d2 d3:Array Row}
 (ad:(if j-a>=2 then shiftDown bk (j-1) (swp d j (j-1))else swp d j (j-1))=d2)
 (ax:(if b-j>=2 then shiftUp bk b (j+1) d2 else d2)=d3):partialIns bk a b (s+1) i d=partialIns bk a b s j d3:=by
 rw[partialIns];simp only[h,aoA aK,aoA ay,ad,ax]
theorem QV {j:Nat}{d:Array Row}(h:j=0\/bk d[j]! d[j-1]! =false):shiftDown bk j d=d:=by
 cases j with
 |zero=>rfl
 |succ j=>
  rcases h with h|h
  ·cases h
  ·rw[shiftDown,aoB];simpa using h
theorem ae3 {j:Nat}{l:List Row}(h:bk l.toArray[j+1]! l.toArray[j]! =true):shiftDown bk (j+1) l.toArray=shiftDown bk j (dZ l (j+1) j).toArray:=by
 rw[shiftDown,aoA (by rw[h];simp),kK]
theorem QW {b j:Nat}{d:Array Row}(h:b<=j\/bk d[j]! d[j-1]! =false):shiftUp bk b j d=d:=by
 rw[shiftUp];split
 ·rcases h with h|h
  ·omega
  ·rw[aoB];simpa using h
 ·rfl
theorem ae4 {b j:Nat}{l:List Row}(ah:j<b)(h:bk l.toArray[j]! l.toArray[j-1]! =true):shiftUp bk b j l.toArray=shiftUp bk b (j+1) (dZ l j (j-1)).toArray:=by
 rw[shiftUp,aoB ah,aoA (by rw[h];simp),kK]
theorem KT (l:List Row)(a b:Int)(K:ag->R->Prop)(h:(fW l a b/\a<b)/\K (.av 11 (partialInsertionSort bk l.toArray a.toNat b.toNat).1.toList) (.d (.bool (partialInsertionSort bk l.toArray a.toNat b.toNat).2))):KS l a b K:=by
 obtain⟨⟨⟨az,aS,-,ah,aB⟩,jH⟩,ae⟩:=h;obtain⟨A,rfl⟩:=aoI aS;obtain⟨B,rfl⟩:=aoI (ap3 aS (Int.le_of_lt jH));simp only[aoD]at ae;unfold partialInsertionSort at ae;unfold KS ai List.aR;rw[bP (x:=(A:Int)+1) (by omega),bP (x:=(B:Int)-A) (by omega)];generalize dS:partialIns bk A B 5 (A+1) l.toArray=bC at ae;refine⟨fun o=>bC=(o.toArray,false),⟨fun i s o=>(A:Int)+1<=i/\i<=B/\0<=s/\s<=5/\dh o/\o.length=l.length/\partialIns bk A B (5-s:Int).toNat i.toNat o.toArray=bC,fun _ s _=>(5-s:Int).toNat,⟨by omega,by omega,by omega,by omega,az,rfl, ?_⟩, ?_⟩, ?_⟩
 ·rw[show((A:Int)+1).toNat=A+1 by omega];exact dS
 ·rintro i s o ⟨q1,cI,cV,gF,dX,ij,hb⟩;obtain⟨aQ,rfl⟩:=aoI (a:=i) (by omega);obtain⟨S,rfl⟩:=aoI cV;simp only[aoD]at hb⊢;refine⟨fun h=> ?_,fun h=> ?_⟩
  case refine_2=>
   have h:=aoP h;rw[show(5-(S:Int)).toNat=0 by omega]at hb;exact hb.symm
  have h:=aoN h
  obtain⟨T,bs⟩:∃T,(5-(S:Int)).toNat=T+1:=⟨(5-(S:Int)).toNat-1,by omega⟩
  rw[bs]at hb;rw[bP (x:=(S:Int)+1) (by omega)];refine⟨fun i2 br=>br=o/\(aQ:Int)<=i2/\i2<=B/\scanSorted bk o.toArray B aQ=i2.toNat,⟨fun i2 br=>br=o/\(aQ:Int)<=i2/\i2<=B/\scanSorted bk o.toArray B aQ=scanSorted bk o.toArray B i2.toNat,fun i2 _=>((B:Int)-i2).toNat,⟨rfl,by omega,by omega,by rw[aoD]⟩, ?_⟩, ?_⟩
  ·rintro i2 br ⟨rfl,kz,lg,ej⟩;obtain⟨c_,rfl⟩:=aoI (a:=i2) (by omega);simp only[aoD]at ej⊢;refine⟨fun h=> ?_,fun h=> ?_⟩
   ·have h:=aoN h;have cW:c_<br.length:=by omega
    have c9:c_-1<br.length:=by omega
    rw[bP (x:=(c_:Int)+1) (by omega),bP (x:=(c_:Int)-1) (by omega),show((c_:Int)-1).toNat=c_-1 by omega];refine⟨by omega,by omega,dX.len cW,by omega,by omega,dX.len c9,⟨dX.get cW,dX.get c9⟩, ?_⟩;rintro _ rfl;refine⟨fun ad=>⟨⟨trivial,by omega,by omega, ?_⟩,by omega⟩,fun ad=>⟨trivial,by omega,by omega, ?_⟩⟩
    ·rw[ej,ads (by omega) (by rw[jD];simpa using ad),show((c_:Int)+1).toNat=c_+1 by omega]
    ·rw[ej,QU (.inr (by rw[jD];simpa using ad))]
   ·have h:=aoP h;exact⟨trivial,by omega,by omega,by rw[ej,QU (.inl (by omega))]⟩
  rintro i2 br ⟨rfl,kz,lg,ej⟩;obtain⟨c_,rfl⟩:=aoI (a:=i2) (by omega);simp only[aoD]at ej⊢;refine⟨fun h=> ?_,fun h=> ?_⟩
  ·have h:=aoN h;have h:c_=B:=by omega
   subst h;rw[aes ej]at hb;rw[<-hb]at ae;exact ae
  have h:=aoP h;have cT:c_≠B:=fun e=>h (by rw[e]);refine⟨fun h=> ?_,fun h=> ?_⟩
  ·have h:=aoN h;rw[abZ ej cT (by omega)]at hb;rw[<-hb]at ae;exact ae
  have an9:=aoP h;have cW:c_<br.length:=by omega
  have c9:c_-1<br.length:=by omega
  rw[bP (x:=(c_:Int)+1) (by omega),bP (x:=(c_:Int)-1) (by omega),bP (x:=(c_:Int)-A) (by omega),bP (x:=(B:Int)-c_) (by omega),show((c_:Int)-1).toNat=c_-1 by omega];simp only[aoT];rw[show(br.set c_ (br.getD (c_-1) [])).set (c_-1) (br.getD c_ [])=dZ br c_ (c_-1)from rfl];refine⟨by omega,by omega,dX.len c9,by omega,by omega,dX.len cW,by omega,by omega,by omega,by omega, ?_⟩;have gn:=dX.dZ cW c9;have eY:(dZ br c_ (c_-1)).length=l.length:=by rw[sP];exact ij
  have oy:=fun d2 d3=> @ae2 A B T aQ c_ br.toArray ej cT (by omega) d2 d3;rw[kK]at oy;generalize dZ br c_ (c_-1)=dj at gn eY oy;clear ej cW c9;refine⟨fun o=>dh o/\o.length=l.length/\(if c_-A>=2 then shiftDown bk (c_-1) dj.toArray else dj.toArray)=o.toArray,⟨fun h=> ?_,fun h=> ?_⟩, ?_⟩
  ·have h:=aoN h;rw[aoB (show c_-A>=2 by omega)];refine⟨fun j o=>0<=j/\j<c_/\dh o/\o.length=l.length/\shiftDown bk (c_-1) dj.toArray=shiftDown bk j.toNat o.toArray,fun j _=>j.toNat,⟨by omega,by omega,gn,eY,by rw[show((c_:Int)-1).toNat=c_-1 by omega]⟩, ?_⟩;rintro j o ⟨g1,g2,g3,g4,g5⟩;obtain⟨J,rfl⟩:=aoI g1;simp only[aoD,aoT]at g5⊢;refine⟨fun h=> ?_,fun h=> ?_⟩
   ·have h:=aoN h
    obtain⟨fX,rfl⟩:∃fX,J=fX+1:=⟨J-1,by omega⟩
    rw[bP (x:=((fX+1:Nat):Int)-1) (by omega),show((fX+1:Nat):Int)-1=(fX:Int) by omega,aoD];have cW:fX+1<o.length:=by omega
    have c9:fX<o.length:=by omega
    refine⟨by omega,by omega,g3.len cW,by omega,by omega,g3.len c9,⟨g3.get cW,g3.get c9⟩, ?_⟩;rintro _ rfl;refine⟨fun ad=>⟨g3,g4, ?_⟩,fun ad=>⟨by omega,by omega,g3.len c9,by omega,by omega,g3.len cW,by omega,by omega,by omega,by omega,⟨by omega,by omega,g3.dZ cW c9,by simpa using g4, ?_⟩,by omega⟩⟩
    ·rw[g5,QV (.inr (by rw[jD];simpa using ad))]
    ·rw[g5,ae3 (by rw[jD];simpa using ad)];rfl
   ·have h:=aoP h;exact⟨g3,g4,by rw[g5,QV (.inl (by omega))]⟩
  ·have h:=aoP h;rw[aoA (show ¬c_-A>=2 by omega)];exact⟨gn,eY,rfl⟩
  rintro df ⟨jm,hy,aG⟩
  replace oy:=fun d3=>oy _ d3 aG
  refine⟨fun h=> ?_,fun h=> ?_⟩
  ·have h:=aoN h;rw[aoB (show B-c_>=2 by omega)]at oy;refine⟨fun j o=>(c_:Int)+1<=j/\j<=B/\dh o/\o.length=l.length/\shiftUp bk B (c_+1) df.toArray=shiftUp bk B j.toNat o.toArray,fun j _=>((B:Int)-j).toNat,⟨by omega,by omega,jm,hy,by rw[show((c_:Int)+1).toNat=c_+1 by omega]⟩, ?_⟩;rintro j o ⟨g1,g2,g3,g4,g5⟩;obtain⟨J,rfl⟩:=aoI (a:=j) (by omega);simp only[aoD,aoT]at g5⊢
   have fin:shiftUp bk B J o.toArray=o.toArray->((A:Int)+1<=c_/\(c_:Int)<=B/\(0:Int)<=(S:Int)+1/\(S:Int)+1<=5/\dh o/\o.length=l.length/\partialIns bk A B (5-((S:Int)+1)).toNat c_ o.toArray=bC)/\(5-((S:Int)+1)).toNat<(5-(S:Int)).toNat:=fun e=>by
    refine⟨⟨by omega,by omega,by omega,by omega,g3,g4, ?_⟩,by omega⟩;rw[<-hb,oy _ (g5.trans e),show(5-((S:Int)+1)).toNat=T by omega]
   refine⟨fun h=> ?_,fun h=> ?_⟩
   ·have h:=aoN h;have cW:J<o.length:=by omega
    have c9:J-1<o.length:=by omega
    rw[bP (x:=(J:Int)+1) (by omega),bP (x:=(J:Int)-1) (by omega),show((J:Int)-1).toNat=J-1 by omega];refine⟨by omega,by omega,g3.len cW,by omega,by omega,g3.len c9,⟨g3.get cW,g3.get c9⟩, ?_⟩;rintro _ rfl;refine⟨fun ad=>fin (QW (.inr (by rw[jD];simpa using ad))),fun ad=>⟨by omega,by omega,g3.len c9,by omega,by omega,g3.len cW,by omega,by omega,by omega,by omega,⟨by omega,by omega,g3.dZ cW c9,by simpa using g4, ?_⟩,by omega⟩⟩;rw[g5,ae4 (by omega) (by rw[jD];simpa using ad),show((J:Int)+1).toNat=J+1 by omega];rfl
   ·have h:=aoP h;exact fin (QW (.inl (by omega)))
  ·have h:=aoP h;rw[aoA (show ¬B-c_>=2 by omega)]at oy;refine⟨⟨by omega,by omega,by omega,by omega,jm,hy, ?_⟩,by omega⟩;rw[<-hb,oy _ rfl,show(5-((S:Int)+1)).toNat=T by omega]
 ·rintro o rfl;exact ae
end ab
end
