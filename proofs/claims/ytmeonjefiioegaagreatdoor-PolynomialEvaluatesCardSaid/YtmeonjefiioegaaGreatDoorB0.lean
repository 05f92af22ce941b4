/- Helpers for the statements: facts about numbers, fractions and polynomials as lists, and the proofs of the conditions. Condition: none. -/
import Derived.Test.YtmeonjefiioegaaGreatDoorA2
import Derived.Lib.Bytealg
import Derived.Sort.AssemblyPlain
import Derived.Sort.LotD4
section
namespace aa
def val:List Int->Nat
 |[]=>0
 |x::r=>x.toNat+4294967296*val r
def bN (a:List Int):Prop:=∀i,0<=a.getD i 0/\a.getD i 0<4294967296
def aP (n:Nat):List Int:=if h:n=0 then[]else((n%4294967296:Nat):Int)::aP (n/4294967296)
  termination_by n
  decreasing_by exact arH (arI h) (by decide)
def du (a:List Int)(i:Nat):Nat:=val (a.take i)
theorem bN.mem {a:List Int}(h:bN a){x:Int}(aj:x∈a):0<=x/\x<4294967296:=by
 obtain⟨i,hi,rfl⟩:=List.mem_iff_getElem.1 aj;have:=h i;simpa[apA,hi]using this
theorem bN.of {a:List Int}(h:∀x∈a,0<=x/\x<4294967296):bN a:=fun i=>by
 by_cases hi:i<a.length
 ·have:=h _ (aqA hi);simpa[apA,hi]using this
 ·simp[apA,hi]
theorem bN.nil:bN []:= .of (by simp)
theorem bN.cons {x:Int}{r:List Int}(h:bN (x::r)):(0<=x/\x<4294967296)/\bN r:=⟨h.mem (by simp), .of fun y bo=>h.mem (by simp[bo])⟩
theorem bN.mk {x:Int}{r:List Int}(aj:0<=x/\x<4294967296)(h:bN r):bN (x::r):= .of fun y bo=>by
 rcases ap9.1 bo with rfl|bo
 ·exact aj
 ·exact h.mem bo
theorem bN.take {a:List Int}(h:bN a)(n:Nat):bN (a.take n):= .of fun _ aj=>h.mem (List.mem_of_mem_take aj)
theorem bN.drop {a:List Int}(h:bN a)(n:Nat):bN (a.drop n):= .of fun _ aj=>h.mem (List.mem_of_mem_drop aj)
theorem bN.append {a b:List Int}(h:bN a)(k:bN b):bN (a++b):= .of fun x aj=>by
 rcases aqV.1 aj with aj|aj
 ·exact h.mem aj
 ·exact k.mem aj
theorem bN.set {a:List Int}(h:bN a)(i:Nat){x:Int}(aj:0<=x/\x<4294967296):bN (a.set i x):= .of fun y bo=>by
 rcases are bo with bo|rfl
 ·exact h.mem bo
 ·exact aj
theorem bN.nv (n:Nat):bN (List.replicate n 0):= .of fun x aj=>by rw[List.eq_of_mem_replicate aj];decide
theorem OD (a b:List Int):val (a++b)=val a+4294967296^a.length*val b:=by
 induction a with
 |nil=>simp[val]
 |cons x r bI=>
  simp only[aqW,val,bI,aqj,ap6,apN];rw[aqa (4294967296^r.length) 4294967296,aqb];omega
theorem yS (n:Nat):val (List.replicate n 0)=0:=by
 induction n with
 |zero=>rfl
 |succ n bI=>simp[List.replicate_succ,val,bI]
theorem iM {a:List Int}(h:bN a):val a<4294967296^a.length:=by
 induction a with
 |nil=>simp[val]
 |cons x r bI=>
  obtain⟨⟨ab,ad⟩,ao⟩:=h.cons;have:=bI ao;simp only[val,aqj,ap6];have aj:x.toNat<4294967296:=by omega
  omega
theorem iK (a:List Int):du a 0=0:=by simp[du,val]
theorem gA (a:List Int)(i:Nat):du a (i+1)=du a i+4294967296^i*(a.getD i 0).toNat:=by
 unfold du
 by_cases h:i<a.length
 ·rw[List.take_succ_eq_append_getElem h,OD];simp only[val,ap_,arJ (Nat.le_of_lt h),ap0,apV];simp[apA,h]
 ·rw[aro (by omega),aro (by omega)];simp[apA,h]
theorem hI (a:List Int){i:Nat}(h:a.length<=i):du a i=val a:=by unfold du;rw[aro h]
theorem rA (a:List Int)(i j:Nat)(v:Int)(h:i<=j):du (a.set j v) i=du a i:=by
 unfold du;rw[List.take_set_of_le h]
theorem rH {a:List Int}(h:bN a)(i:Nat):du a i<4294967296^i:=by
 unfold du;have:=iM (h.take i);refine apW this (aqg (by decide) ?_);simp;omega
theorem kH:aP 0=[]:=by unfold aP;simp
theorem wI {n:Nat}(h:n≠0):aP n=((n%4294967296:Nat):Int)::aP (n/4294967296):=by rw[aP];simp[h]
theorem eh (n:Nat):val (aP n)=n:=by
 induction n using Nat.strongRecOn with
 |_ n bI=>
  by_cases h:n=0
  ·subst h;rw[kH];rfl
  ·rw[wI h,val,bI _ (arH (arI h) (by decide))];omega
theorem gz (n:Nat):bN (aP n):=by
 induction n using Nat.strongRecOn with
 |_ n bI=>
  by_cases h:n=0
  ·subst h;rw[kH];exact .nil
  ·rw[wI h];have:n%4294967296<4294967296:=aqh _ (by decide);exact .mk ⟨by omega,by omega⟩ (bI _ (arH (arI h) (by decide)))
theorem HK {a b:Nat}:aP a=aP b↔a=b:=⟨fun h=>by rw[<-eh a,<-eh b,h],fun h=>h▸rfl⟩
theorem ra {n:Nat}:aP n=[]↔n=0:=by
 rw[<-kH,HK]
theorem h0 {n k:Nat}:(aP n).length<=k↔n<4294967296^k:=by
 induction k generalizing n with
 |zero=>
  simp only[Nat.le_zero,aqm,ra,arf];omega
 |succ k bI=>
  by_cases h:n=0
  ·subst h;rw[kH];simp[Nat.pow_pos]
  ·rw[wI h,aqj,Nat.add_le_add_iff_right,bI,ap6];exact Nat.div_lt_iff_lt_mul (by decide)
def Norm (a:List Int):Prop:=a.getLast?≠some 0
theorem Hw (n:Nat):Norm (aP n):=by
 induction n using Nat.strongRecOn with
 |_ n bI=>
  by_cases h:n=0
  ·subst h;rw[kH];simp[Norm]
  ·have ax:=bI _ (arH (arI h) (by decide:1<4294967296));rw[wI h];unfold Norm at ax⊢;rw[List.getLast?_cons]
   cases aj:(aP (n/4294967296)).getLast? with
   |none=>
    have:aP (n/4294967296)=[]:=by simpa using aj
    rw[ra]at this;have ad:=Nat.mod_add_div n 4294967296;rw[this]at ad;simp only[Option.getD_none,ne_eq,apX];omega
   |some y=>rw[aj]at ax;simpa using ax
theorem yT:∀{a:List Int},bN a->Norm a->aP (val a)=a
 |[],_,_=>kH
 |x::r,h,aB=>by
  obtain⟨⟨ab,ad⟩,ao⟩:=h.cons
  have ake:Norm r:=by
   unfold Norm at aB⊢;rw[List.getLast?_cons]at aB;intro aj;rw[aj]at aB;simp at aB
  have bI:=yT ao ake
  have hm:val (x::r)%4294967296=x.toNat:=by
   rw[val,Nat.add_mul_mod_self_left,aqt (by omega)]
  have a_:val (x::r)/4294967296=val r:=by
   rw[val,Nat.add_mul_div_left _ _ (by decide),ard (by omega),ap3]
  have dn:val (x::r)≠0:=by
   intro bc;rw[bc]at hm a_;simp at hm a_;have:r=[]:=by rw[<-bI,<-a_];exact kH
   subst this;unfold Norm at aB;simp at aB;omega
  rw[wI dn,hm,a_,bI,Int.toNat_of_nonneg ab]
theorem Yd {a:List Int}(h:a.getD (a.length-1) 0=0):val (a.take (a.length-1))=val a:=by
 by_cases he:a.length=0
 ·have:a=[]:=aqm.1 he;subst this;rfl
 ·have:=gA a (a.length-1);rw[h,show a.length-1+1=a.length by omega,hI a (apF _)]at this;simpa[du]using this.symm
theorem BW {a:List Int}(h:a=[]\/a.getD (a.length-1) 0≠0):Norm a:=by
 unfold Norm;rcases h with rfl|h
 ·simp
 ·rw[List.getLast?_eq_getElem?];intro aj;apply h;rw[apA,aj];rfl
end aa
end
section
namespace aa
def ju (n:Nat):List Int:=if h:n=0 then[]else((48+n%10:Nat):Int)::ju (n/10)
  termination_by n
  decreasing_by exact arH (arI h) (by decide)
def dec (n:Nat):List Int:=if n=0 then[48]else(ju n).reverse
theorem uv:ju 0=[]:=by unfold ju;simp
theorem CH {n:Nat}(h:n≠0):ju n=((48+n%10:Nat):Int)::ju (n/10):=by rw[ju];simp[h]
theorem Qm {n:Nat}:ju n=[]↔n=0:=by
 by_cases h:n=0
 ·subst h;simp[uv]
 ·rw[CH h];simp[h]
theorem acK {n k:Nat}:(ju n).length<=k↔n<10^k:=by
 induction k generalizing n with
 |zero=>
  simp only[Nat.le_zero,aqm,Qm,arf];omega
 |succ k bI=>
  by_cases h:n=0
  ·subst h;rw[uv];simp[Nat.pow_pos]
  ·rw[CH h,aqj,Nat.add_le_add_iff_right,bI,ap6];exact Nat.div_lt_iff_lt_mul (by decide)
theorem acL {n:Nat}{x:Int}(h:x∈ju n):48<=x/\x<58:=by
 induction n using Nat.strongRecOn with
 |_ n bI=>
  by_cases bc:n=0
  ·subst bc;rw[uv]at h;cases h
  ·rw[CH bc,ap9]at h;rcases h with rfl|h
   ·omega
   ·exact bI _ (arH (arI bc) (by decide)) h
theorem Rs {a:List Int}(h:bN a):(ju (val a)).length<=10*a.length:=by
 rw[acK];refine apW (iM h) ?_;rw[Nat.pow_mul];exact Nat.pow_le_pow_left (by decide) _
def v8 (acc:Nat):List Int->Nat
 |[]=>acc
 |x::r=>v8 (acc*10+(x-48).toNat) r
def S7 (s:List Int):Bool:=decide (s≠[])&&s.all fun x=>decide (48<=x/\x<=57)
def DM (s:List Int):Int:=if S7 s=true then(if 60<s.length then 9 else 0)else 4
def DN (s:List Int):List Int:=if S7 s=true/\s.length<=60 then aP (v8 0 s)else[]
end aa
end
section
namespace Go.ak
def bk (S:List R->Option (Prop×R)):List R->(R->Prop)->Prop:=fun args K=>match S args with|some (p,r)=>p/\K r|none=>False
theorem cJ (S:List R->Option (Prop×R)):k7 (bk S):=by
 refine⟨fun args K K' ag h=> ?_,fun args K h=> ?_⟩
 ·unfold bk at h⊢;split
  ·rename_i he;rw[he]at h;exact⟨h.1,ag _ h.2⟩
  ·rename_i he;rw[he]at h;exact h
 ·unfold bk at h;split at h
  ·exact⟨_,h.2⟩
  ·exact h.elim
def e7 (S:R->ae->List R->Option (Prop×ae×R)):R->ae->List R->(ae->R->Prop)->Prop:=fun a o args K=>match S a o args with|some (p,cj,r)=>p/\K cj r|none=>False
theorem gQ (S:R->ae->List R->Option (Prop×ae×R)):kt (e7 S):=by
 refine⟨fun a o args K K' ag h=> ?_,fun a o args K h=> ?_⟩
 ·unfold e7 at h⊢;split
  ·rename_i he;rw[he]at h;exact⟨h.1,ag _ _ h.2⟩
  ·rename_i he;rw[he]at h;exact h
 ·unfold e7 at h;split at h
  ·exact⟨_,_,h.2⟩
  ·exact h.elim
end Go.ak
namespace aa
open Go Go.ak
def L (x:Int):Prop:=0<=x/\x<4294967296
def bF (a:List Int):Prop:=bN a/\a.length<=100000000
abbrev gw (x:Int):R:= .d (.int .u32 x)
abbrev Gr (x:Int):R:= .d (.int .i64 x)
def DO.T:=bk fun|[.d (.int .u32 x), .d (.int .u32 y)]=>some (L x/\L y, .tup [.d (.int .u32 (x*y/4294967296)), .d (.int .u32 (x*y%4294967296))])|_=>none
def DP.T:=bk fun|[.d (.int .u32 x), .d (.int .u32 y), .d (.int .u32 c)]=>some (L x/\L y/\0<=c/\c<=1, .tup [.d (.int .u32 ((x+y+c)%4294967296)), .d (.int .u32 ((x+y+c)/4294967296))])|_=>none
def DQ.T:=bk fun|[.d (.int .u32 x), .d (.int .u32 y), .d (.int .u32 c)]=>some (L x/\L y/\0<=c/\c<=1, .tup [.d (.int .u32 ((x-y-c)%4294967296)), .d (.int .u32 (if x-y-c<0 then 1 else 0))])|_=>none
def DR.T:=bk fun|[.d (.int .u32 h), .d (.int .u32 l), .d (.int .u32 y)]=>some (L h/\L l/\L y/\h<y, .tup [.d (.int .u32 ((h*4294967296+l)/y)), .d (.int .u32 ((h*4294967296+l)%y))])|_=>none
def Et.T:=bk fun|[.d (.af .u32 a)]=>some (bN a/\a.length<=1000000000, .d (.af .u32 (aP (val a))))|_=>none
def DS.T:=bk fun|[.d (.af .u32 a)]=>some (a.length<=100000000, .d (.af .u32 a))|_=>none
def Eu.T:=bk fun|[.d (.af .u32 a)]=>some (bF a, .d (.af .u32 (aP (val a))))|_=>none
def Ct.T:=bk fun|[.d (.int .u64 u)]=>some (0<=u/\u<18446744073709551616, .d (.af .u32 (aP u.toNat)))|_=>none
def Da.T:=bk fun|[.d (.af .u32 a)]=>some (bN a/\a.length<=2, .d (.int .u64 (val a)))|_=>none
def cmp (a b:Nat):Int:=if a<b then-1 else if a=b then 0 else 1
def E9.T:=bk fun|[.d (.af .u32 a), .d (.af .u32 b)]=>some (bF a/\bF b, .d (.int .i64 (cmp (val a) (val b))))|_=>none
def iQ.T:=bk fun|[.d (.af .u32 a), .d (.af .u32 b)]=>some (bF a/\bF b, .d (.af .u32 (aP (val a+val b))))|_=>none
def E_.T:=bk fun|[.d (.af .u32 a), .d (.af .u32 b)]=>some (bF a/\bF b, .d (.af .u32 (aP (val a*val b))))|_=>none
def Fa.T:=bk fun|[.d (.af .u32 a), .d (.af .u32 b)]=>some (bF a/\bF b, .tup [.d (.af .u32 (if val a<val b then[]else aP (val a-val b))), .d (.int .i64 (if val a<val b then 1 else 0))])|_=>none
def DT.T:=bk fun|[.d (.af .u32 a), .d (.int .u32 d)]=>some (bF a/\L d/\0<d, .tup [.d (.af .u32 (aP (val a/d.toNat))), .d (.int .u32 (val a%d.toNat:Nat))])|_=>none
def Db.T:=bk fun|[.d (.af .u32 a), .d (.af .u32 b)]=>some (bF a/\bF b, .tup [.d (.af .u32 (if val b=0 then[]else aP (val a/val b))), .d (.af .u32 (if val b=0 then[]else aP (val a%val b))), .d (.int .i64 (if val b=0 then 3 else 0))])|_=>none
def aoM.T:=bk fun|[.d (.af .u32 a), .d (.int .i64 n)]=>some (bN a/\a.length<=1000000, .tup [.d (.af .u32 (if 0<=n/\n<=64 then aP (val a^n.toNat)else[])), .d (.int .i64 (if 0<=n/\n<=64 then 0 else 1))])|_=>none
def Ev.T:=bk fun|[.d (.af .u32 a), .d (.af .u32 b)]=>some (a.length<=1000000000/\b.length<=1000000000, .d (.bool (decide (a=b))))|_=>none
def an1.T:=bk fun|[.d (.af .u32 a), .d (.af .u32 b)]=>some (bF a/\bF b/\val b<4294967296, .tup [.d (.af .u32 (if val b=0 then[]else aP (val a/val b))), .d (.af .u32 (if val b=0 then[]else aP (val a%val b))), .d (.int .i64 (if val b=0 then 3 else 0))])|_=>none
def CI.T:=e7 fun| .vec n, .af .u8 l,[]=>(match Nat.beq n 0 with|true=>some (l.length<=1000000000000, .af .u8 l.reverse, .tup [])|false=>none)|_,_,_=>none
def Dc.T:=bk fun|[.d (.af .u32 a)]=>some (bF a, .d (.str (dec (val a))))|_=>none
def aom.T:=bk fun|[]=>some (True, .d (.bool true))|_=>none
def anC.T:=bk fun|[.d (.af .u32 a), .d (.int .u8 m), .d (.int .u8 n)]=>some (bN a/\0<=m/\0<=n, .d (.bool true))|_=>none
def an2.T:=bk fun|[.d (.int .i64 n)]=>some (-9223372036854775808<=n/\n<9223372036854775808, .tup [.d (.af .u32 (if n<0 then[]else aP n.toNat)), .d (.int .i64 (if n<0 then 1 else 0))])|_=>none
def aoN.T:=bk fun|[.d (.af .u32 a)]=>some (bF a, .tup [.d (.int .i64 (if val a<9223372036854775808 then val a else 0)), .d (.int .i64 (if val a<9223372036854775808 then 0 else 1))])|_=>none
def aon.T:=bk fun|[.d (.str s)]=>some (s.length<=1000000000000, .tup [.d (.af .u32 (DN s)), .d (.int .i64 (DM s))])|_=>none
def anW.T:=bk fun|[.d (.af .u32 a)]=>some (True, .d (.bool (decide (a.length<=24))))|_=>none
def anJ.T:=bk fun|[.d (.af .u32 a), .d (.af .u32 b), .d (.af .u32 c)]=>some (bN a/\bN b/\bN c, .d (.bool true))|_=>none
def anK.T:=bk fun|[.d (.int .i64 m), .d (.int .i64 n)]=>some (-9223372036854775808<=m/\m<9223372036854775808/\-9223372036854775808<=n/\n<9223372036854775808, .d (.bool true))|_=>none
def anD.T:=bk fun|[.d (.af .u32 a), .d (.int .u8 z)]=>some (bN a/\0<=z/\z<256, .d (.bool true))|_=>none
def da (n:Nat):Nat:=if n=0 then 0 else n.log2+1
def kk (n:Nat):Nat->List Int
 |0=>[]
 |k+1=>((n%4294967296:Nat):Int)::kk (n/4294967296) k
def DU.T:=bk fun|[.d (.int .u32 x)]=>some (L x, .d (.int .i64 (da x.toNat)))|_=>none
def CJ.T:=bk fun|[.d (.int .u32 x)]=>some (L x, .d (.int .i64 (32-da x.toNat)))|_=>none
def DV.T:=m2 fun|[.d (.af .u32 a), .d (.int .u64 k)]=>some (bF a/\0<=k/\k<32, .af .u32 (kk (val a*2^k.toNat) (a.length+1)))|_=>none
def Ew.T:=bk fun|[.d (.af .u32 a), .d (.af .u32 b)]=>some (bF a/\bF b/\Norm a/\Norm b/\2<=b.length/\val b<=val a, .tup [.d (.af .u32 (aP (val a/val b))), .d (.af .u32 (aP (val a%val b)))])|_=>none
def Fb.T:=bk fun|[.d (.af .u32 a), .d (.af .u32 b)]=>some (bF a/\bF b, .d (.af .u32 (aP (Nat.gcd (val a) (val b)))))|_=>none
def anA.T:=bk fun|[.d (.af .u32 a), .d (.af .u32 b)]=>some (bN a/\bN b, .d (.bool true))|_=>none
def anE.T:=bk fun|[.d (.af .u32 a), .d (.af .u32 b), .d (.af .u32 c)]=>some (bN a/\bN b/\bN c, .d (.bool true))|_=>none
def CK.T:=m2 fun|[.d (.af .u32 a)]=>some (bF a, .af .u32 (aP (val a)))|_=>none
def Dd.T:=bk fun|[.d (.af .u32 a), .d (.af .u32 b)]=>some (bF a/\bF b, .d (.int .i64 (cmp (val a) (val b))))|_=>none
def De.T:=bk fun|[.d (.af .u32 a), .d (.af .u32 b)]=>some (bN a/\bN b/\a.length<=90000000/\b.length<=90000000, .d (.af .u32 (aP (val a+val b))))|_=>none
def Df.T:=bk fun|[.d (.af .u32 a), .d (.af .u32 b)]=>some (bN a/\bN b/\a.length<=40000000/\b.length<=40000000, .d (.af .u32 (aP (val a*val b))))|_=>none
def Dg.T:=bk fun|[.d (.af .u32 a), .d (.af .u32 b)]=>some (bF a/\bF b, .tup [.d (.af .u32 (if val a<val b then[]else aP (val a-val b))), .d (.int .i64 (if val a<val b then 1 else 0))])|_=>none
def Cu.T:=bk fun|[.d (.af .u32 a), .d (.int .u32 d)]=>some (bF a/\L d/\0<d, .tup [.d (.af .u32 (aP (val a/d.toNat))), .d (.int .u32 (val a%d.toNat:Nat))])|_=>none
def Cf.T:=bk fun|[.d (.af .u32 a), .d (.af .u32 b)]=>some (bN a/\a.length<=90000000/\bN b/\b.length<=90000000, .tup [.d (.af .u32 (if val b=0 then[]else aP (val a/val b))), .d (.af .u32 (if val b=0 then[]else aP (val a%val b))), .d (.int .i64 (if val b=0 then 3 else 0))])|_=>none
def anM.T:=bk fun|[.d (.af .u32 a), .d (.af .u32 b)]=>some (bF a/\bF b/\val b<4294967296, .tup [.d (.af .u32 (if val b=0 then[]else aP (val a/val b))), .d (.af .u32 (if val b=0 then[]else aP (val a%val b))), .d (.int .i64 (if val b=0 then 3 else 0))])|_=>none
def Dh.T:=bk fun|[.d (.af .u32 a), .d (.af .u32 b)]=>some (bN a/\a.length<=90000000/\bN b/\b.length<=90000000, .d (.af .u32 (aP (Nat.gcd (val a) (val b)))))|_=>none
def Ca.T:=bk fun|[.d (.int .i64 n)]=>some (-9223372036854775808<=n/\n<9223372036854775808, .tup [.d (.af .u32 (if n<0 then[]else aP n.toNat)), .d (.int .i64 (if n<0 then 1 else 0))])|_=>none
def an_.T:=bk fun|[.d (.af .u32 a)]=>some (bF a, .tup [.d (.int .i64 (if val a<9223372036854775808 then val a else 0)), .d (.int .i64 (if val a<9223372036854775808 then 0 else 1))])|_=>none
def anX.T:=bk fun|[.d (.str s)]=>some (s.length<=1000000000000, .tup [.d (.af .u32 (DN s)), .d (.int .i64 (DM s))])|_=>none
def aoa.T:=bk fun|[.d (.af .u32 a), .d (.int .i64 n)]=>some (bN a/\a.length<=500000, .tup [.d (.af .u32 (if 0<=n/\n<=64 then aP (val a^n.toNat)else[])), .d (.int .i64 (if 0<=n/\n<=64 then 0 else 1))])|_=>none
def anP.T:=bk fun|[.d (.af .u32 a)]=>some (bF a, .d (.str (dec (val a))))|_=>none
def Cv.T:=m2 fun|[.d (.af .u32 a), .d (.int .i64 k)]=>some (bF a/\0<=k/\k<32, .af .u32 (kk (val a*2^k.toNat) (a.length+1)))|_=>none
def Cb.T:=bk fun|[.d (.af .u32 a), .d (.int .i64 k)]=>some (bF a/\0<=k/\k<32, .d (.af .u32 (aP (val a/2^k.toNat))))|_=>none
def anQ.T:=bk fun|[.d (.af .u32 a), .d (.af .u32 b)]=>some (bN a/\bN b/\a.length<=1000000/\b.length<=1000000, .d (.bool true))|_=>none
def Cw.T:=e7 fun| .vec z, .af .u32 u,[.d (.af .u32 v), .d (.int .i64 j)]=>(match Nat.beq z 0 with|true=>some (bF u/\bF v/\2<=v.length/\0<=j/\j.toNat+v.length<u.length/\2147483648*4294967296^(v.length-1)<=val v/\val u<4294967296^(j.toNat+1)*val v, .af .u32 (kk (val u-4294967296^j.toNat*((val u/4294967296^j.toNat)/val v*val v)) u.length), .d (.int .u32 ((val u/4294967296^j.toNat)/val v:Nat)))|false=>none)|_,_,_=>none
def anN.T:=bk fun|[.d (.af .u32 a), .d (.af .u32 b), .d (.int .i64 n), .d (.str _)]=>some (bN a/\bN b/\-9223372036854775808<=n/\n<9223372036854775808, .d (.bool true))|_=>none
end aa
end
section
namespace aa
open Go Go.ak
def i64 (x:Int):Prop:=-9223372036854775808<=x/\x<9223372036854775808
def ds (l:List Int)(a:Int):Prop:=0<=a/\l.length<=1000/\∀x∈l,i64 x
def vi (l:List Int)(a:Int):Int:=if(l.length:Int)<=a then a else a+1
def qt (l:List Int)(a:Int):Int:=if(l.length:Int)<=a then 0 else l.getD a.toNat 0
def c6 (l:List Int)(a n:Int):Int:=if n<1 then a else vi l a
def fr (l:List Int)(a n:Int):Int:=if n<1 then 0 else qt l a%n
def m3 (l:List Int)(a:Int)(m:List Int):Int:=m.getD (fr l a m.length).toNat 0
def q7:List Int:=[0,1,2,3,10,97,65536,2147483648,4294967295,4294967291,123456789,4000000007]
def rn (l:List Int):Nat->Int->List Int->List Int×Int
 |0,a,out=>(out,a)
 |i+1,a,out=>rn l i (c6 l a 12) (out++[m3 l a q7])
def lF (l:List Int)(a:Int):List Int×Int:=rn l (fr l a 5).toNat (c6 l a 5) []
abbrev st (l:List Int)(a s:Int):ae:= .cells [.d (.af .i64 l), .d (.int .i64 a), .d (.int .i64 s)]
def DW.T:=m2 fun|[.d (.af .i64 l)]=>some (True, .cells [.d (.af .i64 (l.take 1000)), .d (.int .i64 0), .d (.int .i64 0)])|_=>none
def DX.T:=e7 fun| .ptr z o, .cells [.d (.af .i64 l), .d (.int .i64 a), .d (.int .i64 s)],[]=>(match Nat.beq z 0,Nat.beq o 0 with|true,true=>some (ds l a, .cells [.d (.af .i64 l), .d (.int .i64 (vi l a)), .d (.int .i64 s)], .d (.int .i64 (qt l a)))|_,_=>none)|_,_,_=>none
def Fc.T:=e7 fun| .ptr z o, .cells [.d (.af .i64 l), .d (.int .i64 a), .d (.int .i64 s)],[.d (.int .i64 n)]=>(match Nat.beq z 0,Nat.beq o 0 with|true,true=>some (ds l a/\i64 n, .cells [.d (.af .i64 l), .d (.int .i64 (c6 l a n)), .d (.int .i64 s)], .d (.int .i64 (fr l a n)))|_,_=>none)|_,_,_=>none
def Di.T:=e7 fun| .ptr z o, .cells [.d (.af .i64 l), .d (.int .i64 a), .d (.int .i64 s)],[.d (.af .i64 m)]=>(match Nat.beq z 0,Nat.beq o 0 with|true,true=>some (ds l a/\0<m.length/\m.length<=1000, .cells [.d (.af .i64 l), .d (.int .i64 (c6 l a m.length)), .d (.int .i64 s)], .d (.int .i64 (m3 l a m)))|_,_=>none)|_,_,_=>none
def CL.T:=e7 fun| .ptr z o, .cells [.d (.af .i64 l), .d (.int .i64 a), .d (.int .i64 s)],[]=>(match Nat.beq z 0,Nat.beq o 0 with|true,true=>some (ds l a, .cells [.d (.af .i64 l), .d (.int .i64 (lF l a).2), .d (.int .i64 s)], .d (.af .u32 (lF l a).1))|_,_=>none)|_,_,_=>none
def anH.T:=bk fun|[.d (.af .i64 l)]=>some (∀x∈l,i64 x, .d (.bool true))|_=>none
end aa
end
section
namespace aa
open Go Go.ak
def dO (s:Bool)(n:Nat):Int:=if s then-(n:Int)else n
def aV (s:Bool)(a b:List Int):Rat:=mkRat (dO s (val a)) (val b)
def ca (r:Rat):Bool:=decide (r.num<0)
def b8 (r:Rat):List Int:=aP r.num.natAbs
def b1 (r:Rat):List Int:=aP r.den
def bu (k:Nat)(a:List Int):Prop:=bN a/\a.length<=k
def yl (r:Rat):Bool:=decide (r=0)
def k8 (r:Rat):Int:=if r=0 then 0 else if r<0 then-1 else 1
def TC (r:Rat):List Int:=(if ca r then[45]else[])++dec r.num.natAbs++(if r.den=1 then[]else 47::dec r.den)
def Fe:List Int->List Int
 |[]=>[]
 |x::r=>if x=47 then[]else x::Fe r
def Ff:List Int->List Int
 |[]=>[]
 |x::r=>if x=47 then r else Ff r
def Ad:List Int->Bool
 |[]=>false
 |x::r=>if x=47 then true else Ad r
def Jr (s:List Int):Bool:=decide (s.getD 0 0=45)
def vj (s:List Int):List Int:=if Jr s then s.drop 1 else s
def UB (s:List Int):Int:=DM (Fe (vj s))
def UC (s:List Int):Int:=if Ad (vj s)then DM (Ff (vj s))else 0
def akf (s:List Int):Nat:=val (DN (Fe (vj s)))
def UD (s:List Int):Nat:=if Ad (vj s)then val (DN (Ff (vj s)))else 1
def FY (s:List Int):Int:=if UB s=4\/UC s=4 then 4 else if UB s≠0\/UC s≠0 then 9 else if UD s=0 then 3 else 0
def Kt (s:List Int):Rat:=mkRat (dO (Jr s) (akf s)) (UD s)
def kW (c:Bool)(r:Rat):Bool:=if c then ca r else false
def kX (c:Bool)(r:Rat):List Int:=if c then b8 r else[]
def kY (c:Bool)(r:Rat):List Int:=if c then b1 r else[]
def Fg.T:=bk fun|[.agg [.d (.bool s), .d (.af .u32 a), .d (.af .u32 b)]]=>some (True, .agg [.d (.bool s), .d (.af .u32 a), .d (.af .u32 b)])|_=>none
def Dj.T:=bk fun|[.d (.bool s), .d (.af .u32 a), .d (.af .u32 b)]=>some (bF a/\bF b/\val b≠0, .agg [.d (.bool (ca (aV s a b))), .d (.af .u32 (b8 (aV s a b))), .d (.af .u32 (b1 (aV s a b)))])|_=>none
def Dk.T:=bk fun|[.d (.af .u32 a)]=>some (bF a, .d (.bool (decide (val a=0))))|_=>none
def w3.T:=bk fun|[.agg [.d (.bool s), .d (.af .u32 a), .d (.af .u32 b)]]=>some (bF a/\bF b, .agg [.d (.bool (ca (aV s a b))), .d (.af .u32 (b8 (aV s a b))), .d (.af .u32 (b1 (aV s a b)))])|_=>none
def Fh.T:=bk fun|[.d (.af .u32 a)]=>some (True, .d (.bool (decide (a=[1]))))|_=>none
def Cg.T:=bk fun|[.d (.int .i64 n)]=>some (i64 n, .tup [.d (.bool (decide (n<0))), .d (.af .u32 (aP n.natAbs))])|_=>none
def ta.T:=bk fun|[.d (.int .i64 n)]=>some (i64 n, .agg [.d (.bool (ca (n:Rat))), .d (.af .u32 (b8 (n:Rat))), .d (.af .u32 (b1 (n:Rat)))])|_=>none
def Ex.T:=bk fun|[.d (.int .i64 n), .d (.int .i64 d)]=>some (i64 n/\i64 d, .tup [.agg [.d (.bool (kW (!decide (d=0)) (Rat.divInt n d))), .d (.af .u32 (kX (!decide (d=0)) (Rat.divInt n d))), .d (.af .u32 (kY (!decide (d=0)) (Rat.divInt n d)))], .d (.int .i64 (if d=0 then 3 else 0))])|_=>none
def aoo.T:=bk fun|[.d (.bool s), .d (.af .u32 a), .d (.af .u32 b)]=>some (bF a/\bF b, .tup [.agg [.d (.bool (kW (!decide (val b=0)) (aV s a b))), .d (.af .u32 (kX (!decide (val b=0)) (aV s a b))), .d (.af .u32 (kY (!decide (val b=0)) (aV s a b)))], .d (.int .i64 (if val b=0 then 3 else 0))])|_=>none
def CM.T:=bk fun|[.d (.bool s), .d (.af .u32 a), .d (.bool t), .d (.af .u32 b), .d (.af .u32 d)]=>some (bu 50000000 a/\bu 50000000 b/\bF d/\val d≠0, .agg [.d (.bool (ca (mkRat (dO s (val a)+dO t (val b)) (val d)))), .d (.af .u32 (b8 (mkRat (dO s (val a)+dO t (val b)) (val d)))), .d (.af .u32 (b1 (mkRat (dO s (val a)+dO t (val b)) (val d))))])|_=>none
def xm.T:=bk fun|[.agg [.d (.bool s), .d (.af .u32 a), .d (.af .u32 b)], .agg [.d (.bool t), .d (.af .u32 c), .d (.af .u32 d)]]=>some (bu 1000000 a/\bu 1000000 b/\bu 1000000 c/\bu 1000000 d, .agg [.d (.bool (ca (aV s a b+aV t c d))), .d (.af .u32 (b8 (aV s a b+aV t c d))), .d (.af .u32 (b1 (aV s a b+aV t c d)))])|_=>none
def xn.T:=bk fun|[.agg [.d (.bool s), .d (.af .u32 a), .d (.af .u32 b)]]=>some (bu 1000000 a/\bu 1000000 b, .agg [.d (.bool (ca (-aV s a b))), .d (.af .u32 (b8 (-aV s a b))), .d (.af .u32 (b1 (-aV s a b)))])|_=>none
def xo.T:=bk fun|[.agg [.d (.bool s), .d (.af .u32 a), .d (.af .u32 b)], .agg [.d (.bool t), .d (.af .u32 c), .d (.af .u32 d)]]=>some (bu 1000000 a/\bu 1000000 b/\bu 1000000 c/\bu 1000000 d, .agg [.d (.bool (ca (aV s a b-aV t c d))), .d (.af .u32 (b8 (aV s a b-aV t c d))), .d (.af .u32 (b1 (aV s a b-aV t c d)))])|_=>none
def xp.T:=bk fun|[.agg [.d (.bool s), .d (.af .u32 a), .d (.af .u32 b)], .agg [.d (.bool t), .d (.af .u32 c), .d (.af .u32 d)]]=>some (bu 1000000 a/\bu 1000000 b/\bu 1000000 c/\bu 1000000 d, .agg [.d (.bool (ca (aV s a b*aV t c d))), .d (.af .u32 (b8 (aV s a b*aV t c d))), .d (.af .u32 (b1 (aV s a b*aV t c d)))])|_=>none
def aox.T:=bk fun|[.agg [.d (.bool s), .d (.af .u32 a), .d (.af .u32 b)], .agg [.d (.bool t), .d (.af .u32 c), .d (.af .u32 d)]]=>some (bu 1000000 a/\bu 1000000 b/\bu 1000000 c/\bu 1000000 d, .tup [.agg [.d (.bool (kW (!yl (aV t c d)) (aV s a b/aV t c d))), .d (.af .u32 (kX (!yl (aV t c d)) (aV s a b/aV t c d))), .d (.af .u32 (kY (!yl (aV t c d)) (aV s a b/aV t c d)))], .d (.int .i64 (if yl (aV t c d)=true then 3 else 0))])|_=>none
def xa.T:=bk fun|[.agg [.d (.bool s), .d (.af .u32 a), .d (.af .u32 b)]]=>some (bF a/\bF b, .d (.int .i64 (k8 (aV s a b))))|_=>none
def xq.T:=bk fun|[.agg [.d (.bool s), .d (.af .u32 a), .d (.af .u32 b)], .agg [.d (.bool t), .d (.af .u32 c), .d (.af .u32 d)]]=>some (bu 1000000 a/\bu 1000000 b/\bu 1000000 c/\bu 1000000 d, .d (.int .i64 (k8 (aV s a b-aV t c d))))|_=>none
def sL.T:=bk fun|[.agg [.d (.bool s), .d (.af .u32 a), .d (.af .u32 b)], .agg [.d (.bool t), .d (.af .u32 c), .d (.af .u32 d)]]=>some (bu 1000000 a/\bu 1000000 b/\bu 1000000 c/\bu 1000000 d, .d (.bool (decide (aV s a b=aV t c d))))|_=>none
def aoy.T:=bk fun|[.agg [.d (.bool s), .d (.af .u32 a), .d (.af .u32 b)], .d (.int .i64 n)]=>some (bu 10000 a/\bu 10000 b, .tup [.agg [.d (.bool (kW (decide (0<=n/\n<=64)) (aV s a b^n.toNat))), .d (.af .u32 (kX (decide (0<=n/\n<=64)) (aV s a b^n.toNat))), .d (.af .u32 (kY (decide (0<=n/\n<=64)) (aV s a b^n.toNat)))], .d (.int .i64 (if 0<=n/\n<=64 then 0 else 1))])|_=>none
def aob.T:=bk fun|[.d (.str s)]=>some (s.length<=1000000, .tup [.agg [.d (.bool (kW (decide (FY s=0)) (Kt s))), .d (.af .u32 (kX (decide (FY s=0)) (Kt s))), .d (.af .u32 (kY (decide (FY s=0)) (Kt s)))], .d (.int .i64 (FY s))])|_=>none
def CN.T:=bk fun|[.agg [.d (.bool s), .d (.af .u32 a), .d (.af .u32 b)]]=>some (bu 1000000 a/\bu 1000000 b, .d (.str (TC (aV s a b))))|_=>none
def anR.T:=bk fun|[.d (.str s), .d (.str p)]=>some (p=[45]/\s.length<=1000000000000, .tup [.d (.str (vj s)), .d (.bool (Jr s))])|_=>none
def aoO.T:=bk fun|[.d (.str s), .d (.str p)]=>some (p=[47]/\s.length<=1000000000000, .tup [.d (.str (Fe s)), .d (.str (if Ad s then Ff s else[])), .d (.bool (Ad s))])|_=>none
def DY.T:=bk fun|[.agg [.d (.bool s), .d (.af .u32 a), .d (.af .u32 b)], .agg [.d (.bool t), .d (.af .u32 c), .d (.af .u32 d)]]=>some (a.length<=1000000000/\b.length<=1000000000/\c.length<=1000000000/\d.length<=1000000000, .d (.bool (decide (s=t/\a=c/\b=d))))|_=>none
def aoc.T:=bk fun|[.agg [.d (.bool s), .d (.af .u32 a), .d (.af .u32 b)], .d (.int .i64 n)]=>some (bu 10000 a/\bu 10000 b/\n<=64, .agg [.d (.bool (ca (aV s a b^n.toNat))), .d (.af .u32 (b8 (aV s a b^n.toNat))), .d (.af .u32 (b1 (aV s a b^n.toNat)))])|_=>none
end aa
end
section
namespace Go.ak
def idx (c:Int):List Int->Int
 |[]=>-1
 |x::r=>if x=c then 0 else if idx c r=-1 then-1 else idx c r+1
def aoP.T:=bk fun|[.d (.str s), .d (.int .u8 c)]=>some (0<=c/\c<256, .d (.int .i64 (idx c s)))|_=>none
end Go.ak
end
section
namespace aa
open Go Go.ak
abbrev rg (r:Rat):R:= .agg [.d (.bool (ca r)), .d (.af .u32 (b8 r)), .d (.af .u32 (b1 r))]
abbrev dR (s:Bool)(a b:List Int):R:= .agg [.d (.bool s), .d (.af .u32 a), .d (.af .u32 b)]
def IQ (s p:List Int):Bool:=decide (p.length<=s.length/\s.take p.length=p)
def anS.T:=bk fun|[.d (.str s), .d (.str p)]=>some (s.length<=1000000000000/\p.length<=1000000000000, .d (.bool (IQ s p)))|_=>none
def anO.T:=bk fun|[.d (.str s), .d (.str p)]=>some (s.length<=1000000000000/\p.length<=1000000000000, .tup [.d (.str (if IQ s p then s.drop p.length else s)), .d (.bool (IQ s p))])|_=>none
def aod.T:=bk fun|[.d (.str s), .d (.str p)]=>some (p.length=1/\0<=p.getD 0 0/\p.getD 0 0<256/\s.length<=1000000000000, .d (.int .i64 (idx (p.getD 0 0) s)))|_=>none
def aoz.T:=bk fun|[.d (.str s), .d (.str p)]=>some (p.length=1/\0<=p.getD 0 0/\p.getD 0 0<256/\s.length<=1000000000000, .tup [.d (.str (if idx (p.getD 0 0) s<0 then s else s.take (idx (p.getD 0 0) s).toNat)), .d (.str (if idx (p.getD 0 0) s<0 then[]else s.drop ((idx (p.getD 0 0) s).toNat+1))), .d (.bool (!decide (idx (p.getD 0 0) s<0)))])|_=>none
def Dl.T:=bk fun|[.d (.bool s), .d (.af .u32 a), .d (.af .u32 b)]=>some (bu 90000000 a/\bu 90000000 b/\val b≠0, .agg [.d (.bool (ca (aV s a b))), .d (.af .u32 (b8 (aV s a b))), .d (.af .u32 (b1 (aV s a b)))])|_=>none
def CO.T:=bk fun|[.agg [.d (.bool s), .d (.af .u32 a), .d (.af .u32 b)]]=>some (bu 90000000 a/\bu 90000000 b, .agg [.d (.bool (ca (aV s a b))), .d (.af .u32 (b8 (aV s a b))), .d (.af .u32 (b1 (aV s a b)))])|_=>none
def aop.T:=bk fun|[.d (.bool s), .d (.af .u32 a), .d (.af .u32 b)]=>some (bu 90000000 a/\bu 90000000 b, .tup [.agg [.d (.bool (kW (!decide (val b=0)) (aV s a b))), .d (.af .u32 (kX (!decide (val b=0)) (aV s a b))), .d (.af .u32 (kY (!decide (val b=0)) (aV s a b)))], .d (.int .i64 (if val b=0 then 3 else 0))])|_=>none
def DZ.T:=bk fun|[.agg [.d (.bool s), .d (.af .u32 a), .d (.af .u32 b)]]=>some (bu 90000000 a/\bu 90000000 b, .d (.int .i64 (k8 (aV s a b))))|_=>none
def kO (l:List Int)(a lo hi:Int):Int:=lo+fr l a (hi-lo+1)
def Js (l:List Int)(a:Int):Int:=kO l a (-6) 6
def Jt (l:List Int)(a:Int):Int:=kO l (c6 l a 13) 1 5
def gJ (l:List Int)(a:Int):Rat:=Rat.divInt (Js l a) (Jt l a)
def jM (l:List Int)(a:Int):Int:=c6 l (c6 l a 13) 5
def qh (l:List Int)(a:Int):Int:=fr l a 4
def xb (l:List Int)(a:Int):Bool:=
 if qh l a=0 then ca (gJ l (c6 l a 4))else if qh l a=1 then decide (fr l (c6 l a 4) 2=0)else decide (fr l (c6 l (c6 l a 4) 6) 2=0)
def sY (l:List Int)(a:Int):List Int:=
 if qh l a=0 then b8 (gJ l (c6 l a 4))else if qh l a=1 then(lF l (c6 l (c6 l a 4) 2)).1 else
  [kO l (c6 l a 4) 1 6*fr l (c6 l (c6 l (c6 l a 4) 6) 2) 9,0]
def sZ (l:List Int)(a:Int):List Int:=
 if qh l a=0 then b1 (gJ l (c6 l a 4))else if qh l a=1 then(lF l (lF l (c6 l (c6 l a 4) 2)).2).1 else
  [kO l (c6 l a 4) 1 6*fr l (c6 l (c6 l (c6 l (c6 l a 4) 6) 2) 9) 6]
def xc (l:List Int)(a:Int):Int:=
 if qh l a=0 then jM l (c6 l a 4)else if qh l a=1 then(lF l (lF l (c6 l (c6 l a 4) 2)).2).2 else
  c6 l (c6 l (c6 l (c6 l (c6 l a 4) 6) 2) 9) 6
def CP.T:=e7 fun| .ptr z o, .cells [.d (.af .i64 l), .d (.int .i64 a), .d (.int .i64 s)],[.d (.int .i64 lo), .d (.int .i64 hi)]=>(match Nat.beq z 0,Nat.beq o 0 with|true,true=>some (ds l a/\-1000000000<=lo/\lo<=hi/\hi<=1000000000, .cells [.d (.af .i64 l), .d (.int .i64 (c6 l a (hi-lo+1))), .d (.int .i64 s)], .d (.int .i64 (kO l a lo hi)))|_,_=>none)|_,_,_=>none
def D0.T:=e7 fun| .ptr z o, .cells [.d (.af .i64 l), .d (.int .i64 a), .d (.int .i64 s)],[]=>(match Nat.beq z 0,Nat.beq o 0 with|true,true=>some (ds l a, .cells [.d (.af .i64 l), .d (.int .i64 (jM l a)), .d (.int .i64 s)],rg (gJ l a))|_,_=>none)|_,_,_=>none
def CQ.T:=e7 fun| .ptr z o, .cells [.d (.af .i64 l), .d (.int .i64 a), .d (.int .i64 s)],[]=>(match Nat.beq z 0,Nat.beq o 0 with|true,true=>some (ds l a, .cells [.d (.af .i64 l), .d (.int .i64 (xc l a)), .d (.int .i64 s)],dR (xb l a) (sY l a) (sZ l a))|_,_=>none)|_,_,_=>none
def anT.T:=bk fun|[.d (.af .u32 a)]=>some (bF a, .d (.bool (decide (a=aP (val a)))))|_=>none
def an3.T:=bk fun|[.agg [.d (.bool Bs), .d (.af .u32 a), .d (.af .u32 b)]]=>some (True, .d (.bool (decide (a.length<=12/\b.length<=12))))|_=>none
def an4.T:=bk fun|[]=>some (True, .d (.bool true))|_=>none
def anY.T:=bk fun|[.agg [.d (.bool Bs), .d (.af .u32 a), .d (.af .u32 b)], .agg [.d (.bool VM), .d (.af .u32 c), .d (.af .u32 d)]]=>some (bu 100000 a/\bu 100000 b/\bu 100000 c/\bu 100000 d, .d (.bool true))|_=>none
def anB.T:=bk fun|[.agg [.d (.bool Bs), .d (.af .u32 a), .d (.af .u32 b)], .agg [.d (.bool VM), .d (.af .u32 c), .d (.af .u32 d)]]=>some (bN a/\bN b/\bN c/\bN d, .d (.bool true))|_=>none
def anI.T:=bk fun|[.d (.af .i64 l)]=>some (∀x∈l,i64 x, .d (.bool true))|_=>none
def an5.T:=m2 fun|[.d (.af .u32 a), .d (.af .u32 b)]=>some (bN a/\bN b/\a.length<=40000000/\b.length<=40000000, .af .u32 (aP (val a*val b)))|_=>none
def anz.T:=bk fun|[.d (.af .i64 l), .d (.int .u32 k), .d (.int .u8 z)]=>some ((∀x∈l,i64 x)/\L k/\0<=z/\z<256, .d (.bool true))|_=>none
def anF.T:=bk fun|[.agg [.d (.bool Bs), .d (.af .u32 a), .d (.af .u32 b)]]=>some (bN a/\bN b, .d (.bool true))|_=>none
def anL.T:=bk fun|[.agg [.d (.bool Bs), .d (.af .u32 a), .d (.af .u32 b)], .agg [.d (.bool VM), .d (.af .u32 c), .d (.af .u32 d)], .d (.int .i64 x), .d (.int .i64 y), .d (.int .i64 n), .d (.str apm)]=>some (bN a/\bN b/\bN c/\bN d/\i64 x/\i64 y/\i64 n, .d (.bool true))|_=>none
def anG.T:=bk fun|[.d (.af .i64 l), .d (.str t), .d (.int .i64 n)]=>some ((∀x∈l,i64 x)/\(∀x∈t,0<=x/\x<256)/\i64 n, .d (.bool true))|_=>none
end aa
end
section
namespace aa
open Go Go.ak
abbrev Row:=List U
abbrev Rows:=List (List U)
def eT (r:Row):Prop:=∃(oN fX gg h6 jS jT oO sh:Int) (s:Bool) (a b:List Int),
 r=[.int .i64 oN, .int .i64 fX, .int .i64 gg, .int .i64 h6, .int .i64 jS, .int .i64 jT, .int .i64 oO, .int .i64 sh, .bool s, .af .u32 a, .af .u32 b]
def c9 (l:Rows):Prop:=∀r∈l,eT r
def dI (r:Row):List Int:=(r.take 8).map U.toInt
def eM:List Int->List Int->Int
 |a::x,b::y=>if a<b then-1 else if b<a then 1 else eM x y
 |[],[]=>0
 |[],_=>-1
 |_,[]=>1
def gS (a b:Row):Int:=-eM (dI a) (dI b)
def bl (a b:Row):Bool:=decide (gS a b<0)
structure eg where
 g:Nat
 desc:Bool
def eg.is (q:eg)(g:Nat)(c:List R):Bool:=
 match Nat.beq g q.g,q.desc,c with
 |true,true,[.agg [.bt]]=>true
 |true,false,[.agg [.d (.int .i64 8)]]=>true
 |_,_,_=>false
def qu.T (q:eg):=bk fun
 |[.agg [.d c], .rw m a, .rw n b]=>(match Nat.beq m 11,Nat.beq n 11,q.desc,c with
  |true,true,true, .bool true=>some (eT a/\eT b, .d (.int .i64 (gS a b)))
  |true,true,false, .int .i64 8=>some (eT a/\eT b, .d (.int .i64 (gS a b)))
  |_,_,_,_=>none)
 |_=>none
def fU (l:Rows)(a b:Int):Prop:=c9 l/\0<=a/\a<=b/\b<=(l.length:Int)/\l.length<1000000000000000
def Fi.T (q:eg):=e7 fun
 | .vec z, .ar an l,[.d (.int .i64 a), .d (.int .i64 b), .cls g c]=>(match Nat.beq z 0,Nat.beq an 11,q.is g c with
  |true,true,true=>some (fU l a b, .ar 11 (Go.Sort.insertionSort bl l.toArray a.toNat b.toNat).toList, .tup [])
  |_,_,_=>none)
 |_,_,_=>none
def Ey.T (q:eg):=e7 fun
 | .vec z, .ar an l,[.d (.int .i64 lo), .d (.int .i64 hi), .d (.int .i64 f), .cls g c]=>(match Nat.beq z 0,Nat.beq an 11,q.is g c with
  |true,true,true=>some (c9 l/\0<=lo/\lo<=(l.length:Int)/\0<=hi/\0<=f/\f+hi<=(l.length:Int)/\l.length<1000000000000000, .ar 11 (Go.Sort.siftDown bl hi.toNat f.toNat lo.toNat l.toArray).toList, .tup [])
  |_,_,_=>none)
 |_,_,_=>none
def Ez.T (q:eg):=e7 fun
 | .vec z, .ar an l,[.d (.int .i64 a), .d (.int .i64 b), .cls g c]=>(match Nat.beq z 0,Nat.beq an 11,q.is g c with
  |true,true,true=>some (fU l a b/\a<b, .ar 11 (Go.Sort.heapSort bl l.toArray a.toNat b.toNat).toList, .tup [])
  |_,_,_=>none)
 |_,_,_=>none
def EA.T (q:eg):=e7 fun
 | .vec z, .ar an l,[.d (.int .i64 a), .d (.int .i64 b), .d (.int .i64 p), .cls g c]=>(match Nat.beq z 0,Nat.beq an 11,q.is g c with
  |true,true,true=>some (fU l a b/\a<=p/\p<b, .ar 11 (Go.Sort.partition bl l.toArray a.toNat b.toNat p.toNat).2.2.toList, .tup [.d (.int .i64 (Go.Sort.partition bl l.toArray a.toNat b.toNat p.toNat).1), .d (.bool (Go.Sort.partition bl l.toArray a.toNat b.toNat p.toNat).2.1)])
  |_,_,_=>none)
 |_,_,_=>none
def Dm.T (q:eg):=e7 fun
 | .vec z, .ar an l,[.d (.int .i64 a), .d (.int .i64 b), .d (.int .i64 p), .cls g c]=>(match Nat.beq z 0,Nat.beq an 11,q.is g c with
  |true,true,true=>some (fU l a b/\a<=p/\p<b, .ar 11 (Go.Sort.partitionEqual bl l.toArray a.toNat b.toNat p.toNat).2.toList, .d (.int .i64 (Go.Sort.partitionEqual bl l.toArray a.toNat b.toNat p.toNat).1))
  |_,_,_=>none)
 |_,_,_=>none
def CR.T (q:eg):=e7 fun
 | .vec z, .ar an l,[.d (.int .i64 a), .d (.int .i64 b), .cls g c]=>(match Nat.beq z 0,Nat.beq an 11,q.is g c with
  |true,true,true=>some (fU l a b/\a<b, .ar 11 (Go.Sort.partialInsertionSort bl l.toArray a.toNat b.toNat).1.toList, .d (.bool (Go.Sort.partialInsertionSort bl l.toArray a.toNat b.toNat).2))
  |_,_,_=>none)
 |_,_,_=>none
def Fj.T (q:eg):=e7 fun
 | .vec z, .ar an l,[.d (.int .i64 a), .d (.int .i64 b), .cls g c]=>(match Nat.beq z 0,Nat.beq an 11,q.is g c with
  |true,true,true=>some (fU l a b, .ar 11 (Go.Sort.reverseRange l.toArray a.toNat b.toNat).toList, .tup [])
  |_,_,_=>none)
 |_,_,_=>none
def xd.T:=bk fun|[.d (.int .u64 x)]=>some (0<=x/\x<18446744073709551616, .d (.int .i64 (da x.toNat)))|_=>none
def Fk.T:=bk fun|[.d (.int .i64 x)]=>some (0<=x/\x<4611686018427387904, .d (.int .u64 (2^da x.toNat:Nat)))|_=>none
def Fl.T:=lG (ι:=Int) fun
 | .ptr z o, .cells [.d (.int .u64 x)],[]=>(match Nat.beq z 0,Nat.beq o 0 with
  |true,true=>some (0<=x/\x<18446744073709551616,fun y=>0<=y/\y<18446744073709551616,fun y=> .cells [.d (.int .u64 y)],fun y=> .d (.int .u64 y))
  |_,_=>none)
 |_,_,_=>none
def EB.T (q:eg):=e7 fun
 | .ptr z o, .cells [.d (.int .i64 s)],[.d (.ar an l), .d (.int .i64 a), .d (.int .i64 b), .cls g c]=>(match Nat.beq z 0,Nat.beq o 0,Nat.beq an 11,q.is g c with
  |true,true,true,true=>some (c9 l/\0<=a/\a<(l.length:Int)/\0<=b/\b<(l.length:Int)/\0<=s/\s<1000, .cells [.d (.int .i64 (Go.Sort.order2 bl l.toArray a.toNat b.toNat s.toNat).2.2)], .tup [.d (.int .i64 (Go.Sort.order2 bl l.toArray a.toNat b.toNat s.toNat).1), .d (.int .i64 (Go.Sort.order2 bl l.toArray a.toNat b.toNat s.toNat).2.1)])
  |_,_,_,_=>none)
 |_,_,_=>none
def Fm.T (q:eg):=e7 fun
 | .ptr z o, .cells [.d (.int .i64 s)],[.d (.ar an l), .d (.int .i64 a), .d (.int .i64 b), .d (.int .i64 e), .cls g c]=>(match Nat.beq z 0,Nat.beq o 0,Nat.beq an 11,q.is g c with
  |true,true,true,true=>some (c9 l/\(0<=a/\a<(l.length:Int))/\(0<=b/\b<(l.length:Int))/\(0<=e/\e<(l.length:Int))/\0<=s/\s<900, .cells [.d (.int .i64 (Go.Sort.median bl l.toArray a.toNat b.toNat e.toNat s.toNat).2)], .d (.int .i64 (Go.Sort.median bl l.toArray a.toNat b.toNat e.toNat s.toNat).1))
  |_,_,_,_=>none)
 |_,_,_=>none
def Dn.T (q:eg):=e7 fun
 | .ptr z o, .cells [.d (.int .i64 s)],[.d (.ar an l), .d (.int .i64 a), .cls g c]=>(match Nat.beq z 0,Nat.beq o 0,Nat.beq an 11,q.is g c with
  |true,true,true,true=>some (c9 l/\0<a/\a+1<(l.length:Int)/\l.length<1000000000000000/\0<=s/\s<900, .cells [.d (.int .i64 (Go.Sort.medianAdjacent bl l.toArray a.toNat s.toNat).2)], .d (.int .i64 (Go.Sort.medianAdjacent bl l.toArray a.toNat s.toNat).1))
  |_,_,_,_=>none)
 |_,_,_=>none
def D1.T (q:eg):=bk fun
 |[.d (.ar an l), .d (.int .i64 a), .d (.int .i64 b), .cls g c]=>(match Nat.beq an 11,q.is g c with
  |true,true=>some (fU l a b/\a<b, .tup [.d (.int .i64 (Go.Sort.choosePivot bl l.toArray a.toNat b.toNat).1), .d (.int .i64 (Go.Sort.hintCode (Go.Sort.choosePivot bl l.toArray a.toNat b.toNat).2))])
  |_,_=>none)
 |_=>none
def EC (l:Rows)(a b:Int)(cm:Rows):Prop:=c9 cm/\Go.Sort.PermIn a.toNat b.toNat l.toArray cm.toArray
def lH (l:Rows)(a b:Int)(cm:Rows):Prop:=EC l a b cm/\Go.Sort.SortedIn bl a.toNat b.toNat cm.toArray
def zB.T (q:eg):=lG (ι:=Rows) fun
 | .vec z, .ar an l,[.d (.int .i64 a), .d (.int .i64 b), .cls g c]=>(match Nat.beq z 0,Nat.beq an 11,q.is g c with
  |true,true,true=>some (fU l a b,EC l a b,fun cm=> .ar 11 cm,fun _=> .tup [])
  |_,_,_=>none)
 |_,_,_=>none
def kZ.T (q:eg)(n:Nat):=lG (ι:=Rows) fun
 | .vec z, .ar an l,[.d (.int .i64 a), .d (.int .i64 b), .d (.int .i64 m), .cls g c]=>(match Nat.beq z 0,Nat.beq an 11,q.is g c with
  |true,true,true=>some (fU l a b/\b-a<n/\(0<=m/\m<=64)/\Go.Sort.Below bl a.toNat b.toNat l.toArray,lH l a b,fun cm=> .ar 11 cm,fun _=> .tup [])
  |_,_,_=>none)
 |_,_,_=>none
def tc.T (q:eg):=lG (ι:=Rows) fun
 | .vec z, .ar an l,[.d (.int .i64 a), .d (.int .i64 b), .d (.int .i64 m), .cls g c]=>(match Nat.beq z 0,Nat.beq an 11,q.is g c with
  |true,true,true=>some (fU l a b/\(0<=m/\m<=64)/\Go.Sort.Below bl a.toNat b.toNat l.toArray,lH l a b,fun cm=> .ar 11 cm,fun _=> .tup [])
  |_,_,_=>none)
 |_,_,_=>none
def zP.T (q:eg):=lG (ι:=Rows) fun
 | .vec z, .ar an l,[.cls g c]=>(match Nat.beq z 0,Nat.beq an 11,q.is g c with
  |true,true,true=>some (c9 l/\l.length<1000000000000000,lH l 0 l.length,fun cm=> .ar 11 cm,fun _=> .tup [])
  |_,_,_=>none)
 |_,_,_=>none
end aa
end
section
namespace aa
open Go Go.ak
def ej (m:List Int):Row:=m.map (U.int .i64)
def Fo (r:Row):Prop:=∃m:List Int,r=ej m/\m.length=8/\∀x∈m,-4000000000000000000<=x/\x<=4000000000000000000
def kx (r:Row):List Int:=r.map U.toInt
def ga:List Int->List Int->List Int
 |a::x,b::y=>(a+b)::ga x y
 |_,_=>[]
def EE.T:=bk fun|[.d (.int .i64 a), .d (.int .i64 b)]=>some (True, .d (.int .i64 (if a<b then-1 else if b<a then 1 else 0)))|_=>none
def D3.T:=bk fun|[.d (.int .i64 apn)]=>some (True, .d (.bool false))|_=>none
def CS.T:=bk fun|[.d (.af .i64 a), .d (.af .i64 b)]=>some (a.length<1000000000/\b.length<1000000000, .d (.int .i64 (eM a b)))|_=>none
def lL:Int->List Int->Int
 |a,[]=>a
 |a,x::l=>lL (if x>a then x else a) l
def Fp.T:=bk fun|[.d (.af .i64 a)]=>some (0<a.length/\a.length<1000000000, .d (.int .i64 (lL (a.getD 0 0) (a.drop 1))))|_=>none
def D4.T:=bk fun
 |[.rw m a, .rw n b]=>(match Nat.beq m 8,Nat.beq n 8 with
  |true,true=>some (Fo a/\Fo b, .rw 8 (ej (ga (kx a) (kx b))))
  |_,_=>none)
 |_=>none
def D5.T:=m2 fun|[.d (.ar an l)]=>(match Nat.beq an 11 with|true=>some (l.length<100000000000, .ar 11 l)|false=>none)|_=>none
def tE (r:Row):Rat:=aV (r.getD 8 .undef).toBool (r.getD 9 .undef).cP (r.getD 10 .undef).cP
def ft (k:Nat)(r:Row):Prop:=∃(m:List Int) (s:Bool) (a b:List Int),r=ej m++[.bool s, .af .u32 a, .af .u32 b]/\m.length=8/\(∀x∈m,-4000000000000000000<=x/\x<=4000000000000000000)/\bu k a/\bu k b
def jX (r:Row):Bool:=decide (k8 (tE r)=0)
def D6.T:=bk fun|[.rw n r]=>(match Nat.beq n 11 with|true=>some (ft 1000000 r, .d (.bool (jX r)))|false=>none)|_=>none
def pf:Rows->Int->Int
 |[],_=>-1
 |r::l,i=>if jX r then i else pf l (i+1)
def zl.T (g:Nat):=bk fun|[.d (.ar an l), .fn f]=>(match Nat.beq an 11,Nat.beq f g with|true,true=>some ((∀r∈l,ft 1000000 r)/\l.length<100000000000, .d (.int .i64 (pf l 0)))|_,_=>none)|_=>none
def zQ.T (g:Nat):=xr fun| .ar an l,[.fn f]=>(match Nat.beq an 11,Nat.beq f g with|true,true=>some ((∀r∈l,ft 1000000 r)/\l.length<100000000000, .ar 11 (l.filter fun r=> !jX r))|_,_=>none)|_,_=>none
abbrev bd:=List Int×Rat
def aM (r:Row):bd:=(dI r,tE r)
def jv (t:bd):Row:=ej t.1++[.bool (ca t.2), .af .u32 (b8 t.2), .af .u32 (b1 t.2)]
def bK (p:List bd):Rows:=p.map jv
def dA:List bd->List Int->Rat
 |[],_=>0
 |t::p,m=>(if t.1=m then t.2 else 0)+dA p m
def ins (t:bd):List bd->List bd
 |[]=>if t.2=0 then[]else[t]
 |u::p=>if t.1=u.1 then(if u.2+t.2=0 then p else(u.1,u.2+t.2)::p)else if eM t.1 u.1=1 then(if t.2=0 then u::p else t::u::p)else u::ins t p
def nrm:List bd->List bd
 |[]=>[]
 |t::p=>ins t (nrm p)
def fM (m:List Int):Rows->Nat
 |[]=>0
 |r::l=>(if dI r=m then 1 else 0)+fM m l
def hA (l:Rows):Prop:=∃k c:Nat,1<=k/\(∀r∈l,ft k r)/\(∀m,fM m l<=c)/\c*(2*k+2)<=900000/\k<=900000/\l.length<=1000000000
def sE.T:=bk fun|[.d (.ar an l)]=>(match Nat.beq an 11 with|true=>some (hA l, .d (.ar 11 (bK (nrm (l.map aM)))))|false=>none)|_=>none
end aa
end
section
open Go Go.ak
namespace aa
def Mc:List Int->List Int->(R->Prop)->Prop:=
 fun(a b:List Int) (K:R->Prop)=>∃(aQ:Int->Prop),∃(m:Int->Nat),aQ (0:Int)/\∀(v11:Int),aQ v11->(decide (v11<aT a)=true->(0:Int)<=v11/\v11<aT a/\(decide (aT b<=v11)=true->K (R.d (U.int IntKind.i64 (1:Int))))/\(decide (aT b<=v11)=false->(0:Int)<=v11/\v11<aT b/\True/\∀(x:Int),(x=if List.getD a (Int.toNat v11) (0:Int)<List.getD b (Int.toNat v11) (0:Int)then(-1:Int)else if List.getD b (Int.toNat v11) (0:Int)<List.getD a (Int.toNat v11) (0:Int)then(1:Int)else(0:Int))->((!decide (x=(0:Int)))=true->K (R.d (U.int IntKind.i64 x)))/\((!decide (x=(0:Int)))=false->aQ (ai (v11+(1:Int)))/\m (ai (v11+(1:Int)))<m v11)))/\(decide (v11<aT a)=false->(decide (aT a<aT b)=true->K (R.d (U.int IntKind.i64 (-1:Int))))/\(decide (aT a<aT b)=false->K (R.d (U.int IntKind.i64 (0:Int)))))
def Ml:Int->Int->(R->Prop)->Prop:=
 fun a b K=>True/\∀x,x=false->True/\∀a7,a7=false->(x=true->(a7=true->K (R.d (U.int .i64 0)))/\(a7=false->K (R.d (U.int .i64 (-1)))))/\(x=false->(a7=true->K (R.d (U.int .i64 1)))/\(a7=false->(decide (a<b)=true->K (R.d (U.int .i64 (-1))))/\(decide (a<b)=false->(decide (b<a)=true->K (R.d (U.int .i64 1)))/\(decide (b<a)=false->K (R.d (U.int .i64 0))))))
def Mt:Int->(R->Prop)->Prop:=
 fun a K=>K (R.d (U.bool !decide (a=a)))
def L9:aa.Row->aa.Row->(R->Prop)->Prop:=
 fun a b K=>List.length a=(11:Nat)/\(∀(x:U),x∈List.take (8:Nat) a->x.dQ .i64)/\(0:Int)<=(8:Int)/\(8:Int)<=(8:Int)/\List.length b=(11:Nat)/\(∀(x:U),x∈List.take (8:Nat) b->x.dQ .i64)/\(0:Int)<=(8:Int)/\(8:Int)<=(8:Int)/\((List.take (8:Nat) (List.map U.toInt (List.take (8:Nat) a))).length<(1000000000:Nat)/\(List.take (8:Nat) (List.map U.toInt (List.take (8:Nat) b))).length<(1000000000:Nat))/\∀x,x=eM (List.take (8:Nat) (List.map U.toInt (List.take (8:Nat) a))) (List.take (8:Nat) (List.map U.toInt (List.take (8:Nat) b)))->K (R.d (U.int .i64 (ai ((0:Int)-x))))
def LS:aa.Row->aa.Row->(R->Prop)->Prop:=
 fun a b K=>List.length a=11/\(∀(x:U),x∈List.take 8 a->x.dQ .i64)/\List.length b=11/\(∀(x:U),x∈List.take 8 b->x.dQ .i64)/\((List.map U.toInt (List.take 8 a)).length<1000000000/\(List.map U.toInt (List.take 8 b)).length<1000000000)/\∀x,x=eM (List.map U.toInt (List.take 8 a)) (List.map U.toInt (List.take 8 b))->(true=true->K (R.d (U.int .i64 (ai (0-x)))))/\(true=false->K (R.d (U.int .i64 x)))
def Mm:List Int->(R->Prop)->Prop:=
 fun a K=>∃(J:Prop),((decide (↑a.length<(1:Int))=true->False)/\(decide (↑a.length<(1:Int))=false->J))/\(J->(0:Int)<=(0:Int)/\(0:Int)<↑a.length/\∃(aQ:Int->Int->Prop),∃(m:Int->Int->Nat),aQ (a.getD (0:Nat) (0:Int)) (1:Int)/\∀(v3 v4:Int),aQ v3 v4->(decide (v4<↑a.length)=true->(0:Int)<=v4/\v4<↑a.length/\aQ (if v3<a.getD v4.toNat (0:Int)then a.getD v4.toNat (0:Int)else v3) (ai (v4+(1:Int)))/\m (if v3<a.getD v4.toNat (0:Int)then a.getD v4.toNat (0:Int)else v3) (ai (v4+(1:Int)))<m v3 v4)/\(decide (v4<↑a.length)=false->K (R.d (U.int .i64 v3))))
def MH:aa.Row->aa.Row->(R->Prop)->Prop:=
 fun a b K=>∃(aQ:Int->List (List U)->List (List U)->List (List U)->Prop),∃(m:Int->List (List U)->List (List U)->List (List U)->Nat),aQ 0 [a] [b] [[U.int .i64 0,U.int .i64 0,U.int .i64 0,U.int .i64 0,U.int .i64 0,U.int .i64 0,U.int .i64 0,U.int .i64 0]]/\∀(v6:Int) (au bD bx:List (List U)),aQ v6 au bD bx->(decide (v6<8)=true->0<=v6/\v6<8/\((au.getD 0 []).getD v6.toNat U.undef).dQ .i64/\0<=v6/\v6<8/\((bD.getD 0 []).getD v6.toNat U.undef).dQ .i64/\0<=v6/\v6<8/\aQ (ai (v6+1)) (au.set 0 ((au.getD 0 []).set v6.toNat (U.int .i64 (ai (((au.getD 0 []).getD v6.toNat U.undef).toInt+((bD.getD 0 []).getD v6.toNat U.undef).toInt))))) bD bx/\m (ai (v6+1)) (au.set 0 ((au.getD 0 []).set v6.toNat (U.int .i64 (ai (((au.getD 0 []).getD v6.toNat U.undef).toInt+((bD.getD 0 []).getD v6.toNat U.undef).toInt))))) bD bx<m v6 au bD bx)/\(decide (v6<8)=false->(au.getD 0 []).length=8/\((bx.set 0 (au.getD 0 [])).getD 0 []).length=8/\K (R.rw 8 ((bx.set 0 (au.getD 0 [])).getD 0 [])))
def Mn:aa.Row->(R->Prop)->Prop:=
 fun r K=>(List.getD r 8 U.undef).isBool/\(List.getD r 9 U.undef).fJ .u32/\(List.getD r 10 U.undef).fJ .u32/\(bF (List.getD r 9 U.undef).cP/\bF (List.getD r 10 U.undef).cP)/\∀x,x=k8 (aV (List.getD r 8 U.undef).toBool (List.getD r 9 U.undef).cP (List.getD r 10 U.undef).cP)->K (R.d (U.bool (decide (x=0))))
def LU:aa.Rows->(R->Prop)->Prop:=
 fun l K=>∃(aQ:Int->Prop),∃(m:Int->Nat),aQ 0/\∀(bq:Int),aQ bq->(decide (bq<(aT l))=true->0<=bq/\bq<(aT l)/\(List.aS l bq).length=11/\ft 1000000 (List.aS l bq)/\∀x,x=jX (List.aS l bq)->(x=true->K (R.d (U.int .i64 bq)))/\(x=false->aQ (ai (bq+1))/\m (ai (bq+1))<m bq))/\(decide (bq<(aT l))=false->K (R.d (U.int .i64 (-1))))
def LP:aa.Rows->(ae->Prop)->Prop:=
 fun l K=>((∀(r:List U),r∈l->ft 1000000 r)/\List.length l<100000000000)/\∀x,x=pf l 0->(decide (x=-1)=true->K (ae.ar 11 l))/\(decide (x=-1)=false->∃(aQ:Int->Int->List (List U)->Prop),∃(m:Int->Int->List (List U)->Nat),aQ x (ai (x+1)) l/\∀(v5 v6:Int) (au:List (List U)),aQ v5 v6 au->(decide (v6<↑au.length)=true->0<=v6/\v6<↑au.length/\(au.aS v6).length=11/\(au.aS v6).length=11/\ft 1000000 (au.aS v6)/\∀x,x=jX (au.aS v6)->((!x)=true->(au.aS v6).length=11/\0<=v5/\v5<↑au.length/\aQ (ai (v5+1)) (ai (v6+1)) (au.set v5.toNat (au.aS v6))/\m (ai (v5+1)) (ai (v6+1)) (au.set v5.toNat (au.aS v6))<m v5 v6 au)/\((!x)=false->aQ v5 (ai (v6+1)) au/\m v5 (ai (v6+1)) au<m v5 v6 au))/\(decide (v6<↑au.length)=false->0<=v5/\v5<↑au.length/\0<=v5/\v5<=↑(List.take v5.toNat au++List.replicate (au.length-v5.toNat) [U.int .i64 0,U.int .i64 0,U.int .i64 0,U.int .i64 0,U.int .i64 0,U.int .i64 0,U.int .i64 0,U.int .i64 0,U.bool false,U.af .u32 [],U.af .u32 []]).length/\K (ae.ar 11 (List.take v5.toNat (List.take v5.toNat au++List.replicate (au.length-v5.toNat) [U.int .i64 0,U.int .i64 0,U.int .i64 0,U.int .i64 0,U.int .i64 0,U.int .i64 0,U.int .i64 0,U.int .i64 0,U.bool false,U.af .u32 [],U.af .u32 []])))))
def L6:aa.Rows->(ae->Prop)->Prop:=
 fun l K=>∀b,(b=true->l=[])->(b=true->K (ae.ar (11:Nat) []))/\(b=false->((0:Int)+(aT l))*(120:Int)<=(70368744177664:Int)/\K (ae.ar (11:Nat) ([]++l)))
def Mu:aa.Rows->(R->Prop)->Prop:=
 fun l K=>(0:Int)<=(0:Int)/\(0:Int)<=(aT l)/\(aT l)*(120:Int)<=(281474976710656:Int)/\∃(aQ:Int->List (List U)->List (List U)->Prop),∃(m:Int->List (List U)->List (List U)->Nat),aQ (0:Int) [] (List.replicate (0:Nat) [U.int .i64 (0:Int),U.int .i64 (0:Int),U.int .i64 (0:Int),U.int .i64 (0:Int),U.int .i64 (0:Int),U.int .i64 (0:Int),U.int .i64 (0:Int),U.int .i64 (0:Int),U.bool false,U.af .u32 [],U.af .u32 []])/\∀(bV:Int) (au bD:List (List U)),aQ bV au bD->(decide (bV<(aT l))=true->(0:Int)<=bV/\bV<(aT l)/\(List.aS l bV).length=(11:Nat)/\(List.aS l bV).length=(11:Nat)/\ke (List.take (8:Nat) (List.aS l bV))/\((dv (8:Nat) [U.int .i64 (0:Int)] au (List.map U.toInt (List.take (8:Nat) (List.aS l bV)))).getD (0:Nat) U.undef).dQ .i64/\(mV (8:Nat) au (List.map U.toInt (List.take (8:Nat) (List.aS l bV)))=true->(0:Int)<=((dv (8:Nat) [U.int .i64 (0:Int)] au (List.map U.toInt (List.take (8:Nat) (List.aS l bV)))).getD (0:Nat) U.undef).toInt/\((dv (8:Nat) [U.int .i64 (0:Int)] au (List.map U.toInt (List.take (8:Nat) (List.aS l bV)))).getD (0:Nat) U.undef).toInt<↑bD.length/\((bD.getD ((dv (8:Nat) [U.int .i64 (0:Int)] au (List.map U.toInt (List.take (8:Nat) (List.aS l bV)))).getD (0:Nat) U.undef).toInt.toNat []).gV).isBool/\((bD.getD ((dv (8:Nat) [U.int .i64 (0:Int)] au (List.map U.toInt (List.take (8:Nat) (List.aS l bV)))).getD (0:Nat) U.undef).toInt.toNat []).fN).fJ .u32/\((bD.getD ((dv (8:Nat) [U.int .i64 (0:Int)] au (List.map U.toInt (List.take (8:Nat) (List.aS l bV)))).getD (0:Nat) U.undef).toInt.toNat []).fO).fJ .u32/\((List.aS l bV).gV).isBool/\((List.aS l bV).fN).fJ .u32/\((List.aS l bV).fO).fJ .u32/\(bu (1000000:Nat) ((bD.getD ((dv (8:Nat) [U.int .i64 (0:Int)] au (List.map U.toInt (List.take (8:Nat) (List.aS l bV)))).getD (0:Nat) U.undef).toInt.toNat []).fN).cP/\bu (1000000:Nat) ((bD.getD ((dv (8:Nat) [U.int .i64 (0:Int)] au (List.map U.toInt (List.take (8:Nat) (List.aS l bV)))).getD (0:Nat) U.undef).toInt.toNat []).fO).cP/\bu (1000000:Nat) ((List.aS l bV).fN).cP/\bu (1000000:Nat) ((List.aS l bV).fO).cP)/\∀x,x=ca (aV ((bD.getD ((dv (8:Nat) [U.int .i64 (0:Int)] au (List.map U.toInt (List.take (8:Nat) (List.aS l bV)))).getD (0:Nat) U.undef).toInt.toNat []).gV).toBool ((bD.getD ((dv (8:Nat) [U.int .i64 (0:Int)] au (List.map U.toInt (List.take (8:Nat) (List.aS l bV)))).getD (0:Nat) U.undef).toInt.toNat []).fN).cP ((bD.getD ((dv (8:Nat) [U.int .i64 (0:Int)] au (List.map U.toInt (List.take (8:Nat) (List.aS l bV)))).getD (0:Nat) U.undef).toInt.toNat []).fO).cP+aV ((List.aS l bV).gV).toBool ((List.aS l bV).fN).cP ((List.aS l bV).fO).cP)->∀a7,a7=b8 (aV ((bD.getD ((dv (8:Nat) [U.int .i64 (0:Int)] au (List.map U.toInt (List.take (8:Nat) (List.aS l bV)))).getD (0:Nat) U.undef).toInt.toNat []).gV).toBool ((bD.getD ((dv (8:Nat) [U.int .i64 (0:Int)] au (List.map U.toInt (List.take (8:Nat) (List.aS l bV)))).getD (0:Nat) U.undef).toInt.toNat []).fN).cP ((bD.getD ((dv (8:Nat) [U.int .i64 (0:Int)] au (List.map U.toInt (List.take (8:Nat) (List.aS l bV)))).getD (0:Nat) U.undef).toInt.toNat []).fO).cP+aV ((List.aS l bV).gV).toBool ((List.aS l bV).fN).cP ((List.aS l bV).fO).cP)->∀aW,aW=b1 (aV ((bD.getD ((dv (8:Nat) [U.int .i64 (0:Int)] au (List.map U.toInt (List.take (8:Nat) (List.aS l bV)))).getD (0:Nat) U.undef).toInt.toNat []).gV).toBool ((bD.getD ((dv (8:Nat) [U.int .i64 (0:Int)] au (List.map U.toInt (List.take (8:Nat) (List.aS l bV)))).getD (0:Nat) U.undef).toInt.toNat []).fN).cP ((bD.getD ((dv (8:Nat) [U.int .i64 (0:Int)] au (List.map U.toInt (List.take (8:Nat) (List.aS l bV)))).getD (0:Nat) U.undef).toInt.toNat []).fO).cP+aV ((List.aS l bV).gV).toBool ((List.aS l bV).fN).cP ((List.aS l bV).fO).cP)->(0:Int)<=((dv (8:Nat) [U.int .i64 (0:Int)] au (List.map U.toInt (List.take (8:Nat) (List.aS l bV)))).getD (0:Nat) U.undef).toInt/\((dv (8:Nat) [U.int .i64 (0:Int)] au (List.map U.toInt (List.take (8:Nat) (List.aS l bV)))).getD (0:Nat) U.undef).toInt<↑bD.length/\aQ (ai (bV+(1:Int))) au (bD.set ((dv (8:Nat) [U.int .i64 (0:Int)] au (List.map U.toInt (List.take (8:Nat) (List.aS l bV)))).getD (0:Nat) U.undef).toInt.toNat (setRow (bD.getD ((dv (8:Nat) [U.int .i64 (0:Int)] au (List.map U.toInt (List.take (8:Nat) (List.aS l bV)))).getD (0:Nat) U.undef).toInt.toNat []) (8:Nat) [U.bool x,U.af .u32 a7,U.af .u32 aW]))/\m (ai (bV+(1:Int))) au (bD.set ((dv (8:Nat) [U.int .i64 (0:Int)] au (List.map U.toInt (List.take (8:Nat) (List.aS l bV)))).getD (0:Nat) U.undef).toInt.toNat (setRow (bD.getD ((dv (8:Nat) [U.int .i64 (0:Int)] au (List.map U.toInt (List.take (8:Nat) (List.aS l bV)))).getD (0:Nat) U.undef).toInt.toNat []) (8:Nat) [U.bool x,U.af .u32 a7,U.af .u32 aW]))<m bV au bD)/\(mV (8:Nat) au (List.map U.toInt (List.take (8:Nat) (List.aS l bV)))=false->(List.aS l bV).length=(11:Nat)/\ke (List.take (8:Nat) (List.aS l bV))/\(List.aS l bV).length=(11:Nat)/\((List.aS l bV).gV).isBool/\((List.aS l bV).fN).fJ .u32/\((List.aS l bV).fO).fJ .u32/\(bF ((List.aS l bV).fN).cP/\bF ((List.aS l bV).fO).cP)/\∀x,x=ca (aV ((List.aS l bV).gV).toBool ((List.aS l bV).fN).cP ((List.aS l bV).fO).cP)->∀a7,a7=b8 (aV ((List.aS l bV).gV).toBool ((List.aS l bV).fN).cP ((List.aS l bV).fO).cP)->∀aW,aW=b1 (aV ((List.aS l bV).gV).toBool ((List.aS l bV).fN).cP ((List.aS l bV).fO).cP)->(↑bD.length+↑[List.take (8:Nat) (List.aS l bV)++[U.bool x,U.af .u32 a7,U.af .u32 aW]].length)*(120:Int)<=(70368744177664:Int)/\aQ (ai (bV+(1:Int))) (ma (8:Nat) (List.take (8:Nat) (List.aS l bV)) [U.int .i64 ↑bD.length] au) (bD++[List.take (8:Nat) (List.aS l bV)++[U.bool x,U.af .u32 a7,U.af .u32 aW]])/\m (ai (bV+(1:Int))) (ma (8:Nat) (List.take (8:Nat) (List.aS l bV)) [U.int .i64 ↑bD.length] au) (bD++[List.take (8:Nat) (List.aS l bV)++[U.bool x,U.af .u32 a7,U.af .u32 aW]])<m bV au bD))/\(decide (bV<(aT l))=false->((∀(r:List U),r∈bD->ft (1000000:Nat) r)/\bD.length<(100000000000:Nat))/\∀x,x=List.filter (fun(r:List U)=> !jX r) bD->(c9 x/\x.length<(1000000000000000:Nat))/\∀(i:List (List U)),lH x (0:Int) (↑x.length) i->K (R.d (U.ar (11:Nat) i)))
def Mj:aa.Rows->(R->Prop)->Prop:=
 fun l K=>∃(aQ:Int->List (List U)->List (List U)->Prop),∃(m:Int->List (List U)->List (List U)->Nat),aQ 0 [] []/\∀(bV:Int) (au bD:List (List U)),aQ bV au bD->(decide (bV<(aT l))=true->0<=bV/\bV<(aT l)/\(List.aS l bV).length=11/\∃(J:List (List U)->List (List U)->List (List U)->Prop),((List.aS l bV).length=11/\ke (List.take 8 (List.aS l bV))/\((dv 8 [U.bool false,U.af .u32 [],U.af .u32 []] au (List.map U.toInt (List.take 8 (List.aS l bV)))).getD 0 U.undef).isBool/\((dv 8 [U.bool false,U.af .u32 [],U.af .u32 []] au (List.map U.toInt (List.take 8 (List.aS l bV)))).getD 1 U.undef).fJ .u32/\((dv 8 [U.bool false,U.af .u32 [],U.af .u32 []] au (List.map U.toInt (List.take 8 (List.aS l bV)))).getD 2 U.undef).fJ .u32/\((!mV 8 au (List.map U.toInt (List.take 8 (List.aS l bV))))=true->(List.aS l bV).length=11/\((bD.length:Int)+↑[List.take 8 (List.aS l bV)].length)*64<=70368744177664/\J au (bD++[List.take 8 (List.aS l bV)]) [List.aS l bV])/\((!mV 8 au (List.map U.toInt (List.take 8 (List.aS l bV))))=false->J au bD [List.aS l bV]))/\∀(bw fk bx:List (List U)),J bw fk bx->(bx.getD 0 []).length=11/\(bx.getD 0 []).length=11/\ke (List.take 8 (bx.getD 0 []))/\((dv 8 [U.bool false,U.af .u32 [],U.af .u32 []] bw (List.map U.toInt (List.take 8 (bx.getD 0 [])))).getD 0 U.undef).isBool/\((dv 8 [U.bool false,U.af .u32 [],U.af .u32 []] bw (List.map U.toInt (List.take 8 (bx.getD 0 [])))).getD 1 U.undef).fJ .u32/\((dv 8 [U.bool false,U.af .u32 [],U.af .u32 []] bw (List.map U.toInt (List.take 8 (bx.getD 0 [])))).getD 2 U.undef).fJ .u32/\((bx.getD 0 []).gV).isBool/\((bx.getD 0 []).fN).fJ .u32/\((bx.getD 0 []).fO).fJ .u32/\(bu 1000000 ((dv 8 [U.bool false,U.af .u32 [],U.af .u32 []] bw (List.map U.toInt (List.take 8 (bx.getD 0 [])))).getD 1 U.undef).cP/\bu 1000000 ((dv 8 [U.bool false,U.af .u32 [],U.af .u32 []] bw (List.map U.toInt (List.take 8 (bx.getD 0 [])))).getD 2 U.undef).cP/\bu 1000000 ((bx.getD 0 []).fN).cP/\bu 1000000 ((bx.getD 0 []).fO).cP)/\∀x,x=ca (aV ((dv 8 [U.bool false,U.af .u32 [],U.af .u32 []] bw (List.map U.toInt (List.take 8 (bx.getD 0 [])))).getD 0 U.undef).toBool ((dv 8 [U.bool false,U.af .u32 [],U.af .u32 []] bw (List.map U.toInt (List.take 8 (bx.getD 0 [])))).getD 1 U.undef).cP ((dv 8 [U.bool false,U.af .u32 [],U.af .u32 []] bw (List.map U.toInt (List.take 8 (bx.getD 0 [])))).getD 2 U.undef).cP+aV ((bx.getD 0 []).gV).toBool ((bx.getD 0 []).fN).cP ((bx.getD 0 []).fO).cP)->∀a7,a7=b8 (aV ((dv 8 [U.bool false,U.af .u32 [],U.af .u32 []] bw (List.map U.toInt (List.take 8 (bx.getD 0 [])))).getD 0 U.undef).toBool ((dv 8 [U.bool false,U.af .u32 [],U.af .u32 []] bw (List.map U.toInt (List.take 8 (bx.getD 0 [])))).getD 1 U.undef).cP ((dv 8 [U.bool false,U.af .u32 [],U.af .u32 []] bw (List.map U.toInt (List.take 8 (bx.getD 0 [])))).getD 2 U.undef).cP+aV ((bx.getD 0 []).gV).toBool ((bx.getD 0 []).fN).cP ((bx.getD 0 []).fO).cP)->∀aW,aW=b1 (aV ((dv 8 [U.bool false,U.af .u32 [],U.af .u32 []] bw (List.map U.toInt (List.take 8 (bx.getD 0 [])))).getD 0 U.undef).toBool ((dv 8 [U.bool false,U.af .u32 [],U.af .u32 []] bw (List.map U.toInt (List.take 8 (bx.getD 0 [])))).getD 1 U.undef).cP ((dv 8 [U.bool false,U.af .u32 [],U.af .u32 []] bw (List.map U.toInt (List.take 8 (bx.getD 0 [])))).getD 2 U.undef).cP+aV ((bx.getD 0 []).gV).toBool ((bx.getD 0 []).fN).cP ((bx.getD 0 []).fO).cP)->ke (List.take 8 (bx.getD 0 []))/\aQ (ai (bV+1)) (ma 8 (List.take 8 (bx.getD 0 [])) [U.bool x,U.af .u32 a7,U.af .u32 aW] bw) fk/\m (ai (bV+1)) (ma 8 (List.take 8 (bx.getD 0 [])) [U.bool x,U.af .u32 a7,U.af .u32 aW] bw) fk<m bV au bD)/\(decide (bV<(aT l))=false->∃(aQ:Int->List (List U)->List (List U)->List (List U)->Prop),∃(m:Int->List (List U)->List (List U)->List (List U)->Nat),aQ 0 au bD []/\∀(v46:Int) (au fk bx:List (List U)),aQ v46 au fk bx->(decide (v46<↑bD.length)=true->0<=v46/\v46<↑fk.length/\(fk.aS v46).length=8/\(fk.aS v46).length=8/\ke (fk.aS v46)/\((dv 8 [U.bool false,U.af .u32 [],U.af .u32 []] au (List.map U.toInt (fk.aS v46))).getD 0 U.undef).isBool/\((dv 8 [U.bool false,U.af .u32 [],U.af .u32 []] au (List.map U.toInt (fk.aS v46))).getD 1 U.undef).fJ .u32/\((dv 8 [U.bool false,U.af .u32 [],U.af .u32 []] au (List.map U.toInt (fk.aS v46))).getD 2 U.undef).fJ .u32/\(bF ((dv 8 [U.bool false,U.af .u32 [],U.af .u32 []] au (List.map U.toInt (fk.aS v46))).getD 1 U.undef).cP/\bF ((dv 8 [U.bool false,U.af .u32 [],U.af .u32 []] au (List.map U.toInt (fk.aS v46))).getD 2 U.undef).cP)/\∀x,x=k8 (aV ((dv 8 [U.bool false,U.af .u32 [],U.af .u32 []] au (List.map U.toInt (fk.aS v46))).getD 0 U.undef).toBool ((dv 8 [U.bool false,U.af .u32 [],U.af .u32 []] au (List.map U.toInt (fk.aS v46))).getD 1 U.undef).cP ((dv 8 [U.bool false,U.af .u32 [],U.af .u32 []] au (List.map U.toInt (fk.aS v46))).getD 2 U.undef).cP)->((!decide (x=0))=true->(fk.aS v46).length=8/\(fk.aS v46).length=8/\ke (fk.aS v46)/\((dv 8 [U.bool false,U.af .u32 [],U.af .u32 []] au (List.map U.toInt (fk.aS v46))).getD 0 U.undef).isBool/\((dv 8 [U.bool false,U.af .u32 [],U.af .u32 []] au (List.map U.toInt (fk.aS v46))).getD 1 U.undef).fJ .u32/\((dv 8 [U.bool false,U.af .u32 [],U.af .u32 []] au (List.map U.toInt (fk.aS v46))).getD 2 U.undef).fJ .u32/\((bx.length:Int)+↑[fk.aS v46++[U.bool ((dv 8 [U.bool false,U.af .u32 [],U.af .u32 []] au (List.map U.toInt (fk.aS v46))).getD 0 U.undef).toBool,U.af .u32 ((dv 8 [U.bool false,U.af .u32 [],U.af .u32 []] au (List.map U.toInt (fk.aS v46))).getD 1 U.undef).cP,U.af .u32 ((dv 8 [U.bool false,U.af .u32 [],U.af .u32 []] au (List.map U.toInt (fk.aS v46))).getD 2 U.undef).cP]].length)*120<=70368744177664/\aQ (ai (v46+1)) au fk (bx++[fk.aS v46++[U.bool ((dv 8 [U.bool false,U.af .u32 [],U.af .u32 []] au (List.map U.toInt (fk.aS v46))).getD 0 U.undef).toBool,U.af .u32 ((dv 8 [U.bool false,U.af .u32 [],U.af .u32 []] au (List.map U.toInt (fk.aS v46))).getD 1 U.undef).cP,U.af .u32 ((dv 8 [U.bool false,U.af .u32 [],U.af .u32 []] au (List.map U.toInt (fk.aS v46))).getD 2 U.undef).cP]])/\m (ai (v46+1)) au fk (bx++[fk.aS v46++[U.bool ((dv 8 [U.bool false,U.af .u32 [],U.af .u32 []] au (List.map U.toInt (fk.aS v46))).getD 0 U.undef).toBool,U.af .u32 ((dv 8 [U.bool false,U.af .u32 [],U.af .u32 []] au (List.map U.toInt (fk.aS v46))).getD 1 U.undef).cP,U.af .u32 ((dv 8 [U.bool false,U.af .u32 [],U.af .u32 []] au (List.map U.toInt (fk.aS v46))).getD 2 U.undef).cP]])<m v46 au fk bx)/\((!decide (x=0))=false->aQ (ai (v46+1)) au fk bx/\m (ai (v46+1)) au fk bx<m v46 au fk bx))/\(decide (v46<↑bD.length)=false->(c9 bx/\bx.length<1000000000000000)/\∀(i:List (List U)),lH bx 0 (↑bx.length) i->K (R.d (U.ar 11 i))))
end aa
end
section
open Go Go.ak
namespace aa
def Nb:Int->(R->Prop)->Prop:=
 fun x K=>∃(J:Int->Int->Prop),((decide (4294967296<=x)=true->J (x.fdiv 4294967296) 32)/\(decide (4294967296<=x)=false->J x 0))/\∀(v0 v2:Int),J v0 v2->∃(J:Int->Int->Prop),((decide (65536<=v0)=true->J (v0.fdiv 65536) (ai (v2+16)))/\(decide (65536<=v0)=false->J v0 v2))/\∀(v0 v2:Int),J v0 v2->(decide (256<=v0)=true->0<=IntKind.u8.wrap (v0.fdiv 256)/\IntKind.u8.wrap (v0.fdiv 256)<256/\K (R.d (U.int .i64 (ai (ai (v2+8)+ai ((have y:=have y:=have y:=have y:=have y:=have y:=[8,8,8,8];8::8::8::8::y;have y:=8::8::8::8::y;8::8::8::8::y;have y:=have y:=8::8::8::8::y;8::8::8::8::y;have y:=8::8::8::8::y;8::8::8::8::y;have y:=have y:=have y:=8::8::8::8::y;8::8::8::8::y;have y:=8::8::8::8::y;8::8::8::8::y;have y:=have y:=8::8::8::8::y;8::8::8::8::y;have y:=8::8::8::8::y;8::8::8::8::y;have y:=have y:=have y:=have y:=8::8::8::8::y;8::8::8::8::y;have y:=8::8::8::8::y;8::8::8::8::y;have y:=have y:=8::8::8::8::y;8::8::8::8::y;have y:=8::8::8::8::y;8::8::8::8::y;have y:=have y:=have y:=8::8::8::8::y;8::8::8::8::y;have y:=8::8::8::8::y;8::8::8::8::y;have y:=have y:=8::8::8::8::y;8::8::8::8::y;have y:=8::8::8::8::y;8::8::8::8::y;have y:=have y:=have y:=have y:=have y:=7::7::7::7::y;7::7::7::7::y;have y:=7::7::7::7::y;7::7::7::7::y;have y:=have y:=7::7::7::7::y;7::7::7::7::y;have y:=7::7::7::7::y;7::7::7::7::y;have y:=have y:=have y:=7::7::7::7::y;7::7::7::7::y;have y:=7::7::7::7::y;7::7::7::7::y;have y:=have y:=7::7::7::7::y;7::7::7::7::y;have y:=7::7::7::7::y;7::7::7::7::y;have y:=have y:=have y:=have y:=6::6::6::6::y;6::6::6::6::y;have y:=6::6::6::6::y;6::6::6::6::y;have y:=have y:=6::6::6::6::y;6::6::6::6::y;have y:=6::6::6::6::y;6::6::6::6::y;have y:=have y:=have y:=5::5::5::5::y;5::5::5::5::y;have y:=5::5::5::5::y;5::5::5::5::y;have y:=have y:=4::4::4::4::y;4::4::4::4::y;have y:=3::3::3::3::y;0::1::2::2::y).getD (IntKind.u8.wrap (v0.fdiv 256)).toNat 0))))))/\(decide (256<=v0)=false->0<=IntKind.u8.wrap v0/\IntKind.u8.wrap v0<256/\K (R.d (U.int .i64 (ai (v2+ai ((have y:=have y:=have y:=have y:=have y:=have y:=[8,8,8,8];8::8::8::8::y;have y:=8::8::8::8::y;8::8::8::8::y;have y:=have y:=8::8::8::8::y;8::8::8::8::y;have y:=8::8::8::8::y;8::8::8::8::y;have y:=have y:=have y:=8::8::8::8::y;8::8::8::8::y;have y:=8::8::8::8::y;8::8::8::8::y;have y:=have y:=8::8::8::8::y;8::8::8::8::y;have y:=8::8::8::8::y;8::8::8::8::y;have y:=have y:=have y:=have y:=8::8::8::8::y;8::8::8::8::y;have y:=8::8::8::8::y;8::8::8::8::y;have y:=have y:=8::8::8::8::y;8::8::8::8::y;have y:=8::8::8::8::y;8::8::8::8::y;have y:=have y:=have y:=8::8::8::8::y;8::8::8::8::y;have y:=8::8::8::8::y;8::8::8::8::y;have y:=have y:=8::8::8::8::y;8::8::8::8::y;have y:=8::8::8::8::y;8::8::8::8::y;have y:=have y:=have y:=have y:=have y:=7::7::7::7::y;7::7::7::7::y;have y:=7::7::7::7::y;7::7::7::7::y;have y:=have y:=7::7::7::7::y;7::7::7::7::y;have y:=7::7::7::7::y;7::7::7::7::y;have y:=have y:=have y:=7::7::7::7::y;7::7::7::7::y;have y:=7::7::7::7::y;7::7::7::7::y;have y:=have y:=7::7::7::7::y;7::7::7::7::y;have y:=7::7::7::7::y;7::7::7::7::y;have y:=have y:=have y:=have y:=6::6::6::6::y;6::6::6::6::y;have y:=6::6::6::6::y;6::6::6::6::y;have y:=have y:=6::6::6::6::y;6::6::6::6::y;have y:=6::6::6::6::y;6::6::6::6::y;have y:=have y:=have y:=5::5::5::5::y;5::5::5::5::y;have y:=5::5::5::5::y;5::5::5::5::y;have y:=have y:=4::4::4::4::y;4::4::4::4::y;have y:=3::3::3::3::y;0::1::2::2::y).getD (IntKind.u8.wrap v0).toNat 0))))))
def YT:Int->(R->Prop)->Prop:=
 fun x K=>(0<=x/\x<18446744073709551616)/\∀a7,a7=↑(da x.toNat)->K (R.d (U.int .i64 a7))
def Mo:Int->(R->Prop)->Prop:=
 fun x K=>((0:Int)<=aX x/\aX x<(18446744073709551616:Int))/\∀a7,a7=↑(da (aX x).toNat)->(0:Int)<=a7/\K (R.d (U.int .u64 (aX ((1:Int)*(2:Int)^min a7.toNat (64:Nat)))))
def Wr:Int->(ae->R->Prop)->Prop:=
 fun x K=>K (ae.cells [R.d (U.int .u64 (cN BinOp.xor .u64 (cN BinOp.xor .u64 (cN BinOp.xor .u64 x (IntKind.u64.wrap (x*8192))) ((cN BinOp.xor .u64 x (IntKind.u64.wrap (x*8192))).fdiv 128)) (IntKind.u64.wrap (cN BinOp.xor .u64 (cN BinOp.xor .u64 x (IntKind.u64.wrap (x*8192))) ((cN BinOp.xor .u64 x (IntKind.u64.wrap (x*8192))).fdiv 128)*131072))))]) (R.d (U.int .u64 (cN BinOp.xor .u64 (cN BinOp.xor .u64 (cN BinOp.xor .u64 x (IntKind.u64.wrap (x*8192))) ((cN BinOp.xor .u64 x (IntKind.u64.wrap (x*8192))).fdiv 128)) (IntKind.u64.wrap (cN BinOp.xor .u64 (cN BinOp.xor .u64 x (IntKind.u64.wrap (x*8192))) ((cN BinOp.xor .u64 x (IntKind.u64.wrap (x*8192))).fdiv 128)*131072)))))
def L3:aa.Rows->Int->Int->Int->(ae->R->Prop)->Prop:=
 fun l a b s K=>0<=b/\b<(aT l)/\(List.aS l b).length=11/\0<=a/\a<(aT l)/\(List.aS l a).length=11/\(eT (List.aS l b)/\eT (List.aS l a))/\∀x,x=gS (List.aS l b) (List.aS l a)->(decide (x<0)=true->K (ae.cells [R.d (U.int .i64 (ai (s+1)))]) (R.tup [R.d (U.int .i64 b),R.d (U.int .i64 a)]))/\(decide (x<0)=false->K (ae.cells [R.d (U.int .i64 s)]) (R.tup [R.d (U.int .i64 a),R.d (U.int .i64 b)]))
def L4:aa.Rows->Int->Int->Int->Int->(ae->R->Prop)->Prop:=
 fun(l:aa.Rows) (a b e s:Int) (K:ae->R->Prop)=>(aa.c9 l/\(0:Int)<=a/\a<aT l/\(0:Int)<=b/\b<aT l/\(0:Int)<=s/\s<(1000:Int))/\∀(x:Int),x=(Nat.cast:Nat->Int) («Sort».order2 aa.bl {toList:=l} (Int.toNat a) (Int.toNat b) (Int.toNat s)).2.2->∀(a7:Int),a7=(Nat.cast:Nat->Int) («Sort».order2 aa.bl {toList:=l} (Int.toNat a) (Int.toNat b) (Int.toNat s)).1->∀(aW:Int),aW=(Nat.cast:Nat->Int) («Sort».order2 aa.bl {toList:=l} (Int.toNat a) (Int.toNat b) (Int.toNat s)).2.1->(aa.c9 l/\(0:Int)<=aW/\aW<aT l/\(0:Int)<=e/\e<aT l/\(0:Int)<=x/\x<(1000:Int))/\∀(bn:Int),bn=(Nat.cast:Nat->Int) («Sort».order2 aa.bl {toList:=l} (Int.toNat aW) (Int.toNat e) (Int.toNat x)).2.2->∀(b9:Int),b9=(Nat.cast:Nat->Int) («Sort».order2 aa.bl {toList:=l} (Int.toNat aW) (Int.toNat e) (Int.toNat x)).1->∀(cU:Int),cU=(Nat.cast:Nat->Int) («Sort».order2 aa.bl {toList:=l} (Int.toNat aW) (Int.toNat e) (Int.toNat x)).2.1->(aa.c9 l/\(0:Int)<=a7/\a7<aT l/\(0:Int)<=b9/\b9<aT l/\(0:Int)<=bn/\bn<(1000:Int))/\∀(x:Int),x=(Nat.cast:Nat->Int) («Sort».order2 aa.bl {toList:=l} (Int.toNat a7) (Int.toNat b9) (Int.toNat bn)).2.2->∀(cB:Int),cB=(Nat.cast:Nat->Int) («Sort».order2 aa.bl {toList:=l} (Int.toNat a7) (Int.toNat b9) (Int.toNat bn)).1->∀(dc:Int),dc=(Nat.cast:Nat->Int) («Sort».order2 aa.bl {toList:=l} (Int.toNat a7) (Int.toNat b9) (Int.toNat bn)).2.1->K (ae.cells [R.d (U.int IntKind.i64 x)]) (R.d (U.int IntKind.i64 dc))
def LC:aa.Rows->Int->Int->(ae->R->Prop)->Prop:=
 fun l a s K=>(c9 l/\(0<=ai (a-1)/\ai (a-1)<(aT l))/\(0<=a/\a<(aT l))/\(0<=ai (a+1)/\ai (a+1)<(aT l))/\0<=s/\s<900)/\∀x,x=↑(«Sort».median bl {toList:=l} (ai (a-1)).toNat a.toNat (ai (a+1)).toNat s.toNat).snd->∀a7,a7=↑(«Sort».median bl {toList:=l} (ai (a-1)).toNat a.toNat (ai (a+1)).toNat s.toNat).fst->K (ae.cells [R.d (U.int .i64 x)]) (R.d (U.int .i64 a7))
def LN:aa.Rows->Int->Int->(R->Prop)->Prop:=
 fun l a b K=>∃(J:Int->Int->Prop),((decide ((8:Int)<=ai (b-a))=true->∃(pF:Int->Int->Int->Int->Prop),((decide ((50:Int)<=ai (b-a))=true->(c9 l/\(0:Int)<ai (a+ai (ai ((ai (b-a)).tdiv (4:Int))*(1:Int)))/\ai (a+ai (ai ((ai (b-a)).tdiv (4:Int))*(1:Int)))+(1:Int)<(aT l)/\List.length l<(1000000000000000:Nat)/\(0:Int)<=(0:Int)/\(0:Int)<(900:Int))/\∀x,x=↑(«Sort».medianAdjacent bl {toList:=l} (ai (a+ai (ai ((ai (b-a)).tdiv (4:Int))*(1:Int)))).toNat (0:Nat)).snd->∀a7,a7=↑(«Sort».medianAdjacent bl {toList:=l} (ai (a+ai (ai ((ai (b-a)).tdiv (4:Int))*(1:Int)))).toNat (0:Nat)).fst->(c9 l/\(0:Int)<ai (a+ai (ai ((ai (b-a)).tdiv (4:Int))*(2:Int)))/\ai (a+ai (ai ((ai (b-a)).tdiv (4:Int))*(2:Int)))+(1:Int)<(aT l)/\List.length l<(1000000000000000:Nat)/\(0:Int)<=x/\x<(900:Int))/\∀aW,aW=↑(«Sort».medianAdjacent bl {toList:=l} (ai (a+ai (ai ((ai (b-a)).tdiv (4:Int))*(2:Int)))).toNat x.toNat).snd->∀bn,bn=↑(«Sort».medianAdjacent bl {toList:=l} (ai (a+ai (ai ((ai (b-a)).tdiv (4:Int))*(2:Int)))).toNat x.toNat).fst->(c9 l/\(0:Int)<ai (a+ai (ai ((ai (b-a)).tdiv (4:Int))*(3:Int)))/\ai (a+ai (ai ((ai (b-a)).tdiv (4:Int))*(3:Int)))+(1:Int)<(aT l)/\List.length l<(1000000000000000:Nat)/\(0:Int)<=aW/\aW<(900:Int))/\∀x,x=↑(«Sort».medianAdjacent bl {toList:=l} (ai (a+ai (ai ((ai (b-a)).tdiv (4:Int))*(3:Int)))).toNat aW.toNat).snd->∀b9,b9=↑(«Sort».medianAdjacent bl {toList:=l} (ai (a+ai (ai ((ai (b-a)).tdiv (4:Int))*(3:Int)))).toNat aW.toNat).fst->pF a7 bn b9 x)/\(decide ((50:Int)<=ai (b-a))=false->pF (ai (a+ai (ai ((ai (b-a)).tdiv (4:Int))*(1:Int)))) (ai (a+ai (ai ((ai (b-a)).tdiv (4:Int))*(2:Int)))) (ai (a+ai (ai ((ai (b-a)).tdiv (4:Int))*(3:Int)))) (0:Int)))/\∀(v12 cc dr s:Int),pF v12 cc dr s->(c9 l/\((0:Int)<=v12/\v12<(aT l))/\((0:Int)<=cc/\cc<(aT l))/\((0:Int)<=dr/\dr<(aT l))/\(0:Int)<=s/\s<(900:Int))/\∀x,x=↑(«Sort».median bl {toList:=l} v12.toNat cc.toNat dr.toNat s.toNat).snd->∀a7,a7=↑(«Sort».median bl {toList:=l} v12.toNat cc.toNat dr.toNat s.toNat).fst->J a7 x)/\(decide ((8:Int)<=ai (b-a))=false->J (ai (a+ai (ai ((ai (b-a)).tdiv (4:Int))*(2:Int)))) (0:Int)))/\∀(cc s:Int),J cc s->(decide (s=(0:Int))=true->K (R.tup [R.d (U.int .i64 cc),R.d (U.int .i64 (1:Int))]))/\(decide (s=(0:Int))=false->(decide (s=(12:Int))=true->K (R.tup [R.d (U.int .i64 cc),R.d (U.int .i64 (2:Int))]))/\(decide (s=(12:Int))=false->K (R.tup [R.d (U.int .i64 cc),R.d (U.int .i64 (0:Int))])))
def LF:aa.Rows->Int->Int->(ae->R->Prop)->Prop:=
 fun l a b K=>(decide ((8:Int)<=ai (b-a))=true->((0:Int)<=ai (b-a)/\ai (b-a)<(4611686018427387904:Int))/\∀x,x=↑((2:Nat)^da (ai (b-a)).toNat)->∃(aQ:Int->List (List U)->Int->Prop),∃(m:Int->List (List U)->Int->Nat),aQ (ai (ai (a+ai (ai ((ai (b-a)).tdiv (4:Int))*(2:Int)))-(1:Int))) l (aX (ai (b-a)))/\∀(v11:Int) (au:List (List U)) (r:Int),aQ v11 au r->(decide (v11<=ai (ai (a+ai (ai ((ai (b-a)).tdiv (4:Int))*(2:Int)))+(1:Int)))=true->((0:Int)<=r/\r<(18446744073709551616:Int))/\∀(i:Int),(0:Int)<=i/\i<(18446744073709551616:Int)->∃(J:Int->List (List U)->Prop),((decide (ai (b-a)<=ai (cN BinOp.and .u64 i (aX (x-(1:Int)))))=true->(false,ae.cells [R.d (U.int .u64 i)])=(false,ae.cells [R.d (U.int .u64 i)])/\J (ai (ai (cN BinOp.and .u64 i (aX (x-(1:Int))))-ai (b-a))) au)/\(decide (ai (b-a)<=ai (cN BinOp.and .u64 i (aX (x-(1:Int)))))=false->(false,ae.cells [R.d (U.int .u64 i)])=(false,ae.cells [R.d (U.int .u64 i)])/\J (ai (cN BinOp.and .u64 i (aX (x-(1:Int))))) au))/\∀(v12:Int) (bw:List (List U)),J v12 bw->(0:Int)<=ai (a+v12)/\ai (a+v12)<↑bw.length/\(bw.getD (ai (a+v12)).toNat []).length=(11:Nat)/\(0:Int)<=v11/\v11<↑bw.length/\(bw.aS v11).length=(11:Nat)/\(0:Int)<=v11/\v11<↑bw.length/\(0:Int)<=ai (a+v12)/\ai (a+v12)<↑(bw.set v11.toNat (bw.getD (ai (a+v12)).toNat [])).length/\aQ (ai (v11+(1:Int))) ((bw.set v11.toNat (bw.getD (ai (a+v12)).toNat [])).set (ai (a+v12)).toNat (bw.aS v11)) i/\m (ai (v11+(1:Int))) ((bw.set v11.toNat (bw.getD (ai (a+v12)).toNat [])).set (ai (a+v12)).toNat (bw.aS v11)) i<m v11 au r)/\(decide (v11<=ai (ai (a+ai (ai ((ai (b-a)).tdiv (4:Int))*(2:Int)))+(1:Int)))=false->K (ae.ar (11:Nat) au) (R.tup [])))/\(decide ((8:Int)<=ai (b-a))=false->K (ae.ar (11:Nat) l) (R.tup []))
def L0:Nat->aa.Rows->Int->Int->Int->(ae->R->Prop)->Prop:=
 fun n l a b m K=>∃(aQ:Int->Int->Int->Bool->Bool->List (List U)->Prop),∃(fb:Int->Int->Int->Bool->Bool->List (List U)->Nat),aQ a b m true true l/\∀(v1 v2 v3:Int) (v10 v11:Bool) (au:List (List U)),aQ v1 v2 v3 v10 v11 au->(decide (ai (v2-v1)<=(12:Int))=true->fU au v1 v2/\∀x,x=(«Sort».insertionSort bl {toList:=au} v1.toNat v2.toNat).toList->K (ae.ar (11:Nat) x) (R.tup []))/\(decide (ai (v2-v1)<=(12:Int))=false->(decide (v3=(0:Int))=true->(0:Nat)<au.length/\(fU au v1 v2/\v1<v2)/\∀x,x=(«Sort».heapSort bl {toList:=au} v1.toNat v2.toNat).toList->K (ae.ar (11:Nat) x) (R.tup []))/\(decide (v3=(0:Int))=false->∃(J:Int->List (List U)->Prop),(((!v10)=true->(0:Nat)<au.length/\fU au v1 v2/\∀(i:List (List U)),EC au v1 v2 i->J (ai (v3-(1:Int))) i)/\((!v10)=false->J v3 au))/\∀(j2:Int) (bw:List (List U)),J j2 bw->(fU bw v1 v2/\v1<v2)/\∀x,x=↑(«Sort».choosePivot bl {toList:=bw} v1.toNat v2.toNat).fst->∀a7,a7= «Sort».hintCode («Sort».choosePivot bl {toList:=bw} v1.toNat v2.toNat).snd->∃(J:Int->Int->List (List U)->Prop),((decide (a7=(2:Int))=true->(0:Nat)<bw.length/\fU bw v1 v2/\∀aW,aW=(«Sort».reverseRange {toList:=bw} v1.toNat v2.toNat).toList->J (ai (ai (v2-(1:Int))-ai (x-v1))) (1:Int) aW)/\(decide (a7=(2:Int))=false->J x a7 bw))/\∀(cc dr:Int) (ef:List (List U)),J cc dr ef->∃(J:List (List U)->Prop),((v10=true->(v11=true->(decide (dr=(1:Int))=true->(0:Nat)<ef.length/\(fU ef v1 v2/\v1<v2)/\∀x,x=(«Sort».partialInsertionSort bl {toList:=ef} v1.toNat v2.toNat).fst.toList->∀aW,aW=(«Sort».partialInsertionSort bl {toList:=ef} v1.toNat v2.toNat).snd->(aW=true->K (ae.ar (11:Nat) x) (R.tup []))/\(aW=false->J x))/\(decide (dr=(1:Int))=false->J ef))/\(v11=false->J ef))/\(v10=false->J ef))/\∀(eU:List (List U)),J eU->(decide ((0:Int)<v1)=true->(0:Int)<=ai (v1-(1:Int))/\ai (v1-(1:Int))<↑eU.length/\(eU.getD (ai (v1-(1:Int))).toNat []).length=(11:Nat)/\(0:Int)<=cc/\cc<↑eU.length/\(eU.aS cc).length=(11:Nat)/\(eT (eU.getD (ai (v1-(1:Int))).toNat [])/\eT (eU.aS cc))/\∀x,x=gS (eU.getD (ai (v1-(1:Int))).toNat []) (eU.aS cc)->((!decide (x<(0:Int)))=true->(0:Nat)<eU.length/\(fU eU v1 v2/\v1<=cc/\cc<v2)/\∀x,x=(«Sort».partitionEqual bl {toList:=eU} v1.toNat v2.toNat cc.toNat).snd.toList->∀aW,aW=↑(«Sort».partitionEqual bl {toList:=eU} v1.toNat v2.toNat cc.toNat).fst->aQ aW v2 j2 v10 v11 x/\fb aW v2 j2 v10 v11 x<fb v1 v2 v3 v10 v11 au)/\((!decide (x<(0:Int)))=false->(0:Nat)<eU.length/\(fU eU v1 v2/\v1<=cc/\cc<v2)/\∀x,x=(«Sort».partition bl {toList:=eU} v1.toNat v2.toNat cc.toNat).snd.snd.toList->∀aW,aW=↑(«Sort».partition bl {toList:=eU} v1.toNat v2.toNat cc.toNat).fst->∀bn,bn=(«Sort».partition bl {toList:=eU} v1.toNat v2.toNat cc.toNat).snd.fst->(decide (ai (aW-v1)<ai (v2-aW))=true->(fU x v1 aW/\aW-v1<↑n/\((0:Int)<=j2/\j2<=(64:Int))/\ «Sort».Below bl v1.toNat aW.toNat {toList:=x})/\∀(i:List (List U)),lH x v1 aW i->aQ (ai (aW+(1:Int))) v2 j2 (decide (ai ((ai (v2-v1)).tdiv (8:Int))<=ai (aW-v1))) bn i/\fb (ai (aW+(1:Int))) v2 j2 (decide (ai ((ai (v2-v1)).tdiv (8:Int))<=ai (aW-v1))) bn i<fb v1 v2 v3 v10 v11 au)/\(decide (ai (aW-v1)<ai (v2-aW))=false->(fU x (ai (aW+(1:Int))) v2/\v2-ai (aW+(1:Int))<↑n/\((0:Int)<=j2/\j2<=(64:Int))/\ «Sort».Below bl (ai (aW+(1:Int))).toNat v2.toNat {toList:=x})/\∀(i:List (List U)),lH x (ai (aW+(1:Int))) v2 i->aQ v1 aW j2 (decide (ai ((ai (v2-v1)).tdiv (8:Int))<=ai (v2-aW))) bn i/\fb v1 aW j2 (decide (ai ((ai (v2-v1)).tdiv (8:Int))<=ai (v2-aW))) bn i<fb v1 v2 v3 v10 v11 au)))/\(decide ((0:Int)<v1)=false->(0:Nat)<eU.length/\(fU eU v1 v2/\v1<=cc/\cc<v2)/\∀x,x=(«Sort».partition bl {toList:=eU} v1.toNat v2.toNat cc.toNat).snd.snd.toList->∀aW,aW=↑(«Sort».partition bl {toList:=eU} v1.toNat v2.toNat cc.toNat).fst->∀bn,bn=(«Sort».partition bl {toList:=eU} v1.toNat v2.toNat cc.toNat).snd.fst->(decide (ai (aW-v1)<ai (v2-aW))=true->(fU x v1 aW/\aW-v1<↑n/\((0:Int)<=j2/\j2<=(64:Int))/\ «Sort».Below bl v1.toNat aW.toNat {toList:=x})/\∀(i:List (List U)),lH x v1 aW i->aQ (ai (aW+(1:Int))) v2 j2 (decide (ai ((ai (v2-v1)).tdiv (8:Int))<=ai (aW-v1))) bn i/\fb (ai (aW+(1:Int))) v2 j2 (decide (ai ((ai (v2-v1)).tdiv (8:Int))<=ai (aW-v1))) bn i<fb v1 v2 v3 v10 v11 au)/\(decide (ai (aW-v1)<ai (v2-aW))=false->(fU x (ai (aW+(1:Int))) v2/\v2-ai (aW+(1:Int))<↑n/\((0:Int)<=j2/\j2<=(64:Int))/\ «Sort».Below bl (ai (aW+(1:Int))).toNat v2.toNat {toList:=x})/\∀(i:List (List U)),lH x (ai (aW+(1:Int))) v2 i->aQ v1 aW j2 (decide (ai ((ai (v2-v1)).tdiv (8:Int))<=ai (v2-aW))) bn i/\fb v1 aW j2 (decide (ai ((ai (v2-v1)).tdiv (8:Int))<=ai (v2-aW))) bn i<fb v1 v2 v3 v10 v11 au))))
def LQ:aa.Rows->(ae->R->Prop)->Prop:=
 fun(l:aa.Rows) (K:ae->R->Prop)=>((0:Int)<=aX (aT l)/\aX (aT l)<(18446744073709551616:Int))/\∀(x:Int),x=(Nat.cast:Nat->Int) (aa.da (Int.toNat (aX (aT l))))->(aa.fU l (0:Int) (aT l)/\((0:Int)<=x/\x<=(64:Int))/\ «Sort».Below aa.bl (0:Nat) (Int.toNat (aT l)) {toList:=l})/\∀(i:List (List U)),aa.lH l (0:Int) (aT l) i->K (ae.ar (11:Nat) i) (R.tup [])
end aa
end
section
open Go Go.ak
namespace aa
def LG:aa.Rows->Int->Int->(ae->R->Prop)->Prop:=
 fun l a b K=>∃(aQ:Int->List (List U)->Prop),∃(m:Int->List (List U)->Nat),aQ (ai (a+1)) l/\∀(bq:Int) (au:List (List U)),aQ bq au->(decide (bq<b)=true->∃(fu:Int->List (List U)->Prop),∃(fb:Int->List (List U)->Nat),fu bq au/\∀(v9:Int) (bw:List (List U)),fu v9 bw->(decide (a<v9)=true->0<=v9/\v9<↑bw.length/\(bw.aS v9).length=11/\0<=ai (v9-1)/\ai (v9-1)<↑bw.length/\(bw.getD (ai (v9-1)).toNat []).length=11/\(eT (bw.aS v9)/\eT (bw.getD (ai (v9-1)).toNat []))/\∀x,x=gS (bw.aS v9) (bw.getD (ai (v9-1)).toNat [])->(decide (x<0)=true->0<=ai (v9-1)/\ai (v9-1)<↑bw.length/\(bw.getD (ai (v9-1)).toNat []).length=11/\0<=v9/\v9<↑bw.length/\(bw.aS v9).length=11/\0<=v9/\v9<↑bw.length/\0<=ai (v9-1)/\ai (v9-1)<↑(bw.set v9.toNat (bw.getD (ai (v9-1)).toNat [])).length/\fu (ai (v9-1)) ((bw.set v9.toNat (bw.getD (ai (v9-1)).toNat [])).set (ai (v9-1)).toNat (bw.aS v9))/\fb (ai (v9-1)) ((bw.set v9.toNat (bw.getD (ai (v9-1)).toNat [])).set (ai (v9-1)).toNat (bw.aS v9))<fb v9 bw)/\(decide (x<0)=false->aQ (ai (bq+1)) bw/\m (ai (bq+1)) bw<m bq au))/\(decide (a<v9)=false->aQ (ai (bq+1)) bw/\m (ai (bq+1)) bw<m bq au))/\(decide (bq<b)=false->K (ae.ar 11 au) (R.tup []))
def LX:aa.Rows->Int->Int->Int->(ae->R->Prop)->Prop:=
 fun l lo hi f K=>∃(aQ:Int->List (List U)->Prop),∃(m:Int->List (List U)->Nat),aQ lo l/\∀(v10:Int) (au:List (List U)),aQ v10 au->(decide (hi<=ai (ai (2*v10)+1))=true->K (ae.ar 11 au) (R.tup []))/\(decide (hi<=ai (ai (2*v10)+1))=false->∃(J:Int->List (List U)->Prop),((decide (ai (ai (ai (2*v10)+1)+1)<hi)=true->0<=ai (f+ai (ai (2*v10)+1))/\ai (f+ai (ai (2*v10)+1))<↑au.length/\(au.getD (ai (f+ai (ai (2*v10)+1))).toNat []).length=11/\0<=ai (ai (f+ai (ai (2*v10)+1))+1)/\ai (ai (f+ai (ai (2*v10)+1))+1)<↑au.length/\(au.getD (ai (ai (f+ai (ai (2*v10)+1))+1)).toNat []).length=11/\(eT (au.getD (ai (f+ai (ai (2*v10)+1))).toNat [])/\eT (au.getD (ai (ai (f+ai (ai (2*v10)+1))+1)).toNat []))/\∀x,x=gS (au.getD (ai (f+ai (ai (2*v10)+1))).toNat []) (au.getD (ai (ai (f+ai (ai (2*v10)+1))+1)).toNat [])->(decide (x<0)=true->J (ai (ai (ai (2*v10)+1)+1)) au)/\(decide (x<0)=false->J (ai (ai (2*v10)+1)) au))/\(decide (ai (ai (ai (2*v10)+1)+1)<hi)=false->J (ai (ai (2*v10)+1)) au))/\∀(v11:Int) (bw:List (List U)),J v11 bw->0<=ai (f+v10)/\ai (f+v10)<↑bw.length/\(bw.getD (ai (f+v10)).toNat []).length=11/\0<=ai (f+v11)/\ai (f+v11)<↑bw.length/\(bw.getD (ai (f+v11)).toNat []).length=11/\(eT (bw.getD (ai (f+v10)).toNat [])/\eT (bw.getD (ai (f+v11)).toNat []))/\∀x,x=gS (bw.getD (ai (f+v10)).toNat []) (bw.getD (ai (f+v11)).toNat [])->((!decide (x<0))=true->K (ae.ar 11 bw) (R.tup []))/\((!decide (x<0))=false->0<=ai (f+v11)/\ai (f+v11)<↑bw.length/\(bw.getD (ai (f+v11)).toNat []).length=11/\0<=ai (f+v10)/\ai (f+v10)<↑bw.length/\(bw.getD (ai (f+v10)).toNat []).length=11/\0<=ai (f+v10)/\ai (f+v10)<↑bw.length/\0<=ai (f+v11)/\ai (f+v11)<↑(bw.set (ai (f+v10)).toNat (bw.getD (ai (f+v11)).toNat [])).length/\aQ v11 ((bw.set (ai (f+v10)).toNat (bw.getD (ai (f+v11)).toNat [])).set (ai (f+v11)).toNat (bw.getD (ai (f+v10)).toNat []))/\m v11 ((bw.set (ai (f+v10)).toNat (bw.getD (ai (f+v11)).toNat [])).set (ai (f+v11)).toNat (bw.getD (ai (f+v10)).toNat []))<m v10 au))
def LY:aa.Rows->Int->Int->(ae->R->Prop)->Prop:=
 fun l a b K=>∃(J:List (List U)->Prop),(∃(aQ:Int->List (List U)->Prop),∃(m:Int->List (List U)->Nat),aQ (ai ((ai (ai (b-a)-(1:Int))).tdiv (2:Int))) l/\∀(v11:Int) (au:List (List U)),aQ v11 au->(decide ((0:Int)<=v11)=true->(0:Nat)<au.length/\(c9 au/\(0:Int)<=v11/\v11<=↑au.length/\(0:Int)<=ai (b-a)/\(0:Int)<=a/\a+ai (b-a)<=↑au.length/\au.length<(1000000000000000:Nat))/\aQ (ai (v11-(1:Int))) («Sort».siftDown bl (ai (b-a)).toNat a.toNat v11.toNat {toList:=au}).toList/\m (ai (v11-(1:Int))) («Sort».siftDown bl (ai (b-a)).toNat a.toNat v11.toNat {toList:=au}).toList<m v11 au)/\(decide ((0:Int)<=v11)=false->J au))/\∀(au:List (List U)),J au->∃(aQ:Int->List (List U)->Prop),∃(m:Int->List (List U)->Nat),aQ (ai (ai (b-a)-(1:Int))) au/\∀(v12:Int) (au:List (List U)),aQ v12 au->(decide ((0:Int)<=v12)=true->(0:Int)<=ai (a+v12)/\ai (a+v12)<↑au.length/\(au.getD (ai (a+v12)).toNat []).length=(11:Nat)/\(0:Int)<=a/\a<↑au.length/\(au.aS a).length=(11:Nat)/\(0:Int)<=a/\a<↑au.length/\(0:Int)<=ai (a+v12)/\ai (a+v12)<↑(au.set a.toNat (au.getD (ai (a+v12)).toNat [])).length/\(0:Nat)<((au.set a.toNat (au.getD (ai (a+v12)).toNat [])).set (ai (a+v12)).toNat (au.aS a)).length/\(c9 ((au.set a.toNat (au.getD (ai (a+v12)).toNat [])).set (ai (a+v12)).toNat (au.aS a))/\(0:Int)<=(0:Int)/\(0:Int)<=↑((au.set a.toNat (au.getD (ai (a+v12)).toNat [])).set (ai (a+v12)).toNat (au.aS a)).length/\(0:Int)<=v12/\(0:Int)<=a/\a+v12<=↑((au.set a.toNat (au.getD (ai (a+v12)).toNat [])).set (ai (a+v12)).toNat (au.aS a)).length/\((au.set a.toNat (au.getD (ai (a+v12)).toNat [])).set (ai (a+v12)).toNat (au.aS a)).length<(1000000000000000:Nat))/\aQ (ai (v12-(1:Int))) («Sort».siftDown bl v12.toNat a.toNat (0:Nat) {toList:=(au.set a.toNat (au.getD (ai (a+v12)).toNat [])).set (ai (a+v12)).toNat (au.aS a)}).toList/\m (ai (v12-(1:Int))) («Sort».siftDown bl v12.toNat a.toNat (0:Nat) {toList:=(au.set a.toNat (au.getD (ai (a+v12)).toNat [])).set (ai (a+v12)).toNat (au.aS a)}).toList<m v12 au)/\(decide ((0:Int)<=v12)=false->K (ae.ar (11:Nat) au) (R.tup []))
def LV:aa.Rows->Int->Int->Int->(ae->R->Prop)->Prop:=
 fun l a b p K=>0<=p/\p<(aT l)/\(List.aS l p).length=11/\0<=a/\a<(aT l)/\(List.aS l a).length=11/\0<=a/\a<(aT l)/\0<=p/\p<↑(List.set l a.toNat (List.aS l p)).length/\∃(J:Int->List (List U)->Prop),(∃(aQ:Int->List (List U)->Prop),∃(m:Int->List (List U)->Nat),aQ (ai (a+1)) ((List.set l a.toNat (List.aS l p)).set p.toNat (List.aS l a))/\∀(v12:Int) (au:List (List U)),aQ v12 au->(decide (v12<=ai (b-1))=true->0<=v12/\v12<↑au.length/\(au.aS v12).length=11/\0<=a/\a<↑au.length/\(au.aS a).length=11/\(eT (au.aS v12)/\eT (au.aS a))/\∀x,x=gS (au.aS v12) (au.aS a)->(decide (x<0)=true->aQ (ai (v12+1)) au/\m (ai (v12+1)) au<m v12 au)/\(decide (x<0)=false->J v12 au))/\(decide (v12<=ai (b-1))=false->J v12 au))/\∀(v12:Int) (au:List (List U)),J v12 au->∃(J:Int->List (List U)->Prop),(∃(aQ:Int->List (List U)->Prop),∃(m:Int->List (List U)->Nat),aQ (ai (b-1)) au/\∀(cc:Int) (au:List (List U)),aQ cc au->(decide (v12<=cc)=true->0<=cc/\cc<↑au.length/\(au.aS cc).length=11/\0<=a/\a<↑au.length/\(au.aS a).length=11/\(eT (au.aS cc)/\eT (au.aS a))/\∀x,x=gS (au.aS cc) (au.aS a)->((!decide (x<0))=true->aQ (ai (cc-1)) au/\m (ai (cc-1)) au<m cc au)/\((!decide (x<0))=false->J cc au))/\(decide (v12<=cc)=false->J cc au))/\∀(cc:Int) (au:List (List U)),J cc au->(decide (cc<v12)=true->0<=a/\a<↑au.length/\(au.aS a).length=11/\0<=cc/\cc<↑au.length/\(au.aS cc).length=11/\0<=cc/\cc<↑au.length/\0<=a/\a<↑(au.set cc.toNat (au.aS a)).length/\K (ae.ar 11 ((au.set cc.toNat (au.aS a)).set a.toNat (au.aS cc))) (R.tup [R.d (U.int .i64 cc),R.d (U.bool true)]))/\(decide (cc<v12)=false->0<=cc/\cc<↑au.length/\(au.aS cc).length=11/\0<=v12/\v12<↑au.length/\(au.aS v12).length=11/\0<=v12/\v12<↑au.length/\0<=cc/\cc<↑(au.set v12.toNat (au.aS cc)).length/\∃(J:Int->List (List U)->Prop),(∃(aQ:Int->Int->List (List U)->Prop),∃(m:Int->Int->List (List U)->Nat),aQ (ai (v12+1)) (ai (cc-1)) ((au.set v12.toNat (au.aS cc)).set cc.toNat (au.aS v12))/\∀(v12 cc:Int) (au:List (List U)),aQ v12 cc au->∃(pF:Int->List (List U)->Prop),(∃(aQ:Int->List (List U)->Prop),∃(m:Int->List (List U)->Nat),aQ v12 au/\∀(v12:Int) (au:List (List U)),aQ v12 au->(decide (v12<=cc)=true->0<=v12/\v12<↑au.length/\(au.aS v12).length=11/\0<=a/\a<↑au.length/\(au.aS a).length=11/\(eT (au.aS v12)/\eT (au.aS a))/\∀x,x=gS (au.aS v12) (au.aS a)->(decide (x<0)=true->aQ (ai (v12+1)) au/\m (ai (v12+1)) au<m v12 au)/\(decide (x<0)=false->pF v12 au))/\(decide (v12<=cc)=false->pF v12 au))/\∀(gH:Int) (bw:List (List U)),pF gH bw->∃(vG:Int->List (List U)->Prop),(∃(aQ:Int->List (List U)->Prop),∃(m:Int->List (List U)->Nat),aQ cc bw/\∀(cc:Int) (au:List (List U)),aQ cc au->(decide (gH<=cc)=true->0<=cc/\cc<↑au.length/\(au.aS cc).length=11/\0<=a/\a<↑au.length/\(au.aS a).length=11/\(eT (au.aS cc)/\eT (au.aS a))/\∀x,x=gS (au.aS cc) (au.aS a)->((!decide (x<0))=true->aQ (ai (cc-1)) au/\m (ai (cc-1)) au<m cc au)/\((!decide (x<0))=false->vG cc au))/\(decide (gH<=cc)=false->vG cc au))/\∀(lI:Int) (ef:List (List U)),vG lI ef->(decide (lI<gH)=true->J lI ef)/\(decide (lI<gH)=false->0<=lI/\lI<↑ef.length/\(ef.aS lI).length=11/\0<=gH/\gH<↑ef.length/\(ef.aS gH).length=11/\0<=gH/\gH<↑ef.length/\0<=lI/\lI<↑(ef.set gH.toNat (ef.aS lI)).length/\aQ (ai (gH+1)) (ai (lI-1)) ((ef.set gH.toNat (ef.aS lI)).set lI.toNat (ef.aS gH))/\m (ai (gH+1)) (ai (lI-1)) ((ef.set gH.toNat (ef.aS lI)).set lI.toNat (ef.aS gH))<m v12 cc au))/\∀(cc:Int) (au:List (List U)),J cc au->0<=a/\a<↑au.length/\(au.aS a).length=11/\0<=cc/\cc<↑au.length/\(au.aS cc).length=11/\0<=cc/\cc<↑au.length/\0<=a/\a<↑(au.set cc.toNat (au.aS a)).length/\K (ae.ar 11 ((au.set cc.toNat (au.aS a)).set a.toNat (au.aS cc))) (R.tup [R.d (U.int .i64 cc),R.d (U.bool false)]))
def LD:aa.Rows->Int->Int->Int->(ae->R->Prop)->Prop:=
 fun l a b p K=>0<=p/\p<(aT l)/\(List.aS l p).length=11/\0<=a/\a<(aT l)/\(List.aS l a).length=11/\0<=a/\a<(aT l)/\0<=p/\p<↑(List.set l a.toNat (List.aS l p)).length/\∃(J:Int->List (List U)->Prop),(∃(aQ:Int->Int->List (List U)->Prop),∃(m:Int->Int->List (List U)->Nat),aQ (ai (a+1)) (ai (b-1)) ((List.set l a.toNat (List.aS l p)).set p.toNat (List.aS l a))/\∀(v11 v12:Int) (au:List (List U)),aQ v11 v12 au->∃(pF:Int->List (List U)->Prop),(∃(aQ:Int->List (List U)->Prop),∃(m:Int->List (List U)->Nat),aQ v11 au/\∀(v11:Int) (au:List (List U)),aQ v11 au->(decide (v11<=v12)=true->0<=a/\a<↑au.length/\(au.aS a).length=11/\0<=v11/\v11<↑au.length/\(au.aS v11).length=11/\(eT (au.aS a)/\eT (au.aS v11))/\∀x,x=gS (au.aS a) (au.aS v11)->((!decide (x<0))=true->aQ (ai (v11+1)) au/\m (ai (v11+1)) au<m v11 au)/\((!decide (x<0))=false->pF v11 au))/\(decide (v11<=v12)=false->pF v11 au))/\∀(jd:Int) (bw:List (List U)),pF jd bw->∃(vG:Int->List (List U)->Prop),(∃(aQ:Int->List (List U)->Prop),∃(m:Int->List (List U)->Nat),aQ v12 bw/\∀(v12:Int) (au:List (List U)),aQ v12 au->(decide (jd<=v12)=true->0<=a/\a<↑au.length/\(au.aS a).length=11/\0<=v12/\v12<↑au.length/\(au.aS v12).length=11/\(eT (au.aS a)/\eT (au.aS v12))/\∀x,x=gS (au.aS a) (au.aS v12)->(decide (x<0)=true->aQ (ai (v12-1)) au/\m (ai (v12-1)) au<m v12 au)/\(decide (x<0)=false->vG v12 au))/\(decide (jd<=v12)=false->vG v12 au))/\∀(gH:Int) (ef:List (List U)),vG gH ef->(decide (gH<jd)=true->J jd ef)/\(decide (gH<jd)=false->0<=gH/\gH<↑ef.length/\(ef.aS gH).length=11/\0<=jd/\jd<↑ef.length/\(ef.aS jd).length=11/\0<=jd/\jd<↑ef.length/\0<=gH/\gH<↑(ef.set jd.toNat (ef.aS gH)).length/\aQ (ai (jd+1)) (ai (gH-1)) ((ef.set jd.toNat (ef.aS gH)).set gH.toNat (ef.aS jd))/\m (ai (jd+1)) (ai (gH-1)) ((ef.set jd.toNat (ef.aS gH)).set gH.toNat (ef.aS jd))<m v11 v12 au))/\∀(v11:Int) (au:List (List U)),J v11 au->K (ae.ar 11 au) (R.d (U.int .i64 v11))
def LA:aa.Rows->Int->Int->(ae->R->Prop)->Prop:=
 fun l a b K=>∃(J:List (List U)->Prop),(∃(aQ:Int->Int->List (List U)->Prop),∃(m:Int->Int->List (List U)->Nat),aQ (ai (a+1)) 0 l/\∀(v9 v10:Int) (au:List (List U)),aQ v9 v10 au->(decide (v10<5)=true->∃(J:Int->List (List U)->Prop),(∃(aQ:Int->List (List U)->Prop),∃(m:Int->List (List U)->Nat),aQ v9 au/\∀(v9:Int) (au:List (List U)),aQ v9 au->(decide (v9<b)=true->0<=v9/\v9<↑au.length/\(au.aS v9).length=11/\0<=ai (v9-1)/\ai (v9-1)<↑au.length/\(au.getD (ai (v9-1)).toNat []).length=11/\(eT (au.aS v9)/\eT (au.getD (ai (v9-1)).toNat []))/\∀x,x=gS (au.aS v9) (au.getD (ai (v9-1)).toNat [])->((!decide (x<0))=true->aQ (ai (v9+1)) au/\m (ai (v9+1)) au<m v9 au)/\((!decide (x<0))=false->J v9 au))/\(decide (v9<b)=false->J v9 au))/\∀(gq:Int) (bw:List (List U)),J gq bw->(decide (gq=b)=true->K (ae.ar 11 bw) (R.d (U.bool true)))/\(decide (gq=b)=false->(decide (ai (b-a)<50)=true->K (ae.ar 11 bw) (R.d (U.bool false)))/\(decide (ai (b-a)<50)=false->0<=ai (gq-1)/\ai (gq-1)<↑bw.length/\(bw.getD (ai (gq-1)).toNat []).length=11/\0<=gq/\gq<↑bw.length/\(bw.aS gq).length=11/\0<=gq/\gq<↑bw.length/\0<=ai (gq-1)/\ai (gq-1)<↑(bw.set gq.toNat (bw.getD (ai (gq-1)).toNat [])).length/\∃(J:List (List U)->Prop),((decide (2<=ai (gq-a))=true->∃(aQ:Int->List (List U)->Prop),∃(m:Int->List (List U)->Nat),aQ (ai (gq-1)) ((bw.set gq.toNat (bw.getD (ai (gq-1)).toNat [])).set (ai (gq-1)).toNat (bw.aS gq))/\∀(v11:Int) (au:List (List U)),aQ v11 au->(decide (1<=v11)=true->0<=v11/\v11<↑au.length/\(au.aS v11).length=11/\0<=ai (v11-1)/\ai (v11-1)<↑au.length/\(au.getD (ai (v11-1)).toNat []).length=11/\(eT (au.aS v11)/\eT (au.getD (ai (v11-1)).toNat []))/\∀x,x=gS (au.aS v11) (au.getD (ai (v11-1)).toNat [])->((!decide (x<0))=true->J au)/\((!decide (x<0))=false->0<=ai (v11-1)/\ai (v11-1)<↑au.length/\(au.getD (ai (v11-1)).toNat []).length=11/\0<=v11/\v11<↑au.length/\(au.aS v11).length=11/\0<=v11/\v11<↑au.length/\0<=ai (v11-1)/\ai (v11-1)<↑(au.set v11.toNat (au.getD (ai (v11-1)).toNat [])).length/\aQ (ai (v11-1)) ((au.set v11.toNat (au.getD (ai (v11-1)).toNat [])).set (ai (v11-1)).toNat (au.aS v11))/\m (ai (v11-1)) ((au.set v11.toNat (au.getD (ai (v11-1)).toNat [])).set (ai (v11-1)).toNat (au.aS v11))<m v11 au))/\(decide (1<=v11)=false->J au))/\(decide (2<=ai (gq-a))=false->J ((bw.set gq.toNat (bw.getD (ai (gq-1)).toNat [])).set (ai (gq-1)).toNat (bw.aS gq))))/\∀(ef:List (List U)),J ef->(decide (2<=ai (b-gq))=true->∃(fu:Int->List (List U)->Prop),∃(fb:Int->List (List U)->Nat),fu (ai (gq+1)) ef/\∀(v12:Int) (eU:List (List U)),fu v12 eU->(decide (v12<b)=true->0<=v12/\v12<↑eU.length/\(eU.aS v12).length=11/\0<=ai (v12-1)/\ai (v12-1)<↑eU.length/\(eU.getD (ai (v12-1)).toNat []).length=11/\(eT (eU.aS v12)/\eT (eU.getD (ai (v12-1)).toNat []))/\∀x,x=gS (eU.aS v12) (eU.getD (ai (v12-1)).toNat [])->((!decide (x<0))=true->aQ gq (ai (v10+1)) eU/\m gq (ai (v10+1)) eU<m v9 v10 au)/\((!decide (x<0))=false->0<=ai (v12-1)/\ai (v12-1)<↑eU.length/\(eU.getD (ai (v12-1)).toNat []).length=11/\0<=v12/\v12<↑eU.length/\(eU.aS v12).length=11/\0<=v12/\v12<↑eU.length/\0<=ai (v12-1)/\ai (v12-1)<↑(eU.set v12.toNat (eU.getD (ai (v12-1)).toNat [])).length/\fu (ai (v12+1)) ((eU.set v12.toNat (eU.getD (ai (v12-1)).toNat [])).set (ai (v12-1)).toNat (eU.aS v12))/\fb (ai (v12+1)) ((eU.set v12.toNat (eU.getD (ai (v12-1)).toNat [])).set (ai (v12-1)).toNat (eU.aS v12))<fb v12 eU))/\(decide (v12<b)=false->aQ gq (ai (v10+1)) eU/\m gq (ai (v10+1)) eU<m v9 v10 au))/\(decide (2<=ai (b-gq))=false->aQ gq (ai (v10+1)) ef/\m gq (ai (v10+1)) ef<m v9 v10 au))))/\(decide (v10<5)=false->J au))/\∀(au:List (List U)),J au->K (ae.ar 11 au) (R.d (U.bool false))
def LJ:aa.Rows->Int->Int->(ae->R->Prop)->Prop:=
 fun l a b K=>∃(aQ:Int->Int->List (List U)->Prop),∃(m:Int->Int->List (List U)->Nat),aQ a (ai (b-1)) l/\∀(bq v9:Int) (au:List (List U)),aQ bq v9 au->(decide (bq<v9)=true->0<=v9/\v9<↑au.length/\(au.aS v9).length=11/\0<=bq/\bq<↑au.length/\(au.aS bq).length=11/\0<=bq/\bq<↑au.length/\0<=v9/\v9<↑(au.set bq.toNat (au.aS v9)).length/\aQ (ai (bq+1)) (ai (v9-1)) ((au.set bq.toNat (au.aS v9)).set v9.toNat (au.aS bq))/\m (ai (bq+1)) (ai (v9-1)) ((au.set bq.toNat (au.aS v9)).set v9.toNat (au.aS bq))<m bq v9 au)/\(decide (bq<v9)=false->K (ae.ar 11 au) (R.tup []))
end aa
end
section
open Go Go.ak
theorem aa.abb {args:List R}{K:R->Prop}(bb:aa.DO.T args K):∃x y,args=[.d (.int .u32 x), .d (.int .u32 y)]:=by unfold aa.DO.T bk at bb;grind [Go.ak.ct]
theorem aa.abc {args:List R}{K:R->Prop}(bb:aa.DP.T args K):∃x y c,args=[.d (.int .u32 x), .d (.int .u32 y), .d (.int .u32 c)]:=by unfold aa.DP.T bk at bb;grind [Go.ak.ct]
theorem aa.abd {args:List R}{K:R->Prop}(bb:aa.DQ.T args K):∃x y c,args=[.d (.int .u32 x), .d (.int .u32 y), .d (.int .u32 c)]:=by unfold aa.DQ.T bk at bb;grind [Go.ak.ct]
theorem aa.abe {args:List R}{K:R->Prop}(bb:aa.DR.T args K):∃h l y,args=[.d (.int .u32 h), .d (.int .u32 l), .d (.int .u32 y)]:=by unfold aa.DR.T bk at bb;grind [Go.ak.ct]
theorem aa.acN {args:List R}{K:R->Prop}(bb:aa.Et.T args K):∃a,args=[.d (.af .u32 a)]:=by unfold aa.Et.T bk at bb;grind [Go.ak.ct]
theorem aa.abf {args:List R}{K:R->Prop}(bb:aa.DS.T args K):∃a,args=[.d (.af .u32 a)]:=by unfold aa.DS.T bk at bb;grind [Go.ak.ct]
theorem aa.acO {args:List R}{K:R->Prop}(bb:aa.Eu.T args K):∃a,args=[.d (.af .u32 a)]:=by unfold aa.Eu.T bk at bb;grind [Go.ak.ct]
theorem aa.Ye {args:List R}{K:R->Prop}(bb:aa.Ct.T args K):∃u,args=[.d (.int .u64 u)]:=by unfold aa.Ct.T bk at bb;grind [Go.ak.ct]
theorem aa.ZH {args:List R}{K:R->Prop}(bb:aa.Da.T args K):∃a,args=[.d (.af .u32 a)]:=by unfold aa.Da.T bk at bb;grind [Go.ak.ct]
theorem aa.aeb {args:List R}{K:R->Prop}(bb:aa.E9.T args K):∃a b,args=[.d (.af .u32 a), .d (.af .u32 b)]:=by unfold aa.E9.T bk at bb;grind [Go.ak.ct]
theorem aa.aec {args:List R}{K:R->Prop}(bb:aa.iQ.T args K):∃a b,args=[.d (.af .u32 a), .d (.af .u32 b)]:=by unfold aa.iQ.T bk at bb;grind [Go.ak.ct]
theorem aa.aed {args:List R}{K:R->Prop}(bb:aa.E_.T args K):∃a b,args=[.d (.af .u32 a), .d (.af .u32 b)]:=by unfold aa.E_.T bk at bb;grind [Go.ak.ct]
theorem aa.aee {args:List R}{K:R->Prop}(bb:aa.Fa.T args K):∃a b,args=[.d (.af .u32 a), .d (.af .u32 b)]:=by unfold aa.Fa.T bk at bb;grind [Go.ak.ct]
theorem aa.abg {args:List R}{K:R->Prop}(bb:aa.DT.T args K):∃a d,args=[.d (.af .u32 a), .d (.int .u32 d)]:=by unfold aa.DT.T bk at bb;grind [Go.ak.ct]
theorem aa.ZI {args:List R}{K:R->Prop}(bb:aa.Db.T args K):∃a b,args=[.d (.af .u32 a), .d (.af .u32 b)]:=by unfold aa.Db.T bk at bb;grind [Go.ak.ct]
theorem aa.YU {a0:R}{b0:ae}{args:List R}{K:ae->R->Prop}(bb:aa.CI.T a0 b0 args K):∃l,a0= .vec 0/\b0= .af .u8 l/\args=[]:=by unfold aa.CI.T e7 at bb;grind [Go.ak.ct]
theorem aa.ZJ {args:List R}{K:R->Prop}(bb:aa.Dc.T args K):∃a,args=[.d (.af .u32 a)]:=by unfold aa.Dc.T bk at bb;grind [Go.ak.ct]
theorem aa.abh {args:List R}{K:R->Prop}(bb:aa.DU.T args K):∃x,args=[.d (.int .u32 x)]:=by unfold aa.DU.T bk at bb;grind [Go.ak.ct]
theorem aa.YV {args:List R}{K:R->Prop}(bb:aa.CJ.T args K):∃x,args=[.d (.int .u32 x)]:=by unfold aa.CJ.T bk at bb;grind [Go.ak.ct]
theorem aa.abi {args:List R}{K:ae->Prop}(bb:aa.DV.T args K):∃a k,args=[.d (.af .u32 a), .d (.int .u64 k)]:=by unfold aa.DV.T m2 at bb;grind [Go.ak.ct]
theorem aa.acP {args:List R}{K:R->Prop}(bb:aa.Ew.T args K):∃a b,args=[.d (.af .u32 a), .d (.af .u32 b)]:=by unfold aa.Ew.T bk at bb;grind [Go.ak.ct]
theorem aa.aef {args:List R}{K:R->Prop}(bb:aa.Fb.T args K):∃a b,args=[.d (.af .u32 a), .d (.af .u32 b)]:=by unfold aa.Fb.T bk at bb;grind [Go.ak.ct]
theorem aa.YW {args:List R}{K:ae->Prop}(bb:aa.CK.T args K):∃a,args=[.d (.af .u32 a)]:=by unfold aa.CK.T m2 at bb;grind [Go.ak.ct]
theorem aa.ZK {args:List R}{K:R->Prop}(bb:aa.Dd.T args K):∃a b,args=[.d (.af .u32 a), .d (.af .u32 b)]:=by unfold aa.Dd.T bk at bb;grind [Go.ak.ct]
theorem aa.ZL {args:List R}{K:R->Prop}(bb:aa.De.T args K):∃a b,args=[.d (.af .u32 a), .d (.af .u32 b)]:=by unfold aa.De.T bk at bb;grind [Go.ak.ct]
theorem aa.ZM {args:List R}{K:R->Prop}(bb:aa.Df.T args K):∃a b,args=[.d (.af .u32 a), .d (.af .u32 b)]:=by unfold aa.Df.T bk at bb;grind [Go.ak.ct]
theorem aa.ZN {args:List R}{K:R->Prop}(bb:aa.Dg.T args K):∃a b,args=[.d (.af .u32 a), .d (.af .u32 b)]:=by unfold aa.Dg.T bk at bb;grind [Go.ak.ct]
theorem aa.Yf {args:List R}{K:R->Prop}(bb:aa.Cu.T args K):∃a d,args=[.d (.af .u32 a), .d (.int .u32 d)]:=by unfold aa.Cu.T bk at bb;grind [Go.ak.ct]
theorem aa.XF {args:List R}{K:R->Prop}(bb:aa.Cf.T args K):∃a b,args=[.d (.af .u32 a), .d (.af .u32 b)]:=by unfold aa.Cf.T bk at bb;grind [Go.ak.ct]
theorem aa.ZO {args:List R}{K:R->Prop}(bb:aa.Dh.T args K):∃a b,args=[.d (.af .u32 a), .d (.af .u32 b)]:=by unfold aa.Dh.T bk at bb;grind [Go.ak.ct]
theorem aa.Xk {args:List R}{K:R->Prop}(bb:aa.Ca.T args K):∃n,args=[.d (.int .i64 n)]:=by unfold aa.Ca.T bk at bb;grind [Go.ak.ct]
theorem aa.Yg {args:List R}{K:ae->Prop}(bb:aa.Cv.T args K):∃a k,args=[.d (.af .u32 a), .d (.int .i64 k)]:=by unfold aa.Cv.T m2 at bb;grind [Go.ak.ct]
theorem aa.Xl {args:List R}{K:R->Prop}(bb:aa.Cb.T args K):∃a k,args=[.d (.af .u32 a), .d (.int .i64 k)]:=by unfold aa.Cb.T bk at bb;grind [Go.ak.ct]
theorem aa.Yh {a0:R}{b0:ae}{args:List R}{K:ae->R->Prop}(bb:aa.Cw.T a0 b0 args K):∃u v j,a0= .vec 0/\b0= .af .u32 u/\args=[.d (.af .u32 v), .d (.int .i64 j)]:=by unfold aa.Cw.T e7 at bb;grind [Go.ak.ct]
theorem aa.acQ {args:List R}{K:R->Prop}(bb:aa.Ev.T args K):∃a b,args=[.d (.af .u32 a), .d (.af .u32 b)]:=by unfold aa.Ev.T bk at bb;grind [Go.ak.ct]
end
section
open Go Go.ak
namespace aa
def Qn:List Int->(R->Prop)->Prop:=
 fun a K=>∃(aQ:List Int->Prop),∃(m:List Int->Nat),aQ a/\∀(v0:List Int),aQ v0->(decide ((0:Int)<↑v0.length)=true->0<=ai (↑v0.length-1)/\ai (↑v0.length-1)<↑v0.length/\(decide (v0.getD (ai (↑v0.length-1)).toNat 0=0)=true->0<=ai (↑v0.length-1)/\ai (↑v0.length-1)<=↑v0.length/\aQ (List.take (ai (↑v0.length-1)).toNat v0)/\m (List.take (ai (↑v0.length-1)).toNat v0)<m v0)/\(decide (v0.getD (ai (↑v0.length-1)).toNat 0=0)=false->K (R.d (U.af .u32 v0))))/\(decide ((0:Int)<↑v0.length)=false->K (R.d (U.af .u32 v0)))
def Nc:Int->Int->(R->Prop)->Prop:=
 fun x y K=>K (R.tup [R.d (U.int .u32 (bY ((aX (aX x*aX y)).fdiv 4294967296))),R.d (U.int .u32 (bY (aX (aX x*aX y))))])
def Nd:Int->Int->Int->(R->Prop)->Prop:=
 fun x y c K=>K (R.tup [R.d (U.int .u32 (bY (aX (aX (aX x+aX y)+aX c)))),R.d (U.int .u32 (bY ((aX (aX (aX x+aX y)+aX c)).fdiv 4294967296)))])
def Nf:Int->Int->Int->(R->Prop)->Prop:=
 fun x y c K=>K (R.tup [R.d (U.int .u32 (bY (bY (x-y)-c))),R.d (U.int .u32 ((cN BinOp.or .u32 (cN BinOp.and .u32 (cN BinOp.xor .u32 4294967295 x) y) (cN BinOp.and .u32 (cN BinOp.xor .u32 4294967295 (cN BinOp.xor .u32 x y)) (bY (bY (x-y)-c)))).fdiv 2147483648))])
def XG:Int->Int->Int->(R->Prop)->Prop:=
 fun h l y K=>∃(J:Prop),(((!decide (y=0))=true->(decide (y<=h)=true->False)/\(decide (y<=h)=false->J))/\((!decide (y=0))=false->J))/\(J->¬IntKind.u64.wrap y=0/\¬IntKind.u64.wrap y=0
 /\K (R.tup [R.d (U.int .u32 (IntKind.u32.wrap (IntKind.u64.wrap ((cN BinOp.or .u64 (IntKind.u64.wrap (IntKind.u64.wrap h*4294967296)) (IntKind.u64.wrap l)).tdiv (IntKind.u64.wrap y))))),R.d (U.int .u32 (IntKind.u32.wrap ((cN BinOp.or .u64 (IntKind.u64.wrap (IntKind.u64.wrap h*4294967296)) (IntKind.u64.wrap l)).tmod (IntKind.u64.wrap y))))]))
def N5:List Int->(R->Prop)->Prop:=
 fun a K=>∀b,(b=true->a=[])->(b=true->K (R.d (U.af .u32 [])))/\(b=false->((0:Int)+↑a.length)*(4:Int)<=(70368744177664:Int)/\K (R.d (U.af .u32 ([]++a))))
def Qo:List Int->(R->Prop)->Prop:=
 fun a K=>(bN a/\a.length<=1000000000)/\(aP (val a)).length<=100000000/\K (R.d (U.af .u32 (aP (val a))))
def NL:Int->(R->Prop)->Prop:=
 fun u K=>(bN [bY u,bY (u.fdiv 4294967296)]/\[bY u,bY (u.fdiv 4294967296)].length<=1000000000)/\K (R.d (U.af .u32 (aP (val [bY u,bY (u.fdiv 4294967296)]))))
def OE:List Int->(R->Prop)->Prop:=
 fun a K=>∃(aQ:Int->Int->Prop),∃(m:Int->Int->Nat),aQ 0 0/\∀(v3 bq:Int),aQ v3 bq->(decide (bq<↑a.length)=true->0<=bq/\bq<↑a.length/\0<=ai (32*bq)/\aQ (cN BinOp.or .u64 v3 (aX (aX (a.getD bq.toNat 0)*2^min (ai (32*bq)).toNat 64))) (ai (bq+1))/\m (cN BinOp.or .u64 v3 (aX (aX (a.getD bq.toNat 0)*2^min (ai (32*bq)).toNat 64))) (ai (bq+1))<m v3 bq)/\(decide (bq<↑a.length)=false->K (R.d (U.int .u64 v3)))
def Rt:List Int->List Int->(R->Prop)->Prop:=
 fun(a b:List Int) (K:R->Prop)=>(aa.bN a/\List.length a<=(1000000000:Nat))/\(aa.bN b/\List.length b<=(1000000000:Nat))/\((!decide (aT (aa.aP (aa.val a))=aT (aa.aP (aa.val b))))=true->(decide (aT (aa.aP (aa.val a))<aT (aa.aP (aa.val b)))=true->K (R.d (U.int IntKind.i64 (-1:Int))))/\(decide (aT (aa.aP (aa.val a))<aT (aa.aP (aa.val b)))=false->K (R.d (U.int IntKind.i64 (1:Int)))))/\((!decide (aT (aa.aP (aa.val a))=aT (aa.aP (aa.val b))))=false->∃(aQ:Int->Prop),∃(m:Int->Nat),aQ (ai (aT (aa.aP (aa.val a))-(1:Int)))/\∀(v5:Int),aQ v5->(decide ((0:Int)<=v5)=true->(0:Int)<=v5/\v5<aT (aa.aP (aa.val a))/\(0:Int)<=v5/\v5<aT (aa.aP (aa.val b))/\(decide (List.getD (aa.aP (aa.val a)) (Int.toNat v5) (0:Int)<List.getD (aa.aP (aa.val b)) (Int.toNat v5) (0:Int))=true->K (R.d (U.int IntKind.i64 (-1:Int))))/\(decide (List.getD (aa.aP (aa.val a)) (Int.toNat v5) (0:Int)<List.getD (aa.aP (aa.val b)) (Int.toNat v5) (0:Int))=false->(0:Int)<=v5/\v5<aT (aa.aP (aa.val a))/\(0:Int)<=v5/\v5<aT (aa.aP (aa.val b))/\(decide (List.getD (aa.aP (aa.val b)) (Int.toNat v5) (0:Int)<List.getD (aa.aP (aa.val a)) (Int.toNat v5) (0:Int))=true->K (R.d (U.int IntKind.i64 (1:Int))))/\(decide (List.getD (aa.aP (aa.val b)) (Int.toNat v5) (0:Int)<List.getD (aa.aP (aa.val a)) (Int.toNat v5) (0:Int))=false->aQ (ai (v5-(1:Int)))/\m (ai (v5-(1:Int)))<m v5)))/\(decide ((0:Int)<=v5)=false->K (R.d (U.int IntKind.i64 (0:Int)))))
def Ru:List Int->List Int->(R->Prop)->Prop:=
 fun(a b:List Int) (K:R->Prop)=>∃(J:List Int->List Int->Prop),((decide (aT a<aT b)=true->J b a)/\(decide (aT a<aT b)=false->J a b))/\∀(v0 v1:List Int),J v0 v1->(0:Int)<=ai (aT v0+(1:Int))/\ai (aT v0+(1:Int))<=ai (aT v0+(1:Int))/\ai (aT v0+(1:Int))*(4:Int)<=(281474976710656:Int)/\∃(aQ:Int->Int->List Int->Prop),∃(m:Int->Int->List Int->Nat),aQ (0:Int) (0:Int) (List.replicate (Int.toNat (ai (aT v0+(1:Int)))) (0:Int))/\∀(v6 jl:Int) (au:List Int),aQ v6 jl au->(decide (jl<aT v0)=true->(0:Int)<=jl/\jl<aT v0/\∃(J:Int->Prop),((decide (jl<aT v1)=true->(0:Int)<=jl/\jl<aT v1/\(false,ae.af IntKind.u32 au)=(false,ae.af IntKind.u32 au)/\J (List.getD v1 (Int.toNat jl) (0:Int)))/\(decide (jl<aT v1)=false->(false,ae.af IntKind.u32 au)=(false,ae.af IntKind.u32 au)/\J (0:Int)))/\∀(v9:Int),J v9->(aa.L (List.getD v0 (Int.toNat jl) (0:Int))/\aa.L v9/\(0:Int)<=v6/\v6<=(1:Int))/\(0:Int)<=jl/\jl<aT au/\aQ ((List.getD v0 (Int.toNat jl) (0:Int)+v9+v6)/(4294967296:Int)) (ai (jl+(1:Int))) (List.set au (Int.toNat jl) ((List.getD v0 (Int.toNat jl) (0:Int)+v9+v6)%(4294967296:Int)))/\m ((List.getD v0 (Int.toNat jl) (0:Int)+v9+v6)/(4294967296:Int)) (ai (jl+(1:Int))) (List.set au (Int.toNat jl) ((List.getD v0 (Int.toNat jl) (0:Int)+v9+v6)%(4294967296:Int)))<m v6 jl au)/\(decide (jl<aT v0)=false->(0:Int)<=aT v0/\aT v0<aT au/\(aa.bN (List.set au (Int.toNat (aT v0)) v6)/\List.length (List.set au (Int.toNat (aT v0)) v6)<=(1000000000:Nat))/\K (R.d (U.af IntKind.u32 (aa.aP (aa.val (List.set au (Int.toNat (aT v0)) v6))))))
def Rv:List Int->List Int->(R->Prop)->Prop:=
 fun a b K=>(bN a/\a.length<=(1000000000:Nat))/\(bN b/\b.length<=(1000000000:Nat))/\(0:Int)<=ai (↑(aP (val a)).length+↑(aP (val b)).length)/\ai (↑(aP (val a)).length+↑(aP (val b)).length)<=ai (↑(aP (val a)).length+↑(aP (val b)).length)/\ai (↑(aP (val a)).length+↑(aP (val b)).length)*(4:Int)<=(281474976710656:Int)/\∃(aQ:Int->List Int->Prop),∃(m:Int->List Int->Nat),aQ (0:Int) (List.replicate (ai (↑(aP (val a)).length+↑(aP (val b)).length)).toNat (0:Int))/\∀(gb:Int) (au:List Int),aQ gb au->(decide (gb<↑(aP (val a)).length)=true->(0:Int)<=gb/\gb<↑(aP (val a)).length/\∃(fu:Int->Int->List Int->Prop),∃(fb:Int->Int->List Int->Nat),fu (0:Int) (0:Int) au/\∀(bq gN:Int) (bw:List Int),fu bq gN bw->(decide (gN<↑(aP (val b)).length)=true->(0:Int)<=gN/\gN<↑(aP (val b)).length/\(L ((aP (val a)).getD gb.toNat (0:Int))/\L ((aP (val b)).getD gN.toNat (0:Int)))/\(0:Int)<=ai (gb+gN)/\ai (gb+gN)<↑bw.length/\(L ((aP (val a)).getD gb.toNat (0:Int)*(aP (val b)).getD gN.toNat (0:Int)%(4294967296:Int))/\L (bw.getD (ai (gb+gN)).toNat (0:Int))/\(0:Int)<=(0:Int)/\(0:Int)<=(1:Int))/\(L (((aP (val a)).getD gb.toNat (0:Int)*(aP (val b)).getD gN.toNat (0:Int)%(4294967296:Int)+bw.getD (ai (gb+gN)).toNat (0:Int)+(0:Int))%(4294967296:Int))/\L bq/\(0:Int)<=(0:Int)/\(0:Int)<=(1:Int))/\(0:Int)<=ai (gb+gN)/\ai (gb+gN)<↑bw.length/\fu (bY (bY ((aP (val a)).getD gb.toNat (0:Int)*(aP (val b)).getD gN.toNat (0:Int)/(4294967296:Int)+((aP (val a)).getD gb.toNat (0:Int)*(aP (val b)).getD gN.toNat (0:Int)%(4294967296:Int)+bw.getD (ai (gb+gN)).toNat (0:Int)+(0:Int))/(4294967296:Int))+(((aP (val a)).getD gb.toNat (0:Int)*(aP (val b)).getD gN.toNat (0:Int)%(4294967296:Int)+bw.getD (ai (gb+gN)).toNat (0:Int)+(0:Int))%(4294967296:Int)+bq+(0:Int))/(4294967296:Int))) (ai (gN+(1:Int))) (bw.set (ai (gb+gN)).toNat ((((aP (val a)).getD gb.toNat (0:Int)*(aP (val b)).getD gN.toNat (0:Int)%(4294967296:Int)+bw.getD (ai (gb+gN)).toNat (0:Int)+(0:Int))%(4294967296:Int)+bq+(0:Int))%(4294967296:Int)))/\fb (bY (bY ((aP (val a)).getD gb.toNat (0:Int)*(aP (val b)).getD gN.toNat (0:Int)/(4294967296:Int)+((aP (val a)).getD gb.toNat (0:Int)*(aP (val b)).getD gN.toNat (0:Int)%(4294967296:Int)+bw.getD (ai (gb+gN)).toNat (0:Int)+(0:Int))/(4294967296:Int))+(((aP (val a)).getD gb.toNat (0:Int)*(aP (val b)).getD gN.toNat (0:Int)%(4294967296:Int)+bw.getD (ai (gb+gN)).toNat (0:Int)+(0:Int))%(4294967296:Int)+bq+(0:Int))/(4294967296:Int))) (ai (gN+(1:Int))) (bw.set (ai (gb+gN)).toNat ((((aP (val a)).getD gb.toNat (0:Int)*(aP (val b)).getD gN.toNat (0:Int)%(4294967296:Int)+bw.getD (ai (gb+gN)).toNat (0:Int)+(0:Int))%(4294967296:Int)+bq+(0:Int))%(4294967296:Int)))<fb bq gN bw)/\(decide (gN<↑(aP (val b)).length)=false->(0:Int)<=ai (gb+↑(aP (val b)).length)/\ai (gb+↑(aP (val b)).length)<↑bw.length/\aQ (ai (gb+(1:Int))) (bw.set (ai (gb+↑(aP (val b)).length)).toNat bq)/\m (ai (gb+(1:Int))) (bw.set (ai (gb+↑(aP (val b)).length)).toNat bq)<m gb au))/\(decide (gb<↑(aP (val a)).length)=false->(bN au/\au.length<=(1000000000:Nat))/\K (R.d (U.af .u32 (aP (val au)))))
def Rw:List Int->List Int->(R->Prop)->Prop:=
 fun(a b:List Int) (K:R->Prop)=>(aa.bF a/\aa.bF b)/\(decide (aa.cmp (aa.val a) (aa.val b)<(0:Int))=true->K (R.tup [R.d (U.af IntKind.u32 []),R.d (U.int IntKind.i64 (1:Int))]))/\(decide (aa.cmp (aa.val a) (aa.val b)<(0:Int))=false->(aa.bN a/\List.length a<=(1000000000:Nat))/\(aa.bN b/\List.length b<=(1000000000:Nat))/\(0:Int)<=aT (aa.aP (aa.val a))/\aT (aa.aP (aa.val a))<=aT (aa.aP (aa.val a))/\aT (aa.aP (aa.val a))*(4:Int)<=(281474976710656:Int)/\∃(aQ:Int->Int->List Int->Prop),∃(m:Int->Int->List Int->Nat),aQ (0:Int) (0:Int) (List.replicate (Int.toNat (aT (aa.aP (aa.val a)))) (0:Int))/\∀(c0 v24:Int) (au:List Int),aQ c0 v24 au->(decide (v24<aT (aa.aP (aa.val a)))=true->(0:Int)<=v24/\v24<aT (aa.aP (aa.val a))/\∃(J:Int->Prop),((decide (v24<aT (aa.aP (aa.val b)))=true->(0:Int)<=v24/\v24<aT (aa.aP (aa.val b))/\(false,ae.af IntKind.u32 au)=(false,ae.af IntKind.u32 au)/\J (List.getD (aa.aP (aa.val b)) (Int.toNat v24) (0:Int)))/\(decide (v24<aT (aa.aP (aa.val b)))=false->(false,ae.af IntKind.u32 au)=(false,ae.af IntKind.u32 au)/\J (0:Int)))/\∀(v10:Int),J v10->(aa.L (List.getD (aa.aP (aa.val a)) (Int.toNat v24) (0:Int))/\aa.L v10/\(0:Int)<=c0/\c0<=(1:Int))/\(0:Int)<=v24/\v24<aT au/\aQ (if List.getD (aa.aP (aa.val a)) (Int.toNat v24) (0:Int)-v10-c0<(0:Int)then(1:Int)else(0:Int)) (ai (v24+(1:Int))) (List.set au (Int.toNat v24) ((List.getD (aa.aP (aa.val a)) (Int.toNat v24) (0:Int)-v10-c0)%(4294967296:Int)))/\m (if List.getD (aa.aP (aa.val a)) (Int.toNat v24) (0:Int)-v10-c0<(0:Int)then(1:Int)else(0:Int)) (ai (v24+(1:Int))) (List.set au (Int.toNat v24) ((List.getD (aa.aP (aa.val a)) (Int.toNat v24) (0:Int)-v10-c0)%(4294967296:Int)))<m c0 v24 au)/\(decide (v24<aT (aa.aP (aa.val a)))=false->(aa.bN au/\List.length au<=(1000000000:Nat))/\K (R.tup [R.d (U.af IntKind.u32 (aa.aP (aa.val au))),R.d (U.int IntKind.i64 (0:Int))])))
def Pt:List Int->Int->(R->Prop)->Prop:=
 fun(a:List Int) (d:Int) (K:R->Prop)=>(0:Int)<=aT a/\aT a<=aT a/\aT a*(4:Int)<=(281474976710656:Int)/\∃(aQ:Int->Int->List Int->Prop),∃(m:Int->Int->List Int->Nat),aQ (0:Int) (ai (aT a-(1:Int))) (List.replicate (Int.toNat (aT a)) (0:Int))/\∀(c0 bq:Int) (au:List Int),aQ c0 bq au->(decide ((0:Int)<=bq)=true->(0:Int)<=bq/\bq<aT a/\(aa.L c0/\aa.L (List.getD a (Int.toNat bq) (0:Int))/\aa.L d/\c0<d)/\(0:Int)<=bq/\bq<aT au/\aQ ((c0*(4294967296:Int)+List.getD a (Int.toNat bq) (0:Int))%d) (ai (bq-(1:Int))) (List.set au (Int.toNat bq) ((c0*(4294967296:Int)+List.getD a (Int.toNat bq) (0:Int))/d))/\m ((c0*(4294967296:Int)+List.getD a (Int.toNat bq) (0:Int))%d) (ai (bq-(1:Int))) (List.set au (Int.toNat bq) ((c0*(4294967296:Int)+List.getD a (Int.toNat bq) (0:Int))/d))<m c0 bq au)/\(decide ((0:Int)<=bq)=false->(aa.bN au/\List.length au<=(1000000000:Nat))/\K (R.tup [R.d (U.af IntKind.u32 (aa.aP (aa.val au))),R.d (U.int IntKind.u32 c0)]))
def N6:List Int->List Int->(R->Prop)->Prop:=
 fun(a b:List Int) (K:R->Prop)=>((!decide (aT a=aT b))=true->K (R.d (U.bool false)))/\((!decide (aT a=aT b))=false->∃(aQ:Int->Prop),∃(m:Int->Nat),aQ (0:Int)/\∀(v5:Int),aQ v5->(decide (v5<aT a)=true->(0:Int)<=v5/\v5<aT a/\(0:Int)<=v5/\v5<aT b/\((!decide (List.getD a (Int.toNat v5) (0:Int)=List.getD b (Int.toNat v5) (0:Int)))=true->K (R.d (U.bool false)))/\((!decide (List.getD a (Int.toNat v5) (0:Int)=List.getD b (Int.toNat v5) (0:Int)))=false->aQ (ai (v5+(1:Int)))/\m (ai (v5+(1:Int)))<m v5))/\(decide (v5<aT a)=false->K (R.d (U.bool true))))
end aa
end
section
open Go Go.ak
namespace aa
theorem bQ {x:Int}(h:-9223372036854775808<=x/\x<9223372036854775808):IntKind.wrap .i64 x=x:=by
 unfold IntKind.wrap;simp only[IntKind.signed,IntKind.bits,arK,apE,ge_iff_le];split<;>omega
theorem cT {x:Int}(h:0<=x/\x<18446744073709551616):IntKind.wrap .u64 x=x:=by
 unfold IntKind.wrap;simp[IntKind.signed,IntKind.bits];omega
theorem ia {x:Int}(h:0<=x/\x<4294967296):IntKind.wrap .u32 x=x:=by
 unfold IntKind.wrap;simp[IntKind.signed,IntKind.bits];omega
theorem kg (x:Int):IntKind.wrap .u32 x=x%4294967296:=by
 unfold IntKind.wrap;simp[IntKind.signed,IntKind.bits]
theorem I2 (x:Int):IntKind.wrap .u64 x=x%18446744073709551616:=by
 unfold IntKind.wrap;simp[IntKind.signed,IntKind.bits]
end aa
namespace aa
theorem Ju (p q s:Nat)(a6:q<2^s)(h:p*2^s+q<18446744073709551616):cN .or .u64 ((p*2^s:Nat):Int) (q:Int)=((p*2^s+q:Nat):Int):=by
 have az:((BitVec.ofInt 64 ((p*2^s:Nat):Int))|||(BitVec.ofInt 64 (q:Int))).toNat=p*2^s+q:=by
  rw[BitVec.toNat_or,BitVec.toNat_ofInt,BitVec.toNat_ofInt]
  have a1:(((p*2^s:Nat):Int)%((2^64:Nat):Int)).toNat=p*2^s:=by
   rw[arX (by omega) (by omega)];exact apB _
  have a2:((q:Int)%((2^64:Nat):Int)).toNat=q:=by
   rw[arX (by omega) (by omega)];simp
  rw[a1,a2,<-Nat.shiftLeft_eq,<-Nat.shiftLeft_add_eq_or_of_lt a6]
 show IntKind.wrap .u64 _=_;have aJ:((BitVec.ofInt (IntKind.u64).bits ((p*2^s:Nat):Int))|||(BitVec.ofInt (IntKind.u64).bits (q:Int))).toNat=p*2^s+q:=az;rw[aJ,cT (by omega)]
theorem zR {h l:Int}(b5:L h)(ax:L l):cN .or .u64 (h*4294967296) l=h*4294967296+l:=by
 unfold L at b5 ax;have tF:(2:Nat)^32=4294967296:=rfl;have:=Ju h.toNat l.toNat 32 (by rw[tF];omega) (by rw[tF];omega);rw[tF]at this;have az:((h.toNat*4294967296:Nat):Int)=h*4294967296:=by omega
 have aJ:((l.toNat:Nat):Int)=l:=by omega
 rw[arR,az,aJ]at this;exact this
theorem Yi (x y:Int)(K:R->Prop)(h:DO.T [.d (.int .u32 x), .d (.int .u32 y)] K):Nc x y K:=by
 obtain⟨⟨aj,bo⟩,ag⟩:=h;unfold L at aj bo;unfold Nc aX bY;have F1:0<=x*y:=Int.mul_nonneg aj.1 bo.1;have aoQ:x*y<=4294967295*4294967295:=Int.mul_le_mul (by omega) (by omega) bo.1 (by omega);rw[cT (x:=x) (by omega),cT (x:=y) (by omega),cT (x:=x*y) (by omega),kg (x*y),aqf _ (by omega),ia (by omega)];exact ag
theorem Yj (x y c:Int)(K:R->Prop)(h:DP.T [.d (.int .u32 x), .d (.int .u32 y), .d (.int .u32 c)] K):Nd x y c K:=by
 obtain⟨⟨aj,bo,ab,ad⟩,ag⟩:=h;unfold L at aj bo;unfold Nd aX bY;rw[cT (x:=x) (by omega),cT (x:=y) (by omega),cT (x:=x+y) (by omega),cT (x:=c) (by omega),cT (x:=x+y+c) (by omega),kg (x+y+c),aqf _ (by omega),ia (by omega)];exact ag
theorem Yk (h l y:Int)(K:R->Prop)(b5:DR.T [.d (.int .u32 h), .d (.int .u32 l), .d (.int .u32 y)] K):XG h l y K:=by
 obtain⟨⟨b5,ax,bo,bL⟩,ag⟩:=b5;have ha:=zR b5 ax;unfold L at b5 ax bo;refine⟨True,⟨fun _=>⟨fun h=> ?_,fun _=>trivial⟩,fun _=>trivial⟩,fun _=> ?_⟩
 ·simp at h;omega
 have AR:IntKind.wrap .u64 y=y:=cT (by omega);have AS:0<=h*4294967296+l:=by omega
 have nM:(h*4294967296+l)/y<4294967296:=Int.ediv_lt_of_lt_mul (by omega) (by
  have:(h+1)*4294967296<=y*4294967296:=Int.mul_le_mul_of_nonneg_right (by omega) (by omega)
  rw[Int.mul_comm 4294967296 y];omega)
 have tA:0<=(h*4294967296+l)/y:=Int.ediv_nonneg AS bo.1;have xL:0<=(h*4294967296+l)%y:=Int.emod_nonneg _ (by omega);have aoZ:(h*4294967296+l)%y<y:=Int.emod_lt_of_pos _ (by omega)
 rw[AR,cT (x:=h) (by omega),cT (x:=h*4294967296) (by omega),cT (x:=l) (by omega),ha,ar4 AS,arL AS,cT (x:=(h*4294967296+l)/y) (by omega),
  ia (x:=(h*4294967296+l)/y) (by omega),ia (x:=(h*4294967296+l)%y) (by omega)]
 exact⟨by omega,by omega,ag⟩
theorem ZP (a:List Int)(K:R->Prop)(h:DS.T [.d (.af .u32 a)] K):N5 a K:=by
 obtain⟨ax,ag⟩:=h;unfold N5;intro b ah;refine⟨fun h=> ?_,fun _=>⟨by omega, ?_⟩⟩
 ·rw[ah h]at ag;exact ag
 ·exact ag
theorem aeg (a:List Int)(K:R->Prop)(h:Et.T [.d (.af .u32 a)] K):Qn a K:=by
 obtain⟨⟨ax,cx⟩,ag⟩:=h;unfold Qn ai;refine⟨fun v=>bN v/\val v=val a/\v.length<=a.length,fun v=>v.length,⟨ax,rfl,apF _⟩,fun v ⟨aO,he,hle⟩=>⟨fun h=> ?_,fun h=> ?_⟩⟩
 ·simp only[apE]at h;have e:IntKind.wrap .i64 ((Nat.cast:Nat->Int) v.length-1)=((v.length-1:Nat):Int):=by rw[bQ (by omega)];omega
  rw[e,apB];refine⟨by omega,by omega,fun bc=>⟨by omega,by omega,⟨aO.take _, ?_,by simp;omega⟩,by simp;omega⟩,fun bc=> ?_⟩
  ·simp only[apE]at bc;rw[Yd bc,he]
  ·simp only[apD]at bc;rw[<-yT aO (BW (.inr bc)),he];exact ag
 ·simp only[apD]at h;have:v=[]:=aqm.1 (by omega);rw[<-yT aO (BW (.inl this)),he];exact ag
theorem aeh (a:List Int)(K:R->Prop)(h:Eu.T [.d (.af .u32 a)] K):Qo a K:=by
 obtain⟨⟨ax,aB⟩,ag⟩:=h;unfold Qo;refine⟨⟨ax,by omega⟩, ?_,ag⟩;have:=h0.2 (iM ax);omega
theorem TE {x y:Int}(_:bN [x,y]):val [x,y]=x.toNat+4294967296*y.toNat:=by simp[val]
theorem YX (u:Int)(K:R->Prop)(h:Ct.T [.d (.int .u64 u)] K):NL u K:=by
 obtain⟨hu,ag⟩:=h;unfold NL bY;rw[aqf _ (by omega),kg u,ia (x:=u/4294967296) (by omega)];have ax:bN [u%4294967296,u/4294967296]:= .mk (by omega) (.mk (by omega) .nil);refine⟨⟨ax,by simp⟩, ?_⟩;rw[TE ax];have:(u%4294967296).toNat+4294967296*(u/4294967296).toNat=u.toNat:=by omega
 rw[this];exact ag
end aa
end
section
open Go Go.ak
namespace aa
theorem bF.UH {a:List Int}(h:bF a):bN a:=h.1
theorem jG {a:List Int}(h:bF a):(aP (val a)).length<=a.length:=h0.2 (iM h.1)
theorem afg (a b:List Int)(K:R->Prop)(h:iQ.T [.d (.af .u32 a), .d (.af .u32 b)] K):Ru a b K:=by
 obtain⟨⟨aR,ah⟩,ag⟩:=h;unfold Ru ai aT;refine⟨fun x y=>bF x/\bF y/\val x+val y=val a+val b/\y.length<=x.length,⟨fun h=>⟨ah,aR,Nat.add_comm _ _, ?_⟩,fun h=>⟨aR,ah,rfl, ?_⟩⟩,fun x y ⟨aj,bo,aO,hle⟩=> ?_⟩
 ·simp only[apE]at h;omega
 ·simp only[apD]at h;omega
 have xO:=aj.2;have e:IntKind.wrap .i64 ((Nat.cast:Nat->Int) x.length+1)=((x.length+1:Nat):Int):=by rw[bQ (by omega)];omega
 rw[e,apB]
 refine⟨by omega,by omega,by omega,fun c i o=>bN o/\o.length=x.length+1/\0<=c/\c<=1/\0<=i/\i<=x.length/\du o i.toNat+4294967296^i.toNat*c.toNat=du x i.toNat+du y i.toNat/\∀j,i.toNat<=j->o.getD j 0=0,
  fun c i o=>x.length-i.toNat,⟨bN.nv _,by simp,by omega,by omega,by omega,by omega,by simp[iK],fun j _=>by simp[apA,aq3];split<;>rfl⟩, ?_⟩
 rintro c i o ⟨aF,gl,xZ,j5,tG,lQ,m6,bm⟩;refine⟨fun h=> ?_,fun h=> ?_⟩
 ·simp only[apE]at h
  obtain⟨n,rfl⟩:∃n:Nat,i=n:=⟨i.toNat,by omega⟩
  simp only[apB]at m6 bm⊢;refine⟨by omega,by omega,fun e=>e=y.getD n 0,⟨fun ad=>⟨by omega,by simpa using ad,trivial,rfl⟩,fun ad=>⟨trivial, ?_⟩⟩, ?_⟩
  ·simp only[apD]at ad;simp[apA,aqc (show y.length<=n by omega)]
  ·rintro e rfl;have nL:=aj.1 n;have AR:=bo.1 n;refine⟨⟨nL,AR,xZ,j5⟩,by omega,by omega, ?_⟩;have aJ:IntKind.wrap .i64 ((n:Int)+1)=((n+1:Nat):Int):=by rw[bQ (by omega)];omega
   rw[aJ];refine⟨⟨aF.set _ (by omega),by simpa using gl,by omega,by omega,by omega,by omega, ?_,fun j aI=> ?_⟩, ?_⟩
   ·rw[apB,gA,gA,gA,rA _ _ _ _ (apF _),eR,apz ⟨rfl,by omega⟩];have bX:((x.getD n 0+y.getD n 0+c)%4294967296).toNat+4294967296*((x.getD n 0+y.getD n 0+c)/4294967296).toNat=(x.getD n 0).toNat+(y.getD n 0).toNat+c.toNat:=by omega
    rw[ap6];generalize ((x.getD n 0+y.getD n 0+c)%4294967296).toNat=p at bX⊢;generalize ((x.getD n 0+y.getD n 0+c)/4294967296).toNat=q at bX⊢;generalize 4294967296^n=w at m6⊢;have cW:w*(p+4294967296*q)=w*((x.getD n 0).toNat+(y.getD n 0).toNat+c.toNat):=by rw[bX]
    simp only[apN]at cW⊢;rw[aqb];omega
   ·rw[eR,apy (by simp at aI;omega)];exact bm j (by simp at aI;omega)
   ·simp;omega
 ·simp only[apD]at h;obtain rfl:i=x.length:=by omega
  simp only[apB]at m6 bm⊢;have ahk:bN (o.set x.length c):=aF.set _ (by omega);refine⟨by omega,by omega,⟨ahk,by simp[gl];omega⟩, ?_⟩
  have:val (o.set x.length c)=val a+val b:=by
   rw[<-hI (o.set x.length c) (i:=x.length+1) (by simp[gl]),gA,rA _ _ _ _ (apF _),eR,apz ⟨rfl,by omega⟩,m6,hI x (apF _),hI y hle,aO]
  rw[this];exact ag
end aa
end
section
open Go Go.ak
namespace aa
theorem ZQ (a b:List Int)(K:R->Prop)(h:Ev.T [.d (.af .u32 a), .d (.af .u32 b)] K):N6 a b K:=by
 obtain⟨⟨aR,ah⟩,ag⟩:=h;unfold N6 ai aT;refine⟨fun h=> ?_,fun h=> ?_⟩
 ·have dn:a≠b:=fun e=>by subst e;simp at h
  rw[arh dn]at ag;exact ag
 ·have hlen:a.length=b.length:=by
   have:((Nat.cast:Nat->Int) a.length)=b.length:=by simpa using h
   omega
  refine⟨fun i=>0<=i/\i<=a.length/\∀j,j<i.toNat->a.getD j 0=b.getD j 0,fun i=>a.length-i.toNat,⟨by omega,by omega,fun j aI=>by simp at aI⟩,fun i ⟨bc,ab,aI⟩=>⟨fun ad=> ?_,fun ad=> ?_⟩⟩
  ·simp only[apE]at ad;refine⟨by omega,by omega,by omega,by omega,fun aA=> ?_,fun aA=> ?_⟩
   ·have dn:a≠b:=fun e=>by subst e;simp at aA
    rw[arh dn]at ag;exact ag
   ·have aA:a.getD i.toNat 0=b.getD i.toNat 0:=by simpa using aA
    rw[bQ (by omega)];refine⟨⟨by omega,by omega,fun j h4=> ?_⟩,by simp only;omega⟩
    by_cases e:j=i.toNat
    ·rw[e];exact aA
    ·exact aI j (by omega)
  ·simp only[apD]at ad
   have e:a=b:=by
    apply arU hlen;intro j ks nI;have:=aI j (by omega);simpa[apA,ks,nI]using this
   rw[aqN e]at ag;exact ag
end aa
end
section
open Go Go.ak
namespace aa
def eu (a:List Int)(i:Nat):Nat:=val (a.drop i)
theorem zC (a:List Int):eu a 0=val a:=by simp[eu]
theorem o7 (a:List Int){i:Nat}(h:a.length<=i):eu a i=0:=by simp[eu,List.drop_of_length_le h,val]
theorem oa (a:List Int)(i:Nat):eu a i=(a.getD i 0).toNat+4294967296*eu a (i+1):=by
 unfold eu
 by_cases h:i<a.length
 ·rw[aqU h,val];simp[apA,h]
 ·rw[List.drop_of_length_le (by omega),List.drop_of_length_le (by omega)];simp[val,apA,h]
theorem IS (a:List Int)(i j:Nat)(v:Int)(h:j<i):eu (a.set j v) i=eu a i:=by
 unfold eu;rw[List.drop_set_of_lt h]
theorem ml (a:List Int)(i:Nat):val a=du a i+4294967296^i*eu a i:=by
 by_cases h:i<=a.length
 ·have:=OD (a.take i) (a.drop i);rw[List.take_append_drop,ap_,arJ h]at this;exact this
 ·rw[hI a (by omega),o7 a (by omega)];simp
theorem OF {D bC x z w:Nat}(W:Nat)(ln:W=4294967296)(eD:bC<D)(aj:x<W)(hw:w=z*D+bC):
 (bC*W+x)/D<W/\(bC*W+x)%D<D/\x+W*w=((bC*W+x)/D+W*z)*D+(bC*W+x)%D:=by
 have oM:0<D:=by omega
 have ab:(bC+1)*W<=D*W:=apP _ (by omega);refine⟨ars (by rw[apU]at ab;omega),aqh _ oM, ?_⟩;have F2:=arc (bC*W+x) D;generalize (bC*W+x)/D=q at F2⊢;generalize (bC*W+x)%D=m at F2⊢;subst hw;have bX:(q+W*z)*D=D*q+W*(z*D):=by rw[apU,aqa q D,aqb]
 rw[bX,apN,aqa W bC];generalize W*(z*D)=u;generalize bC*W=v at F2⊢;generalize D*q=t at F2⊢;omega
theorem acR (a:List Int)(d:Int)(K:R->Prop)(h:DT.T [.d (.af .u32 a), .d (.int .u32 d)] K):Pt a d K:=by
 obtain⟨⟨aR,a_,tA⟩,ag⟩:=h;have gM:=aR.2;unfold L at a_
 obtain⟨D,rfl⟩:∃D:Nat,d=D:=⟨d.toNat,by omega⟩
 simp only[apB]at ag;unfold Pt ai aT;rw[apB];refine⟨by omega,by omega,by omega,fun r i o=>bN o/\o.length=a.length/\0<=r/\r<D/\-1<=i/\i<a.length/\eu a (i+1).toNat=eu o (i+1).toNat*D+r.toNat,fun r i o=>(i+1).toNat,⟨bN.nv _,by simp,by omega,by omega, ?_⟩, ?_⟩
 ·rw[bQ (by omega)];refine⟨by omega,by omega, ?_⟩;rw[o7 a (by omega),o7 _ (by simp)];simp
 rintro r i o ⟨aF,gl,Av,fs,tG,lQ,aO⟩;refine⟨fun h=> ?_,fun h=> ?_⟩
 ·simp only[apE]at h;have qM:=aR.1 i.toNat
  obtain⟨n,rfl⟩:∃n:Nat,i=n:=⟨i.toNat,by omega⟩
  simp only[apB]at qM⊢;rw[bQ (by omega)]
  obtain⟨bC,rfl⟩:∃bC:Nat,r=bC:=⟨r.toNat,by omega⟩
  obtain⟨x,aj⟩:∃x:Nat,a.getD n 0=x:=⟨(a.getD n 0).toNat,by omega⟩
  rw[aj]at qM⊢;have az:((bC:Int)*4294967296+x)/D=(((bC*4294967296+x)/D:Nat):Int):=by rw[aru,arR,aqJ];rfl
  have aJ:((bC:Int)*4294967296+x)%D=(((bC*4294967296+x)%D:Nat):Int):=by rw[arM,arR,aqJ];rfl
  rw[az,aJ];rw[show((n:Int)+1).toNat=n+1 by omega]at aO;have cS:=OF (z:=eu o (n+1)) 4294967296 rfl (show bC<D by omega) (show x<4294967296 by omega) (by simpa using aO);obtain⟨a6,hm,he⟩:=cS
  have hJ:eu (o.set n (((bC*4294967296+x)/D:Nat):Int)) n=(bC*4294967296+x)/D+4294967296*eu o (n+1):=by
   rw[oa _ n,IS _ _ _ _ (by omega),eR,apz ⟨rfl,by omega⟩,apB]
  have nN:eu a n=x+4294967296*eu a (n+1):=by rw[oa a n,aj,apB]
  rw[<-nN,<-hJ]at he;generalize (bC*4294967296+x)/D=q at a6 he hJ⊢;generalize (bC*4294967296+x)%D=m at hm he⊢;refine⟨by omega,by omega,⟨⟨by omega,by omega⟩,⟨by omega,by omega⟩,⟨by omega,by omega⟩,by omega⟩,by omega,by omega,⟨aF.set _ ⟨by omega,by omega⟩,by simpa using gl,by omega,by omega,by omega,by omega, ?_⟩,by show(((n:Int)-1)+1).toNat<((n:Int)+1).toNat;omega⟩;rw[show((n:Int)-1+1).toNat=n by omega,apB];exact he
 ·simp only[apD]at h;obtain rfl:i=-1:=by omega
  simp only[show((-1:Int)+1).toNat=0 from rfl,zC]at aO;refine⟨⟨aF,by omega⟩, ?_⟩
  have ab:val a/D=val o:=by
   rw[aO,aqa,Nat.mul_add_div (by omega),ard (by omega)];omega
  have ad:((val a%D:Nat):Int)=r:=by
   rw[aO,aqa,arD,aqt (by omega)];omega
  rw[ab,ad]at ag;exact ag
end aa
end
section
open Go Go.ak
namespace aa
theorem acS {x y o c:Int}(aj:L x)(bo:L y)(aF:L o)(aC:L c):
 let de:=(x*y%4294967296+o+0)%4294967296
 let ab:=IntKind.wrap .u32 (x*y/4294967296+(x*y%4294967296+o+0)/4294967296)
 let l2:=(de+c+0)%4294967296
 let ad:=IntKind.wrap .u32 (ab+(de+c+0)/4294967296)
 L (x*y%4294967296)/\L de/\L l2/\L ad/\l2+4294967296*ad=x*y+o+c:=by
 unfold L at*;have bc:0<=x*y:=Int.mul_nonneg aj.1 bo.1;have ab:x*y<=4294967295*4294967295:=Int.mul_le_mul (by omega) (by omega) bo.1 (by omega);generalize x*y=p at bc ab⊢;intro de tx l2 ad;have az:tx=p/4294967296+(p%4294967296+o+0)/4294967296:=ia (by omega)
 have aJ:ad=p/4294967296+(p%4294967296+o+0)/4294967296+(de+c+0)/4294967296:=by
  show IntKind.wrap .u32 (tx+(de+c+0)/4294967296)=_;rw[az];exact ia (by omega)
 rw[aJ];omega
theorem l9 (a:List Int)(j:Nat)(v:Int)(h:j<a.length):val (a.set j v)+4294967296^j*(a.getD j 0).toNat=val a+4294967296^j*v.toNat:=by
 rw[ml (a.set j v) (j+1),ml a (j+1),gA,gA,rA _ _ _ _ (apF _),IS _ _ _ _ (by omega),eR,apz ⟨rfl,h⟩];omega
theorem afh (a b:List Int)(K:R->Prop)(h:E_.T [.d (.af .u32 a), .d (.af .u32 b)] K):Rv a b K:=by
 obtain⟨⟨aR,ah⟩,ag⟩:=h;have gM:=jG aR;have k_:=jG ah;have k3:=aR.2;have ew:=ah.2;unfold Rv ai bY;refine⟨⟨aR.1,by omega⟩,⟨ah.1,by omega⟩, ?_⟩;have dG:=gz (val a);have eH:=gz (val b);have nN:=eh (val a);have ng:=eh (val b);rw[<-nN,<-ng]at ag;generalize aP (val a)=A at*;generalize aP (val b)=B at*;have hq:IntKind.wrap .i64 ((Nat.cast:Nat->Int) A.length+(Nat.cast:Nat->Int) B.length)=((A.length+B.length:Nat):Int):=by rw[bQ (by omega)];omega
 rw[hq,apB]
 refine⟨by omega,by omega,by omega,fun i o=>bN o/\o.length=A.length+B.length/\0<=i/\i<=A.length/\val o=du A i.toNat*val B/\∀j,i.toNat+B.length<=j->o.getD j 0=0,
  fun i o=>A.length-i.toNat,⟨bN.nv _,by simp,by omega,by omega,by simp[iK,yS],fun j _=>by simp[apA,aq3];split<;>rfl⟩, ?_⟩
 rintro i o ⟨aF,gl,tG,lQ,aO,bm⟩;refine⟨fun h=> ?_,fun h=> ?_⟩
 ·simp only[apE]at h
  obtain⟨n,rfl⟩:∃n:Nat,i=n:=⟨i.toNat,by omega⟩
  simp only[apB]at aO bm⊢;have aB:n<A.length:=by omega
  refine⟨by omega,by omega,fun c k p=>bN p/\p.length=A.length+B.length/\L c/\0<=k/\k<=B.length/\val p+4294967296^(n+k.toNat)*c.toNat=val o+4294967296^n*((A.getD n 0).toNat*du B k.toNat)/\
   ∀j,n+B.length<=j->p.getD j 0=0,fun c k p=>B.length-k.toNat,⟨aF,gl,by unfold L;omega,by omega,by omega,by simp[iK],bm⟩, ?_⟩
  rintro c k p ⟨aE,ji,aC,tH,iA,ay,Kv⟩;refine⟨fun ad=> ?_,fun ad=> ?_⟩
  ·simp only[apE]at ad
   obtain⟨q,rfl⟩:∃q:Nat,k=q:=⟨k.toNat,by omega⟩
   simp only[apB]at ay⊢;have az:IntKind.wrap .i64 ((n:Int)+(q:Int))=((n+q:Nat):Int):=by rw[bQ (by omega)];omega
   have aJ:IntKind.wrap .i64 ((q:Int)+1)=((q+1:Nat):Int):=by rw[bQ (by omega)];omega
   rw[az,aJ];simp only[apB];have aj:=dG n;have bo:=eH q;have hM:=aE (n+q);obtain⟨fX,gg,h6,jS,jT⟩:=acS (x:=A.getD n 0) (y:=B.getD q 0) (o:=p.getD (n+q) 0) (c:=c) aj bo hM aC;refine⟨by omega,by omega,⟨aj,bo⟩,by omega,by omega,⟨fX,hM,by omega,by omega⟩,⟨gg,aC,by omega,by omega⟩,by omega,by omega, ?_⟩;generalize ((A.getD n 0*B.getD q 0%4294967296+p.getD (n+q) 0+0)%4294967296+c+0)%4294967296=lo at h6 jT⊢
   generalize IntKind.u32.wrap (IntKind.u32.wrap (A.getD n 0*B.getD q 0/4294967296+(A.getD n 0*B.getD q 0%4294967296+p.getD (n+q) 0+0)/4294967296)+
    ((A.getD n 0*B.getD q 0%4294967296+p.getD (n+q) 0+0)%4294967296+c+0)/4294967296)=hi at jS jT⊢
   refine⟨⟨aE.set _ h6,by simpa using ji,jS,by omega,by omega, ?_,fun j aI=> ?_⟩,by omega⟩
   ·have hJ:=l9 p (n+q) lo (by omega);unfold L at aC h6 jS
    have oO:lo.toNat+4294967296*hi.toNat=(A.getD n 0).toNat*(B.getD q 0).toNat+(p.getD (n+q) 0).toNat+c.toNat:=by
     obtain⟨x,hB⟩:∃x:Nat,A.getD n 0=x:=⟨(A.getD n 0).toNat,by omega⟩
     obtain⟨y,nO⟩:∃y:Nat,B.getD q 0=y:=⟨(B.getD q 0).toNat,by omega⟩
     rw[hB,nO,<-aqJ]at jT;rw[hB,nO,apB,apB];generalize x*y=z at jT⊢;omega
    have cW:=aqd (4294967296^(n+q)*·) oO;simp only[apN]at cW;have gY:4294967296^(n+(q+1))*hi.toNat=4294967296^(n+q)*(4294967296*hi.toNat):=by rw[<-aqs,ap6,aqb]
    have jn:4294967296^n*((A.getD n 0).toNat*du B (q+1))=4294967296^n*((A.getD n 0).toNat*du B q)+4294967296^(n+q)*((A.getD n 0).toNat*(B.getD q 0).toNat):=by
     rw[gA,apN,apN,aqi,aqC (A.getD n 0).toNat,aqb]
    rw[gY,jn];omega
   ·rw[eR,apy (by omega)];exact Kv j aI
  ·simp only[apD]at ad;obtain rfl:k=B.length:=by omega
   simp only[apB]at ay;have vD:=aC;unfold L at vD;have az:IntKind.wrap .i64 ((n:Int)+(Nat.cast:Nat->Int) B.length)=((n+B.length:Nat):Int):=by rw[bQ (by omega)];omega
   have aJ:IntKind.wrap .i64 ((n:Int)+1)=((n+1:Nat):Int):=by rw[bQ (by omega)];omega
   rw[az,aJ];simp only[apB];have hJ:=l9 p (n+B.length) c (by omega);rw[Kv _ (apF _)]at hJ;refine⟨by omega,by omega,⟨aE.set _ vD,by simpa using ji,by omega,by omega, ?_,fun j aI=> ?_⟩,by omega⟩
   ·rw[gA,apU,<-aO,aqb];rw[hI B (apF _)]at ay;simp at hJ;omega
   ·rw[eR,apy (by omega)];exact Kv j (by omega)
 ·simp only[apD]at h;obtain rfl:i=A.length:=by omega
  refine⟨⟨aF,by omega⟩, ?_⟩;rw[aO,apB,hI A (apF _)];exact ag
end aa
end
section
open Go Go.ak
namespace aa
theorem D7 {a b:Nat}(h:a<b):cmp a b=-1:=by unfold cmp;rw[apz h]
theorem D8 {a b:Nat}(h:b<a):cmp a b=1:=by unfold cmp;rw[apy (by omega),apy (by omega)]
theorem cmp_eq (a:Nat):cmp a a=0:=by unfold cmp;rw[apy (by omega),apz rfl]
theorem D9 {a b:Nat}(h:(aP a).length<(aP b).length):a<b:=by
 have ab:a<4294967296^(aP a).length:=h0.1 (apF _)
 have ad:¬b<4294967296^(aP a).length:=fun ah=>by
  have:=h0.2 ah;omega
 omega
theorem Dp {a b:List Int}(n:Nat)(aR:bN a)(ab:eu a (n+1)=eu b (n+1))(ad:(a.getD n 0).toNat<(b.getD n 0).toNat):val a<val b:=by
 have az:=ml a n;have aJ:=ml b n;have aA:=rH aR n;rw[oa a n]at az;rw[oa b n,<-ab]at aJ;generalize (a.getD n 0).toNat=x at*;generalize (b.getD n 0).toNat=y at*;generalize eu a (n+1)=v at*;generalize 4294967296^n=w at*
 have ba:w*(x+4294967296*v)+w<=w*(y+4294967296*v):=by
  have:=apY w (show x+4294967296*v+1<=y+4294967296*v by omega);rw[apN w (x+4294967296*v) 1,ap8]at this;exact this
 omega
theorem afi (a b:List Int)(K:R->Prop)(h:E9.T [.d (.af .u32 a), .d (.af .u32 b)] K):Rt a b K:=by
 obtain⟨⟨aR,ah⟩,ag⟩:=h;have gM:=jG aR;have k_:=jG ah;have k3:=aR.2;have ew:=ah.2;unfold Rt ai aT;refine⟨⟨aR.1,by omega⟩,⟨ah.1,by omega⟩,fun h=>⟨fun ab=> ?_,fun ab=> ?_⟩,fun h=> ?_⟩
 ·simp only[apE]at ab;rw[D7 (D9 (by omega))]at ag;exact ag
 ·have ad:¬((Nat.cast:Nat->Int) (aP (val a)).length=(Nat.cast:Nat->Int) (aP (val b)).length):=by simpa using h
  simp only[apD]at ab;rw[D8 (D9 (by omega))]at ag;exact ag
 ·have ad:(Nat.cast:Nat->Int) (aP (val a)).length=(Nat.cast:Nat->Int) (aP (val b)).length:=by simpa using h
  have dG:=gz (val a);have eH:=gz (val b);have nN:=eh (val a);have ng:=eh (val b);rw[<-nN,<-ng]at ag;generalize aP (val a)=A at*;generalize aP (val b)=B at*;refine⟨fun i=>-1<=i/\i<A.length/\eu A (i+1).toNat=eu B (i+1).toNat,fun i=>(i+1).toNat, ?_, ?_⟩
  ·rw[bQ (by omega)];refine⟨by omega,by omega, ?_⟩;rw[o7 A (by omega),o7 B (by omega)]
  rintro i ⟨aA,ba,bJ⟩;refine⟨fun cu=> ?_,fun cu=> ?_⟩
  ·simp only[apE]at cu
   obtain⟨n,rfl⟩:∃n:Nat,i=n:=⟨i.toNat,by omega⟩
   rw[show((n:Int)+1).toNat=n+1 by omega]at bJ;simp only[apB];have aj:=dG n;have bo:=eH n;refine⟨by omega,by omega,by omega,by omega,fun gO=> ?_,fun gO=>⟨by omega,by omega,by omega,by omega,fun dq=> ?_,fun dq=> ?_⟩⟩
   ·simp only[apE]at gO;rw[D7 (Dp n dG bJ (by omega))]at ag;exact ag
   ·simp only[apE]at dq;rw[D8 (Dp n eH bJ.symm (by omega))]at ag;exact ag
   ·simp only[apD]at gO dq;rw[bQ (by omega)];refine⟨⟨by omega,by omega, ?_⟩,by show(((n:Int)-1)+1).toNat<((n:Int)+1).toNat;omega⟩;rw[show((n:Int)-1+1).toNat=n by omega,oa A n,oa B n,bJ,show A.getD n 0=B.getD n 0 by omega]
  ·simp only[apD]at cu;obtain rfl:i=-1:=by omega
   simp only[show((-1:Int)+1).toNat=0 from rfl,zC]at bJ;rw[bJ,cmp_eq]at ag;exact ag
theorem Pu (x y:Int):cN .or .u64 x y=cN .or .u64 y x:=by
 unfold cN;simp only[BitVec.or_comm]
theorem abj {x:Int}(h:L x):cN .or .u64 0 x=x:=by
 have:=zR (h:=0) (l:=x) ⟨by decide,by decide⟩ h;simpa using this
theorem abk (a:List Int)(K:R->Prop)(h:Da.T [.d (.af .u32 a)] K):OE a K:=by
 obtain⟨⟨aR,ax⟩,ag⟩:=h;unfold OE ai aX;refine⟨fun v i=>0<=i/\i<=a.length/\v=du a i.toNat,fun v i=>a.length-i.toNat,⟨by omega,by omega,by simp[iK]⟩, ?_⟩;rintro v i ⟨ab,ad,aA⟩;refine⟨fun ba=> ?_,fun ba=> ?_⟩
 ·simp only[apE]at ba;have bJ:i=0\/i=1:=by omega
  have aj:=aR i.toNat;have k6:=aR 0;rcases bJ with rfl|rfl
  ·simp only[show Int.toNat 0=0 from rfl]at*;have az:IntKind.wrap .i64 (32*0)=0:=bQ (by omega);have aJ:IntKind.wrap .i64 (0+1)=1:=bQ (by omega);rw[az,aJ];simp only[show Int.toNat 0=0 from rfl,show min 0 64=0 from rfl,Int.pow_zero,Int.mul_one];rw[cT (x:=a.getD 0 0) (by omega),cT (x:=a.getD 0 0) (by omega),aA,iK];have bX:cN .or .u64 (((0:Nat):Int)) (a.getD 0 0)=a.getD 0 0:=abj aj;rw[bX];refine⟨by omega,by omega,by omega,⟨by omega,by omega, ?_⟩, ?_⟩
   ·show a.getD 0 0=((du a 1:Nat):Int);rw[gA,iK,arf,aqO,ap3];omega
   ·show a.length-Int.toNat 1<a.length-Int.toNat 0;simp only[show Int.toNat 1=1 from rfl,show Int.toNat 0=0 from rfl];omega
  ·simp only[show Int.toNat 1=1 from rfl]at*;have az:IntKind.wrap .i64 (32*1)=32:=bQ (by omega);have aJ:IntKind.wrap .i64 (1+1)=2:=bQ (by omega);rw[az,aJ];simp only[show Int.toNat 32=32 from rfl,show min 32 64=32 from rfl,show(2:Int)^32=4294967296 from rfl];rw[cT (x:=a.getD 1 0) (by omega),cT (x:=a.getD 1 0*4294967296) (by omega),Pu];have aO:du a 1=(a.getD 0 0).toNat:=by rw[gA,iK];simp
   have bX:cN .or .u64 (a.getD 1 0*4294967296) v=a.getD 1 0*4294967296+v:=zR aj ⟨by omega,by rw[aA,aO];omega⟩;rw[bX];refine⟨by omega,by omega,by omega,⟨by omega,by omega, ?_⟩, ?_⟩
   ·show a.getD 1 0*4294967296+v=((du a 2:Nat):Int);rw[gA,aO,aA,aO,Nat.pow_one];omega
   ·show a.length-Int.toNat 2<a.length-Int.toNat 1;simp only[show Int.toNat 2=2 from rfl,show Int.toNat 1=1 from rfl];omega
 ·simp only[apD]at ba;obtain rfl:i=a.length:=by omega
  rw[aA,apB,hI a (apF _)];exact ag
theorem Af (x:Int)(h:L x):(BitVec.ofInt 32 x).msb=decide (2147483648<=x):=by
 rw[BitVec.msb_eq_decide,BitVec.toNat_ofInt];unfold L at h
 have e:(x%((2^32:Nat):Int)).toNat=x.toNat:=by
  rw[arX h.1 (by have:((2^32:Nat):Int)=4294967296:=rfl
                 omega)]
 rw[e];have aJ:(2^(32-1):Nat)=2147483648:=rfl;rw[aJ,arv];omega
theorem qv (B:BitVec 32):L (B.toNat:Int)/\BitVec.ofInt 32 (B.toNat:Int)=B:=by
 refine⟨⟨by omega, ?_⟩, ?_⟩
 ·have:=B.isLt;have aJ:(2^32:Nat)=4294967296:=rfl;rw[aJ]at this;omega
 ·rw[arw,BitVec.ofNat_toNat,BitVec.setWidth_eq]
theorem Tb (x y:Int):cN .and .u32 x y=((BitVec.ofInt 32 x&&&BitVec.ofInt 32 y).toNat:Int):=ia (qv _).1
theorem TF (x y:Int):cN .or .u32 x y=((BitVec.ofInt 32 x|||BitVec.ofInt 32 y).toNat:Int):=ia (qv _).1
theorem I3 (x y:Int):cN .xor .u32 x y=((BitVec.ofInt 32 x^^^BitVec.ofInt 32 y).toNat:Int):=ia (qv _).1
theorem afW (B:BitVec 32):((B.toNat:Int)).fdiv 2147483648=if B.msb then 1 else 0:=by
 have h:=(qv B).1;have ad:=Af _ h;rw[(qv B).2]at ad;unfold L at h;rw[aqf _ (by omega),ad]
 by_cases aA:2147483648<=(B.toNat:Int)
 ·rw[aqN aA,apz rfl];omega
 ·rw[arh aA,apy (by simp)];omega
theorem Yl (x y c:Int)(K:R->Prop)(h:DQ.T [.d (.int .u32 x), .d (.int .u32 y), .d (.int .u32 c)] K):Nf x y c K:=by
 obtain⟨⟨aj,bo,ab,ad⟩,ag⟩:=h;unfold Nf bY
 have a_:IntKind.wrap .u32 (IntKind.wrap .u32 (x-y)-c)=(x-y-c)%4294967296:=by
  rw[kg,kg,Int.emod_sub_emod]
 rw[a_];have oM:L ((x-y-c)%4294967296):=by unfold L;omega
 have ah:((cN .or .u32 (cN .and .u32 (cN .xor .u32 4294967295 x) y) (cN .and .u32 (cN .xor .u32 4294967295 (cN .xor .u32 x y)) ((x-y-c)%4294967296))).fdiv 2147483648)=if x-y-c<0 then 1 else 0:=by
  rw[TF,Tb,Tb,I3,I3 x y,I3,(qv _).2,(qv _).2,(qv _).2,(qv _).2,(qv _).2,afW];rw[BitVec.msb_or,BitVec.msb_and,BitVec.msb_and,BitVec.msb_xor,BitVec.msb_xor,BitVec.msb_xor,Af x aj,Af y bo,Af _ oM,Af 4294967295 ⟨by decide,by decide⟩];unfold L at aj bo
  by_cases a1:2147483648<=x<;>by_cases a2:2147483648<=y<;>by_cases a3:2147483648<=(x-y-c)%4294967296<;>simp[a1,a2,a3]<;>omega
 rw[ah];exact ag
theorem afj (a b:List Int)(K:R->Prop)(h:Fa.T [.d (.af .u32 a), .d (.af .u32 b)] K):Rw a b K:=by
 obtain⟨⟨aR,ah⟩,ag⟩:=h;have gM:=jG aR;have k_:=jG ah;have k3:=aR.2;have ew:=ah.2;unfold Rw ai aT
 have pG:cmp (val a) (val b)<0↔val a<val b:=by
  unfold cmp;split
  ·simp[*]
  ·split<;>simp[*]
 refine⟨⟨aR,ah⟩,fun h=> ?_,fun h=>⟨⟨aR.1,by omega⟩,⟨ah.1,by omega⟩, ?_⟩⟩
 ·simp only[apE]at h;rw[apz (pG.1 h),apz (pG.1 h)]at ag;exact ag
 ·simp only[apD]at h;have jj:¬val a<val b:=fun aj=>h (pG.2 aj);rw[apy jj,apy jj]at ag
  have Kw:(aP (val b)).length<=(aP (val a)).length:=by
   rw[h0];have:=h0.1 (apF (aP (val a)).length);omega
  have dG:=gz (val a);have eH:=gz (val b);have nN:=eh (val a);have ng:=eh (val b);rw[<-nN,<-ng]at ag jj;generalize aP (val a)=A at*;generalize aP (val b)=B at*;rw[apB]
  refine⟨by omega,by omega,by omega,fun c i o=>bN o/\o.length=A.length/\0<=c/\c<=1/\0<=i/\i<=A.length/\du o i.toNat+du B i.toNat=du A i.toNat+4294967296^i.toNat*c.toNat,
   fun c i o=>A.length-i.toNat,⟨bN.nv _,by simp,by omega,by omega,by omega,by omega,by simp[iK]⟩, ?_⟩
  rintro c i o ⟨aF,gl,xZ,j5,tG,lQ,m6⟩;refine⟨fun h=> ?_,fun h=> ?_⟩
  ·simp only[apE]at h
   obtain⟨n,rfl⟩:∃n:Nat,i=n:=⟨i.toNat,by omega⟩
   simp only[apB]at m6⊢;refine⟨by omega,by omega,fun e=>e=B.getD n 0,⟨fun ad=> ?_,fun ad=>⟨trivial, ?_⟩⟩, ?_⟩
   ·simp only[apE]at ad;exact⟨by omega,ad,trivial,rfl⟩
   ·simp only[apD]at ad;simp[apA,aqc (show B.length<=n by omega)]
   ·rintro e rfl;have nL:=dG n;have AR:=eH n;refine⟨⟨nL,AR,xZ,j5⟩,by omega,by omega, ?_⟩;have aJ:IntKind.wrap .i64 ((n:Int)+1)=((n+1:Nat):Int):=by rw[bQ (by omega)];omega
    rw[aJ];refine⟨⟨aF.set _ (by omega),by simpa using gl,by split<;>omega,by split<;>omega,by omega,by omega, ?_⟩,by simp;omega⟩;rw[apB,gA,gA,gA,rA _ _ _ _ (apF _),eR,apz ⟨rfl,by omega⟩]
    have bX:((A.getD n 0-B.getD n 0-c)%4294967296).toNat+(B.getD n 0).toNat+c.toNat=(A.getD n 0).toNat+4294967296*(if A.getD n 0-B.getD n 0-c<0 then(1:Int)else 0).toNat:=by
     split<;>omega
    rw[ap6];generalize ((A.getD n 0-B.getD n 0-c)%4294967296).toNat=p at bX⊢;generalize (if A.getD n 0-B.getD n 0-c<0 then(1:Int)else 0).toNat=q at bX⊢;generalize 4294967296^n=w at m6⊢;have cW:w*(p+(B.getD n 0).toNat+c.toNat)=w*((A.getD n 0).toNat+4294967296*q):=by rw[bX]
    simp only[apN]at cW⊢;rw[aqb];omega
  ·simp only[apD]at h;obtain rfl:i=A.length:=by omega
   simp only[apB]at m6;refine⟨⟨aF,by omega⟩, ?_⟩;rw[hI A (apF _),hI B Kw,hI o (by omega)]at m6;have bL:=iM aF;rw[gl]at bL
   have aC:c.toNat=0:=by
    rcases aq7 c.toNat with bc|bc
    ·exact bc
    ·have:c.toNat=1:=by omega
     rw[this]at m6;omega
   rw[aC]at m6;have:val o=val A-val B:=by omega
   rw[this];exact ag
end aa
end
section
open Go Go.ak
namespace aa
theorem Qp {t f g r p lv s l1 iZ:Nat}(bh:g=f/t)(ao:r=f%t)(aw:0<t)(qN:l1<p)(vH:iZ<4294967296):
 l1+p*(iZ+4294967296*f)<(g+1)*(lv+p*(s+4294967296*t))/\t*g+r=f:=by
 have ab:t*g+r=f:=by subst bh ao;exact arc f t
 refine⟨?_,ab⟩
 have ad:f+1<=t*(g+1):=by
  have:=aqh f aw;rw[apN,ap8];omega
 have aA:p*(iZ+4294967296*f)+p<=p*(4294967296*(t*(g+1))):=by
  have:=apY p (show iZ+4294967296*f+1<=4294967296*(t*(g+1)) by omega);rw[apN p _ 1,ap8]at this;exact this
 have ba:(g+1)*(lv+p*(s+4294967296*t))=(g+1)*lv+p*((g+1)*s)+p*(4294967296*(t*(g+1))):=by
  rw[apN,aqC (g+1) p,apN (g+1) s,apN p,aqC (g+1) 4294967296,aqa (g+1) t,aqs]
 rw[ba];omega
theorem Qq {t f g r p lv s l1 iZ:Nat}(ab:t*g+r=f)(qN:l1<p)(aC:r*4294967296+iZ<g*s):
 l1+p*(iZ+4294967296*f)<g*(lv+p*(s+4294967296*t)):=by
 have ad:iZ+4294967296*f+1<=g*s+4294967296*(g*t):=by
  rw[aqa g t];omega
 have aA:=apY p ad;rw[apN p _ 1,ap8]at aA
 have ba:g*(lv+p*(s+4294967296*t))=g*lv+p*(g*s+4294967296*(g*t)):=by
  rw[apN,aqC g p,apN g s,aqC g 4294967296]
 rw[ba];omega
theorem wR {t f g r p lv s l1 iZ:Nat}(ab:t*g+r=f)(aw:0<t)(r7:lv<p)(bh:g<4294967296)(aC:g*s<=r*4294967296+iZ):
 g*(lv+p*(s+4294967296*t))<=l1+p*(iZ+4294967296*f)+(lv+p*(s+4294967296*t)):=by
 cases g with
 |zero=>omega
 |succ g=>
  have ad:g*(s+4294967296*t+1)<=iZ+4294967296*f:=by
   have az:g*(s+4294967296*t+1)+s+4294967296*t=(g+1)*s+4294967296*(t*(g+1))+g:=by
    rw[apN g _ 1,apN g s,ap8,apU g 1 s,aqO,apN t g 1,ap8,aqC g 4294967296,aqa g t];omega
   omega
  have aA:=apY p ad
  have ba:g*(lv+p*(s+4294967296*t))<=p*(g*(s+4294967296*t+1)):=by
   rw[aqC p g];refine apY g ?_;rw[apN p _ 1,ap8];omega
  rw[apU g 1,aqO];omega
theorem Pv {g d c b u:Nat}(bh:g<4294967296)(a_:d<4294967296)(aC:c<4294967296)(ah:b<=1)(hu:u<4294967296):
 c+g*d<18446744073709551616/\∃lo T st B:Nat,(c+g*d)%4294967296=lo/\(c+g*d)/4294967296=T/\lo<4294967296/\T<4294967296/\((u:Int)-(lo:Int)-(b:Int))%4294967296=(st:Int)/\st<4294967296/\
  (if(u:Int)-(lo:Int)-(b:Int)<0 then(1:Int)else 0)=(B:Int)/\B<=1/\st+g*d+(c+b)=u+4294967296*(T+B):=by
 have ab:g*d<=4294967295*4294967295:=aqP (by omega) (by omega);generalize g*d=m at ab⊢;refine⟨by omega,(c+m)%4294967296,(c+m)/4294967296,(((u:Int)-((c+m)%4294967296:Nat)-b)%4294967296).toNat,(if(u:Int)-((c+m)%4294967296:Nat)-b<0 then 1 else 0),rfl,rfl,by omega,by omega,by omega,by omega,by split<;>rfl,by split<;>omega,by split<;>omega⟩
theorem wS (n:Nat):∀k,(kk n k).length=k
 |0=>rfl
 |k+1=>by simp[kk,wS _ k]
theorem y3 (k:Nat):∀n,bN (kk n k):=by
 induction k with
 |zero=>intro n;exact .nil
 |succ k bI=>
  intro n;have:n%4294967296<4294967296:=aqh _ (by decide);exact .mk ⟨by omega,by omega⟩ (bI _)
theorem y4 (k:Nat):∀n,n<4294967296^k->val (kk n k)=n:=by
 induction k with
 |zero=>intro n h;simp at h;subst h;rfl
 |succ k bI=>
  intro n h
  have ad:n/4294967296<4294967296^k:=by
   rw[ap6]at h;exact ars (by rw[aqa];exact h)
  simp only[kk,val,bI _ ad,apB];omega
theorem It (k:Nat):∀{a:List Int},bN a->a.length=k->kk (val a) k=a:=by
 induction k with
 |zero=>intro a _ h;rw[aqm.1 h];rfl
 |succ k bI=>
  intro a aR h
  cases a with
  |nil=>cases h
  |cons x r=>
   obtain⟨⟨ab,ad⟩,ao⟩:=aR.cons;have az:val (x::r)%4294967296=x.toNat:=by rw[val];omega
   have aJ:val (x::r)/4294967296=val r:=by rw[val];omega
   rw[kk,az,aJ,bI ao (by simpa using h),Int.toNat_of_nonneg ab]
theorem D_ {a:List Int}(h:bN a){m:Nat}(bm:∀p,m<=p->a.getD p 0=0):val a<4294967296^m:=by
 rw[ml a m]
 have ad:eu a m=0:=by
  unfold eu
  have:∀l:List Int,(∀p,l.getD p 0=0)->val l=0:=fun l=>by
   induction l with
   |nil=>intro _;rfl
   |cons x r bI=>
    intro ax;have bc:=ax 0;have ab:=bI fun p=>by have:=ax (p+1);simpa using this
    simp at bc;rw[val,ab,bc];rfl
  refine this _ fun p=> ?_;have:=bm (m+p) (by omega);simpa[apA]using this
 rw[ad];have:=rH h m;omega
theorem Rx {a:List Int}(h:bN a){m:Nat}(aO:val a<4294967296^m)(p:Nat)(aE:m<=p):a.getD p 0=0:=by
 have ab:=ml a p;have ad:=oa a p;have aA:=h p;have ba:4294967296^m<=4294967296^p:=aqg (by decide) aE
 cases aj:(a.getD p 0).toNat with
 |zero=>omega
 |succ k=>
  rw[ad,aj]at ab;have:4294967296^p*1<=4294967296^p*(k+1+4294967296*eu a (p+1)):=apY _ (by omega);omega
end aa
end
section
open Go Go.ak
namespace aa
def Ng:List Int->(ae->R->Prop)->Prop:=
 fun l K=>∃(aQ:Int->Int->List Int->Prop),∃(m:Int->Int->List Int->Nat),aQ 0 (ai (↑l.length-1)) l/\∀(v2 v3:Int) (au:List Int),aQ v2 v3 au->(decide (v2<v3)=true->0<=v3/\v3<↑au.length/\0<=v2/\v2<↑au.length/\0<=v2/\v2<↑au.length/\0<=v3/\v3<↑(au.set v2.toNat (au.getD v3.toNat 0)).length/\aQ (ai (v2+1)) (ai (v3-1)) ((au.set v2.toNat (au.getD v3.toNat 0)).set v3.toNat (au.getD v2.toNat 0))/\m (ai (v2+1)) (ai (v3-1)) ((au.set v2.toNat (au.getD v3.toNat 0)).set v3.toNat (au.getD v2.toNat 0))<m v2 v3 au)/\(decide (v2<v3)=false->K (ae.af .u8 au) (R.tup []))
def OG:List Int->(R->Prop)->Prop:=
 fun a K=>(bN a/\a.length<=(1000000000:Nat))/\∃(aQ:List Int->List Int->Prop),∃(m:List Int->List Int->Nat),aQ (aP (val a)) []/\∀(v0 au:List Int),aQ v0 au->(decide ((0:Int)<↑v0.length)=true->(bF v0/\L (1000000000:Int)/\(0:Int)<(1000000000:Int))/\∃(fu:Int->Int->List Int->Prop),∃(fb:Int->Int->List Int->Nat),fu ↑(val v0%(1000000000:Nat)) (0:Int) au/\∀(v4 bV:Int) (bw:List Int),fu v4 bV bw->(decide (bV<(9:Int))=true->(decide (↑(aP (val v0/(1000000000:Nat))).length=(0:Int))=true->(decide (v4=(0:Int))=true->aQ (aP (val v0/(1000000000:Nat))) bw/\m (aP (val v0/(1000000000:Nat))) bw<m v0 au)/\(decide (v4=(0:Int))=false->(↑bw.length+↑[IntKind.u8.wrap (bY ((48:Int)+v4.tmod (10:Int)))].length)*(1:Int)<=(70368744177664:Int)/\fu (bY (v4.tdiv (10:Int))) (ai (bV+(1:Int))) (bw++[IntKind.u8.wrap (bY ((48:Int)+v4.tmod (10:Int)))])/\fb (bY (v4.tdiv (10:Int))) (ai (bV+(1:Int))) (bw++[IntKind.u8.wrap (bY ((48:Int)+v4.tmod (10:Int)))])<fb v4 bV bw))/\(decide (↑(aP (val v0/(1000000000:Nat))).length=(0:Int))=false->(↑bw.length+↑[IntKind.u8.wrap (bY ((48:Int)+v4.tmod (10:Int)))].length)*(1:Int)<=(70368744177664:Int)/\fu (bY (v4.tdiv (10:Int))) (ai (bV+(1:Int))) (bw++[IntKind.u8.wrap (bY ((48:Int)+v4.tmod (10:Int)))])/\fb (bY (v4.tdiv (10:Int))) (ai (bV+(1:Int))) (bw++[IntKind.u8.wrap (bY ((48:Int)+v4.tmod (10:Int)))])<fb v4 bV bw))/\(decide (bV<(9:Int))=false->aQ (aP (val v0/(1000000000:Nat))) bw/\m (aP (val v0/(1000000000:Nat))) bw<m v0 au))/\(decide ((0:Int)<↑v0.length)=false->(decide (↑au.length=(0:Int))=true->K (R.d (U.str [(48:Int)])))/\(decide (↑au.length=(0:Int))=false->(0:Nat)<au.length/\au.length<=(1000000000000:Nat)/\(∀(x:Int),x∈au.reverse->(0:Int)<=x/\x<(256:Int))/\K (R.d (U.str au.reverse))))
end aa
end
section
open Go Go.ak
namespace aa
theorem AT {x:Int}(h:0<=x/\x<256):IntKind.wrap .u8 x=x:=by
 unfold IntKind.wrap;simp[IntKind.signed,IntKind.bits];omega
theorem acT {a b:List Int}(ax:a.length=b.length)(h:∀i,i<a.length->a.getD i 0=b.getD i 0):a=b:=by
 apply arU ax;intro j ks nI;have:=h j ks;simpa[apA,ks,nI]using this
theorem acU (l:List Int)(i:Nat)(h:i<l.length):l.reverse.getD i 0=l.getD (l.length-1-i) 0:=by
 simp only[apA];rw[List.getElem?_reverse h]
theorem Ym (l:List Int)(K:ae->R->Prop)(h:CI.T (.vec 0) (.af .u8 l) [] K):Ng l K:=by
 obtain⟨ax,ag⟩:=h;unfold Ng ai
 refine⟨fun i j o=>o.length=l.length/\0<=i/\i+j=l.length-1/\i<=j+1/\
  ∀p:Nat,p<l.length->o.getD p 0=if(p:Int)<i\/j<(p:Int)then l.getD (l.length-1-p) 0 else l.getD p 0,fun i j o=>(j+1-i).toNat,⟨rfl,by omega, ?_, ?_, ?_⟩, ?_⟩
 ·rw[bQ (by omega)];omega
 ·rw[bQ (by omega)];omega
 ·intro p aE;rw[bQ (by omega),apy (by omega)]
 rintro i j o ⟨ab,ad,aA,ba,bJ⟩;refine⟨fun h=> ?_,fun h=> ?_⟩
 ·simp only[apE]at h;rw[bQ (by omega),bQ (by omega)];simp only[apL];refine⟨by omega,by omega,by omega,by omega,by omega,by omega,by omega,by omega,⟨by omega,by omega,by omega,by omega,fun p aE=> ?_⟩,by show(j-1+1-(i+1)).toNat<(j+1-i).toNat;omega⟩;rw[eR,eR];simp only[apL];have hi:=bJ i.toNat (by omega);have aI:=bJ j.toNat (by omega);rw[apy (by omega)]at hi aI;have akk:=bJ p aE
  by_cases az:p=j.toNat
  ·rw[apz ⟨az.symm,by omega⟩,apz (by omega),hi,az]
   congr 1;omega
  ·rw[apy (fun h=>az h.1.symm)]
   by_cases aJ:p=i.toNat
   ·rw[apz ⟨aJ.symm,by omega⟩,apz (by omega),aI,aJ]
    congr 1;omega
   ·rw[apy (fun h=>aJ h.1.symm),akk]
    by_cases bX:(p:Int)<i\/j<(p:Int)
    ·rw[apz bX,apz (by omega)]
    ·rw[apy bX,apy (by omega)]
 ·simp only[apD]at h
  have:o=l.reverse:=by
   refine acT (by simpa using ab) fun p aE=> ?_;rw[acU l p (by omega),bJ p (by omega)]
   by_cases bX:(p:Int)<i\/j<(p:Int)
   ·rw[apz bX]
   ·rw[apy bX]
    congr 1;omega
  rw[this];exact ag
theorem zD {n:Nat}(h:(aP n).length=0):n=0:=ra.1 (aqm.1 h)
theorem abl (a:List Int)(K:R->Prop)(h:Dc.T [.d (.af .u32 a)] K):OG a K:=by
 obtain⟨aR,ag⟩:=h;have gM:=jG aR;have k3:=aR.2;have aoR:=Rs aR.1;unfold OG ai bY;generalize dG:val a=A at*;refine⟨⟨aR.1,by omega⟩,fun v o=>∃V,v=aP V/\V<=A/\ju A=o++ju V,fun v o=>val v,⟨A,rfl,apF _,rfl⟩, ?_⟩;rintro v o ⟨V,rfl,hE,a_⟩
 have hlen:∀{o:List Int} {n:Nat},ju A=o++ju n->o.length<=1000000000:=fun{o n} h=>by
  have:=aqd List.length h;rw[ap4]at this;omega
 have h_:∀{o:List Int} {n:Nat},ju A=o++ju n->∀x∈o,48<=x/\x<58:=fun{o n} h x aj=>by
  exact acL (n:=A) (by rw[h];simp[aj])
 refine⟨fun h=> ?_,fun h=> ?_⟩
 ·simp only[apE]at h
  have F3:V≠0:=by
   rintro rfl;rw[kH]at h;simp at h
  have Kx:(aP V).length<=100000000:=by
   have:(aP V).length<=a.length:=by
    rw[h0];have:=iM aR.1;omega
   omega
  rw[eh];refine⟨⟨⟨gz _,Kx⟩,by unfold L;omega,by omega⟩,fun r i o=>0<=i/\i<=9/\0<=r/\r.toNat<10^(9-i.toNat)/\ju A=o++ju (V/1000000000*10^(9-i.toNat)+r.toNat),fun r i o=>9-i.toNat,⟨by omega,by omega,by omega, ?_, ?_⟩, ?_⟩
  ·rw[apB];exact aqh _ (by decide)
  ·rw[apB,a_]
   congr 2
   have:=arc V 1000000000;rw[aqa]at this;exact this.symm
  rintro r i cj ⟨ab,ad,aA,ba,bJ⟩;have jB:V/1000000000<V:=arH (by omega) (by decide);generalize V/1000000000=Q at*
  have step:¬(Q=0/\r=0)->i<9->((Nat.cast:Nat->Int) (List.length cj)+(Nat.cast:Nat->Int) (List.length [IntKind.wrap IntKind.u8 (IntKind.wrap IntKind.u32 ((48:Int)+Int.tmod r (10:Int)))]))*(1:Int)<=(70368744177664:Int)/\
   (0<=IntKind.wrap IntKind.i64 (i+1)/\IntKind.wrap IntKind.i64 (i+1)<=9/\0<=IntKind.wrap IntKind.u32 (Int.tdiv r 10)/\(IntKind.wrap IntKind.u32 (Int.tdiv r 10)).toNat<10^(9-(IntKind.wrap IntKind.i64 (i+1)).toNat)/\
     ju A=cj++[IntKind.wrap IntKind.u8 (IntKind.wrap IntKind.u32 ((48:Int)+Int.tmod r (10:Int)))]++ju (Q*10^(9-(IntKind.wrap IntKind.i64 (i+1)).toNat)+(IntKind.wrap IntKind.u32 (Int.tdiv r 10)).toNat))/\
   9-(IntKind.wrap IntKind.i64 (i+1)).toNat<9-i.toNat:=fun dn hi=>by
   have gl:=hlen bJ
   obtain⟨n,rfl⟩:∃n:Nat,i=n:=⟨i.toNat,by omega⟩
   obtain⟨bC,rfl⟩:∃bC:Nat,r=bC:=⟨r.toNat,by omega⟩
   have az:IntKind.wrap .i64 ((n:Int)+1)=((n+1:Nat):Int):=by rw[bQ (by omega)];omega
   rw[az];simp only[apB]at*;have aE:10^(9-n)=10*10^(9-(n+1)):=by rw[show 9-n=(9-(n+1))+1 by omega,ap6,aqa]
   rw[aE]at ba bJ;have hle:10^(9-(n+1))<=10^9:=aqg (by decide) (by omega);generalize 10^(9-(n+1))=w at*;have aoS:w<=1000000000:=hle;rw[arL (by omega),ar4 (by omega),ia (x:=48+(bC:Int)%10) (by omega),AT (by omega),ia (x:=(bC:Int)/10) (by omega)];refine⟨by simp;omega,⟨by omega,by omega,by omega,by omega, ?_⟩,by omega⟩;rw[bJ,List.append_assoc]
   congr 1
   have akl:Q*(10*w)+bC≠0:=fun bm=>dn ⟨by
    rcases aq7 Q with bc|bc
    ·exact bc
    ·have:0<w:=by omega
     have:0<Q*(10*w):=Nat.mul_pos bc (by omega)
     omega,by omega⟩
   rw[CH akl];have akm:Q*(10*w)=10*(Q*w):=aqC _ _ _;rw[akm];generalize Q*w=z;have a1:((48+(10*z+bC)%10:Nat):Int)=48+(bC:Int)%10:=by omega
   have a2:(10*z+bC)/10=z+((bC:Int)/10).toNat:=by omega
   rw[a1,a2];rfl
  refine⟨fun h=>⟨fun cu=>⟨fun gO=> ?_,fun gO=> ?_⟩,fun cu=> ?_⟩,fun h=> ?_⟩
  ·simp only[apE]at cu gO;have akn:Q=0:=zD (by omega);subst akn gO;refine⟨⟨0,rfl,by omega, ?_⟩, ?_⟩
   ·simpa using bJ
   ·simp only[eh];exact jB
  ·simp only[apE]at h;simp only[apD]at gO;exact step (fun aj=>gO aj.2) h
  ·simp only[apE]at h;simp only[apD]at cu;refine step (fun aj=>cu ?_) h;rw[aj.1,kH];rfl
  ·simp only[apD]at h;obtain rfl:i=9:=by omega
   simp only[show Int.toNat 9=9 from rfl,Nat.sub_self,arf,ap8]at ba bJ;refine⟨⟨Q,rfl,by omega, ?_⟩, ?_⟩
   ·rw[bJ,show r.toNat=0 by omega];rfl
   ·simp only[eh];exact jB
 ·simp only[apD]at h;have F3:V=0:=zD (by omega);subst F3;rw[uv,arY]at a_;have gl:=hlen (o:=o) (n:=0) (by rw[uv,arY];exact a_);have hm:=h_ (o:=o) (n:=0) (by rw[uv,arY];exact a_);refine⟨fun h=> ?_,fun h=>⟨?_,by omega,fun x aj=> ?_, ?_⟩⟩
  ·simp only[apE]at h;have:o=[]:=aqm.1 (by omega);rw[this,Qm]at a_;rw[a_]at ag;exact ag
  ·simp only[apD]at h;omega
  ·have:=hm x (List.mem_reverse.1 aj);omega
  ·simp only[apD]at h
   have pz:A≠0:=by
    rintro rfl;rw[uv]at a_;subst a_;simp at h
   unfold dec at ag;rw[apy pz,a_]at ag;exact ag
theorem ahl {x:Int}(h:0<=x/\x<4294967296):bF [x]:=⟨.mk h .nil,by simp⟩
end aa
namespace aa
end aa
end
section
open Go Go.ak
namespace aa
def Nh:Int->(R->Prop)->Prop:=
 fun x K=>∃(J:Int->Int->Prop),((decide (65536<=x)=true->J (x.fdiv 65536) 16)/\(decide (65536<=x)=false->J x 0))/\∀(v0 v2:Int),J v0 v2->(decide (256<=v0)=true->0<=IntKind.u8.wrap (v0.fdiv 256)/\IntKind.u8.wrap (v0.fdiv 256)<256/\K (R.d (U.int .i64 (ai (ai (v2+8)+ai ((have y:=have y:=have y:=have y:=have y:=have y:=[8,8,8,8];8::8::8::8::y;have y:=8::8::8::8::y;8::8::8::8::y;have y:=have y:=8::8::8::8::y;8::8::8::8::y;have y:=8::8::8::8::y;8::8::8::8::y;have y:=have y:=have y:=8::8::8::8::y;8::8::8::8::y;have y:=8::8::8::8::y;8::8::8::8::y;have y:=have y:=8::8::8::8::y;8::8::8::8::y;have y:=8::8::8::8::y;8::8::8::8::y;have y:=have y:=have y:=have y:=8::8::8::8::y;8::8::8::8::y;have y:=8::8::8::8::y;8::8::8::8::y;have y:=have y:=8::8::8::8::y;8::8::8::8::y;have y:=8::8::8::8::y;8::8::8::8::y;have y:=have y:=have y:=8::8::8::8::y;8::8::8::8::y;have y:=8::8::8::8::y;8::8::8::8::y;have y:=have y:=8::8::8::8::y;8::8::8::8::y;have y:=8::8::8::8::y;8::8::8::8::y;have y:=have y:=have y:=have y:=have y:=7::7::7::7::y;7::7::7::7::y;have y:=7::7::7::7::y;7::7::7::7::y;have y:=have y:=7::7::7::7::y;7::7::7::7::y;have y:=7::7::7::7::y;7::7::7::7::y;have y:=have y:=have y:=7::7::7::7::y;7::7::7::7::y;have y:=7::7::7::7::y;7::7::7::7::y;have y:=have y:=7::7::7::7::y;7::7::7::7::y;have y:=7::7::7::7::y;7::7::7::7::y;have y:=have y:=have y:=have y:=6::6::6::6::y;6::6::6::6::y;have y:=6::6::6::6::y;6::6::6::6::y;have y:=have y:=6::6::6::6::y;6::6::6::6::y;have y:=6::6::6::6::y;6::6::6::6::y;have y:=have y:=have y:=5::5::5::5::y;5::5::5::5::y;have y:=5::5::5::5::y;5::5::5::5::y;have y:=have y:=4::4::4::4::y;4::4::4::4::y;have y:=3::3::3::3::y;0::1::2::2::y).getD (IntKind.u8.wrap (v0.fdiv 256)).toNat 0))))))/\(decide (256<=v0)=false->0<=IntKind.u8.wrap v0/\IntKind.u8.wrap v0<256/\K (R.d (U.int .i64 (ai (v2+ai ((have y:=have y:=have y:=have y:=have y:=have y:=[8,8,8,8];8::8::8::8::y;have y:=8::8::8::8::y;8::8::8::8::y;have y:=have y:=8::8::8::8::y;8::8::8::8::y;have y:=8::8::8::8::y;8::8::8::8::y;have y:=have y:=have y:=8::8::8::8::y;8::8::8::8::y;have y:=8::8::8::8::y;8::8::8::8::y;have y:=have y:=8::8::8::8::y;8::8::8::8::y;have y:=8::8::8::8::y;8::8::8::8::y;have y:=have y:=have y:=have y:=8::8::8::8::y;8::8::8::8::y;have y:=8::8::8::8::y;8::8::8::8::y;have y:=have y:=8::8::8::8::y;8::8::8::8::y;have y:=8::8::8::8::y;8::8::8::8::y;have y:=have y:=have y:=8::8::8::8::y;8::8::8::8::y;have y:=8::8::8::8::y;8::8::8::8::y;have y:=have y:=8::8::8::8::y;8::8::8::8::y;have y:=8::8::8::8::y;8::8::8::8::y;have y:=have y:=have y:=have y:=have y:=7::7::7::7::y;7::7::7::7::y;have y:=7::7::7::7::y;7::7::7::7::y;have y:=have y:=7::7::7::7::y;7::7::7::7::y;have y:=7::7::7::7::y;7::7::7::7::y;have y:=have y:=have y:=7::7::7::7::y;7::7::7::7::y;have y:=7::7::7::7::y;7::7::7::7::y;have y:=have y:=7::7::7::7::y;7::7::7::7::y;have y:=7::7::7::7::y;7::7::7::7::y;have y:=have y:=have y:=have y:=6::6::6::6::y;6::6::6::6::y;have y:=6::6::6::6::y;6::6::6::6::y;have y:=have y:=6::6::6::6::y;6::6::6::6::y;have y:=6::6::6::6::y;6::6::6::6::y;have y:=have y:=have y:=5::5::5::5::y;5::5::5::5::y;have y:=5::5::5::5::y;5::5::5::5::y;have y:=have y:=4::4::4::4::y;4::4::4::4::y;have y:=3::3::3::3::y;0::1::2::2::y).getD (IntKind.u8.wrap v0).toNat 0))))))
def Mg:Int->(R->Prop)->Prop:=
 fun x K=>L x/\K (R.d (U.int .i64 (ai (32-↑(da x.toNat)))))
def Pw:List Int->Int->(ae->Prop)->Prop:=
 fun a k K=>0<=ai (↑a.length+1)/\ai (↑a.length+1)<=ai (↑a.length+1)/\ai (↑a.length+1)*4<=281474976710656/\∃(aQ:Int->List Int->Prop),∃(m:Int->List Int->Nat),aQ 0 (List.replicate (ai (↑a.length+1)).toNat 0)/\∀(bV:Int) (au:List Int),aQ bV au->(decide (bV<↑a.length)=true->0<=bV/\bV<↑a.length/\0<=k/\0<=bV/\bV<↑au.length/\0<=bV/\bV<↑au.length/\0<=ai (bV+1)/\ai (bV+1)<↑(au.set bV.toNat (cN BinOp.or .u32 (au.getD bV.toNat 0) (bY (aX (aX (a.getD bV.toNat 0)*2^min k.toNat 64))))).length/\aQ (ai (bV+1)) ((au.set bV.toNat (cN BinOp.or .u32 (au.getD bV.toNat 0) (bY (aX (aX (a.getD bV.toNat 0)*2^min k.toNat 64))))).set (ai (bV+1)).toNat (bY ((aX (aX (a.getD bV.toNat 0)*2^min k.toNat 64)).fdiv 4294967296)))/\m (ai (bV+1)) ((au.set bV.toNat (cN BinOp.or .u32 (au.getD bV.toNat 0) (bY (aX (aX (a.getD bV.toNat 0)*2^min k.toNat 64))))).set (ai (bV+1)).toNat (bY ((aX (aX (a.getD bV.toNat 0)*2^min k.toNat 64)).fdiv 4294967296)))<m bV au)/\(decide (bV<↑a.length)=false->K (ae.af .u32 au))
end aa
end
section
open Go Go.ak
namespace aa
def tab:List Int:=[0,1,2,2,3,3,3,3,4,4,4,4,4,4,4,4,5,5,5,5,5,5,5,5,5,5,5,5,5,5,5,5,6,6,6,6,6,6,6,6,6,6,6,6,6,6,6,6,6,6,6,6,6,6,6,6,6,6,6,6,6,6,6,6,7,7,7,7,7,7,7,7,7,7,7,7,7,7,7,7,7,7,7,7,7,7,7,7,7,7,7,7,7,7,7,7,7,7,7,7,7,7,7,7,7,7,7,7,7,7,7,7,7,7,7,7,7,7,7,7,7,7,7,7,7,7,7,7,8,8,8,8,8,8,8,8,8,8,8,8,8,8,8,8,8,8,8,8,8,8,8,8,8,8,8,8,8,8,8,8,8,8,8,8,8,8,8,8,8,8,8,8,8,8,8,8,8,8,8,8,8,8,8,8,8,8,8,8,8,8,8,8,8,8,8,8,8,8,8,8,8,8,8,8,8,8,8,8,8,8,8,8,8,8,8,8,8,8,8,8,8,8,8,8,8,8,8,8,8,8,8,8,8,8,8,8,8,8,8,8,8,8,8,8,8,8,8,8,8,8,8,8,8,8,8,8]
theorem Ry (i:Nat)(h:i<256):tab.getD i 0=da i:=by
 have ab:((List.range 256).all fun i=>decide (tab.getD i 0=(da i:Int)))=true:=by decide+kernel
 rw[apR]at ab;simpa using ab i (by simpa using h)
theorem aei {n m:Nat}(ab:2^m<=n)(ad:n<2^(m+1)):da n=m+1:=by
 have bc:n≠0:=by have:=aqu m;omega
 unfold da;rw[apy bc,(Nat.log2_eq_iff bc).2 ⟨ab,ad⟩]
theorem wA {n:Nat}(h:n≠0):2^(da n-1)<=n/\n<2^da n/\0<da n:=by
 unfold da;rw[apy h];exact⟨Nat.log2_self_le h,Nat.lt_log2_self,by omega⟩
theorem y5 {n k:Nat}(h:2^k<=n):da n=da (n/2^k)+k:=by
 have aE:=aqu k
 have bc:n/2^k≠0:=by
  have:=Nat.div_pos h aE;omega
 obtain⟨ch,df,iD⟩:=wA bc
 have az:2^(da (n/2^k)-1+k)<=n:=by
  rw[aqi];exact(Nat.le_div_iff_mul_le aE).1 ch
 have aJ:n<2^(da (n/2^k)-1+k+1):=by
  rw[show da (n/2^k)-1+k+1=da (n/2^k)+k by omega,aqi];exact(Nat.div_lt_iff_lt_mul aE).1 df
 rw[aei az aJ];omega
theorem w4 {n k:Nat}(h:n<2^k):da n<=k:=by
 by_cases bc:n=0
 ·subst bc;simp[da]
 ·obtain⟨ch,df,iD⟩:=wA bc;have:=aq_ ch h;have:=(Nat.pow_lt_pow_iff_right (by decide:1<2)).1 this;omega
theorem Yn (x:Int)(K:R->Prop)(h:DU.T [.d (.int .u32 x)] K):Nh x K:=by
 obtain⟨aj,ag⟩:=h;unfold L at aj
 obtain⟨n,rfl⟩:∃n:Nat,x=n:=⟨x.toNat,by omega⟩
 rw[apB]at ag;unfold Nh ai;refine⟨fun v s=>∃m k:Nat,v=m/\s=k/\m<65536/\k<=16/\da n=da m+k,⟨fun h=> ?_,fun h=> ?_⟩, ?_⟩
 ·simp only[apE]at h;have:=y5 (n:=n) (k:=16) (by omega);refine⟨n/65536,16, ?_,rfl,by omega,by omega,this⟩;rw[aqf _ (by omega)];omega
 ·simp only[apD]at h;exact⟨n,0,rfl,rfl,by omega,by omega,rfl⟩
 rintro v s ⟨m,k,rfl,rfl,hm,aoT,he⟩
 have fin:∀(q c:Nat),q<256->c<=24->da n=da q+c->K (.d (.int .i64 (IntKind.wrap .i64 ((c:Int)+IntKind.wrap .i64 (tab.getD q 0))))):=fun q c a6 aC e=>by
  have ah:=w4 (n:=q) (k:=8) (by omega);rw[Ry q a6,bQ (x:=(da q:Int)) (by omega),bQ (by omega)];rw[show(c:Int)+(da q:Int)=((da n:Nat):Int) by omega];exact ag
 refine⟨fun h=> ?_,fun h=> ?_⟩
 ·simp only[apE]at h
  have a_:IntKind.wrap .u8 (Int.fdiv (m:Int) 256)=((m/256:Nat):Int):=by
   rw[aqf _ (by omega),AT (by omega)];omega
  rw[a_,bQ (x:=(k:Int)+8) (by omega),apB];have:=y5 (n:=m) (k:=8) (by omega);exact⟨by omega,by omega,fin (m/256) (k+8) (by omega) (by omega) (by rw[he,this];show da (m/256)+8+k=_;omega)⟩
 ·simp only[apD]at h;rw[AT (x:=(m:Int)) (by omega),apB];exact⟨by omega,by omega,fin m k (by omega) (by omega) he⟩
theorem Wv (x:Int)(K:R->Prop)(h:CJ.T [.d (.int .u32 x)] K):Mg x K:=by
 obtain⟨aj,ag⟩:=h;unfold Mg ai;have hB:=aj;unfold L at hB;have:=w4 (n:=x.toNat) (k:=32) (by omega);rw[bQ (by omega)];exact⟨aj,ag⟩
theorem afX (p q s:Nat)(a6:q<2^s)(h:p*2^s+q<4294967296):cN .or .u32 (q:Int) ((p*2^s:Nat):Int)=((p*2^s+q:Nat):Int):=by
 rw[TF,BitVec.toNat_or,arw,arw,arN,arN];have aJ:(2^32:Nat)=4294967296:=rfl;rw[aJ,aqt (by omega),aqt (by omega),Nat.or_comm,<-Nat.shiftLeft_eq,<-Nat.shiftLeft_add_eq_or_of_lt a6]
theorem ZR {d c k:Nat}(ag:k<32)(a_:d<4294967296)(aC:c<2^k):
 d*2^k<18446744073709551616/\d*2^k/4294967296<2^k/\cN .or .u32 (c:Int) ((d*2^k%4294967296:Nat):Int)=((d*2^k%4294967296+c:Nat):Int)/\d*2^k%4294967296+c<4294967296:=by
 have ab:d*2^k<4294967296*2^k:=arO a_ (aqu k);have ad:2^k<=2^31:=aqg (by decide) (by omega);have aA:(2:Nat)^31=2147483648:=rfl
 obtain⟨j,aI⟩:∃j,4294967296=2^j*2^k:=⟨32-k,by rw[<-aqi,show 32-k+k=32 by omega]⟩
 have ba:d*2^k%4294967296=d%2^j*2^k:=by rw[aI,Nat.mul_mod_mul_right]
 have bJ:d%2^j*2^k+2^k<=4294967296:=by
  have:=aqh d (aqu j);have:=apP (2^k) (show d%2^j+1<=2^j by omega);rw[apU,aqO,<-aI]at this;exact this
 refine⟨by omega, ?_, ?_,by rw[ba];omega⟩
 ·exact ars (by omega)
 ·rw[ba];exact afX _ c k aC (by omega)
theorem abm {tZ t_ vo w P d x y c:Nat}(v1:tZ+w*c=vo+w*(x+c))(v2:t_=tZ+w*P*y)(a_:P*y+x=d):t_=vo+w*d:=by
 subst v2 a_;simp only[apN]at v1⊢;rw[aqb];generalize w*(P*y)=A;omega
theorem acV (a:List Int)(k:Int)(K:ae->Prop)(h:DV.T [.d (.af .u32 a), .d (.int .u64 k)] K):Pw a k K:=by
 obtain⟨⟨aR,tH,iA⟩,ag⟩:=h;have gM:=aR.2
 obtain⟨s,rfl⟩:∃n:Nat,k=n:=⟨k.toNat,by omega⟩
 rw[apB]at ag;unfold Pw ai aX bY;have hq:IntKind.wrap .i64 ((Nat.cast:Nat->Int) a.length+1)=((a.length+1:Nat):Int):=by rw[bQ (by omega)];omega
 rw[hq];simp only[apB,show min s 64=s by omega]
 refine⟨by omega,by omega,by omega,fun i o=>bN o/\o.length=a.length+1/\0<=i/\i<=a.length/\val o=du a i.toNat*2^s/\(o.getD i.toNat 0).toNat<2^s/\∀p,i.toNat<p->o.getD p 0=0,
  fun i o=>a.length-i.toNat,⟨bN.nv _,by simp,by omega,by omega,by simp[iK,yS], ?_,fun p _=> ?_⟩, ?_⟩
 ·have:(List.replicate (a.length+1) (0:Int)).getD (Int.toNat 0) 0=0:=by simp
  rw[this];exact aqu s
 ·simp[apA,aq3];split<;>rfl
 rintro i o ⟨aF,gl,tG,lQ,aO,aC,bm⟩;refine⟨fun h=> ?_,fun h=> ?_⟩
 ·simp only[apE]at h
  obtain⟨n,rfl⟩:∃n:Nat,i=n:=⟨i.toNat,by omega⟩
  have az:IntKind.wrap .i64 ((n:Int)+1)=((n+1:Nat):Int):=by rw[bQ (by omega)];omega
  rw[az];simp only[apB,apL]at*;have a_:=aR.1 n;have ako:=aF n
  obtain⟨d,iS⟩:∃d:Nat,a.getD n 0=d:=⟨(a.getD n 0).toNat,by omega⟩
  obtain⟨c,vD⟩:∃d:Nat,o.getD n 0=d:=⟨(o.getD n 0).toNat,by omega⟩
  rw[iS]at a_⊢;rw[vD]at ako aC⊢;rw[apB]at aC;obtain⟨s1,s2,jo,lj⟩:=ZR (d:=d) (c:=c) (k:=s) (by omega) (by omega) aC;have jq:(2:Int)^s=((2^s:Nat):Int):=by simp
  have w1:IntKind.wrap .u64 (IntKind.wrap .u64 (d:Int)*(2:Int)^s)=((d*2^s:Nat):Int):=by
   rw[cT (x:=(d:Int)) (by omega),jq,<-aqJ,cT (by omega)]
  have dd:IntKind.wrap .u32 ((d*2^s:Nat):Int)=((d*2^s%4294967296:Nat):Int):=by rw[kg];omega
  have F4:2^s<=2^31:=aqg (by decide) (by omega);have TG:(2:Nat)^31=2147483648:=rfl
  have bY:IntKind.wrap .u32 (Int.fdiv ((d*2^s:Nat):Int) 4294967296)=((d*2^s/4294967296:Nat):Int):=by
   rw[aqf _ (by omega),ia (by omega)];omega
  rw[w1,dd,bY,jo]
  obtain⟨x,y,aj,bo,hdiv⟩:∃x y,d*2^s%4294967296=x/\d*2^s/4294967296=y/\4294967296*y+x=d*2^s:=⟨_,_,rfl,rfl,arc _ _⟩
  rw[aj,bo];rw[bo]at s2;rw[aj]at lj
  have nO:y<4294967296:=by
   rw[TG]at F4;have:=apW s2 F4;omega
  have gK:(0:Int)<=((x+c:Nat):Int)/\((x+c:Nat):Int)<4294967296:=⟨aqw _,by omega⟩;have ew:(0:Int)<=(y:Int)/\(y:Int)<4294967296:=⟨aqw _,by omega⟩;have hm:a.length-(n+1)<a.length-n:=by omega
  have F5:n+1<o.length:=by omega
  have F6:n<o.length:=by omega
  have EF:n+1<(o.set n ((x+c:Nat):Int)).length:=by rw[apL];exact F5
  have nw:(0:Int)<=(n:Int)/\(n:Int)<(a.length:Int)/\(0:Int)<=(s:Int)/\(0:Int)<=(n:Int)/\(n:Int)<(o.length:Int)/\(0:Int)<=(n:Int)/\(n:Int)<(o.length:Int)/\(0:Int)<=((n+1:Nat):Int)/\((n+1:Nat):Int)<(o.length:Int):=by omega
  have Sv:(0:Int)<=((n+1:Nat):Int)/\((n+1:Nat):Int)<=(a.length:Int):=by omega
  obtain⟨g1,g2,g3,g4,g5,g6,g7,g8,g9⟩:=nw;have v1:=l9 o n ((x+c:Nat):Int) F6;have v2:=l9 (o.set n ((x+c:Nat):Int)) (n+1) (y:Int) EF;have Ky:=bm (n+1) (Nat.lt_succ_self n);rw[eR,apy (fun h=>absurd h.1 (Nat.ne_of_lt (Nat.lt_succ_self n))),Ky,show Int.toNat 0=0 from rfl,ap0,apV,apB]at v2;rw[vD,apB,apB]at v1;refine⟨g1,g2,g3,g4,g5,g6,g7,g8,g9,⟨(aF.set _ gK).set _ ew,gl,Sv.1,Sv.2, ?_, ?_,fun p aE=> ?_⟩,hm⟩
  ·rw[ap6]at v2;rw[gA,iS,apB,apU,<-aO,aqb];exact abm v1 v2 hdiv
  ·rw[eR,apz ⟨rfl,EF⟩,apB];exact s2
  ·clear v1 v2 s1 s2 jo lj F4 TG w1 dd bY aO hdiv aj bo;rw[eR,apy (by omega),eR,apy (by omega)];exact bm p (by omega)
 ·simp only[apD]at h;obtain rfl:i=a.length:=by omega
  rw[apB,hI a (apF _)]at aO;rw[<-aO,<-gl,It _ aF rfl]at ag;exact ag
end aa
end
section
open Go Go.ak
namespace aa
def Qr:List Int->List Int->(R->Prop)->Prop:=
 fun(a b:List Int) (K:R->Prop)=>(0:Int)<=ai (aT b-(1:Int))/\ai (aT b-(1:Int))<aT b/\aa.L (List.getD b (Int.toNat (ai (aT b-(1:Int)))) (0:Int))/\∀(x:Int),x=(32:Int)-(Nat.cast:Nat->Int) (aa.da (Int.toNat (List.getD b (Int.toNat (ai (aT b-(1:Int)))) (0:Int))))->(aa.bF a/\(0:Int)<=aX x/\aX x<(32:Int))/\∀(a7:List Int),a7=aa.kk (aa.val a*(2:Nat)^Int.toNat (aX x)) (List.length a+(1:Nat))->(aa.bF b/\(0:Int)<=aX x/\aX x<(32:Int))/\∀(aW:List Int),aW=aa.kk (aa.val b*(2:Nat)^Int.toNat (aX x)) (List.length b+(1:Nat))->(aa.bN aW/\List.length aW<=(1000000000:Nat))/\∀(bn:List Int),bn=aa.aP (aa.val aW)->(0:Int)<=ai (aT bn-(1:Int))/\ai (aT bn-(1:Int))<aT bn/\(0:Int)<=ai (aT bn-(2:Int))/\ai (aT bn-(2:Int))<aT bn/\(0:Int)<=ai (aT a7-aT bn)/\ai (aT a7-aT bn)<=ai (aT a7-aT bn)/\ai (aT a7-aT bn)*(4:Int)<=(281474976710656:Int)/\∃(aQ:Int->List Int->List Int->Prop),∃(m:Int->List Int->List Int->Nat),((true,ae.af IntKind.u32 aW)=(true,ae.af IntKind.u32 aW)/\aQ (ai (aT (List.replicate (Int.toNat (ai (aT a7-aT bn))) (0:Int))-(1:Int))) a7 (List.replicate (Int.toNat (ai (aT a7-aT bn))) (0:Int)))/\∀(v12:Int) (au bx:List Int),aQ v12 au bx->(decide ((0:Int)<=v12)=true->(0:Int)<=ai (v12+aT bn)/\ai (v12+aT bn)<aT au/\(0:Int)<=ai (ai (v12+aT bn)-(1:Int))/\ai (ai (v12+aT bn)-(1:Int))<aT au/\¬aX (List.getD bn (Int.toNat (ai (aT bn-(1:Int)))) (0:Int))=(0:Int)/\¬aX (List.getD bn (Int.toNat (ai (aT bn-(1:Int)))) (0:Int))=(0:Int)/\∃(J:Int->Prop),(∃(aQ:Int->Int->Prop),∃(m:Int->Int->Nat),((false,ae.af IntKind.u32 au)=(false,ae.af IntKind.u32 au)/\(true,ae.af IntKind.u32 aW)=(true,ae.af IntKind.u32 aW)/\(false,ae.af IntKind.u32 bx)=(false,ae.af IntKind.u32 bx)/\aQ (aX (Int.tdiv (cN BinOp.or IntKind.u64 (aX (aX (List.getD au (Int.toNat (ai (v12+aT bn))) (0:Int))*(4294967296:Int))) (aX (List.getD au (Int.toNat (ai (ai (v12+aT bn)-(1:Int)))) (0:Int)))) (aX (List.getD bn (Int.toNat (ai (aT bn-(1:Int)))) (0:Int))))) (Int.tmod (cN BinOp.or IntKind.u64 (aX (aX (List.getD au (Int.toNat (ai (v12+aT bn))) (0:Int))*(4294967296:Int))) (aX (List.getD au (Int.toNat (ai (ai (v12+aT bn)-(1:Int)))) (0:Int)))) (aX (List.getD bn (Int.toNat (ai (aT bn-(1:Int)))) (0:Int)))))/\∀(dr bV:Int),aQ dr bV->((!decide (Int.fdiv dr (4294967296:Int)=(0:Int)))=true->((!decide (Int.fdiv (aX (bV+aX (List.getD bn (Int.toNat (ai (aT bn-(1:Int)))) (0:Int)))) (4294967296:Int)=(0:Int)))=true->(false,ae.af IntKind.u32 au)=(false,ae.af IntKind.u32 au)/\(true,ae.af IntKind.u32 aW)=(true,ae.af IntKind.u32 aW)/\(false,ae.af IntKind.u32 bx)=(false,ae.af IntKind.u32 bx)/\J (aX (dr-(1:Int))))/\((!decide (Int.fdiv (aX (bV+aX (List.getD bn (Int.toNat (ai (aT bn-(1:Int)))) (0:Int)))) (4294967296:Int)=(0:Int)))=false->(false,ae.af IntKind.u32 au)=(false,ae.af IntKind.u32 au)/\(true,ae.af IntKind.u32 aW)=(true,ae.af IntKind.u32 aW)/\(false,ae.af IntKind.u32 bx)=(false,ae.af IntKind.u32 bx)/\aQ (aX (dr-(1:Int))) (aX (bV+aX (List.getD bn (Int.toNat (ai (aT bn-(1:Int)))) (0:Int))))/\m (aX (dr-(1:Int))) (aX (bV+aX (List.getD bn (Int.toNat (ai (aT bn-(1:Int)))) (0:Int))))<m dr bV))/\((!decide (Int.fdiv dr (4294967296:Int)=(0:Int)))=false->(0:Int)<=ai (ai (v12+aT bn)-(2:Int))/\ai (ai (v12+aT bn)-(2:Int))<aT au/\(decide (cN BinOp.or IntKind.u64 (aX (bV*(4294967296:Int))) (aX (List.getD au (Int.toNat (ai (ai (v12+aT bn)-(2:Int)))) (0:Int)))<aX (dr*aX (List.getD bn (Int.toNat (ai (aT bn-(2:Int)))) (0:Int))))=true->((!decide (Int.fdiv (aX (bV+aX (List.getD bn (Int.toNat (ai (aT bn-(1:Int)))) (0:Int)))) (4294967296:Int)=(0:Int)))=true->(false,ae.af IntKind.u32 au)=(false,ae.af IntKind.u32 au)/\(true,ae.af IntKind.u32 aW)=(true,ae.af IntKind.u32 aW)/\(false,ae.af IntKind.u32 bx)=(false,ae.af IntKind.u32 bx)/\J (aX (dr-(1:Int))))/\((!decide (Int.fdiv (aX (bV+aX (List.getD bn (Int.toNat (ai (aT bn-(1:Int)))) (0:Int)))) (4294967296:Int)=(0:Int)))=false->(false,ae.af IntKind.u32 au)=(false,ae.af IntKind.u32 au)/\(true,ae.af IntKind.u32 aW)=(true,ae.af IntKind.u32 aW)/\(false,ae.af IntKind.u32 bx)=(false,ae.af IntKind.u32 bx)/\aQ (aX (dr-(1:Int))) (aX (bV+aX (List.getD bn (Int.toNat (ai (aT bn-(1:Int)))) (0:Int))))/\m (aX (dr-(1:Int))) (aX (bV+aX (List.getD bn (Int.toNat (ai (aT bn-(1:Int)))) (0:Int))))<m dr bV))/\(decide (cN BinOp.or IntKind.u64 (aX (bV*(4294967296:Int))) (aX (List.getD au (Int.toNat (ai (ai (v12+aT bn)-(2:Int)))) (0:Int)))<aX (dr*aX (List.getD bn (Int.toNat (ai (aT bn-(2:Int)))) (0:Int))))=false->(false,ae.af IntKind.u32 au)=(false,ae.af IntKind.u32 au)/\(true,ae.af IntKind.u32 aW)=(true,ae.af IntKind.u32 aW)/\(false,ae.af IntKind.u32 bx)=(false,ae.af IntKind.u32 bx)/\J dr)))/\∀(dr:Int),J dr->∃(fu:Int->Int->Int->List Int->List Int->Prop),∃(fb:Int->Int->Int->List Int->List Int->Nat),((true,ae.af IntKind.u32 aW)=(true,ae.af IntKind.u32 aW)/\fu (0:Int) (0:Int) (0:Int) au bx)/\∀(nh fG iy:Int) (bw xC:List Int),fu nh fG iy bw xC->(decide (iy<aT bn)=true->(0:Int)<=iy/\iy<aT bn/\(0:Int)<=ai (v12+iy)/\ai (v12+iy)<aT bw/\(0:Int)<=ai (v12+iy)/\ai (v12+iy)<aT bw/\(true,ae.af IntKind.u32 aW)=(true,ae.af IntKind.u32 aW)/\fu (Int.fdiv (aX (aX (aX (List.getD bw (Int.toNat (ai (v12+iy))) (0:Int))-cN BinOp.and IntKind.u64 (aX (fG+aX (dr*aX (List.getD bn (Int.toNat iy) (0:Int))))) (4294967295:Int))-nh)) (9223372036854775808:Int)) (Int.fdiv (aX (fG+aX (dr*aX (List.getD bn (Int.toNat iy) (0:Int))))) (4294967296:Int)) (ai (iy+(1:Int))) (List.set bw (Int.toNat (ai (v12+iy))) (bY (aX (aX (aX (List.getD bw (Int.toNat (ai (v12+iy))) (0:Int))-cN BinOp.and IntKind.u64 (aX (fG+aX (dr*aX (List.getD bn (Int.toNat iy) (0:Int))))) (4294967295:Int))-nh)))) xC/\fb (Int.fdiv (aX (aX (aX (List.getD bw (Int.toNat (ai (v12+iy))) (0:Int))-cN BinOp.and IntKind.u64 (aX (fG+aX (dr*aX (List.getD bn (Int.toNat iy) (0:Int))))) (4294967295:Int))-nh)) (9223372036854775808:Int)) (Int.fdiv (aX (fG+aX (dr*aX (List.getD bn (Int.toNat iy) (0:Int))))) (4294967296:Int)) (ai (iy+(1:Int))) (List.set bw (Int.toNat (ai (v12+iy))) (bY (aX (aX (aX (List.getD bw (Int.toNat (ai (v12+iy))) (0:Int))-cN BinOp.and IntKind.u64 (aX (fG+aX (dr*aX (List.getD bn (Int.toNat iy) (0:Int))))) (4294967295:Int))-nh)))) xC<fb nh fG iy bw xC)/\(decide (iy<aT bn)=false->(0:Int)<=ai (v12+aT bn)/\ai (v12+aT bn)<aT bw/\(0:Int)<=ai (v12+aT bn)/\ai (v12+aT bn)<aT bw/\∃(J:Int->List Int->List Int->Prop),(((!decide (Int.fdiv (aX (aX (aX (List.getD bw (Int.toNat (ai (v12+aT bn))) (0:Int))-fG)-nh)) (9223372036854775808:Int)=(0:Int)))=true->∃(aQ:Int->Int->List Int->List Int->Prop),∃(m:Int->Int->List Int->List Int->Nat),((true,ae.af IntKind.u32 aW)=(true,ae.af IntKind.u32 aW)/\aQ (0:Int) (0:Int) (List.set bw (Int.toNat (ai (v12+aT bn))) (bY (aX (aX (aX (List.getD bw (Int.toNat (ai (v12+aT bn))) (0:Int))-fG)-nh)))) xC)/\∀(fG jg:Int) (au bx:List Int),aQ fG jg au bx->(decide (jg<aT bn)=true->(0:Int)<=jg/\jg<aT bn/\(0:Int)<=ai (v12+jg)/\ai (v12+jg)<aT au/\(0:Int)<=ai (v12+jg)/\ai (v12+jg)<aT au/\(true,ae.af IntKind.u32 aW)=(true,ae.af IntKind.u32 aW)/\aQ (Int.fdiv (aX (fG+aX (aX (List.getD au (Int.toNat (ai (v12+jg))) (0:Int))+aX (List.getD bn (Int.toNat jg) (0:Int))))) (4294967296:Int)) (ai (jg+(1:Int))) (List.set au (Int.toNat (ai (v12+jg))) (bY (aX (fG+aX (aX (List.getD au (Int.toNat (ai (v12+jg))) (0:Int))+aX (List.getD bn (Int.toNat jg) (0:Int))))))) bx/\m (Int.fdiv (aX (fG+aX (aX (List.getD au (Int.toNat (ai (v12+jg))) (0:Int))+aX (List.getD bn (Int.toNat jg) (0:Int))))) (4294967296:Int)) (ai (jg+(1:Int))) (List.set au (Int.toNat (ai (v12+jg))) (bY (aX (fG+aX (aX (List.getD au (Int.toNat (ai (v12+jg))) (0:Int))+aX (List.getD bn (Int.toNat jg) (0:Int))))))) bx<m fG jg au bx)/\(decide (jg<aT bn)=false->(0:Int)<=ai (v12+aT bn)/\ai (v12+aT bn)<aT au/\(0:Int)<=ai (v12+aT bn)/\ai (v12+aT bn)<aT au/\(true,ae.af IntKind.u32 aW)=(true,ae.af IntKind.u32 aW)/\J (aX (dr-(1:Int))) (List.set au (Int.toNat (ai (v12+aT bn))) (bY (List.getD au (Int.toNat (ai (v12+aT bn))) (0:Int)+bY fG))) bx))/\((!decide (Int.fdiv (aX (aX (aX (List.getD bw (Int.toNat (ai (v12+aT bn))) (0:Int))-fG)-nh)) (9223372036854775808:Int)=(0:Int)))=false->(true,ae.af IntKind.u32 aW)=(true,ae.af IntKind.u32 aW)/\J dr (List.set bw (Int.toNat (ai (v12+aT bn))) (bY (aX (aX (aX (List.getD bw (Int.toNat (ai (v12+aT bn))) (0:Int))-fG)-nh)))) xC))/\∀(dr:Int) (ef Fq:List Int),J dr ef Fq->(0:Int)<=v12/\v12<aT Fq/\(true,ae.af IntKind.u32 aW)=(true,ae.af IntKind.u32 aW)/\aQ (ai (v12-(1:Int))) ef (List.set Fq (Int.toNat v12) (bY dr))/\m (ai (v12-(1:Int))) ef (List.set Fq (Int.toNat v12) (bY dr))<m v12 au bx))/\(decide ((0:Int)<=v12)=false->(0:Int)<=aT bn/\aT bn<=aT bn/\aT bn*(4:Int)<=(281474976710656:Int)/\∃(aQ:Int->List Int->List Int->List Int->Prop),∃(m:Int->List Int->List Int->List Int->Nat),((true,ae.af IntKind.u32 aW)=(true,ae.af IntKind.u32 aW)/\aQ (0:Int) au bx (List.replicate (Int.toNat (aT bn)) (0:Int)))/\∀(kl:Int) (au bx cH:List Int),aQ kl au bx cH->(decide (kl<aT bn)=true->(0:Int)<=ai (kl+(1:Int))/\ai (kl+(1:Int))<aT au/\(0:Int)<=kl/\kl<aT au/\(0:Int)<=aX x/\(0:Int)<=kl/\kl<aT cH/\(true,ae.af IntKind.u32 aW)=(true,ae.af IntKind.u32 aW)/\aQ (ai (kl+(1:Int))) au bx (List.set cH (Int.toNat kl) (bY (Int.fdiv (cN BinOp.or IntKind.u64 (aX (aX (List.getD au (Int.toNat (ai (kl+(1:Int)))) (0:Int))*(4294967296:Int))) (aX (List.getD au (Int.toNat kl) (0:Int)))) ((2:Int)^min (Int.toNat (aX x)) (64:Nat)))))/\m (ai (kl+(1:Int))) au bx (List.set cH (Int.toNat kl) (bY (Int.fdiv (cN BinOp.or IntKind.u64 (aX (aX (List.getD au (Int.toNat (ai (kl+(1:Int)))) (0:Int))*(4294967296:Int))) (aX (List.getD au (Int.toNat kl) (0:Int)))) ((2:Int)^min (Int.toNat (aX x)) (64:Nat)))))<m kl au bx cH)/\(decide (kl<aT bn)=false->(aa.bN bx/\List.length bx<=(1000000000:Nat))/\∀(x:List Int),x=aa.aP (aa.val bx)->(aa.bN cH/\List.length cH<=(1000000000:Nat))/\∀(b9:List Int),b9=aa.aP (aa.val cH)->K (R.tup [R.d (U.af IntKind.u32 x),R.d (U.af IntKind.u32 b9)])))
end aa
end
section
open Go Go.ak
namespace aa
def lm (a:List Int)(i:Nat):Nat:=(a.getD i 0).toNat
theorem ix {a:List Int}(h:bN a)(i:Nat):a.getD i 0=(lm a i:Int):=by
 have:=h i;unfold lm;omega
theorem fT {a:List Int}(h:bN a)(i:Nat):lm a i<4294967296:=by
 have:=h i;unfold lm;omega
theorem mm (a:List Int)(i:Nat):eu a i=lm a i+4294967296*eu a (i+1):=oa a i
theorem H6 {a:List Int}(h:bN a)(i m:Nat):∃l,eu a i=l+4294967296^m*eu a (i+m)/\l<4294967296^m:=by
 refine⟨du (a.drop i) m, ?_,rH (h.drop i) m⟩;have:=ml (a.drop i) m;unfold eu at this⊢;rw[List.drop_drop]at this;exact this
theorem IT {a:List Int}(h:bN a)(i:Nat):val a/4294967296^i=eu a i:=by
 rw[ml a i,Nat.add_mul_div_left _ _ (Nat.pow_pos (by decide)),ard (rH h i),ap3]
theorem H7 {a:List Int}{i V:Nat}(aO:val a<4294967296^i*V):eu a i<V:=by
 have:=ml a i;refine aqY (a:=4294967296^i) ?_;omega
theorem xs {u l b:Int}(hu:0<=u/\u<4294967296)(ax:0<=l/\l<4294967296)(ah:0<=b/\b<=1):
 Int.fdiv (IntKind.wrap .u64 (IntKind.wrap .u64 (IntKind.wrap .u64 u-l)-b)) 9223372036854775808=(if u-l-b<0 then 1 else 0)/\
 IntKind.wrap .u32 (IntKind.wrap .u64 (IntKind.wrap .u64 (IntKind.wrap .u64 u-l)-b))=(u-l-b)%4294967296:=by
 rw[I2 u,I2,I2,kg,aqf _ (by omega)];refine⟨?_,by omega⟩;split<;>omega
theorem Sw {p:Nat}(aE:p<18446744073709551616):cN .and .u64 (p:Int) 4294967295=((p%4294967296:Nat):Int):=by
 have az:((BitVec.ofInt 64 (p:Int))&&&(BitVec.ofInt 64 4294967295)).toNat=p%4294967296:=by
  have:(4294967295:Int)=((2^32-1:Nat):Int):=rfl;rw[this,BitVec.toNat_and,arw,arw,arN,arN,aqt (by omega),aqt (by omega),Nat.and_two_pow_sub_one_eq_mod]
 show IntKind.wrap .u64 _=_;have aJ:((BitVec.ofInt (IntKind.u64).bits (p:Int))&&&(BitVec.ofInt (IntKind.u64).bits 4294967295)).toNat=p%4294967296:=az;have:p%4294967296<4294967296:=aqh _ (by decide);rw[aJ,cT (by omega)]
theorem I4 {h l:Nat}(b5:h<4294967296)(ax:l<4294967296):cN .or .u64 (IntKind.wrap .u64 (IntKind.wrap .u64 (h:Int)*4294967296)) (IntKind.wrap .u64 (l:Int))=((h*4294967296+l:Nat):Int):=by
 rw[cT (x:=(h:Int)) (by omega),cT (x:=(h:Int)*4294967296) (by omega),cT (x:=(l:Int)) (by omega),zR ⟨by omega,by omega⟩ ⟨by omega,by omega⟩];omega
theorem NM {iu kD A k:Nat}(ag:k<32):(kD*4294967296+iu)/2^k%4294967296=(iu+4294967296*(kD+4294967296*A))/2^k%4294967296:=by
 have aE:=aqu k
 have ab:iu+4294967296*(kD+4294967296*A)=kD*4294967296+iu+2^k*(4294967296*(2^(32-k)*A)):=by
  have e:2^k*(4294967296*(2^(32-k)*A))=4294967296*(4294967296*A):=by
   have aJ:2^k*2^(32-k)=4294967296:=by rw[<-aqi,show k+(32-k)=32 by omega]
   rw[aqC,<-aqb (2^k),aJ]
  rw[e];omega
 rw[ab,Nat.add_mul_div_left _ _ aE,Nat.add_mul_mod_self_left]
theorem Qs {b:List Int}(ah:bN b)(aB:Norm b)(ad:2<=b.length):
 0<lm b (b.length-1)/\da (lm b (b.length-1))<=32/\0<da (lm b (b.length-1))/\
 val b*2^(32-da (lm b (b.length-1)))<4294967296^b.length/\2147483648*4294967296^(b.length-1)<=val b*2^(32-da (lm b (b.length-1))):=by
 have pD:lm b (b.length-1)≠0:=fun bc=>by
  apply aB;have aA:=ah (b.length-1);unfold lm at bc;have ba:b.getD (b.length-1) 0=0:=by omega
  rw[List.getLast?_eq_getElem?];rw[apA,apT (by omega)]at ba;rw[apT (by omega)];exact aqd some ba
 have bL:=fT ah (b.length-1);have akp:=w4 (n:=lm b (b.length-1)) (k:=32) (by omega);obtain⟨ch,df,iD⟩:=wA pD;have aO:=ml b (b.length-1);have nJ:=rH ah (b.length-1);rw[mm,show b.length-1+1=b.length by omega,o7 b (apF _),ap0,apV]at aO;refine⟨by omega,akp,iD, ?_, ?_⟩
 ·have bJ:val b<4294967296^(b.length-1)*2^da (lm b (b.length-1)):=by
   have:=apY (4294967296^(b.length-1)) (show lm b (b.length-1)+1<=2^da (lm b (b.length-1)) by omega);rw[apN,ap8]at this;omega
  have cu:=arO bJ (aqu (32-da (lm b (b.length-1))));rw[aqb,<-aqi,show da (lm b (b.length-1))+(32-da (lm b (b.length-1)))=32 by omega]at cu
  have gO:4294967296^b.length=4294967296^(b.length-1)*2^32:=by
   have:b.length=b.length-1+1:=by omega
   rw[this,ap6];rfl
  rw[gO];exact cu
 ·have bJ:4294967296^(b.length-1)*2^(da (lm b (b.length-1))-1)<=val b:=by
   have:=apY (4294967296^(b.length-1)) ch;omega
  have cu:=apP (2^(32-da (lm b (b.length-1)))) bJ;rw[aqb,<-aqi,show da (lm b (b.length-1))-1+(32-da (lm b (b.length-1)))=31 by omega]at cu;rw[aqa 2147483648];exact cu
structure ana (u v:List Int)(n j V F t s iZ D:Nat)(p lv l1:Nat):Prop where
 hE:V=lv+p*(s+4294967296*t)
 oM:D=l1+p*(iZ+4294967296*F)
 r7:lv<p
 qN:l1<p
 aw:0<t
 tv:t<4294967296
 ay:s<4294967296
 vH:iZ<4294967296
 x1:D<4294967296*V
 ua:F<t*4294967296+4294967296
theorem Rz {u v:List Int}{n j V:Nat}(hu:bN u)(aO:bN v)(nP:v.length=n)(aB:2<=n)(hE:val v=V)(pH:2147483648*4294967296^(n-1)<=V)(bL:val u<4294967296^(j+1)*V):
 ∃p lv l1,ana u v n j V (lm u (j+n)*4294967296+lm u (j+n-1)) (lm v (n-1)) (lm v (n-2)) (lm u (j+n-2)) (eu u j) p lv l1:=by
 obtain⟨lv,az,aJ⟩:=H6 aO 0 (n-2);obtain⟨l1,f1,f2⟩:=H6 hu j (n-2);have ao0:=H7 bL;have Kx:V<4294967296^n:=by rw[<-hE,<-nP];exact iM aO
 rw[zC,hE,ap3,mm,show n-2+1=n-1 by omega,mm,show n-1+1=n by omega,o7 v (by omega),ap0,apV]at az
 have bm:eu u (j+n+1)=0:=by
  have ab:val u<4294967296^(j+n+1)*1:=by
   rw[ap8,show j+n+1=j+1+n by omega,aqi];exact apW bL (apY _ (Nat.le_of_lt Kx))
  have:=H7 ab;omega
 have g1:eu u (j+(n-2))=lm u (j+n-2)+4294967296*(lm u (j+n)*4294967296+lm u (j+n-1)):=by
  rw[mm u (j+(n-2)),show j+(n-2)+1=j+n-1 by omega,mm u (j+n-1),show j+n-1+1=j+n by omega,mm u (j+n),bm,show j+(n-2)=j+n-2 by omega];omega
 have x1:eu u j<4294967296*V:=by
  have:=mm u j;have:=fT hu j;omega
 have akq:0<lm v (n-1):=by
  rcases aq7 (lm v (n-1))with bc|bc
  ·exfalso;rw[bc]at az;have ay:=fT aO (n-2)
   have aA:4294967296^(n-2)*(lm v (n-2)+4294967296*0)+4294967296^(n-2)<=4294967296^(n-2)*4294967296:=by
    have:=apY (4294967296^(n-2)) (show lm v (n-2)+4294967296*0+1<=4294967296 by omega);rw[apN _ _ 1,ap8]at this;exact this
   rw[<-ap6,show(n-2).succ=n-1 by omega]at aA;have:1*4294967296^(n-1)<=2147483648*4294967296^(n-1):=apP _ (by decide);omega
  ·exact bc
 refine⟨4294967296^(n-2),lv,l1,az,by rw[f1,g1],aJ,f2,akq,fT aO _,fT aO _,fT hu _,x1, ?_⟩;have ba:eu u (j+1)=eu u (j+1):=rfl;obtain⟨de,aY,bj⟩:=H6 hu (j+1) (n-1);rw[show j+1+(n-1)=j+n by omega,mm u (j+n),bm,ap0,apV (lm u (j+n))]at aY
 have ao1:V<4294967296^(n-1)*(lm v (n-1)+1):=by
  have bX:V+4294967296^(n-2)*1<=4294967296^(n-2)*(4294967296*(lm v (n-1)+1))+lv:=by
   have:=apY (4294967296^(n-2)) (show lm v (n-2)+4294967296*lm v (n-1)+1<=4294967296*(lm v (n-1)+1) by have:=fT aO (n-2);omega);rw[apN _ _ 1]at this;omega
  have cW:4294967296^(n-1)*(lm v (n-1)+1)=4294967296^(n-2)*(4294967296*(lm v (n-1)+1)):=by
   rw[show n-1=n-2+1 by omega,ap6,aqb]
  rw[cW];omega
 have bJ:lm u (j+n)<lm v (n-1)+1:=by
  refine aqY (a:=4294967296^(n-1)) ?_;omega
 have:=fT hu (j+n-1);have:lm u (j+n)*4294967296<=lm v (n-1)*4294967296:=apP _ (by omega);omega
theorem IU {h l:Nat}(b5:h<4294967296)(ax:l<4294967296):cN .or .u64 (IntKind.wrap .u64 ((h:Int)*4294967296)) (IntKind.wrap .u64 (l:Int))=((h*4294967296+l:Nat):Int):=by
 rw[cT (x:=(h:Int)*4294967296) (by omega),cT (x:=(l:Int)) (by omega),zR ⟨by omega,by omega⟩ ⟨by omega,by omega⟩];omega
theorem RA {t_ tZ gw w A fm st VN C B S:Nat}(a1:t_+w*fm=tZ+w*st)(a2:tZ+A=gw+w*(C+B))(a3:st+VN+(C+B)=fm+4294967296*S):t_+(A+w*VN)=gw+w*(4294967296*S):=by
 have h:=aqd (w*·) a3;simp only[apN]at h a2⊢;omega
theorem RB {VO VP v2 w A fm st d C T:Nat}(a1:VP+w*fm=VO+w*st)(a2:VO+w*C=v2+A)(a3:st+4294967296*T=C+fm+d):VP+w*(4294967296*T)=v2+(A+w*d):=by
 have h:=aqd (w*·) a3;simp only[apN]at h;omega
theorem aej {v1 v2 gw w y C B G V dD l D:Nat}(e:v1+dD*(G*V)=gw+w*(C+B))(ay:v2+w*y=v1+w*(y-C-B))(bo:C+B<=y)(oA:gw=l+dD*D)(ax:l<dD)(r8:D<(G+1)*V):
 v2+dD*(G*V)=gw/\v2<dD*V:=by
 have ab:w*y=w*(y-C-B)+w*(C+B):=by rw[<-apN];congr 1;omega
 have ad:v2+dD*(G*V)=gw:=by omega
 refine⟨ad, ?_⟩;have aA:=apY dD (show D+1<=(G+1)*V from r8);rw[apU,aqO,apN,apN,ap8]at aA;omega
theorem aek {v1 v2 gw w y C B G V dD l D:Nat}(e:v1+dD*(G*V)=gw+w*(C+B))(ay:v2+w*y=v1+w*(y+4294967296-C-B))(_:y<C+B)(mK:C+B<=4294967296)(ad:v2<w*4294967296)(oA:gw=l+dD*D)(AU:G*V<=D+V):
 v2+dD*(G*V)=gw+w*4294967296/\1<=G/\gw<dD*(G*V)/\dD*((G-1)*V)<=gw/\dD*(G*V)=dD*((G-1)*V)+dD*V:=by
 have ab:w*(y+4294967296-C-B)+w*(C+B)=w*y+w*4294967296:=by rw[<-apN,<-apN];congr 1;omega
 have aA:v2+dD*(G*V)=gw+w*4294967296:=by omega
 have ir:1<=G:=by
  rcases aq7 G with bc|bc
  ·rw[bc,aqI,ap0]at aA;omega
  ·exact bc
 have ba:G*V=(G-1)*V+V:=by rw[<-Nat.succ_mul];congr 1;omega
 have bJ:dD*(G*V)=dD*((G-1)*V)+dD*V:=by rw[ba,apN]
 refine⟨aA,ir,by omega, ?_,bJ⟩;have cu:(G-1)*V<=D:=by omega
 have:=apY dD cu;omega
theorem acW {v2 v3 v4 gw w y C G V dD low:Nat}(aA:v2+dD*(G*V)=gw+w*4294967296)(bJ:dD*(G*V)=dD*((G-1)*V)+dD*V)(cu:dD*((G-1)*V)<=gw)(gO:gw<dD*(G*V))
 (aR:v3+w*C=v2+dD*V) (Jv:v3=low+w*y) (ax:low<w) (bo:y<4294967296) (mK:C<=1) (ay:v4+w*y=v3):
 y+C=4294967296/\v4+dD*((G-1)*V)=gw/\v4<dD*V:=by
 have dq:v3+w*C+dD*((G-1)*V)=gw+w*4294967296:=by omega
 have mG:y+C=4294967296:=by
  refine Nat.le_antisymm (by omega) (Nat.le_of_not_lt fun bL=> ?_);have:=apY w (show y+C+1<=4294967296 by omega);rw[apN,apN,ap8]at this;omega
 have FM:w*y+w*C=w*4294967296:=by rw[<-apN,mG]
 refine⟨mG,by omega,by omega⟩
end aa
end
section
open Go Go.ak
namespace aa
structure akr (u c2:List Int)(j n V Q:Nat):Prop where
 UH:bN c2
 len:c2.length=u.length
 aks:Q<4294967296
 eq:val c2+4294967296^j*(Q*V)=val u
 lt:val c2<4294967296^j*V
set_option maxHeartbeats 1000000 in
theorem ael (a b:List Int)(K:R->Prop)(h:Ew.T [.d (.af .u32 a), .d (.af .u32 b)] K):Qr a b K:=by
 obtain⟨⟨aR,ah,tC,vB,ew,hle⟩,ag⟩:=h;have gM:=aR.2;have k_:=ah.2;obtain⟨fg,hX,ym,nr,oP⟩:=Qs ah.1 vB ew;unfold Qr ai aX bY aT;have az:IntKind.wrap .i64 ((Nat.cast:Nat->Int) b.length-1)=((b.length-1:Nat):Int):=by rw[bQ (by omega)];omega
 rw[az,apB,ix ah.1,apB];have Kz:=fT ah.1 (b.length-1);refine⟨by omega,by omega,⟨by omega,by omega⟩, ?_⟩;rintro x rfl
 obtain⟨k,tH⟩:∃k,32-da (lm b (b.length-1))=k:=⟨_,rfl⟩
 rw[tH]at nr oP;have Fs:k<32:=by omega
 have aJ:IntKind.wrap .u64 (32-(da (lm b (b.length-1)):Int))=(k:Int):=by rw[cT (by omega)];omega
 rw[aJ];simp only[apB]
 have KA:2^k<=2147483648:=by
  have:=aqg (show 0<2 by decide) (show k<=31 by omega);exact this
 have I5:4294967296^(b.length-1)<=val b:=by
  have ab:=ml b (b.length-1);rw[mm]at ab;have ad:=apY (4294967296^(b.length-1)) (show 1<=lm b (b.length-1)+4294967296*eu b (b.length-1+1) by omega);omega
 have hlen:b.length<=a.length:=by
  have ab:=iM aR.1;have ad:4294967296^(b.length-1)<4294967296^a.length:=by omega
  have:=(Nat.pow_lt_pow_iff_right (by decide:1<4294967296)).1 ad;omega
 refine⟨⟨aR,by omega,by omega⟩, ?_⟩;rintro iu tI;refine⟨⟨ah,by omega,by omega⟩, ?_⟩;rintro v0 jk
 have xD:val v0=val b*2^k:=by
  rw[jk];refine y4 _ _ (apW nr (aqg (by decide) (by omega)))
 have ti:val iu=val a*2^k:=by
  rw[tI];refine y4 _ _ ?_;rw[ap6];exact Nat.mul_lt_mul'' (iM aR.1) (by omega)
 have Jw:bN iu:=tI▸y3 _ _;have Ft:bN v0:=jk▸y3 _ _;have TH:iu.length=a.length+1:=by rw[tI,wS]
 have TI:v0.length=b.length+1:=by rw[jk,wS]
 refine⟨⟨Ft,by omega⟩, ?_⟩;rintro v aO;have pI:val v=val b*2^k:=by rw[aO,eh,xD]
 have oB:bN v:=aO▸gz _
 have nP:v.length=b.length:=by
  rw[aO,xD];refine Nat.le_antisymm (h0.2 nr) ?_;refine Nat.le_of_not_lt fun aj=> ?_;have ab:=h0.1 (show(aP (val b*2^k)).length<=b.length-1 by omega);have ad:1*4294967296^(b.length-1)<=2147483648*4294967296^(b.length-1):=apP _ (by decide);omega
 have j4:val a/val b=val iu/val v:=by rw[ti,pI,Nat.mul_div_mul_right _ _ (aqu k)]
 have ig:(val a%val b)*2^k=val iu%val v:=by rw[ti,pI,Nat.mul_mod_mul_right]
 have aoA:0<val b:=apW (Nat.pow_pos (by decide)) I5;have pH:2147483648*4294967296^(b.length-1)<=val v:=by rw[pI];exact oP
 have tJ:val v<4294967296^b.length:=by rw[pI];exact nr
 have Bt:val iu<4294967296^(a.length+1-b.length)*val v:=by
  rw[ti];have ab:val a*2^k<4294967296^a.length*2147483648:=apW (arO (iM aR.1) (aqu k)) (apY _ KA);have ad:=apY (4294967296^(a.length+1-b.length)) pH;rw[aqC,<-aqi,show a.length+1-b.length+(b.length-1)=a.length by omega,aqa 2147483648]at ad;exact apW ab ad
 rw[nP,TH];clear aO tI jk pI ti xD nr oP I5 hle aJ az tH fg hX ym Kz Ft TI
 obtain⟨m,hm⟩:∃m,a.length+1-b.length=m:=⟨_,rfl⟩
 obtain⟨n,aB⟩:∃n,b.length=n:=⟨_,rfl⟩
 have akt:1<=m:=by omega
 rw[hm]at Bt;rw[aB]at pH tJ nP ew hlen⊢;have cW:IntKind.wrap .i64 ((n:Int)-1)=((n-1:Nat):Int):=by rw[bQ (by omega)];omega
 have gY:IntKind.wrap .i64 ((n:Int)-2)=((n-2:Nat):Int):=by rw[bQ (by omega)];omega
 have jn:IntKind.wrap .i64 (((a.length+1:Nat):Int)-(n:Int))=(m:Int):=by rw[bQ (by omega)];omega
 rw[cW,gY,jn];simp only[apB,arq]
 refine⟨by omega,by omega,by omega,by omega,by omega,by omega,by omega,fun j u q=>-1<=j/\j<m/\bN u/\u.length=m+n/\bN q/\q.length=m/\val iu=val q*val v+val u/\val u<4294967296^(j+1).toNat*val v/\∀p:Nat,(p:Int)<=j->q.getD p 0=0,
  fun j u q=>(j+1).toNat,⟨by first|rfl|trivial, ?_⟩, ?_⟩
 ·rw[bQ (by omega)];refine⟨by omega,by omega,Jw,by omega,bN.nv _,by simp,by rw[yS,aqI,ap3], ?_,fun p _=>by simp[apA,aq3];split<;>rfl⟩;rw[show((m:Int)-1+1).toNat=m by omega];exact Bt
 rintro j u q ⟨xK,ks,hu,nG,a6,xP,heq,bL,AV⟩;refine⟨fun aI=> ?_,fun aI=> ?_⟩
 ·simp only[apE]at aI
  obtain⟨j,rfl⟩:∃i:Nat,j=i:=⟨j.toNat,by omega⟩
  rw[show((j:Int)+1).toNat=j+1 by omega]at bL;have mI:IntKind.wrap .i64 ((j:Int)+(n:Int))=((j+n:Nat):Int):=by rw[bQ (by omega)];omega
  have l0:IntKind.wrap .i64 (((j+n:Nat):Int)-1)=((j+n-1:Nat):Int):=by rw[bQ (by omega)];omega
  have qS:IntKind.wrap .i64 (((j+n:Nat):Int)-2)=((j+n-2:Nat):Int):=by rw[bQ (by omega)];omega
  rw[mI,l0,qS];simp only[apB];obtain⟨p,lv,l1,a_⟩:=Rz (j:=j) hu oB nP ew rfl pH bL;simp only[ix hu,ix oB,I4 (fT hu (j+n)) (fT hu (j+n-1))];have F7:IntKind.wrap .u64 ((lm v (n-1):Nat):Int)=((lm v (n-1):Nat):Int):=cT (by have:=a_.tv;omega);have F8:IntKind.wrap .u64 ((lm v (n-2):Nat):Int)=((lm v (n-2):Nat):Int):=cT (by have:=a_.ay;omega);simp only[F7,F8]
  obtain⟨F,AW⟩:∃F,lm u (j+n)*4294967296+lm u (j+n-1)=F:=⟨_,rfl⟩
  rw[AW]at a_;simp only[AW]
  have oM:∃D,eu u j=D:=⟨_,rfl⟩
  obtain⟨D,AX⟩:=oM;rw[AX]at a_
  obtain⟨t,r9⟩:∃t,lm v (n-1)=t:=⟨_,rfl⟩
  obtain⟨s,qO⟩:∃s,lm v (n-2)=s:=⟨_,rfl⟩
  obtain⟨iZ,Ag⟩:∃s,lm u (j+n-2)=s:=⟨_,rfl⟩
  rw[r9,qO,Ag]at a_;rw[r9]at F7;rw[qO]at F8;simp only[r9,qO,Ag];obtain⟨hE,pJ,r7,qN,aw,tv,ay,vH,x1,ua⟩:=a_;have Lh:Int.tdiv (F:Int) (t:Int)=((F/t:Nat):Int):=by rw[ar4 (by omega),aru]
  have Li:Int.tmod (F:Int) (t:Int)=((F%t:Nat):Int):=by rw[arL (by omega),arM]
  simp only[Lh,Li];have aku:F<18446744073709551616:=by omega
  have KB:F/t<=F:=arZ _ _;have akv:F%t<t:=aqh _ aw
  have ub:∀si:Nat,si<=F->IntKind.wrap .u64 (si:Int)=(si:Int):=fun si h=>cT (by omega)
  simp only[ub _ KB];refine⟨by omega,by omega,by omega,by omega,by omega,by omega,fun g=>∃G:Nat,g=G/\G<4294967296/\D<(G+1)*val v/\G*val v<=D+val v, ?_, ?_⟩
  ·refine⟨fun g r=>∃G bC:Nat,g=G/\r=bC/\t*G+bC=F/\bC<4294967296/\D<(G+1)*val v,fun g r=>g.toNat,⟨by first|rfl|trivial,by first|rfl|trivial,by first|rfl|trivial,F/t,F%t,rfl,rfl,arc F t,by omega, ?_⟩, ?_⟩
   ·rw[pJ,hE];exact(Qp (lv:=lv) (s:=s) rfl rfl aw qN vH).1
   rintro g r ⟨G,bC,rfl,rfl,AY,eD,r8⟩
   have akw:G<=F:=by
    have:1*G<=t*G:=apP _ aw;omega
   have KC:IntKind.wrap .u64 ((bC:Int)+(t:Int))=((bC+t:Nat):Int):=by rw[cT (by omega)];omega
   have akx:((bC+t:Nat):Int).fdiv 4294967296=((bC+t:Nat):Int)/4294967296:=aqf _ (by omega);have aky:(G:Int).fdiv 4294967296=(G:Int)/4294967296:=aqf _ (by omega);simp only[KC,akx,aky];refine⟨fun ir=> ?_,fun ir=>⟨by omega,by omega, ?_⟩⟩
   ·have tK:¬((G:Int)/4294967296=0):=by simpa using ir
    have j1:D<G*val v:=apW x1 (apP _ (by omega))
    have KD:1<=G:=by
     rcases aq7 G with bc|bc
     ·rw[bc,aqI]at j1;omega
     ·exact bc
    have pS:IntKind.wrap .u64 ((G:Int)-1)=((G-1:Nat):Int):=by rw[cT (by omega)];omega
    have pg:t*(G-1)+(bC+t)=F:=by
     have:t*G=t*(G-1)+t:=by rw[<-aq8];congr 1;omega
     omega
    have ph:D<(G-1+1)*val v:=by rw[show G-1+1=G by omega];exact j1
    simp only[pS];refine⟨fun ao=>⟨by first|rfl|trivial,by first|rfl|trivial,by first|rfl|trivial,G-1,rfl, ?_,ph, ?_⟩,fun ao=>⟨by first|rfl|trivial,by first|rfl|trivial,by first|rfl|trivial,⟨G-1,bC+t,rfl,rfl,pg, ?_,ph⟩, ?_⟩⟩
    ·have vI:¬(((bC+t:Nat):Int)/4294967296=0):=by simpa using ao
     refine aqY (a:=t) ?_;omega
    ·have vI:¬(((bC+t:Nat):Int)/4294967296=0):=by simpa using ao
     have lU:G-1<4294967296:=by
      refine aqY (a:=t) ?_;omega
     have j5:(G-1)*s<=(bC+t)*4294967296+iZ:=by
      have ab:(G-1)*s<=4294967296*4294967296:=aqP (by omega) (by omega);have ad:4294967296*4294967296<=(bC+t)*4294967296:=apP _ (by omega);omega
     rw[pJ,hE];exact wR pg aw r7 lU j5
    ·have vI:((bC+t:Nat):Int)/4294967296=0:=by simpa using ao
     omega
    ·show((G-1:Nat):Int).toNat<(G:Int).toNat;omega
   ·have tK:(G:Int)/4294967296=0:=by simpa using ir
    have Lj:IntKind.wrap .u64 ((G:Int)*(s:Int))=((G*s:Nat):Int):=by
     have:G*s<=4294967295*4294967295:=aqP (by omega) (by omega);rw[<-aqJ,cT ⟨aqw _,by omega⟩]
    have Lk:=IU (h:=bC) (l:=iZ) eD vH;simp only[Lj,Lk];refine⟨fun aC=> ?_,fun aC=>⟨by first|rfl|trivial,by first|rfl|trivial,by first|rfl|trivial,G,rfl,by omega,r8, ?_⟩⟩
    ·simp only[apE,aq9]at aC;have j1:D<G*val v:=by rw[pJ,hE];exact Qq AY qN aC
     have KD:1<=G:=by
      rcases aq7 G with bc|bc
      ·rw[bc,aqI]at j1;omega
      ·exact bc
     have pS:IntKind.wrap .u64 ((G:Int)-1)=((G-1:Nat):Int):=by rw[cT (by omega)];omega
     have pg:t*(G-1)+(bC+t)=F:=by
      have:t*G=t*(G-1)+t:=by rw[<-aq8];congr 1;omega
      omega
     have ph:D<(G-1+1)*val v:=by rw[show G-1+1=G by omega];exact j1
     simp only[pS];refine⟨fun ao=>⟨by first|rfl|trivial,by first|rfl|trivial,by first|rfl|trivial,G-1,rfl, ?_,ph, ?_⟩,fun ao=>⟨by first|rfl|trivial,by first|rfl|trivial,by first|rfl|trivial,⟨G-1,bC+t,rfl,rfl,pg, ?_,ph⟩, ?_⟩⟩
     ·have vI:¬(((bC+t:Nat):Int)/4294967296=0):=by simpa using ao
      refine aqY (a:=t) ?_;omega
     ·have vI:¬(((bC+t:Nat):Int)/4294967296=0):=by simpa using ao
      have lU:G-1<4294967296:=by
       refine aqY (a:=t) ?_;omega
      have j5:(G-1)*s<=(bC+t)*4294967296+iZ:=by
       have ab:(G-1)*s<=4294967296*4294967296:=aqP (by omega) (by omega);have ad:4294967296*4294967296<=(bC+t)*4294967296:=apP _ (by omega);omega
      rw[pJ,hE];exact wR pg aw r7 lU j5
     ·have vI:((bC+t:Nat):Int)/4294967296=0:=by simpa using ao
      omega
     ·show((G-1:Nat):Int).toNat<(G:Int).toNat;omega
    ·simp only[apD,aq9]at aC;rw[pJ,hE];exact wR AY aw r7 (by omega) (by omega)
  ·rintro g ⟨G,rfl,tK,r8,AU⟩
   have oA:∃l,val u=l+4294967296^j*D/\l<4294967296^j:=⟨du u j,by rw[<-AX];exact ml u j,rH hu j⟩
   obtain⟨l,oA,ax⟩:=oA
   have bm:∀p,j+n<p->u.getD p 0=0:=fun p aE=>by
    refine Rx hu (m:=j+n+1) ?_ p (by omega);rw[show j+n+1=j+1+n by omega,aqi];exact apW bL (apY _ (Nat.le_of_lt tJ))
   refine⟨fun Bu c i c2 nQ=>nQ=q/\bN c2/\c2.length=m+n/\∃C B i0:Nat,Bu=B/\c=C/\i=i0/\i0<=n/\B<=1/\C<4294967296/\val c2+4294967296^j*(G*du v i0)=val u+4294967296^(j+i0)*(C+B)/\∀p,j+n<p->c2.getD p 0=0,
    fun _ _ i _ _=>n-i.toNat,⟨by first|rfl|trivial,rfl,hu,nG,0,0,0,rfl,rfl,rfl,by omega,by omega,by omega,by rw[iK,ap0,ap0,ap0],bm⟩, ?_⟩
   rintro Bu c i c2 nQ ⟨rfl,jz,vk,C,B,i,rfl,rfl,rfl,ff,eH,mK,jL,db⟩;refine⟨fun h=> ?_,fun h=> ?_⟩
   ·simp only[apE]at h;have Ll:IntKind.wrap .i64 ((j:Int)+(i:Int))=((j+i:Nat):Int):=by rw[bQ (by omega)];omega
    have AZ:IntKind.wrap .i64 ((i:Int)+1)=((i+1:Nat):Int):=by rw[bQ (by omega)];omega
    simp only[Ll,AZ,apB,ix jz];have nM:=fT oB i;have Ah:=fT jz (j+i)
    obtain⟨d,ky⟩:∃d,lm v i=d:=⟨_,rfl⟩
    obtain⟨fm,mD⟩:∃d,lm c2 (j+i)=d:=⟨_,rfl⟩
    rw[ky]at nM;rw[mD]at Ah;simp only[ky,mD];obtain⟨t1,lo,uc,st,np,Jx,F9,iU,t2,cS,Ab,tL,oC,t4⟩:=Pv (g:=G) (d:=d) (c:=C) (b:=B) (u:=fm) tK nM mK eH Ah;have akz:G*d<=4294967295*4294967295:=aqP (by omega) (by omega);have w1:IntKind.wrap .u64 (d:Int)=(d:Int):=cT (by omega);have dd:IntKind.wrap .u64 ((G:Int)*(d:Int))=((G*d:Nat):Int):=by rw[<-aqJ,cT ⟨aqw _,by omega⟩]
    have bY:IntKind.wrap .u64 ((C:Int)+((G*d:Nat):Int))=((C+G*d:Nat):Int):=by rw[<-arR,cT ⟨aqw _,by omega⟩]
    have kc:=Sw t1;rw[Jx]at kc;have yn:((C+G*d:Nat):Int).fdiv 4294967296=(((C+G*d)/4294967296:Nat):Int):=by rw[aqf _ (by omega),aru];rfl
    obtain⟨cl,cr⟩:=xs (u:=(fm:Int)) (l:=(lo:Int)) (b:=(B:Int)) (by omega) (by omega) (by omega);rw[tL]at cl;rw[cS]at cr;rw[F9]at yn;simp only[w1,dd,bY,kc,yn,cl,cr];have kv:=l9 c2 (j+i) (st:Int) (by omega);rw[show(c2.getD (j+i) 0).toNat=fm from mD,apB]at kv;have nJ:du v (i+1)=du v i+4294967296^i*d:=by rw[gA,show(v.getD i 0).toNat=d from ky]
    have km:=RA kv jL t4;refine⟨by omega,by omega,by omega,by omega,by omega,by omega,by first|rfl|trivial,⟨by first|rfl|trivial,jz.set _ ⟨by omega,by omega⟩,by rw[apL];exact vk,uc,np,i+1,rfl,rfl,rfl,by omega,oC,t2, ?_,fun p aE=> ?_⟩,by show n-((i+1:Nat):Int).toNat<n-(i:Int).toNat;omega⟩
    ·have pE:4294967296^j*(G*du v (i+1))=4294967296^j*(G*du v i)+4294967296^(j+i)*(G*d):=by
      rw[nJ,apN,apN,aqi,aqC G,aqb]
     have vJ:4294967296^(j+(i+1))*(uc+np)=4294967296^(j+i)*(4294967296*(uc+np)):=by
      rw[<-aqs,ap6,aqb]
     rw[pE,vJ];exact km
    ·rw[eR,apy (by omega)];exact db p aE
   ·simp only[apD]at h;obtain rfl:i=n:=by omega
    rw[hI v (by omega)]at jL;have bo:=fT jz (j+i);simp only[ix jz]
    obtain⟨y,A0⟩:∃y,lm c2 (j+i)=y:=⟨_,rfl⟩
    rw[A0]at bo;simp only[A0];obtain⟨cl,cr⟩:=xs (u:=(y:Int)) (l:=(C:Int)) (b:=(B:Int)) (by omega) (by omega) (by omega);simp only[cl,cr];have kv:=l9 c2 (j+i) (((y:Int)-(C:Int)-(B:Int))%4294967296) (by omega);rw[show(c2.getD (j+i) 0).toNat=y from A0]at kv;refine⟨by omega,by omega,by omega,by omega,fun g KE F_=>∃Q:Nat,g=Q/\F_=nQ/\akr u KE j i (val v) Q,⟨fun aj=> ?_,fun aj=> ?_⟩, ?_⟩
    ·have KF:y<C+B:=by
      by_cases aC:(y:Int)-C-B<0
      ·omega
      ·rw[apy aC]at aj;simp at aj
     rw[show(((y:Int)-(C:Int)-(B:Int))%4294967296)=((y+4294967296-C-B:Nat):Int) by omega]at kv;simp only[show(((y:Int)-(C:Int)-(B:Int))%4294967296)=((y+4294967296-C-B:Nat):Int) by omega];rw[apB]at kv;have Jy:bN (c2.set (j+i) ((y+4294967296-C-B:Nat):Int)):=jz.set _ ⟨by omega,by omega⟩;have TJ:(c2.set (j+i) ((y+4294967296-C-B:Nat):Int)).length=m+i:=by rw[apL];exact vk
     have nd:∀p,j+i<p->(c2.set (j+i) ((y+4294967296-C-B:Nat):Int)).getD p 0=0:=fun p aE=>by
      rw[eR,apy (by omega)];exact db p aE
     obtain⟨lk,nF⟩:∃lk,c2.set (j+i) ((y+4294967296-C-B:Nat):Int)=lk:=⟨_,rfl⟩
     rw[nF]at kv Jy TJ nd;simp only[nF];have mB:val lk<4294967296^(j+i)*4294967296:=by rw[<-ap6];exact D_ Jy (m:=j+i+1) fun p aE=>nd p (by omega)
     obtain⟨g3,g1,g7,g6,g5⟩:=aek jL kv KF (by omega) mB oA AU;have pS:IntKind.wrap .u64 ((G:Int)-1)=((G-1:Nat):Int):=by rw[cT (by omega)];omega
     simp only[pS]
     refine⟨fun c i3 en cV=>cV=nQ/\bN en/\en.length=m+i/\∃hF i0:Nat,c=hF/\i3=i0/\i0<=i/\hF<=1/\val en+4294967296^(j+i0)*hF=val lk+4294967296^j*du v i0/\∀p,j+i<p->en.getD p 0=0,fun _ i3 _ _=>i-i3.toNat,
      ⟨by first|rfl|trivial,by first|rfl|trivial,Jy,TJ,0,0,rfl,rfl,by omega,by omega,by rw[iK,ap0,ap0],nd⟩, ?_⟩
     rintro c i3 en cV ⟨rfl,ni,Ai,hF,i3,rfl,rfl,akA,UI,u7,A1⟩;refine⟨fun aA=> ?_,fun aA=> ?_⟩
     ·simp only[apE]at aA;have tW:IntKind.wrap .i64 ((j:Int)+(i3:Int))=((j+i3:Nat):Int):=by rw[bQ (by omega)];omega
      have KG:IntKind.wrap .i64 ((i3:Int)+1)=((i3+1:Nat):Int):=by rw[bQ (by omega)];omega
      simp only[tW,KG,apB,ix ni];have nM:=fT oB i3;have Ah:=fT ni (j+i3)
      obtain⟨d,ky⟩:∃d,lm v i3=d:=⟨_,rfl⟩
      obtain⟨fm,mD⟩:∃d,lm en (j+i3)=d:=⟨_,rfl⟩
      rw[ky]at nM;rw[mD]at Ah;simp only[ky,mD]
      have w1:IntKind.wrap .u64 (hF+IntKind.wrap .u64 (IntKind.wrap .u64 (fm:Int)+IntKind.wrap .u64 (d:Int)))=((hF+(fm+d):Nat):Int):=by
       rw[cT (x:=(d:Int)) (by omega),cT (x:=(fm:Int)) (by omega),cT (x:=(fm:Int)+(d:Int)) (by omega),cT (by omega)];omega
      have dd:((hF+(fm+d):Nat):Int).fdiv 4294967296=(((hF+(fm+d))/4294967296:Nat):Int):=by rw[aqf _ (by omega),aru];rfl
      have bY:IntKind.wrap .u32 ((hF+(fm+d):Nat):Int)=(((hF+(fm+d))%4294967296:Nat):Int):=by rw[kg];omega
      simp only[w1,dd,bY];have cS:(hF+(fm+d))%4294967296<4294967296:=aqh _ (by decide);have Aj:=l9 en (j+i3) (((hF+(fm+d))%4294967296:Nat):Int) (by omega);rw[show(en.getD (j+i3) 0).toNat=fm from mD,apB]at Aj;have nJ:du v (i3+1)=du v i3+4294967296^i3*d:=by rw[gA,show(v.getD i3 0).toNat=d from ky]
      have km:=RB (T:=(hF+(fm+d))/4294967296) (d:=d) Aj u7 (by omega);refine⟨by omega,by omega,by omega,by omega,by omega,by omega,by first|rfl|trivial,⟨by first|rfl|trivial,ni.set _ ⟨by omega,by omega⟩,by rw[apL];exact Ai,(hF+(fm+d))/4294967296,i3+1,rfl,rfl,by omega,by omega, ?_,fun p aE=> ?_⟩,by show i-((i3+1:Nat):Int).toNat<i-(i3:Int).toNat;omega⟩
      ·have pE:4294967296^j*du v (i3+1)=4294967296^j*du v i3+4294967296^(j+i3)*d:=by
        rw[nJ,apN,aqi,aqb]
       have vJ:4294967296^(j+(i3+1))*((hF+(fm+d))/4294967296)=4294967296^(j+i3)*(4294967296*((hF+(fm+d))/4294967296)):=by
        rw[<-aqs,ap6,aqb]
       rw[pE,vJ];exact km
      ·rw[eR,apy (by omega)];exact A1 p aE
     ·simp only[apD]at aA;obtain rfl:i3=i:=by omega
      rw[hI v (by omega)]at u7;have UJ:=fT ni (j+i3);simp only[ix ni]
      obtain⟨Gm,Fu⟩:∃y,lm en (j+i3)=y:=⟨_,rfl⟩
      rw[Fu]at UJ;simp only[Fu];have Jv:=ml en (j+i3)
      have kq:eu en (j+i3+1)=0:=by
       have:=H7 (a:=en) (i:=j+i3+1) (V:=1) (by rw[ap8];exact D_ ni fun p aE=>A1 p (by omega));omega
      rw[mm,kq,ap0,apV,Fu]at Jv;have TK:=l9 en (j+i3) 0 (by omega);rw[show(en.getD (j+i3) 0).toNat=Gm from Fu,show Int.toNat 0=0 from rfl,ap0,apV]at TK;obtain⟨aY,bj,bG⟩:=acW g3 g5 g6 g7 u7 Jv (rH ni _) UJ UI TK
      have w1:IntKind.wrap .u32 ((Gm:Int)+IntKind.wrap .u32 (hF:Int))=0:=by
       rw[ia (x:=(hF:Int)) (by omega),kg];omega
      simp only[w1];exact⟨by omega,by omega,by omega,by omega,by first|rfl|trivial,G-1,rfl,by first|rfl|trivial,ni.set _ (by omega),by rw[apL,Ai,nG],by omega,bj,bG⟩
    ·have KF:C+B<=y:=by
      by_cases aC:(y:Int)-C-B<0
      ·rw[apz aC]at aj;simp at aj
      ·omega
     rw[show(((y:Int)-(C:Int)-(B:Int))%4294967296)=((y-C-B:Nat):Int) by omega]at kv⊢;rw[apB]at kv;obtain⟨f1,f2⟩:=aej jL kv KF oA ax r8;exact⟨by first|rfl|trivial,G,rfl,rfl,jz.set _ ⟨by omega,by omega⟩,by rw[apL,vk,nG],tK,f1,f2⟩
    ·rintro g KE F_ ⟨Q,rfl,rfl,A2⟩;have jB:=A2.aks;have anb:IntKind.wrap .u32 (Q:Int)=(Q:Int):=ia (by omega);have dD:IntKind.wrap .i64 ((j:Int)-1)=(j:Int)-1:=bQ (by omega);rw[anb,dD];have x2:=AV j (by omega);have A3:=l9 F_ j (Q:Int) (by omega);rw[x2,show Int.toNat 0=0 from rfl,ap0,apV,apB]at A3
     have ahm:val iu=(val F_+4294967296^j*Q)*val v+val KE:=by
      rw[heq,<-A2.eq,apU,aqb];omega
     refine⟨by omega,by omega,by first|rfl|trivial,⟨by omega,by omega,A2.UH,by rw[A2.len];exact nG,a6.set _ ⟨by omega,by omega⟩,by rw[apL];exact xP,by rw[A3];exact ahm, ?_,fun p aE=> ?_⟩, ?_⟩
     ·rw[show((j:Int)-1+1).toNat=j by omega];exact A2.lt
     ·rw[eR,apy (by omega)];exact AV p (by omega)
     ·show((j:Int)-1+1).toNat<((j:Int)+1).toNat;omega
 ·simp only[apD]at aI;obtain rfl:j=-1:=by omega
  rw[show((-1:Int)+1).toNat=0 from rfl,arf,aqO]at bL
  have AK:val iu/val v=val q:=by
   rw[heq,aqa,Nat.mul_add_div (by omega),ard bL,apV]
  have xM:val iu%val v=val u:=by
   rw[heq,aqa,arD,aqt bL]
  have eD:val u/2^k=val a%val b:=by rw[<-xM,<-ig,Nat.mul_div_cancel _ (aqu k)]
  refine⟨by omega,by omega,by omega,fun i c2 nQ r=>c2=u/\nQ=q/\bN r/\r.length=n/\∃i0:Nat,i=i0/\i0<=n/\du r i0=val u/2^k%4294967296^i0,fun i _ _ _=>n-i.toNat,⟨by first|rfl|trivial,rfl,rfl,bN.nv _,by simp,0,rfl,by omega,by rw[iK,arf,Nat.mod_one]⟩, ?_⟩;rintro i c2 nQ r ⟨rfl,rfl,ao,Ax,i,rfl,ff,KH⟩;refine⟨fun h=> ?_,fun h=> ?_⟩
  ·simp only[apE]at h;have AZ:IntKind.wrap .i64 ((i:Int)+1)=((i+1:Nat):Int):=by rw[bQ (by omega)];omega
   simp only[AZ,apB,ix hu,I4 (fT hu (i+1)) (fT hu i),show min k 64=k by omega];have jq:(2:Int)^k=((2^k:Nat):Int):=by simp
   have w1:Int.fdiv ((lm c2 (i+1)*4294967296+lm c2 i:Nat):Int) ((2:Int)^k)=(((lm c2 (i+1)*4294967296+lm c2 i)/2^k:Nat):Int):=by
    rw[jq,aqf _ (aqw _),aru]
   have dd:IntKind.wrap .u32 (((lm c2 (i+1)*4294967296+lm c2 i)/2^k:Nat):Int)=(((lm c2 (i+1)*4294967296+lm c2 i)/2^k%4294967296:Nat):Int):=by
    rw[kg,arM];rfl
   simp only[w1,dd]
   have I6:(lm c2 (i+1)*4294967296+lm c2 i)/2^k%4294967296=val c2/2^k/4294967296^i%4294967296:=by
    rw[NM (A:=eu c2 (i+2)) Fs,<-mm,<-mm,<-IT hu i,Nat.div_div_eq_div_mul,Nat.div_div_eq_div_mul,aqa]
   rw[I6];have hg:val c2/2^k/4294967296^i%4294967296<4294967296:=aqh _ (by decide);refine⟨by omega,by omega,by omega,by omega,by omega,by omega,by omega,by first|rfl|trivial,⟨by first|rfl|trivial,by first|rfl|trivial,ao.set _ ⟨aqw _,by omega⟩,by rw[apL];exact Ax,i+1,rfl,by omega, ?_⟩,by show n-((i+1:Nat):Int).toNat<n-(i:Int).toNat;omega⟩;rw[gA,rA _ _ _ _ (apF _),eR,apz ⟨rfl,by omega⟩,apB,KH,ap6,Nat.mod_mul]
  ·simp only[apD]at h;obtain rfl:i=n:=by omega
   rw[hI r (by omega),aqt (aq_ (arZ _ _) (Nat.lt_trans bL tJ)),eD]at KH;refine⟨⟨a6,by omega⟩, ?_⟩;rintro x rfl;refine⟨⟨ao,by omega⟩, ?_⟩;rintro hD rfl;rw[KH,<-AK,<-j4];exact ag
end aa
end
section
open Go Go.ak
namespace aa
def OH:List Int->List Int->(R->Prop)->Prop:=
 fun a b K=>(bN a/\a.length<=(1000000000:Nat))/\(bN b/\b.length<=(1000000000:Nat))/\(decide (↑(aP (val b)).length=(0:Int))=true->K (R.tup [R.d (U.af .u32 []),R.d (U.af .u32 []),R.d (U.int .i64 (3:Int))]))/\(decide (↑(aP (val b)).length=(0:Int))=false->(bF (aP (val a))/\bF (aP (val b)))/\(decide (cmp (val (aP (val a))) (val (aP (val b)))<(0:Int))=true->(aP (val a)).length<=(100000000:Nat)/\K (R.tup [R.d (U.af .u32 []),R.d (U.af .u32 (aP (val a))),R.d (U.int .i64 (0:Int))]))/\(decide (cmp (val (aP (val a))) (val (aP (val b)))<(0:Int))=false->(decide (↑(aP (val b)).length=(1:Int))=true->(0:Int)<=(0:Int)/\(0:Int)<↑(aP (val b)).length/\(bF (aP (val a))/\L ((aP (val b)).getD (0:Nat) (0:Int))/\(0:Int)<(aP (val b)).getD (0:Nat) (0:Int))/\((0:Int)<=aX ↑(val (aP (val a))%((aP (val b)).getD (0:Nat) (0:Int)).toNat)/\aX ↑(val (aP (val a))%((aP (val b)).getD (0:Nat) (0:Int)).toNat)<(18446744073709551616:Int))/\K (R.tup [R.d (U.af .u32 (aP (val (aP (val a))/((aP (val b)).getD (0:Nat) (0:Int)).toNat))),R.d (U.af .u32 (aP (aX ↑(val (aP (val a))%((aP (val b)).getD (0:Nat) (0:Int)).toNat)).toNat)),R.d (U.int .i64 (0:Int))]))/\(decide (↑(aP (val b)).length=(1:Int))=false->(bF (aP (val a))/\bF (aP (val b))/\Norm (aP (val a))/\Norm (aP (val b))/\(2:Nat)<=(aP (val b)).length/\val (aP (val b))<=val (aP (val a)))/\K (R.tup [R.d (U.af .u32 (aP (val (aP (val a))/val (aP (val b))))),R.d (U.af .u32 (aP (val (aP (val a))%val (aP (val b))))),R.d (U.int .i64 (0:Int))]))))
end aa
end
section
open Go Go.ak
namespace aa
theorem abn (a b:List Int)(K:R->Prop)(h:Db.T [.d (.af .u32 a), .d (.af .u32 b)] K):OH a b K:=by
 obtain⟨⟨aR,ah⟩,ag⟩:=h;have gM:=jG aR;have k_:=jG ah;have k3:=aR.2;have ew:=ah.2;unfold OH aX;simp only[eh];refine⟨⟨aR.1,by omega⟩,⟨ah.1,by omega⟩,fun h=> ?_,fun h=> ?_⟩
 ·simp only[apE]at h;have bc:val b=0:=zD (by omega);simp only[bc,ap1]at ag;exact ag
 ·simp only[apD]at h;have bc:val b≠0:=fun e=>h (by rw[e,kH];rfl);simp only[apy bc]at ag;refine⟨⟨⟨gz _,by omega⟩,⟨gz _,by omega⟩⟩,fun ab=>⟨by omega, ?_⟩,fun ab=>⟨fun ad=> ?_,fun ad=> ?_⟩⟩
  ·simp only[apE]at ab
   have bL:val a<val b:=by
    unfold cmp at ab;split at ab
    ·assumption
    ·split at ab<;>omega
   rw[ard bL,aqt bL,kH]at ag;exact ag
  ·simp only[apE]at ad
   have eH:((aP (val b)).getD 0 0).toNat=val b:=by
    have:=hI (aP (val b)) (i:=1) (by omega);rw[gA,iK,eh]at this;simpa using this
   have KI:=gz (val b) 0;rw[eH];have hm:val a%val b<val b:=aqh _ (by omega);rw[cT (by omega),apB];exact⟨by omega,by omega,⟨⟨gz _,by omega⟩,KI,by omega⟩,⟨by omega,by omega⟩,ag⟩
  ·simp only[apD]at ab ad
   have jj:val b<=val a:=by
    unfold cmp at ab;split at ab
    ·exact absurd (by decide) ab
    ·omega
   exact⟨⟨⟨gz _,by omega⟩,⟨gz _,by omega⟩,Hw _,Hw _,by omega,jj⟩,ag⟩
end aa
end
section
open Go Go.ak
namespace aa
def l3 (n k:Nat):Prop:=n<4294967296^k
theorem l3.of {a:List Int}(h:bN a){k:Nat}(ag:a.length<=k):l3 (val a) k:=apW (iM h) (aqg (by decide) ag)
theorem l3.cC {n k:Nat}(h:l3 n k)(ag:k<=100000000):bF (aP n):=⟨gz n,apS (h0.2 h) ag⟩
theorem l3.len {n k:Nat}(h:l3 n k){j:Nat}(ag:k<=j):(aP n).length<=j:=apS (h0.2 h) ag
theorem l3.add {x y j k:Nat}(h:l3 x j)(ad:l3 y k):l3 (x+y) (j+k+1):=by
 unfold l3 at*;have aA:4294967296^j<=4294967296^(j+k):=aqg (by decide) (by omega);have ba:4294967296^k<=4294967296^(j+k):=aqg (by decide) (by omega);rw[ap6];omega
theorem l3.mul {x y j k:Nat}(h:l3 x j)(ad:l3 y k):l3 (x*y) (j+k):=by
 unfold l3 at*;rw[aqi];exact Nat.mul_lt_mul'' h ad
theorem Tc (p k:Nat)(aE:p<9223372036854775808)(ag:2^k<=4611686018427387904):cN .and .i64 (p:Int) ((2^k-1:Nat):Int)=((p%2^k:Nat):Int):=by
 have az:((BitVec.ofInt 64 (p:Int))&&&(BitVec.ofInt 64 ((2^k-1:Nat):Int))).toNat=p%2^k:=by
  rw[BitVec.toNat_and,arw,arw,arN,arN,aqt (by omega),aqt (by omega),Nat.and_two_pow_sub_one_eq_mod]
 show IntKind.wrap .i64 _=_;have aJ:((BitVec.ofInt (IntKind.i64).bits (p:Int))&&&(BitVec.ofInt (IntKind.i64).bits ((2^k-1:Nat):Int))).toNat=p%2^k:=az;have:p%2^k<2^k:=aqh _ (aqu k);rw[aJ,bQ (by omega)]
end aa
namespace aa
theorem afY {n:Int}(h:(Lit.int .u8 n).wf=true):0<=n/\n<256:=by
 have h:=afl h;have az:IntKind.u8.min=0:=by decide
 have aJ:IntKind.u8.max=255:=by decide
 omega
end aa
end
section
open Go Go.ak
namespace aa
def RC:List Int->List Int->(R->Prop)->Prop:=
 fun a b K=>bF a/\∀x,x=aP (val a)->bF b/\∀a7,a7=aP (val b)->∃(aQ:List Int->List Int->Prop),∃(m:List Int->List Int->Nat),aQ x a7/\∀(v0 v1:List Int),aQ v0 v1->(decide ((2:Int)<↑v0.length)=true->(decide (↑v1.length=(0:Int))=true->K (R.d (U.af .u32 v0)))/\(decide (↑v1.length=(0:Int))=false->(bF v0/\bF v1)/\∀x,(x=if val v1=(0:Nat)then[]else aP (val v0/val v1))->∀x,(x=if val v1=(0:Nat)then[]else aP (val v0%val v1))->∀aW,(aW=if val v1=(0:Nat)then(3:Int)else(0:Int))->aQ v1 x/\m v1 x<m v0 v1))/\(decide ((2:Int)<↑v0.length)=false->(decide ((2:Int)<↑v1.length)=true->(decide (↑v1.length=(0:Int))=true->K (R.d (U.af .u32 v0)))/\(decide (↑v1.length=(0:Int))=false->(bF v0/\bF v1)/\∀x,(x=if val v1=(0:Nat)then[]else aP (val v0/val v1))->∀x,(x=if val v1=(0:Nat)then[]else aP (val v0%val v1))->∀aW,(aW=if val v1=(0:Nat)then(3:Int)else(0:Int))->aQ v1 x/\m v1 x<m v0 v1))/\(decide ((2:Int)<↑v1.length)=false->(bN v0/\v0.length<=(2:Nat))/\∀x,x=↑(val v0)->(bN v1/\v1.length<=(2:Nat))/\∀aW,aW=↑(val v1)->∃(aQ:Int->Int->Prop),∃(m:Int->Int->Nat),aQ x aW/\∀(bq v9:Int),aQ bq v9->((!decide (v9=(0:Int)))=true->¬v9=(0:Int)/\aQ v9 (bq.tmod v9)/\m v9 (bq.tmod v9)<m bq v9)/\((!decide (v9=(0:Int)))=false->((0:Int)<=bq/\bq<(18446744073709551616:Int))/\∀x,x=aP bq.toNat->K (R.d (U.af .u32 x)))))
def N7:List Int->(ae->Prop)->Prop:=
 fun a K=>∃(aQ:Int->Prop),∃(m:Int->Nat),aQ ↑a.length/\∀(v3:Int),aQ v3->(decide ((0:Int)<v3)=true->(0:Int)<=ai (v3-(1:Int))/\ai (v3-(1:Int))<↑a.length/\(decide (a.getD (ai (v3-(1:Int))).toNat (0:Int)=(0:Int))=true->aQ (ai (v3-(1:Int)))/\m (ai (v3-(1:Int)))<m v3)/\(decide (a.getD (ai (v3-(1:Int))).toNat (0:Int)=(0:Int))=false->(0:Int)<=v3/\v3<=↑a.length/\↑(List.take v3.toNat a).length*(4:Int)<=(70368744177664:Int)/\K (ae.af .u32 (List.take v3.toNat a))))/\(decide ((0:Int)<v3)=false->(0:Int)<=v3/\v3<=↑a.length/\↑(List.take v3.toNat a).length*(4:Int)<=(70368744177664:Int)/\K (ae.af .u32 (List.take v3.toNat a)))
def OI:List Int->List Int->(R->Prop)->Prop:=
 fun(a b:List Int) (K:R->Prop)=>aa.bF a/\aa.bF b/\((!decide (aT (aa.aP (aa.val a))=aT (aa.aP (aa.val b))))=true->(decide (aT (aa.aP (aa.val a))<aT (aa.aP (aa.val b)))=true->K (R.d (U.int IntKind.i64 (-1:Int))))/\(decide (aT (aa.aP (aa.val a))<aT (aa.aP (aa.val b)))=false->K (R.d (U.int IntKind.i64 (1:Int)))))/\((!decide (aT (aa.aP (aa.val a))=aT (aa.aP (aa.val b))))=false->∃(aQ:Int->Prop),∃(m:Int->Nat),((false,ae.af IntKind.u32 (aa.aP (aa.val a)))=(false,ae.af IntKind.u32 (aa.aP (aa.val a)))/\(false,ae.af IntKind.u32 (aa.aP (aa.val b)))=(false,ae.af IntKind.u32 (aa.aP (aa.val b)))/\aQ (ai (aT (aa.aP (aa.val a))-(1:Int))))/\∀(v5:Int),aQ v5->(decide ((0:Int)<=v5)=true->(0:Int)<=v5/\v5<aT (aa.aP (aa.val a))/\(0:Int)<=v5/\v5<aT (aa.aP (aa.val b))/\(decide (List.getD (aa.aP (aa.val a)) (Int.toNat v5) (0:Int)<List.getD (aa.aP (aa.val b)) (Int.toNat v5) (0:Int))=true->K (R.d (U.int IntKind.i64 (-1:Int))))/\(decide (List.getD (aa.aP (aa.val a)) (Int.toNat v5) (0:Int)<List.getD (aa.aP (aa.val b)) (Int.toNat v5) (0:Int))=false->(0:Int)<=v5/\v5<aT (aa.aP (aa.val a))/\(0:Int)<=v5/\v5<aT (aa.aP (aa.val b))/\(decide (List.getD (aa.aP (aa.val b)) (Int.toNat v5) (0:Int)<List.getD (aa.aP (aa.val a)) (Int.toNat v5) (0:Int))=true->K (R.d (U.int IntKind.i64 (1:Int))))/\(decide (List.getD (aa.aP (aa.val b)) (Int.toNat v5) (0:Int)<List.getD (aa.aP (aa.val a)) (Int.toNat v5) (0:Int))=false->(false,ae.af IntKind.u32 (aa.aP (aa.val a)))=(false,ae.af IntKind.u32 (aa.aP (aa.val a)))/\(false,ae.af IntKind.u32 (aa.aP (aa.val b)))=(false,ae.af IntKind.u32 (aa.aP (aa.val b)))/\aQ (ai (v5-(1:Int)))/\m (ai (v5-(1:Int)))<m v5)))/\(decide ((0:Int)<=v5)=false->K (R.d (U.int IntKind.i64 (0:Int)))))
def NN:List Int->Int->(R->Prop)->Prop:=
 fun(a:List Int) (d:Int) (K:R->Prop)=>(0:Int)<=aT a/\aT a<=aT a/\aT a*(4:Int)<=(281474976710656:Int)/\∃(aQ:Int->Int->List Int->Prop),∃(m:Int->Int->List Int->Nat),aQ (0:Int) (ai (aT a-(1:Int))) (List.replicate (Int.toNat (aT a)) (0:Int))/\∀(c0 bq:Int) (au:List Int),aQ c0 bq au->(decide ((0:Int)<=bq)=true->(0:Int)<=bq/\bq<aT a/\¬aX d=(0:Int)/\(0:Int)<=bq/\bq<aT au/\¬aX d=(0:Int)/\aQ (Int.tmod (cN BinOp.or IntKind.u64 (aX (c0*(4294967296:Int))) (aX (List.getD a (Int.toNat bq) (0:Int)))) (aX d)) (ai (bq-(1:Int))) (List.set au (Int.toNat bq) (bY (aX (Int.tdiv (cN BinOp.or IntKind.u64 (aX (c0*(4294967296:Int))) (aX (List.getD a (Int.toNat bq) (0:Int)))) (aX d)))))/\m (Int.tmod (cN BinOp.or IntKind.u64 (aX (c0*(4294967296:Int))) (aX (List.getD a (Int.toNat bq) (0:Int)))) (aX d)) (ai (bq-(1:Int))) (List.set au (Int.toNat bq) (bY (aX (Int.tdiv (cN BinOp.or IntKind.u64 (aX (c0*(4294967296:Int))) (aX (List.getD a (Int.toNat bq) (0:Int)))) (aX d)))))<m c0 bq au)/\(decide ((0:Int)<=bq)=false->aa.bF au/\K (R.tup [R.d (U.af IntKind.u32 (aa.aP (aa.val au))),R.d (U.int IntKind.u32 (bY c0))]))
end aa
end
section
open Go Go.ak
namespace aa
theorem CT {A B:Nat}:Nat.gcd B (A%B)=Nat.gcd A B:=by
 rw[Nat.gcd_comm A B,Nat.gcd_rec B A,Nat.gcd_comm]
theorem afm (a b:List Int)(K:R->Prop)(h:Fb.T [.d (.af .u32 a), .d (.af .u32 b)] K):RC a b K:=by
 obtain⟨⟨aR,ah⟩,ag⟩:=h;unfold RC
 obtain⟨G,ir⟩:∃G,Nat.gcd (val a) (val b)=G:=⟨_,rfl⟩
 rw[ir]at ag;refine⟨aR, ?_⟩;rintro x rfl;refine⟨ah, ?_⟩;rintro y rfl;have gM:=jG aR;have k_:=jG ah;have k3:=aR.2;have ew:=ah.2;refine⟨fun u v=>∃A B:Nat,u=aP A/\v=aP B/\Nat.gcd A B=G/\(aP A).length<=100000000/\(aP B).length<=100000000,fun u v=>val v,⟨val a,val b,rfl,rfl,ir,by omega,by omega⟩, ?_⟩;rintro u v ⟨A,B,rfl,rfl,r_,dG,eH⟩;have VQ:bF (aP A):=⟨gz _,dG⟩;have VR:bF (aP B):=⟨gz _,eH⟩;simp only[eh]
 have zero:∀{n:Nat},decide ((Nat.cast:Nat->Int) (aP n).length=0)=true->n=0:=fun h=>by
  simp only[apE]at h;exact zD (by omega)
 have VS:∀{n:Nat},decide ((Nat.cast:Nat->Int) (aP n).length=0)=false->n≠0:=fun h e=>by
  subst e;rw[kH]at h;simp at h
 have stop:B=0->K (.d (.af .u32 (aP A))):=fun h=>by
  subst h;rw[Nat.gcd_zero_right]at r_;rw[r_];exact ag
 have bL:B≠0->A%B<B:=fun h=>aqh _ (by omega)
 have hlen:B≠0->(aP (A%B)).length<=100000000:=fun h=>by
  refine apS (h0.2 ?_) eH;exact Nat.lt_trans (bL h) (h0.1 (apF _))
 refine⟨fun _=>⟨fun h=>stop (zero h),fun h=>⟨⟨VQ,VR⟩, ?_⟩⟩,fun ab=>⟨fun _=>⟨fun h=>stop (zero h),fun h=>⟨⟨VQ,VR⟩, ?_⟩⟩,fun ad=> ?_⟩⟩
 ·have pK:=VS h;rintro q rfl r rfl e rfl;rw[apy pK];exact⟨⟨B,A%B,rfl,rfl,by rw[CT];exact r_,eH,hlen pK⟩,by rw[eh];exact bL pK⟩
 ·have pK:=VS h;rintro q rfl r rfl e rfl;rw[apy pK];exact⟨⟨B,A%B,rfl,rfl,by rw[CT];exact r_,eH,hlen pK⟩,by rw[eh];exact bL pK⟩
 ·simp only[apD]at ab ad;have lX:(4294967296:Nat)^2=18446744073709551616:=by decide
  have pA:A<18446744073709551616:=by rw[<-lX];exact h0.1 (by omega)
  have tL:B<18446744073709551616:=by rw[<-lX];exact h0.1 (by omega)
  refine⟨⟨gz _,by omega⟩, ?_⟩;rintro x rfl;refine⟨⟨gz _,by omega⟩, ?_⟩;rintro y rfl;refine⟨fun x y=>∃p q:Nat,x=p/\y=q/\p<18446744073709551616/\q<18446744073709551616/\Nat.gcd p q=G,fun x y=>y.toNat,⟨A,B,rfl,rfl,pA,tL,r_⟩, ?_⟩;rintro x y ⟨p,q,rfl,rfl,aE,a6,bh⟩;refine⟨fun h=> ?_,fun h=> ?_⟩
  ·have FQ:¬((q:Int)=0):=by simpa using h
   have aw:Int.tmod (p:Int) (q:Int)=((p%q:Nat):Int):=by rw[arL (by omega),arM]
   have hm:p%q<q:=aqh _ (by omega);rw[aw];refine⟨FQ,⟨q,p%q,rfl,rfl,a6,by omega,by rw[CT];exact bh⟩, ?_⟩;show((p%q:Nat):Int).toNat<(q:Int).toNat;rw[apB,apB];exact hm
  ·have FQ:((q:Int)=0):=by simpa using h
   obtain rfl:q=0:=by omega
   rw[Nat.gcd_zero_right]at bh;refine⟨⟨by omega,by omega⟩, ?_⟩;rintro r rfl;rw[apB,bh];exact ag
theorem abr {a:List Int}{k:Nat}(ag:0<k)(_:k<=a.length)(h:a.getD (k-1) 0=0):val (a.take (k-1))=val (a.take k):=by
 have:=gA a (k-1);rw[show k-1+1=k by omega,h]at this;unfold du at this;rw[this];simp
theorem ZS (a:List Int)(K:ae->Prop)(h:CK.T [.d (.af .u32 a)] K):N7 a K:=by
 obtain⟨aR,ag⟩:=h;have gM:=aR.2;unfold N7 ai;refine⟨fun i=>∃k:Nat,i=k/\k<=a.length/\val (a.take k)=val a,fun i=>i.toNat,⟨a.length,rfl,apF _,by rw[aqZ]⟩, ?_⟩;rintro i ⟨k,rfl,tw,aO⟩
 have pr:∀j,j<k->(a.take k).getD j 0=a.getD j 0:=fun j aI=>by simp[apA,aI]
 refine⟨fun h=> ?_,fun h=> ?_⟩
 ·simp only[apE]at h;have e:IntKind.wrap .i64 ((k:Int)-1)=((k-1:Nat):Int):=by rw[bQ (by omega)];omega
  rw[e];simp only[apB];refine⟨by omega,by omega,fun bc=> ?_,fun bc=>⟨by omega,by omega, ?_, ?_⟩⟩
  ·simp only[apE]at bc;exact⟨⟨k-1,rfl,by omega,by rw[abr (by omega) tw bc,aO]⟩,by show((k-1:Nat):Int).toNat<(k:Int).toNat;omega⟩
  ·rw[ap_];omega
  ·simp only[apD]at bc;rw[<-yT (aR.1.take k) (BW (.inr ?_)),aO]
   ·exact ag
   ·rw[ap_,arJ tw,pr _ (by omega)];exact bc
 ·simp only[apD]at h;obtain rfl:k=0:=by omega
  simp only[apB];refine⟨by omega,by omega,by rw[ap_];omega, ?_⟩;rw[<-yT (aR.1.take 0) (BW (.inl (by simp))),aO];exact ag
theorem YY (a:List Int)(d:Int)(K:R->Prop)(h:Cu.T [.d (.af .u32 a), .d (.int .u32 d)] K):NN a d K:=by
 obtain⟨⟨aR,a_,tA⟩,ag⟩:=h;have gM:=aR.2;unfold L at a_
 obtain⟨D,rfl⟩:∃D:Nat,d=D:=⟨d.toNat,by omega⟩
 simp only[apB]at ag;unfold NN ai aX bY aT;rw[apB];have anc:IntKind.wrap .u64 (D:Int)=D:=cT (by omega);simp only[anc];refine⟨by omega,by omega,by omega,fun r i o=>bN o/\o.length=a.length/\0<=r/\r<D/\-1<=i/\i<a.length/\eu a (i+1).toNat=eu o (i+1).toNat*D+r.toNat,fun r i o=>(i+1).toNat,⟨bN.nv _,by simp,by omega,by omega, ?_⟩, ?_⟩
 ·rw[bQ (by omega)];refine⟨by omega,by omega, ?_⟩;rw[o7 a (by omega),o7 _ (by simp)];simp
 rintro r i o ⟨aF,gl,Av,fs,tG,lQ,aO⟩;refine⟨fun h=> ?_,fun h=> ?_⟩
 ·simp only[apE]at h
  obtain⟨n,rfl⟩:∃n:Nat,i=n:=⟨i.toNat,by omega⟩
  simp only[apB,ix aR.1];rw[bQ (by omega)]
  obtain⟨bC,rfl⟩:∃bC:Nat,r=bC:=⟨r.toNat,by omega⟩
  have aj:=fT aR.1 n;have x3:(a.getD n 0).toNat=lm a n:=rfl
  obtain⟨x,hB⟩:∃x,lm a n=x:=⟨_,rfl⟩
  rw[hB]at aj x3;simp only[hB,IU (h:=bC) (l:=x) (by omega) aj];have az:Int.tdiv ((bC*4294967296+x:Nat):Int) (D:Int)=(((bC*4294967296+x)/D:Nat):Int):=by rw[ar4 (aqw _),aru]
  have aJ:Int.tmod ((bC*4294967296+x:Nat):Int) (D:Int)=(((bC*4294967296+x)%D:Nat):Int):=by rw[arL (aqw _),arM]
  rw[show((n:Int)+1).toNat=n+1 by omega]at aO;have cS:=OF (z:=eu o (n+1)) 4294967296 rfl (show bC<D by omega) aj (by simpa using aO);obtain⟨a6,hm,he⟩:=cS;have nN:eu a n=x+4294967296*eu a (n+1):=by rw[oa a n,x3]
  rw[<-nN]at he;simp only[az,aJ];generalize (bC*4294967296+x)/D=q at a6 he⊢;generalize (bC*4294967296+x)%D=m at hm he⊢;have w1:IntKind.wrap .u32 (IntKind.wrap .u64 (q:Int))=(q:Int):=by rw[cT (by omega),ia (by omega)]
  simp only[w1]
  have hJ:eu (o.set n (q:Int)) n=q+4294967296*eu o (n+1):=by
   rw[oa _ n,IS _ _ _ _ (by omega),eR,apz ⟨rfl,by omega⟩,apB]
  rw[<-hJ]at he;refine⟨by omega,by omega,by omega,by omega,by omega,by omega,⟨aF.set _ ⟨by omega,by omega⟩,by simpa using gl,by omega,by omega,by omega,by omega, ?_⟩,by show(((n:Int)-1)+1).toNat<((n:Int)+1).toNat;omega⟩;rw[show((n:Int)-1+1).toNat=n by omega,apB];exact he
 ·simp only[apD]at h;obtain rfl:i=-1:=by omega
  simp only[show((-1:Int)+1).toNat=0 from rfl,zC]at aO;refine⟨⟨aF,by omega⟩, ?_⟩
  have ab:val a/D=val o:=by
   rw[aO,aqa,Nat.mul_add_div (by omega),ard (by omega)];omega
  have ad:((val a%D:Nat):Int)=r:=by
   rw[aO,aqa,arD,aqt (by omega)];omega
  rw[ab,ad]at ag;rw[ia (by omega)];exact ag
theorem abt (a b:List Int)(K:R->Prop)(h:Dd.T [.d (.af .u32 a), .d (.af .u32 b)] K):OI a b K:=by
 obtain⟨⟨aR,ah⟩,ag⟩:=h;have gM:=jG aR;have k_:=jG ah;have k3:=aR.2;have ew:=ah.2;unfold OI ai aT;refine⟨aR,ah,fun h=>⟨fun ab=> ?_,fun ab=> ?_⟩,fun h=> ?_⟩
 ·simp only[apE]at ab;rw[D7 (D9 (by omega))]at ag;exact ag
 ·have ad:¬((Nat.cast:Nat->Int) (aP (val a)).length=(Nat.cast:Nat->Int) (aP (val b)).length):=by simpa using h
  simp only[apD]at ab;rw[D8 (D9 (by omega))]at ag;exact ag
 ·have ad:(Nat.cast:Nat->Int) (aP (val a)).length=(Nat.cast:Nat->Int) (aP (val b)).length:=by simpa using h
  have dG:=gz (val a);have eH:=gz (val b);have nN:=eh (val a);have ng:=eh (val b);rw[<-nN,<-ng]at ag;generalize aP (val a)=A at*;generalize aP (val b)=B at*;refine⟨fun i=>-1<=i/\i<A.length/\eu A (i+1).toNat=eu B (i+1).toNat,fun i=>(i+1).toNat,⟨by first|rfl|trivial,by first|rfl|trivial, ?_⟩, ?_⟩
  ·rw[bQ (by omega)];refine⟨by omega,by omega, ?_⟩;rw[o7 A (by omega),o7 B (by omega)]
  rintro i ⟨aA,ba,bJ⟩;refine⟨fun cu=> ?_,fun cu=> ?_⟩
  ·simp only[apE]at cu
   obtain⟨n,rfl⟩:∃n:Nat,i=n:=⟨i.toNat,by omega⟩
   rw[show((n:Int)+1).toNat=n+1 by omega]at bJ;simp only[apB];have aj:=dG n;have bo:=eH n;refine⟨by omega,by omega,by omega,by omega,fun gO=> ?_,fun gO=>⟨by omega,by omega,by omega,by omega,fun dq=> ?_,fun dq=> ?_⟩⟩
   ·simp only[apE]at gO;rw[D7 (Dp n dG bJ (by omega))]at ag;exact ag
   ·simp only[apE]at dq;rw[D8 (Dp n eH bJ.symm (by omega))]at ag;exact ag
   ·simp only[apD]at gO dq;rw[bQ (by omega)];refine⟨by first|rfl|trivial,by first|rfl|trivial,⟨by omega,by omega, ?_⟩,by show(((n:Int)-1)+1).toNat<((n:Int)+1).toNat;omega⟩;rw[show((n:Int)-1+1).toNat=n by omega,oa A n,oa B n,bJ,show A.getD n 0=B.getD n 0 by omega]
  ·simp only[apD]at cu;obtain rfl:i=-1:=by omega
   simp only[show((-1:Int)+1).toNat=0 from rfl,zC]at bJ;rw[bJ,cmp_eq]at ag;exact ag
end aa
end
section
open Go Go.ak
namespace aa
end aa
end
section
open Go Go.ak
namespace aa
def OJ:List Int->List Int->(R->Prop)->Prop:=
 fun(a b:List Int) (K:R->Prop)=>(0:Int)<=ai ((if aT a<aT b then aT b else aT a)+(1:Int))/\ai ((if aT a<aT b then aT b else aT a)+(1:Int))<=ai ((if aT a<aT b then aT b else aT a)+(1:Int))/\ai ((if aT a<aT b then aT b else aT a)+(1:Int))*(4:Int)<=(281474976710656:Int)/\∃(aQ:Int->Int->List Int->Prop),∃(m:Int->Int->List Int->Nat),aQ (0:Int) (0:Int) (List.replicate (Int.toNat (ai ((if aT a<aT b then aT b else aT a)+(1:Int)))) (0:Int))/\∀(v6 c0:Int) (au:List Int),aQ v6 c0 au->(decide (c0<aT au)=true->∃(J:Int->Prop),((decide (c0<aT a)=true->(0:Int)<=c0/\c0<aT a/\(false,ae.af IntKind.u32 au)=(false,ae.af IntKind.u32 au)/\J (aX (v6+aX (List.getD a (Int.toNat c0) (0:Int)))))/\(decide (c0<aT a)=false->(false,ae.af IntKind.u32 au)=(false,ae.af IntKind.u32 au)/\J v6))/\∀(Jz:Int),J Jz->∃(J:Int->Prop),((decide (c0<aT b)=true->(0:Int)<=c0/\c0<aT b/\(false,ae.af IntKind.u32 au)=(false,ae.af IntKind.u32 au)/\J (aX (Jz+aX (List.getD b (Int.toNat c0) (0:Int)))))/\(decide (c0<aT b)=false->(false,ae.af IntKind.u32 au)=(false,ae.af IntKind.u32 au)/\J Jz))/\∀(Ak:Int),J Ak->(0:Int)<=c0/\c0<aT au/\aQ (Int.fdiv Ak (4294967296:Int)) (ai (c0+(1:Int))) (List.set au (Int.toNat c0) (bY Ak))/\m (Int.fdiv Ak (4294967296:Int)) (ai (c0+(1:Int))) (List.set au (Int.toNat c0) (bY Ak))<m v6 c0 au)/\(decide (c0<aT au)=false->aa.bF au/\K (R.d (U.af IntKind.u32 (aa.aP (aa.val au)))))
def OK:List Int->List Int->(R->Prop)->Prop:=
 fun a b K=>0<=ai (ai (↑a.length+↑b.length)+1)/\ai (ai (↑a.length+↑b.length)+1)<=ai (ai (↑a.length+↑b.length)+1)/\ai (ai (↑a.length+↑b.length)+1)*4<=281474976710656/\∃(aQ:Int->List Int->Prop),∃(m:Int->List Int->Nat),aQ 0 (List.replicate (ai (ai (↑a.length+↑b.length)+1)).toNat 0)/\∀(v6:Int) (au:List Int),aQ v6 au->(decide (v6<↑a.length)=true->∃(fu:Int->Int->List Int->Prop),∃(fb:Int->Int->List Int->Nat),fu 0 0 au/\∀(c0 bq:Int) (bw:List Int),fu c0 bq bw->(decide (bq<↑b.length)=true->0<=v6/\v6<↑a.length/\0<=bq/\bq<↑b.length/\0<=ai (v6+bq)/\ai (v6+bq)<↑bw.length/\0<=ai (v6+bq)/\ai (v6+bq)<↑bw.length/\fu ((aX (aX (aX (aX (a.getD v6.toNat 0)*aX (b.getD bq.toNat 0))+aX (bw.getD (ai (v6+bq)).toNat 0))+c0)).fdiv 4294967296) (ai (bq+1)) (bw.set (ai (v6+bq)).toNat (bY (aX (aX (aX (aX (a.getD v6.toNat 0)*aX (b.getD bq.toNat 0))+aX (bw.getD (ai (v6+bq)).toNat 0))+c0))))/\fb ((aX (aX (aX (aX (a.getD v6.toNat 0)*aX (b.getD bq.toNat 0))+aX (bw.getD (ai (v6+bq)).toNat 0))+c0)).fdiv 4294967296) (ai (bq+1)) (bw.set (ai (v6+bq)).toNat (bY (aX (aX (aX (aX (a.getD v6.toNat 0)*aX (b.getD bq.toNat 0))+aX (bw.getD (ai (v6+bq)).toNat 0))+c0))))<fb c0 bq bw)/\(decide (bq<↑b.length)=false->∃(KJ:Int->Int->List Int->Prop),∃(UL:Int->Int->List Int->Nat),KJ c0 (ai (v6+↑b.length)) bw/\∀(c0 v10:Int) (ef:List Int),KJ c0 v10 ef->(decide (0<c0)=true->0<=v10/\v10<↑ef.length/\0<=v10/\v10<↑ef.length/\KJ ((aX (aX (ef.getD v10.toNat 0)+c0)).fdiv 4294967296) (ai (v10+1)) (ef.set v10.toNat (bY (aX (aX (ef.getD v10.toNat 0)+c0))))/\UL ((aX (aX (ef.getD v10.toNat 0)+c0)).fdiv 4294967296) (ai (v10+1)) (ef.set v10.toNat (bY (aX (aX (ef.getD v10.toNat 0)+c0))))<UL c0 v10 ef)/\(decide (0<c0)=false->aQ (ai (v6+1)) ef/\m (ai (v6+1)) ef<m v6 au)))/\(decide (v6<↑a.length)=false->bF au/\K (R.d (U.af .u32 (aP (val au)))))
def OL:List Int->List Int->(R->Prop)->Prop:=
 fun a b K=>(bF a/\bF b)/\(decide (cmp (val a) (val b)<0)=true->K (R.tup [R.d (U.af .u32 []),R.d (U.int .i64 1)]))/\(decide (cmp (val a) (val b)<0)=false->bF a/\bF b/\∃(aQ:Int->Int->List Int->List Int->Prop),∃(m:Int->Int->List Int->List Int->Nat),aQ 0 0 (aP (val a)) (aP (val b))/\∀(c0 bq:Int) (au bD:List Int),aQ c0 bq au bD->(decide (bq<↑au.length)=true->∃(J:Int->Prop),((decide (bq<↑bD.length)=true->0<=bq/\bq<↑bD.length/\(false,ae.af .u32 au)=(false,ae.af .u32 au)/\(false,ae.af .u32 bD)=(false,ae.af .u32 bD)/\J (aX (c0+aX (bD.getD bq.toNat 0))))/\(decide (bq<↑bD.length)=false->(false,ae.af .u32 au)=(false,ae.af .u32 au)/\(false,ae.af .u32 bD)=(false,ae.af .u32 bD)/\J c0))/\∀(v9:Int),J v9->0<=bq/\bq<↑au.length/\(decide (aX (au.getD bq.toNat 0)<v9)=true->0<=bq/\bq<↑au.length/\aQ 1 (ai (bq+1)) (au.set bq.toNat (bY (aX (aX (aX (au.getD bq.toNat 0)+4294967296)-v9)))) bD/\m 1 (ai (bq+1)) (au.set bq.toNat (bY (aX (aX (aX (au.getD bq.toNat 0)+4294967296)-v9)))) bD<m c0 bq au bD)/\(decide (aX (au.getD bq.toNat 0)<v9)=false->0<=bq/\bq<↑au.length/\aQ 0 (ai (bq+1)) (au.set bq.toNat (bY (aX (aX (au.getD bq.toNat 0)-v9)))) bD/\m 0 (ai (bq+1)) (au.set bq.toNat (bY (aX (aX (au.getD bq.toNat 0)-v9)))) bD<m c0 bq au bD))/\(decide (bq<↑au.length)=false->bF au/\K (R.tup [R.d (U.af .u32 (aP (val au))),R.d (U.int .i64 0)])))
def NO:List Int->Int->(ae->Prop)->Prop:=
 fun(a:List Int) (k:Int) (K:ae->Prop)=>(0:Int)<=ai (aT a+(1:Int))/\ai (aT a+(1:Int))<=ai (aT a+(1:Int))/\ai (aT a+(1:Int))*(4:Int)<=(281474976710656:Int)/\∃(aQ:Int->Int->List Int->Prop),∃(m:Int->Int->List Int->Nat),aQ (0:Int) (0:Int) (List.replicate (Int.toNat (ai (aT a+(1:Int)))) (0:Int))/\∀(v6 c0:Int) (au:List Int),aQ v6 c0 au->(decide (c0<aT a)=true->(0:Int)<=c0/\c0<aT a/\(0:Int)<=aX k/\(0:Int)<=c0/\c0<aT au/\aQ (Int.fdiv (cN BinOp.or IntKind.u64 (aX (aX (List.getD a (Int.toNat c0) (0:Int))*(2:Int)^min (Int.toNat (aX k)) (64:Nat))) v6) (4294967296:Int)) (ai (c0+(1:Int))) (List.set au (Int.toNat c0) (bY (cN BinOp.or IntKind.u64 (aX (aX (List.getD a (Int.toNat c0) (0:Int))*(2:Int)^min (Int.toNat (aX k)) (64:Nat))) v6)))/\m (Int.fdiv (cN BinOp.or IntKind.u64 (aX (aX (List.getD a (Int.toNat c0) (0:Int))*(2:Int)^min (Int.toNat (aX k)) (64:Nat))) v6) (4294967296:Int)) (ai (c0+(1:Int))) (List.set au (Int.toNat c0) (bY (cN BinOp.or IntKind.u64 (aX (aX (List.getD a (Int.toNat c0) (0:Int))*(2:Int)^min (Int.toNat (aX k)) (64:Nat))) v6)))<m v6 c0 au)/\(decide (c0<aT a)=false->(0:Int)<=aT a/\aT a<aT au/\K (ae.af IntKind.u32 (List.set au (Int.toNat (aT a)) (bY v6))))
def MT:List Int->Int->(R->Prop)->Prop:=
 fun(a:List Int) (k:Int) (K:R->Prop)=>(0:Int)<=aT a/\aT a<=aT a/\aT a*(4:Int)<=(281474976710656:Int)/\∃(aQ:Int->List Int->Prop),∃(m:Int->List Int->Nat),aQ (0:Int) (List.replicate (Int.toNat (aT a)) (0:Int))/\∀(v6:Int) (au:List Int),aQ v6 au->(decide (v6<aT a)=true->(0:Int)<=v6/\v6<aT a/\∃(J:Int->Prop),((decide (ai (v6+(1:Int))<aT a)=true->(0:Int)<=ai (v6+(1:Int))/\ai (v6+(1:Int))<aT a/\(false,ae.af IntKind.u32 au)=(false,ae.af IntKind.u32 au)/\J (cN BinOp.or IntKind.u64 (aX (List.getD a (Int.toNat v6) (0:Int))) (aX (aX (List.getD a (Int.toNat (ai (v6+(1:Int)))) (0:Int))*(4294967296:Int)))))/\(decide (ai (v6+(1:Int))<aT a)=false->(false,ae.af IntKind.u32 au)=(false,ae.af IntKind.u32 au)/\J (aX (List.getD a (Int.toNat v6) (0:Int)))))/\∀(c0:Int),J c0->(0:Int)<=aX k/\(0:Int)<=v6/\v6<aT au/\aQ (ai (v6+(1:Int))) (List.set au (Int.toNat v6) (bY (Int.fdiv c0 ((2:Int)^min (Int.toNat (aX k)) (64:Nat)))))/\m (ai (v6+(1:Int))) (List.set au (Int.toNat v6) (bY (Int.fdiv c0 ((2:Int)^min (Int.toNat (aX k)) (64:Nat)))))<m v6 au)/\(decide (v6<aT a)=false->aa.bF au/\K (R.d (U.af IntKind.u32 (aa.aP (aa.val au)))))
def MU:Int->(R->Prop)->Prop:=
 fun n K=>(decide (n<0)=true->K (R.tup [R.d (U.af .u32 []),R.d (U.int .i64 1)]))/\(decide (n<0)=false->bF [bY (cN BinOp.and .i64 n 4294967295),bY (n.fdiv 4294967296)]/\K (R.tup [R.d (U.af .u32 (aP (val [bY (cN BinOp.and .i64 n 4294967295),bY (n.fdiv 4294967296)]))),R.d (U.int .i64 0)]))
end aa
end
section
open Go Go.ak
namespace aa
theorem y6 {b:List Int}{n:Nat}(h:b.length<=n):b.getD n 0=0:=by
 simp[apA,aqc h]
theorem acX {Lm V VT VU w x y C T st:Nat}(ab:V+w*C=VT+VU)(ad:st+4294967296*T=C+x+y)(aA:Lm=V+w*st):Lm+w*(4294967296*T)=(VT+w*x)+(VU+w*y):=by
 have h:=aqd (w*·) ad;simp only[apN]at h;omega
theorem abu (a b:List Int)(K:R->Prop)(h:De.T [.d (.af .u32 a), .d (.af .u32 b)] K):OJ a b K:=by
 obtain⟨⟨aR,ah,gM,k_⟩,ag⟩:=h;unfold OJ ai aX bY aT
 obtain⟨M,iE,akB,akC,ao2⟩:∃M:Nat,IntKind.wrap .i64 ((if(Nat.cast:Nat->Int) a.length<(Nat.cast:Nat->Int) b.length then(Nat.cast:Nat->Int) b.length else(Nat.cast:Nat->Int) a.length)+1)=(M:Int)/\a.length<M/\b.length<M/\M<=90000001:=by
  split
  ·exact⟨b.length+1,by rw[bQ (by omega)];omega,by omega,by omega,by omega⟩
  ·exact⟨a.length+1,by rw[bQ (by omega)];omega,by omega,by omega,by omega⟩
 rw[iE];simp only[apB];refine⟨by omega,by omega,by omega,fun c i o=>bN o/\o.length=M/\∃C i0:Nat,c=C/\i=i0/\i0<=M/\C<=1/\du o i0+4294967296^i0*C=du a i0+du b i0,fun c i o=>M-i.toNat,⟨bN.nv _,by simp,0,0,rfl,rfl,by omega,by omega,by simp[iK]⟩, ?_⟩;rintro c i o ⟨aF,gl,C,n,rfl,rfl,aB,mK,ay⟩;rw[gl];refine⟨fun h=> ?_,fun h=> ?_⟩
 ·simp only[apE]at h;simp only[apB,ix aR,ix ah];have aj:=fT aR n;have bo:=fT ah n;refine⟨fun v=>v=((C+lm a n:Nat):Int),⟨fun ab=> ?_,fun ab=> ?_⟩, ?_⟩
  ·simp only[apE]at ab;refine⟨by omega,ab,by first|rfl|trivial, ?_⟩;rw[cT (x:=(lm a n:Int)) (by omega),cT (by omega)];omega
  ·simp only[apD]at ab;refine⟨by first|rfl|trivial, ?_⟩;have:lm a n=0:=by unfold lm;rw[y6 (by omega)];rfl
   rw[this];rfl
  rintro v rfl;refine⟨fun v=>v=((C+lm a n+lm b n:Nat):Int),⟨fun ab=> ?_,fun ab=> ?_⟩, ?_⟩
  ·simp only[apE]at ab;refine⟨by omega,ab,by first|rfl|trivial, ?_⟩;rw[cT (x:=(lm b n:Int)) (by omega),cT (by omega)];omega
  ·simp only[apD]at ab;refine⟨by first|rfl|trivial, ?_⟩;have:lm b n=0:=by unfold lm;rw[y6 (by omega)];rfl
   rw[this];rfl
  rintro v rfl;have az:IntKind.wrap .i64 ((n:Int)+1)=((n+1:Nat):Int):=by rw[bQ (by omega)];omega
  have aJ:IntKind.wrap .u32 ((C+lm a n+lm b n:Nat):Int)=(((C+lm a n+lm b n)%4294967296:Nat):Int):=by rw[kg];omega
  have bX:Int.fdiv ((C+lm a n+lm b n:Nat):Int) 4294967296=(((C+lm a n+lm b n)/4294967296:Nat):Int):=by rw[aqf _ (by omega)];omega
  simp only[az,aJ,bX];refine⟨by omega,by omega,⟨aF.set _ ⟨by omega,by omega⟩,by rw[apL];exact gl,_,n+1,rfl,rfl,by omega,by omega, ?_⟩,by show M-((n+1:Nat):Int).toNat<M-(n:Int).toNat;omega⟩
  have hw:du (o.set n (((C+lm a n+lm b n)%4294967296:Nat):Int)) (n+1)=du o n+4294967296^n*((C+lm a n+lm b n)%4294967296):=by
   rw[gA,rA _ _ _ _ (apF _),eR,apz ⟨rfl,by omega⟩,apB]
  have aU:=acX (x:=lm a n) (y:=lm b n) (T:=(C+lm a n+lm b n)/4294967296) ay (by omega) hw;rw[ap6,aqb,gA a,gA b];exact aU
 ·simp only[apD]at h;obtain rfl:n=M:=by omega
  refine⟨⟨aF,by omega⟩, ?_⟩;rw[hI a (by omega),hI b (by omega),hI o (by omega)]at ay;have ab:=iM aR;have ad:=iM ah
  have A4:C=0:=by
   rcases aq7 C with bc|bc
   ·exact bc
   ·exfalso;have aA:4294967296^a.length*4294967296<=4294967296^n:=by rw[<-ap6];exact aqg (by decide) akB
    have ba:4294967296^b.length*4294967296<=4294967296^n:=by rw[<-ap6];exact aqg (by decide) akC
    have bJ:=apY (4294967296^n) bc;omega
  rw[A4,ap0,apV]at ay;rw[ay];exact ag
theorem RD {tZ t_ vo w fm st X C T A:Nat}(a1:t_+w*fm=tZ+w*st)(a2:tZ+w*C=vo+A)(a3:st+4294967296*T=X+fm+C):t_+w*(4294967296*T)=vo+(A+w*X):=by
 have h:=aqd (w*·) a3;simp only[apN]at h;omega
theorem RE {x y:Nat}(aj:x<4294967296)(bo:y<4294967296):x*y<=18446744065119617025:=by
 have:x*y<=4294967295*4294967295:=aqP (by omega) (by omega);omega
theorem abv (a b:List Int)(K:R->Prop)(h:Df.T [.d (.af .u32 a), .d (.af .u32 b)] K):OK a b K:=by
 obtain⟨⟨aR,ah,gM,k_⟩,ag⟩:=h;unfold OK ai aX bY
 have hq:IntKind.wrap .i64 (IntKind.wrap .i64 ((Nat.cast:Nat->Int) a.length+(Nat.cast:Nat->Int) b.length)+1)=((a.length+b.length+1:Nat):Int):=by
  rw[bQ (x:=(Nat.cast:Nat->Int) a.length+(Nat.cast:Nat->Int) b.length) (by omega),bQ (by omega)];omega
 rw[hq];simp only[apB];refine⟨by omega,by omega,by omega,fun i o=>bN o/\o.length=a.length+b.length+1/\∃n:Nat,i=n/\n<=a.length/\val o=du a n*val b,fun i o=>a.length-i.toNat,⟨bN.nv _,by simp,0,rfl,by omega,by rw[yS,iK,aqI]⟩, ?_⟩;rintro i o ⟨aF,gl,n,rfl,aB,aO⟩;refine⟨fun h=> ?_,fun h=> ?_⟩
 ·simp only[apE]at h;simp only[apB,ix aR,ix ah]
  refine⟨fun c k p=>bN p/\p.length=a.length+b.length+1/\∃C q:Nat,c=C/\k=q/\q<=b.length/\C<4294967296/\val p+4294967296^(n+q)*C=val o+4294967296^n*(lm a n*du b q),fun c k p=>b.length-k.toNat,
   ⟨aF,gl,0,0,rfl,rfl,by omega,by omega,by rw[iK,ap0,ap0,ap0]⟩, ?_⟩
  rintro c k p ⟨aE,ji,C,q,rfl,rfl,a6,mK,ay⟩;refine⟨fun ad=> ?_,fun ad=> ?_⟩
  ·simp only[apE]at ad;have az:IntKind.wrap .i64 ((n:Int)+(q:Int))=((n+q:Nat):Int):=by rw[bQ (by omega)];omega
   have aJ:IntKind.wrap .i64 ((q:Int)+1)=((q+1:Nat):Int):=by rw[bQ (by omega)];omega
   simp only[az,aJ,apB,ix aE];have aj:=fT aR n;have bo:=fT ah q;have hM:=fT aE (n+q);have F1:=RE aj bo;have qG:(p.getD (n+q) 0).toNat=lm p (n+q):=rfl;have UM:(b.getD q 0).toNat=lm b q:=rfl
   obtain⟨x,hB⟩:∃x,lm a n=x:=⟨_,rfl⟩
   obtain⟨y,nO⟩:∃x,lm b q=x:=⟨_,rfl⟩
   obtain⟨z,db⟩:∃x,lm p (n+q)=x:=⟨_,rfl⟩
   rw[hB]at ay aj F1;rw[nO]at bo F1 UM;rw[db]at hM qG;simp only[hB,nO,db]
   have w1:IntKind.wrap .u64 (IntKind.wrap .u64 (IntKind.wrap .u64 (IntKind.wrap .u64 (x:Int)*IntKind.wrap .u64 (y:Int))+IntKind.wrap .u64 (z:Int))+(C:Int))=((x*y+z+C:Nat):Int):=by
    rw[cT (x:=(x:Int)) (by omega),cT (x:=(y:Int)) (by omega),cT (x:=(z:Int)) (by omega),<-aqJ];generalize x*y=VV at F1⊢;rw[cT (x:=(VV:Int)) (by omega),cT (x:=(VV:Int)+(z:Int)) (by omega),cT (by omega)];omega
   simp only[w1]
   obtain⟨S,hC⟩:∃S,x*y+z+C=S:=⟨_,rfl⟩
   simp only[hC];have dd:IntKind.wrap .u32 (S:Int)=((S%4294967296:Nat):Int):=by rw[kg];omega
   have bY:Int.fdiv (S:Int) 4294967296=((S/4294967296:Nat):Int):=by rw[aqf _ (by omega)];omega
   simp only[dd,bY];have UN:S<18446744073709551616:=by omega
   have hJ:=l9 p (n+q) ((S%4294967296:Nat):Int) (by omega);rw[qG,apB]at hJ;have aU:=RD (X:=x*y) (T:=S/4294967296) hJ ay (by omega);refine⟨by omega,by omega,by omega,by omega,by omega,by omega,by omega,by omega,⟨aE.set _ ⟨by omega,by omega⟩,by rw[apL];exact ji,_,q+1,rfl,rfl,by omega,by omega, ?_⟩,by show b.length-((q+1:Nat):Int).toNat<b.length-(q:Int).toNat;omega⟩;have gY:4294967296^(n+(q+1))*(S/4294967296)=4294967296^(n+q)*(4294967296*(S/4294967296)):=by rw[<-aqs,ap6,aqb]
   have jn:4294967296^n*(x*du b (q+1))=4294967296^n*(x*du b q)+4294967296^(n+q)*(x*y):=by
    rw[gA,UM,apN,apN,aqi,aqC x,aqb]
   rw[gY,jn];exact aU
  ·simp only[apD]at ad;obtain rfl:q=b.length:=by omega
   have az:IntKind.wrap .i64 ((n:Int)+(Nat.cast:Nat->Int) b.length)=((n+b.length:Nat):Int):=by rw[bQ (by omega)];omega
   rw[az];rw[hI b (apF _)]at ay
   have ahn:val o+4294967296^n*(lm a n*val b)=du a (n+1)*val b:=by
    rw[aO,gA,apU,aqb];rfl
   have hbound:du a (n+1)*val b<4294967296^(a.length+b.length+1):=by
    have ab:=rH aR (n+1);have ad:=iM ah;have aA:=Nat.mul_lt_mul'' ab ad;rw[<-aqi]at aA;exact apW aA (aqg (by decide) (by omega))
   rw[ahn]at ay
   refine⟨fun c k p=>bN p/\p.length=a.length+b.length+1/\∃C q:Nat,c=C/\k=q/\q<=a.length+b.length+1/\C<4294967296/\val p+4294967296^q*C=du a (n+1)*val b,fun c k p=>a.length+b.length+1-k.toNat,
    ⟨aE,ji,C,n+b.length,rfl,rfl,by omega,mK,ay⟩, ?_⟩
   rintro c k p ⟨aE,ji,C,q,rfl,rfl,a6,mK,ay⟩;refine⟨fun aA=> ?_,fun aA=> ?_⟩
   ·simp only[apE]at aA
    have xP:q<a.length+b.length+1:=by
     rcases aq5 q (a.length+b.length+1)with ba|ba
     ·exact ba
     ·exfalso;have bJ:4294967296^(a.length+b.length+1)<=4294967296^q:=aqg (by decide) ba;have cu:=apY (4294967296^q) (show 1<=C by omega);omega
    have aJ:IntKind.wrap .i64 ((q:Int)+1)=((q+1:Nat):Int):=by rw[bQ (by omega)];omega
    simp only[aJ,apB,ix aE];have hM:=fT aE q;have qG:(p.getD q 0).toNat=lm p q:=rfl
    obtain⟨z,db⟩:∃x,lm p q=x:=⟨_,rfl⟩
    rw[db]at hM qG;simp only[db];have w1:IntKind.wrap .u64 (IntKind.wrap .u64 (z:Int)+(C:Int))=((z+C:Nat):Int):=by rw[cT (x:=(z:Int)) (by omega),cT (by omega)];omega
    simp only[w1]
    obtain⟨S,hC⟩:∃S,z+C=S:=⟨_,rfl⟩
    simp only[hC];have dd:IntKind.wrap .u32 (S:Int)=((S%4294967296:Nat):Int):=by rw[kg];omega
    have bY:Int.fdiv (S:Int) 4294967296=((S/4294967296:Nat):Int):=by rw[aqf _ (by omega)];omega
    simp only[dd,bY];have hJ:=l9 p q ((S%4294967296:Nat):Int) (by omega);rw[qG,apB]at hJ;have aU:=RD (X:=0) (A:=du a (n+1)*val b) (vo:=0) (C:=C) (T:=S/4294967296) hJ (by rw[ap3];exact ay) (by omega);rw[ap0,apV,ap3]at aU;refine⟨by omega,by omega,by omega,by omega,⟨aE.set _ ⟨by omega,by omega⟩,by rw[apL];exact ji,_,q+1,rfl,rfl,by omega,by omega, ?_⟩,by show a.length+b.length+1-((q+1:Nat):Int).toNat<a.length+b.length+1-(q:Int).toNat;omega⟩;have gY:4294967296^(q+1)*(S/4294967296)=4294967296^q*(4294967296*(S/4294967296)):=by rw[ap6,aqb]
    rw[gY];exact aU
   ·simp only[apD]at aA;obtain rfl:C=0:=by omega
    have bX:IntKind.wrap .i64 ((n:Int)+1)=((n+1:Nat):Int):=by rw[bQ (by omega)];omega
    rw[bX];refine⟨⟨aE,ji,n+1,rfl,by omega,by omega⟩,by show a.length-((n+1:Nat):Int).toNat<a.length-(n:Int).toNat;omega⟩
 ·simp only[apD]at h;obtain rfl:n=a.length:=by omega
  refine⟨⟨aF,by omega⟩, ?_⟩;rw[aO,hI a (apF _)];exact ag
end aa
end
section
open Go Go.ak
namespace aa
end aa
end
section
namespace aa
open Go Go.ak Go.Sort
def dS (l:List Row)(i j:Nat):List Row:=(l.set i (l.getD j [])).set j (l.getD i [])
theorem w5 (l:List Row)(j:Nat):l.toArray[j]! =l.getD j []:=by
 simp[apA];cases h:l[j]? <;>simp[h];rfl
theorem kP (l:List Row)(i j:Nat):swp l.toArray i j=(dS l i j).toArray:=by
 unfold swp dS;rw[w5,w5];simp
theorem s0 (l:List Row)(i j:Nat):(dS l i j).length=l.length:=by simp[dS]
theorem c9.get {l:List Row}(h:c9 l){i:Nat}(hi:i<l.length):eT (l.getD i []):=by
 rw[apA,apT hi];exact h _ (aqA hi)
theorem eT.len {r:Row}(h:eT r):r.length=11:=by
 obtain⟨_,_,_,_,_,_,_,_,_,_,_,rfl⟩:=h;rfl
theorem c9.len {l:List Row}(h:c9 l){i:Nat}(hi:i<l.length):(l.getD i []).length=11:=(h.get hi).len
theorem c9.set {l:List Row}(h:c9 l){i:Nat}{r:Row}(ao:eT r):c9 (l.set i r):=fun x aj=>by
 rcases are aj with aj|rfl
 ·exact h x aj
 ·exact ao
theorem c9.dS {l:List Row}(h:c9 l){i j:Nat}(hi:i<l.length)(aI:j<l.length):c9 (dS l i j):=(h.set (h.get aI)).set (h.get hi)
theorem me (l:List Row)(i j:Nat):bl l.toArray[i]! l.toArray[j]! =decide (gS (l.getD i []) (l.getD j [])<0):=by
 rw[w5,w5];rfl
theorem acY {A j:Nat}{l:List Row}(ab:A<j+1)(ad:gS (l.getD (j+1) []) (l.getD j [])<0):insInner bl A (j+1) l.toArray=insInner bl A j (dS l (j+1) j).toArray:=by
 rw[insInner,me,aqN ad,<-kP];simp;omega
theorem Qt {A j:Nat}{l:List Row}(h:j<=A\/¬gS (l.getD j []) (l.getD (j-1) [])<0):insInner bl A j l.toArray=l.toArray:=by
 cases j with
 |zero=>rfl
 |succ j=>
  rw[insInner,me];rcases h with h|h
  ·rw[apy];simp;omega
  ·rw[apy];simp at h;simp[h]
theorem LK (l:List Row)(a b:Int)(K:ae->R->Prop)(h:fU l a b/\K (.ar 11 (insertionSort bl l.toArray a.toNat b.toNat).toList) (.tup [])):LG l a b K:=by
 obtain⟨⟨ax,aR,jP,ah,aB⟩,ag⟩:=h;obtain⟨A,rfl⟩:=apG aR;obtain⟨B,rfl⟩:=apG (aq0 aR jP);simp only[apB]at ag;unfold LG ai List.aS;rw[bQ (x:=(A:Int)+1) (by omega)];refine⟨fun v o=>(A:Int)+1<=v/\v<=B+1/\c9 o/\o.length=l.length/\insOuter bl A B v.toNat o.toArray=insertionSort bl l.toArray A B,fun v _=>(B+1-v:Int).toNat,⟨by omega,by omega,ax,rfl,rfl⟩, ?_⟩;rintro v o ⟨ab,ad,aA,ba,bJ⟩;obtain⟨V,rfl⟩:=apG (a:=v) (by omega);refine⟨fun h=> ?_,fun h=> ?_⟩
 ·have h:=apJ h;refine⟨fun j cj=>(A:Int)<=j/\j<=V/\c9 cj/\cj.length=l.length/\insInner bl A j.toNat cj.toArray=insInner bl A V o.toArray,fun j _=>j.toNat,⟨by omega,by omega,aA,ba,rfl⟩, ?_⟩;rintro j cj ⟨g1,g2,g3,g4,g5⟩;obtain⟨J,rfl⟩:=apG (a:=j) (by omega)
  have fin:insInner bl A J cj.toArray=cj.toArray->(A:Int)+1<=IntKind.wrap .i64 ((V:Int)+1)/\IntKind.wrap .i64 ((V:Int)+1)<=B+1/\c9 cj/\cj.length=l.length/\insOuter bl A B (IntKind.wrap .i64 ((V:Int)+1)).toNat cj.toArray=insertionSort bl l.toArray A B:=fun e=>by
   rw[bQ (x:=(V:Int)+1) (by omega)];refine⟨by omega,by omega,g3,g4, ?_⟩;rw[show((V:Int)+1).toNat=V+1 by omega,<-bJ,apB]
   conv=>rhs;rw[insOuter]
   rw[apz (by omega),<-g5,apB,e]
  have dec:(B+1-IntKind.wrap .i64 ((V:Int)+1):Int).toNat<(B+1-(V:Int)).toNat:=by rw[bQ (x:=(V:Int)+1) (by omega)];omega
  refine⟨fun aI=> ?_,fun aI=> ?_⟩
  ·have aI:=apJ aI;rw[bQ (x:=(J:Int)-1) (by omega)]
   obtain⟨fW,rfl⟩:∃fW,J=fW+1:=⟨J-1,by omega⟩
   rw[show((fW+1:Nat):Int)-1=(fW:Int) by omega];simp only[apB,apL]at g5⊢;have ch:fW+1<cj.length:=by omega
   have df:fW<cj.length:=by omega
   refine⟨by omega,by omega,g3.len ch,by omega,by omega,g3.len df,⟨g3.get ch,g3.get df⟩, ?_⟩;rintro _ rfl;refine⟨fun aC=> ?_,fun aC=> ?_⟩
   ·have aC:=apJ aC;refine⟨by omega,by omega,g3.len df,by omega,by omega,g3.len ch,by omega,by omega,by omega,by omega,⟨by omega,by omega,g3.dS ch df,g4, ?_⟩,by omega⟩;rw[<-g5,acY (by omega) aC];rfl
   ·have aC:=apO aC;exact⟨fin (Qt (.inr aC)),dec⟩
  ·have aI:=apO aI;exact⟨fin (Qt (.inl (by omega))),dec⟩
 ·have h:=apO h;rw[<-bJ,insOuter,apy (by rw[apB];omega)]at ag;exact ag
def Child (hi f r:Nat)(l:List Row)(c:Nat):Prop:=
 (c=2*r+2/\2*r+2<hi/\gS (l.getD (f+(2*r+1)) []) (l.getD (f+(2*r+1)+1) [])<0)\/
 (c=2*r+1/\2*r+1<hi/\¬(2*r+2<hi/\gS (l.getD (f+(2*r+1)) []) (l.getD (f+(2*r+1)+1) [])<0))
theorem HL {hi f r:Nat}{d:Array Row}(h:hi<=2*r+1):siftDown bl hi f r d=d:=by
 rw[siftDown,dif_pos h]
theorem Px {hi f r c:Nat}{l:List Row}(aC:Child hi f r l c)(h:¬gS (l.getD (f+r) []) (l.getD (f+c) [])<0):siftDown bl hi f r l.toArray=l.toArray:=by
 rcases aC with⟨rfl,ab,ad⟩|⟨rfl,ab,ad⟩
 ·rw[siftDown,dif_neg (by omega),me,me,me,apz (by simp;exact⟨ab,ad⟩),apz (by simp at h;simp[h])]
 ·rw[siftDown,dif_neg (by omega),me,me,me,apy (by simpa using ad),apz (by simp at h;simp[h])]
theorem RF {hi f r c:Nat}{l:List Row}(aC:Child hi f r l c)(h:gS (l.getD (f+r) []) (l.getD (f+c) [])<0):siftDown bl hi f r l.toArray=siftDown bl hi f c (dS l (f+r) (f+c)).toArray:=by
 rcases aC with⟨rfl,ab,ad⟩|⟨rfl,ab,ad⟩
 ·rw[siftDown,dif_neg (by omega),me,me,me,apz (by simp;exact⟨ab,ad⟩),apy (by simpa using h),dif_pos ab,kP]
 ·rw[siftDown,dif_neg (by omega),me,me,me,apy (by simpa using ad),apy (by simpa using h),kP]
theorem L1 (l:List Row)(lo hi f:Int)(K:ae->R->Prop)(h:(c9 l/\0<=lo/\lo<=(l.length:Int)/\0<=hi/\0<=f/\f+hi<=(l.length:Int)/\l.length<1000000000000000)/\K (.ar 11 (siftDown bl hi.toNat f.toNat lo.toNat l.toArray).toList) (.tup [])):LX l lo hi f K:=by
 obtain⟨⟨ax,bc,ab,ad,aA,ba,aB⟩,ag⟩:=h;obtain⟨bC,rfl⟩:=apG bc;obtain⟨H,rfl⟩:=apG ad;obtain⟨F,rfl⟩:=apG aA;simp only[apB]at ag;unfold LX ai;refine⟨fun v o=>0<=v/\v<=(l.length:Int)/\c9 o/\o.length=l.length/\siftDown bl H F v.toNat o.toArray=siftDown bl H F bC l.toArray,fun v _=>(H-v:Int).toNat,⟨by omega,by omega,ax,rfl,rfl⟩, ?_⟩;rintro v o ⟨g1,g2,g3,g4,g5⟩;obtain⟨V,rfl⟩:=apG g1;simp only[apB]at g5;have w1:IntKind.wrap .i64 ((2:Int)*(V:Int))=((2*V:Nat):Int):=by rw[bQ (by omega)];omega
 have dd:IntKind.wrap .i64 (((2*V:Nat):Int)+1)=((2*V+1:Nat):Int):=by rw[bQ (by omega)];omega
 have bY:IntKind.wrap .i64 (((2*V+1:Nat):Int)+1)=((2*V+2:Nat):Int):=by rw[bQ (by omega)];omega
 have kc:IntKind.wrap .i64 ((F:Int)+((2*V+1:Nat):Int))=((F+(2*V+1):Nat):Int):=by rw[bQ (by omega)];omega
 have yn:IntKind.wrap .i64 (((F+(2*V+1):Nat):Int)+1)=((F+(2*V+1)+1:Nat):Int):=by rw[bQ (by omega)];omega
 have ai:IntKind.wrap .i64 ((F:Int)+(V:Int))=((F+V:Nat):Int):=by rw[bQ (by omega)];omega
 simp only[w1,dd,bY,kc,yn,ai,apB];refine⟨fun h=> ?_,fun h=> ?_⟩
 ·have h:=apJ h;rw[<-g5,HL (by omega)]at ag;exact ag
 ·have h:=apO h;have b0:F+V<o.length:=by omega
  refine⟨fun c bD=>bD=o/\0<=c/\Child H F V o c.toNat,⟨fun ad=> ?_,fun ad=> ?_⟩, ?_⟩
  ·have ad:=apJ ad;have ch:F+(2*V+1)<o.length:=by omega
   have df:F+(2*V+1)+1<o.length:=by omega
   refine⟨by omega,by omega,g3.len ch,by omega,by omega,g3.len df,⟨g3.get ch,g3.get df⟩, ?_⟩;rintro _ rfl;refine⟨fun aA=> ?_,fun aA=> ?_⟩
   ·have aA:=apJ aA;exact⟨rfl,by omega, .inl ⟨by omega,by omega,aA⟩⟩
   ·have aA:=apO aA;exact⟨rfl,by omega, .inr ⟨by omega,by omega,fun h=>aA h.2⟩⟩
  ·have ad:=apO ad;exact⟨rfl,by omega, .inr ⟨by omega,by omega,fun h=>ad (by omega)⟩⟩
  ·rintro c bD ⟨rfl,VW,aC⟩;obtain⟨C,rfl⟩:=apG VW;simp only[apB]at aC;have mK:C<H/\V<C:=by rcases aC with⟨rfl,_,_⟩|⟨rfl,_,_⟩<;>omega
   have aX:IntKind.wrap .i64 ((F:Int)+(C:Int))=((F+C:Nat):Int):=by rw[bQ (by omega)];omega
   simp only[aX,apB,apL];have iD:F+C<bD.length:=by omega
   refine⟨by omega,by omega,g3.len b0,by omega,by omega,g3.len iD,⟨g3.get b0,g3.get iD⟩, ?_⟩;rintro _ rfl;refine⟨fun aA=> ?_,fun aA=> ?_⟩
   ·have aA:¬(gS (bD.getD (F+V) []) (bD.getD (F+C) [])<0):=by simpa using aA
    rw[<-g5,Px aC aA]at ag;exact ag
   ·have aA:gS (bD.getD (F+V) []) (bD.getD (F+C) [])<0:=by simpa using aA
    refine⟨by omega,by omega,g3.len iD,by omega,by omega,g3.len b0,by omega,by omega,by omega,by omega,⟨by omega,by omega,g3.dS b0 iD,g4, ?_⟩,by omega⟩;rw[<-g5,RF aC aA];rfl
theorem acZ {d:Array Row}{n i j:Nat}(h:d.size=n/\c9 d.toList)(hi:i<n)(aI:j<n):(swp d i j).size=n/\c9 (swp d i j).toList:=by
 obtain⟨l⟩:=d;rw[kP];have ab:l.length=n:=by simpa using h.1
 have ad:c9 l:=h.2;exact⟨by simpa[s0]using ab,c9.dS ad (by omega) (by omega)⟩
theorem abw (hi f n:Nat)(ay:f+hi<=n):∀(m root:Nat) (d:Array Row),hi-root<=m->(d.size=n/\c9 d.toList)->(siftDown bl hi f root d).size=n/\c9 (siftDown bl hi f root d).toList:=by
 intro m
 induction m with
 |zero=>intro root d h a_;rw[HL (by omega)];exact a_
 |succ m bI=>
  intro root d h a_;obtain⟨l⟩:=d
  by_cases ab:hi<=2*root+1
  ·rw[HL ab];exact a_
  ·obtain⟨c,aC⟩:∃c,Child hi f root l c:=by
    by_cases ad:2*root+2<hi/\gS (l.getD (f+(2*root+1)) []) (l.getD (f+(2*root+1)+1) [])<0
    ·exact⟨_, .inl ⟨rfl,ad.1,ad.2⟩⟩
    ·exact⟨_, .inr ⟨rfl,by omega,ad⟩⟩
   have ku:c<hi/\root<c:=by rcases aC with⟨rfl,_,_⟩|⟨rfl,_,_⟩<;>omega
   by_cases aA:gS (l.getD (f+root) []) (l.getD (f+c) [])<0
   ·rw[RF aC aA,<-kP];exact bI c _ (by omega) (acZ a_ (by omega) (by omega))
   ·rw[Px aC aA];exact a_
theorem Py {hi f root:Nat}{l:List Row}(ay:f+hi<=l.length)(h:c9 l):(siftDown bl hi f root l.toArray).toList.length=l.length/\c9 (siftDown bl hi f root l.toArray).toList:=by
 have:=abw hi f l.length ay (hi-root) root l.toArray (apF _) ⟨by simp,h⟩;exact⟨by simpa using this.1,this.2⟩
theorem L2 (l:List Row)(a b:Int)(K:ae->R->Prop)(h:(fU l a b/\a<b)/\K (.ar 11 (heapSort bl l.toArray a.toNat b.toNat).toList) (.tup [])):LY l a b K:=by
 obtain⟨⟨⟨ax,aR,jP,ah,aB⟩,bL⟩,ag⟩:=h;obtain⟨A,rfl⟩:=apG aR;obtain⟨B,rfl⟩:=apG (aq0 aR jP)
 obtain⟨H,rfl⟩:∃H,B=A+H:=⟨B-A,by omega⟩
 simp only[apB]at ag;unfold LY ai List.aS;have w1:IntKind.wrap .i64 (((A+H:Nat):Int)-(A:Int))=(H:Int):=by rw[bQ (by omega)];omega
 have dd:IntKind.wrap .i64 ((H:Int)-1)=(H:Int)-1:=bQ (by omega)
 have bY:IntKind.wrap .i64 (Int.tdiv ((H:Int)-1) 2)=(((H-1)/2:Nat):Int):=by
  have:(H:Int)-1=((H-1:Nat):Int):=by omega
  have aJ:Int.tdiv ((H-1:Nat):Int) 2=(((H-1)/2:Nat):Int):=(Int.ofNat_tdiv (H-1) 2).symm;rw[this,aJ,bQ (by omega)]
 simp only[w1,dd,bY,apB];refine⟨fun o=>c9 o/\o.length=l.length/\heapPop bl A H o.toArray=heapSort bl l.toArray A (A+H),⟨fun v o=>-1<=v/\v<=H/\c9 o/\o.length=l.length/\heapBuild bl H A (v+1).toNat o.toArray=heapBuild bl H A ((H-1)/2+1) l.toArray,fun v _=>(v+1).toNat,⟨by omega,by omega,ax,rfl, ?_⟩, ?_⟩, ?_⟩
 ·rw[show((((H-1)/2:Nat):Int)+1).toNat=(H-1)/2+1 by omega]
 ·rintro v o ⟨g1,g2,g3,g4,g5⟩;refine⟨fun h=> ?_,fun h=> ?_⟩
  ·have h:=apJ h;obtain⟨V,rfl⟩:=apG h;rw[bQ (x:=(V:Int)-1) (by omega)];obtain⟨aY,bj⟩:=Py (hi:=H) (f:=A) (root:=V) (l:=o) (by omega) g3;refine⟨by omega,⟨g3,by omega,by omega,by omega,by omega,by omega,by omega⟩,⟨by omega,by omega,bj,by rw[<-g4];exact aY, ?_⟩, ?_⟩
   ·rw[<-g5,show((V:Int)+1).toNat=V+1 by omega,show((V:Int)-1+1).toNat=V by omega]
    rfl
   ·show((V:Int)-1+1).toNat<((V:Int)+1).toNat;omega
  ·have h:=apO h;refine⟨g3,g4, ?_⟩;unfold heapSort;rw[show A+H-A=H by omega,<-g5,show(v+1).toNat=0 by omega];rfl
 ·rintro o ⟨g1,g2,g3⟩;refine⟨fun v cj=>-1<=v/\v<H/\c9 cj/\cj.length=l.length/\heapPop bl A (v+1).toNat cj.toArray=heapSort bl l.toArray A (A+H),fun v _=>(v+1).toNat,⟨by omega,by omega,g1,g2,by rw[show((H:Int)-1+1).toNat=H by omega];exact g3⟩, ?_⟩;rintro v cj ⟨q1,cG,cV,gD,eb⟩;refine⟨fun h=> ?_,fun h=> ?_⟩
  ·have h:=apJ h;obtain⟨V,rfl⟩:=apG h;have kc:IntKind.wrap .i64 ((A:Int)+(V:Int))=((A+V:Nat):Int):=by rw[bQ (by omega)];omega
   have ch:A<cj.length:=by omega
   have df:A+V<cj.length:=by omega
   have il:=cV.dS ch df;have hd:(dS cj A (A+V)).length=l.length:=by rw[s0];exact gD
   obtain⟨aY,bj⟩:=Py (hi:=V) (f:=A) (root:=0) (l:=dS cj A (A+V)) (by omega) il;simp only[kc,apB];rw[bQ (x:=(V:Int)-1) (by omega),show(cj.set A (cj.getD (A+V) [])).set (A+V) (cj.getD A [])=dS cj A (A+V)from rfl];refine⟨by omega,by omega,cV.len df,by omega,by omega,cV.len ch,by omega,by omega,by omega,by simp;omega,by omega,⟨il,by omega,by omega,by omega,by omega,by omega,by omega⟩,⟨by omega,by omega,bj,by rw[<-hd];exact aY, ?_⟩, ?_⟩
   ·rw[<-eb,show((V:Int)+1).toNat=V+1 by omega,show((V:Int)-1+1).toNat=V by omega,heapPop,kP]
   ·show((V:Int)-1+1).toNat<((V:Int)+1).toNat;omega
  ·have h:=apO h;rw[<-eb,show(v+1).toNat=0 by omega]at ag;exact ag
theorem ac0 {i j:Nat}{o:List Row}(h:i<j):reverseLoop i j o.toArray=reverseLoop (i+1) (j-1) (dS o i j).toArray:=by
 rw[reverseLoop,apz h,kP]
theorem ac1 {i j:Nat}{d:Array Row}(h:¬i<j):reverseLoop i j d=d:=by rw[reverseLoop,apy h]
theorem LO (l:List Row)(a b:Int)(K:ae->R->Prop)(h:fU l a b/\K (.ar 11 (reverseRange l.toArray a.toNat b.toNat).toList) (.tup [])):LJ l a b K:=by
 obtain⟨⟨ax,aR,jP,ah,aB⟩,ag⟩:=h;obtain⟨A,rfl⟩:=apG aR;obtain⟨B,rfl⟩:=apG (aq0 aR jP);simp only[apB]at ag;unfold LJ ai List.aS;rw[bQ (x:=(B:Int)-1) (by omega)];refine⟨fun i j o=>0<=i/\i<=(l.length:Int)/\-1<=j/\j<(l.length:Int)/\c9 o/\o.length=l.length/\(if i<j then reverseLoop i.toNat j.toNat o.toArray else o.toArray)=reverseRange l.toArray A B,fun i j _=>(j-i).toNat,⟨by omega,by omega,by omega,by omega,ax,rfl, ?_⟩, ?_⟩
 ·unfold reverseRange;split
  ·rw[show((B:Int)-1).toNat=B-1 by omega,apB]
  ·rw[reverseLoop,apy (by omega)]
 ·rintro i j o ⟨g1,g2,g3,g4,g5,g6,g7⟩;refine⟨fun h=> ?_,fun h=> ?_⟩
  ·have h:=apJ h;obtain⟨aQ,rfl⟩:=apG g1;obtain⟨J,rfl⟩:=apG (a:=j) (by omega);rw[bQ (x:=(aQ:Int)+1) (by omega),bQ (x:=(J:Int)-1) (by omega)];simp only[apB,apL]at g7⊢;have ch:aQ<o.length:=by omega
   have df:J<o.length:=by omega
   rw[show(o.set aQ (o.getD J [])).set J (o.getD aQ [])=dS o aQ J from rfl];refine⟨by omega,by omega,g5.len df,by omega,by omega,g5.len ch,by omega,by omega,by omega,by omega,⟨by omega,by omega,by omega,by omega,g5.dS ch df,g6, ?_⟩,by omega⟩;rw[<-g7,apz h,ac0 (i:=aQ) (j:=J) (o:=o) (by omega),show((aQ:Int)+1).toNat=aQ+1 by omega,show((J:Int)-1).toNat=J-1 by omega];split
   ·rfl
   ·rw[ac1 (by omega)]
  ·have h:=apO h;rw[<-g7,apy h]at ag;exact ag
end aa
end
section
namespace aa
open Go Go.ak Go.Sort
theorem Iu {p:Row->Bool}{d:Array Row}{j i:Nat}(h:i<=j)(aE:p d[i]! =true):scanUp p d j i=scanUp p d j (i+1):=by
 rw[scanUp,apz (by simp[h,aE])]
theorem w6 {p:Row->Bool}{d:Array Row}{j i:Nat}(h:j<i\/p d[i]! =false):scanUp p d j i=i:=by
 rw[scanUp,apy];rcases h with h|h
 ·simp;omega
 ·simp[h]
theorem Iv {p:Row->Bool}{d:Array Row}{i j:Nat}(h:i<=j+1)(aE:p d[j+1]! =true):scanDown p d i (j+1)=scanDown p d i j:=by
 rw[scanDown,apz (by simp[h,aE])]
theorem w7 {p:Row->Bool}{d:Array Row}{i j:Nat}(hi:1<=i)(h:j<i\/p d[j]! =false):scanDown p d i j=j:=by
 cases j with
 |zero=>rfl
 |succ j=>
  rw[scanDown,apy];rcases h with h|h
  ·simp;omega
  ·simp[h]
theorem jN (o:List Row)(i a:Nat):bl o.toArray[i]! o.toArray[a]! =decide (gS (o.getD i []) (o.getD a [])<0):=me o i a
theorem ZT {l:List Row}{A B Q aQ J:Nat}(ab:scanUp (fun x=>bl x (dS l A Q).toArray[A]!) (dS l A Q).toArray (B-1) (A+1)=aQ)(ad:scanDown (fun x=> !bl x (dS l A Q).toArray[A]!) (dS l A Q).toArray aQ (B-1)=J)(h:aQ>J):
 partition bl l.toArray A B Q=(J,true,(dS (dS l A Q) J A).toArray):=by
 unfold partition;simp only[kP,ab,ad,apz h]
theorem abx {l:List Row}{A B Q aQ J:Nat}(ab:scanUp (fun x=>bl x (dS l A Q).toArray[A]!) (dS l A Q).toArray (B-1) (A+1)=aQ)(ad:scanDown (fun x=> !bl x (dS l A Q).toArray[A]!) (dS l A Q).toArray aQ (B-1)=J)(h:¬aQ>J):
 partition bl l.toArray A B Q=((partLoop bl A (aQ+1) (J-1) (dS (dS l A Q) aQ J).toArray).1,false,swp (partLoop bl A (aQ+1) (J-1) (dS (dS l A Q) aQ J).toArray).2 (partLoop bl A (aQ+1) (J-1) (dS (dS l A Q) aQ J).toArray).1 A):=by
 unfold partition;simp only[kP,ab,ad,apy h]
theorem ZU {a i j i2 e4:Nat}{d:Array Row}(ab:scanUp (fun x=>bl x d[a]!) d j i=i2)(ad:scanDown (fun x=> !bl x d[a]!) d i2 j=e4)(h:i2>e4):partLoop bl a i j d=(e4,d):=by
 rw[partLoop];simp only[ab,ad,apz h]
theorem ac2 {a i j i2 e4:Nat}{l:List Row}(ab:scanUp (fun x=>bl x l.toArray[a]!) l.toArray j i=i2)(ad:scanDown (fun x=> !bl x l.toArray[a]!) l.toArray i2 j=e4)(h:¬i2>e4)(g:e4-1+1-(i2+1)<j+1-i):
 partLoop bl a i j l.toArray=partLoop bl a (i2+1) (e4-1) (dS l i2 e4).toArray:=by
 rw[partLoop];simp only[ab,ad,apy h,dif_pos g,kP]
theorem LZ (l:List Row)(a b p:Int)(K:ae->R->Prop)(h:(fU l a b/\a<=p/\p<b)/\K (.ar 11 (partition bl l.toArray a.toNat b.toNat p.toNat).2.2.toList) (.tup [.d (.int .i64 (partition bl l.toArray a.toNat b.toNat p.toNat).1), .d (.bool (partition bl l.toArray a.toNat b.toNat p.toNat).2.1)])):LV l a b p K:=by
 obtain⟨⟨⟨ax,aR,jP,ah,aB⟩,KK,rY⟩,ag⟩:=h;obtain⟨A,rfl⟩:=apG aR;obtain⟨B,rfl⟩:=apG (aq0 aR jP);obtain⟨Q,rfl⟩:=apG (aq0 aR KK);simp only[apB]at ag;unfold LV ai aT List.aS;have wa:A<l.length:=by omega
 have Bv:Q<l.length:=by omega
 rw[bQ (x:=(A:Int)+1) (by omega),bQ (x:=(B:Int)-1) (by omega)];simp only[apB,apL];rw[show(l.set A (l.getD Q [])).set Q (l.getD A [])=dS l A Q from rfl];have gj:=ax.dS wa Bv;have fg:(dS l A Q).length=l.length:=s0 _ _ _;have aC:= @ZT l A B Q;have aE:= @abx l A B Q;generalize dS l A Q=de at gj fg aC aE;refine⟨by omega,by omega,ax.len Bv,by omega,by omega,ax.len wa,by omega,by omega,by omega,by omega, ?_⟩;refine⟨fun i o=>o=de/\(A:Int)+1<=i/\i<=B/\scanUp (fun x=>bl x de.toArray[A]!) de.toArray (B-1) (A+1)=i.toNat,⟨fun i o=>o=de/\(A:Int)+1<=i/\i<=B/\scanUp (fun x=>bl x de.toArray[A]!) de.toArray (B-1) (A+1)=scanUp (fun x=>bl x de.toArray[A]!) de.toArray (B-1) i.toNat,fun i _=>(B-i:Int).toNat,⟨rfl,by omega,by omega, ?_⟩, ?_⟩, ?_⟩
 ·rw[show((A:Int)+1).toNat=A+1 by omega]
 ·rintro i o ⟨rfl,g1,g2,g3⟩;obtain⟨aQ,rfl⟩:=apG (a:=i) (by omega);simp only[apB]at g3⊢;refine⟨fun h=> ?_,fun h=> ?_⟩
  ·have h:=apJ h;have ch:aQ<o.length:=by omega
   have df:A<o.length:=by omega
   rw[bQ (x:=(aQ:Int)+1) (by omega)];refine⟨by omega,by omega,gj.len ch,by omega,by omega,gj.len df,⟨gj.get ch,gj.get df⟩, ?_⟩;rintro _ rfl;refine⟨fun ad=>⟨⟨trivial,by omega,by omega, ?_⟩,by omega⟩,fun ad=>⟨trivial,by omega,by omega, ?_⟩⟩
   ·rw[g3,Iu (by omega) (by rw[jN];exact ad),show((aQ:Int)+1).toNat=aQ+1 by omega]
   ·rw[g3,w6 (.inr (by rw[jN];exact ad))]
  ·have h:=apO h;exact⟨trivial,by omega,by omega,by rw[g3,w6 (.inl (by omega))]⟩
 rintro i o ⟨rfl,g1,g2,g3⟩;obtain⟨aQ,rfl⟩:=apG (a:=i) (by omega);simp only[apB]at g3⊢;refine⟨fun j cj=>cj=o/\(A:Int)<=j/\j<B/\scanDown (fun x=> !bl x o.toArray[A]!) o.toArray aQ (B-1)=j.toNat,⟨fun j cj=>cj=o/\(A:Int)<=j/\j<B/\scanDown (fun x=> !bl x o.toArray[A]!) o.toArray aQ (B-1)=scanDown (fun x=> !bl x o.toArray[A]!) o.toArray aQ j.toNat,fun j _=>j.toNat,⟨rfl,by omega,by omega, ?_⟩, ?_⟩, ?_⟩
 ·rw[show((B:Int)-1).toNat=B-1 by omega]
 ·rintro j cj ⟨rfl,aY,bj,bG⟩;obtain⟨J,rfl⟩:=apG (a:=j) (by omega);simp only[apB]at bG⊢;refine⟨fun h=> ?_,fun h=> ?_⟩
  ·have h:=apJ h;have ch:J<cj.length:=by omega
   have df:A<cj.length:=by omega
   rw[bQ (x:=(J:Int)-1) (by omega)]
   obtain⟨fW,rfl⟩:∃fW,J=fW+1:=⟨J-1,by omega⟩
   refine⟨by omega,by omega,gj.len ch,by omega,by omega,gj.len df,⟨gj.get ch,gj.get df⟩, ?_⟩;rintro _ rfl;refine⟨fun ad=>⟨⟨trivial,by omega,by omega, ?_⟩,by omega⟩,fun ad=>⟨trivial,by omega,by omega, ?_⟩⟩
   ·rw[bG,Iv (by omega) (by rw[jN];exact ad),show(((fW+1:Nat):Int)-1).toNat=fW by omega]
   ·rw[bG,w7 (by omega) (.inr (by rw[jN];exact ad))]
  ·have h:=apO h;exact⟨trivial,by omega,by omega,by rw[bG,w7 (by omega) (.inl (by omega))]⟩
 rintro j cj ⟨rfl,aY,bj,bG⟩;obtain⟨J,rfl⟩:=apG (a:=j) (by omega);simp only[apB]at bG⊢;have UO:A<cj.length:=by omega
 have yo:J<cj.length:=by omega
 refine⟨fun h=> ?_,fun h=> ?_⟩
 ·have h:=apJ h;rw[aC g3 bG (by omega)]at ag;exact⟨by omega,by omega,gj.len UO,by omega,by omega,gj.len yo,by omega,by omega,by omega,by omega,ag⟩
 ·have h:=apO h;rw[aE g3 bG (by omega)]at ag;have Ln:aQ<cj.length:=by omega
  rw[bQ (x:=(aQ:Int)+1) (by omega),bQ (x:=(J:Int)-1) (by omega),show(cj.set aQ (cj.getD J [])).set J (cj.getD aQ [])=dS cj aQ J from rfl];have jx:=gj.dS Ln yo;have hX:(dS cj aQ J).length=l.length:=by rw[s0];exact fg
  clear aC aE g3 bG;generalize dS cj aQ J=l2 at jx hX ag;refine⟨by omega,by omega,gj.len yo,by omega,by omega,gj.len Ln,by omega,by omega,by omega,by omega, ?_⟩;clear gj UO yo Ln fg;generalize eD:partLoop bl A (aQ+1) (J-1) l2.toArray=bC at ag;refine⟨fun j o=>(A:Int)<=j/\j<B/\c9 o/\o.length=l.length/\bC=(j.toNat,o.toArray),⟨fun i j o=>(A:Int)+1<=i/\i<=j+2/\(A:Int)<=j/\j<B/\c9 o/\o.length=l.length/\partLoop bl A i.toNat j.toNat o.toArray=bC,fun i j _=>(j+2-i:Int).toNat,⟨by omega,by omega,by omega,by omega,jx,hX, ?_⟩, ?_⟩, ?_⟩
  ·rw[show((aQ:Int)+1).toNat=aQ+1 by omega,show((J:Int)-1).toNat=J-1 by omega];exact eD
  ·rintro i j o ⟨q1,cG,cV,gD,eb,il,hd⟩;obtain⟨pT,rfl⟩:=apG (a:=i) (by omega);obtain⟨h7,rfl⟩:=apG (a:=j) (by omega);simp only[apB]at hd⊢;have df:A<o.length:=by omega
   refine⟨fun i2 bx=>bx=o/\(pT:Int)<=i2/\i2<=(h7:Int)+2/\scanUp (fun x=>bl x o.toArray[A]!) o.toArray h7 pT=i2.toNat,⟨fun i2 bx=>bx=o/\(pT:Int)<=i2/\i2<=(h7:Int)+2/\scanUp (fun x=>bl x o.toArray[A]!) o.toArray h7 pT=scanUp (fun x=>bl x o.toArray[A]!) o.toArray h7 i2.toNat,fun i2 _=>((h7:Int)+2-i2).toNat,⟨rfl,by omega,by omega,by rw[apB]⟩, ?_⟩, ?_⟩
   ·rintro i2 bx ⟨rfl,kD,lk,en⟩;obtain⟨c_,rfl⟩:=apG (a:=i2) (by omega);simp only[apB]at en⊢;refine⟨fun h=> ?_,fun h=> ?_⟩
    ·have h:=apJ h;have ch:c_<bx.length:=by omega
     rw[bQ (x:=(c_:Int)+1) (by omega)];refine⟨by omega,by omega,eb.len ch,by omega,by omega,eb.len df,⟨eb.get ch,eb.get df⟩, ?_⟩;rintro _ rfl;refine⟨fun ad=>⟨⟨trivial,by omega,by omega, ?_⟩,by omega⟩,fun ad=>⟨trivial,by omega,by omega, ?_⟩⟩
     ·rw[en,Iu (by omega) (by rw[jN];exact ad),show((c_:Int)+1).toNat=c_+1 by omega]
     ·rw[en,w6 (.inr (by rw[jN];exact ad))]
    ·have h:=apO h;exact⟨trivial,by omega,by omega,by rw[en,w6 (.inl (by omega))]⟩
   rintro i2 bx ⟨rfl,kD,lk,en⟩;obtain⟨c_,rfl⟩:=apG (a:=i2) (by omega);simp only[apB]at en⊢;refine⟨fun e4 cH=>cH=bx/\(A:Int)<=e4/\e4<=h7/\scanDown (fun x=> !bl x bx.toArray[A]!) bx.toArray c_ h7=e4.toNat,⟨fun e4 cH=>cH=bx/\(A:Int)<=e4/\e4<=h7/\scanDown (fun x=> !bl x bx.toArray[A]!) bx.toArray c_ h7=scanDown (fun x=> !bl x bx.toArray[A]!) bx.toArray c_ e4.toNat,fun e4 _=>e4.toNat,⟨rfl,by omega,by omega,by rw[apB]⟩, ?_⟩, ?_⟩
   ·rintro e4 cH ⟨rfl,aY,bj,bG⟩;obtain⟨hY,rfl⟩:=apG (a:=e4) (by omega);simp only[apB]at bG⊢;refine⟨fun h=> ?_,fun h=> ?_⟩
    ·have h:=apJ h;have ch:hY<cH.length:=by omega
     rw[bQ (x:=(hY:Int)-1) (by omega)]
     obtain⟨fW,rfl⟩:∃fW,hY=fW+1:=⟨hY-1,by omega⟩
     refine⟨by omega,by omega,eb.len ch,by omega,by omega,eb.len df,⟨eb.get ch,eb.get df⟩, ?_⟩;rintro _ rfl;refine⟨fun ad=>⟨⟨trivial,by omega,by omega, ?_⟩,by omega⟩,fun ad=>⟨trivial,by omega,by omega, ?_⟩⟩
     ·rw[bG,Iv (by omega) (by rw[jN];exact ad),show(((fW+1:Nat):Int)-1).toNat=fW by omega]
     ·rw[bG,w7 (by omega) (.inr (by rw[jN];exact ad))]
    ·have h:=apO h;exact⟨trivial,by omega,by omega,by rw[bG,w7 (by omega) (.inl (by omega))]⟩
   rintro e4 cH ⟨rfl,aY,bj,bG⟩;obtain⟨hY,rfl⟩:=apG (a:=e4) (by omega);simp only[apB]at bG⊢;have A5:hY<cH.length:=by omega
   refine⟨fun h=> ?_,fun h=> ?_⟩
   ·have h:=apJ h;exact⟨by omega,by omega,eb,il,by rw[<-hd,ZU en bG (by omega)]⟩
   ·have h:=apO h;have A6:c_<cH.length:=by omega
    rw[bQ (x:=(c_:Int)+1) (by omega),bQ (x:=(hY:Int)-1) (by omega),show(cH.set c_ (cH.getD hY [])).set hY (cH.getD c_ [])=dS cH c_ hY from rfl];refine⟨by omega,by omega,eb.len A5,by omega,by omega,eb.len A6,by omega,by omega,by omega,by omega,⟨by omega,by omega,by omega,by omega,eb.dS A6 A5,by rw[s0];exact il, ?_⟩,by show((hY:Int)-1+2-(c_+1)).toNat<((h7:Int)+2-pT).toNat;omega⟩;rw[<-hd,ac2 en bG (by omega) (by omega),show((c_:Int)+1).toNat=c_+1 by omega,show((hY:Int)-1).toNat=hY-1 by omega]
  ·rintro j o ⟨q1,cG,cV,gD,rfl⟩;obtain⟨h7,rfl⟩:=apG (a:=j) (by omega);simp only[apB]at ag⊢;have wa:A<o.length:=by omega
   have yo:h7<o.length:=by omega
   rw[kP]at ag;exact⟨by omega,by omega,cV.len wa,by omega,by omega,cV.len yo,by omega,by omega,by omega,by omega,ag⟩
theorem ZV {a i j i2 e4:Nat}{d:Array Row}(ab:scanUp (fun x=> !bl d[a]! x) d j i=i2)(ad:scanDown (fun x=>bl d[a]! x) d i2 j=e4)(h:i2>e4):partEqLoop bl a i j d=(i2,d):=by
 rw[partEqLoop];simp only[ab,ad,apz h]
theorem ac3 {a i j i2 e4:Nat}{l:List Row}(ab:scanUp (fun x=> !bl l.toArray[a]! x) l.toArray j i=i2)(ad:scanDown (fun x=>bl l.toArray[a]! x) l.toArray i2 j=e4)(h:¬i2>e4)(g:e4-1+1-(i2+1)<j+1-i):
 partEqLoop bl a i j l.toArray=partEqLoop bl a (i2+1) (e4-1) (dS l i2 e4).toArray:=by
 rw[partEqLoop];simp only[ab,ad,apy h,dif_pos g,kP]
theorem LH (l:List Row)(a b p:Int)(K:ae->R->Prop)(h:(fU l a b/\a<=p/\p<b)/\K (.ar 11 (partitionEqual bl l.toArray a.toNat b.toNat p.toNat).2.toList) (.d (.int .i64 (partitionEqual bl l.toArray a.toNat b.toNat p.toNat).1))):LD l a b p K:=by
 obtain⟨⟨⟨ax,aR,jP,ah,aB⟩,KK,rY⟩,ag⟩:=h;obtain⟨A,rfl⟩:=apG aR;obtain⟨B,rfl⟩:=apG (aq0 aR jP);obtain⟨Q,rfl⟩:=apG (aq0 aR KK);simp only[apB]at ag;unfold LD ai aT List.aS;have wa:A<l.length:=by omega
 have Bv:Q<l.length:=by omega
 rw[bQ (x:=(A:Int)+1) (by omega),bQ (x:=(B:Int)-1) (by omega)];simp only[apB,apL];rw[show(l.set A (l.getD Q [])).set Q (l.getD A [])=dS l A Q from rfl];have gj:=ax.dS wa Bv;have fg:(dS l A Q).length=l.length:=s0 _ _ _;unfold partitionEqual at ag;rw[kP]at ag;generalize dS l A Q=de at gj fg ag;refine⟨by omega,by omega,ax.len Bv,by omega,by omega,ax.len wa,by omega,by omega,by omega,by omega, ?_⟩;generalize eD:partEqLoop bl A (A+1) (B-1) de.toArray=bC at ag;refine⟨fun i o=>bC=(i.toNat,o.toArray)/\0<=i,⟨fun i j o=>(A:Int)+1<=i/\i<=j+2/\(A:Int)<=j/\j<B/\c9 o/\o.length=l.length/\partEqLoop bl A i.toNat j.toNat o.toArray=bC,fun i j _=>(j+2-i:Int).toNat,⟨by omega,by omega,by omega,by omega,gj,fg, ?_⟩, ?_⟩, ?_⟩
 ·rw[show((A:Int)+1).toNat=A+1 by omega,show((B:Int)-1).toNat=B-1 by omega];exact eD
 ·rintro i j o ⟨q1,cG,cV,gD,eb,il,hd⟩;obtain⟨pT,rfl⟩:=apG (a:=i) (by omega);obtain⟨h7,rfl⟩:=apG (a:=j) (by omega);simp only[apB]at hd⊢;have df:A<o.length:=by omega
  refine⟨fun i2 bx=>bx=o/\(pT:Int)<=i2/\i2<=(h7:Int)+2/\scanUp (fun x=> !bl o.toArray[A]! x) o.toArray h7 pT=i2.toNat,⟨fun i2 bx=>bx=o/\(pT:Int)<=i2/\i2<=(h7:Int)+2/\scanUp (fun x=> !bl o.toArray[A]! x) o.toArray h7 pT=scanUp (fun x=> !bl o.toArray[A]! x) o.toArray h7 i2.toNat,fun i2 _=>((h7:Int)+2-i2).toNat,⟨rfl,by omega,by omega,by rw[apB]⟩, ?_⟩, ?_⟩
  ·rintro i2 bx ⟨rfl,kD,lk,en⟩;obtain⟨c_,rfl⟩:=apG (a:=i2) (by omega);simp only[apB]at en⊢;refine⟨fun h=> ?_,fun h=> ?_⟩
   ·have h:=apJ h;have ch:c_<bx.length:=by omega
    rw[bQ (x:=(c_:Int)+1) (by omega)];refine⟨by omega,by omega,eb.len df,by omega,by omega,eb.len ch,⟨eb.get df,eb.get ch⟩, ?_⟩;rintro _ rfl;refine⟨fun ad=>⟨⟨trivial,by omega,by omega, ?_⟩,by omega⟩,fun ad=>⟨trivial,by omega,by omega, ?_⟩⟩
    ·rw[en,Iu (by omega) (by rw[jN];exact ad),show((c_:Int)+1).toNat=c_+1 by omega]
    ·rw[en,w6 (.inr (by rw[jN];exact ad))]
   ·have h:=apO h;exact⟨trivial,by omega,by omega,by rw[en,w6 (.inl (by omega))]⟩
  rintro i2 bx ⟨rfl,kD,lk,en⟩;obtain⟨c_,rfl⟩:=apG (a:=i2) (by omega);simp only[apB]at en⊢;refine⟨fun e4 cH=>cH=bx/\(A:Int)<=e4/\e4<=h7/\scanDown (fun x=>bl bx.toArray[A]! x) bx.toArray c_ h7=e4.toNat,⟨fun e4 cH=>cH=bx/\(A:Int)<=e4/\e4<=h7/\scanDown (fun x=>bl bx.toArray[A]! x) bx.toArray c_ h7=scanDown (fun x=>bl bx.toArray[A]! x) bx.toArray c_ e4.toNat,fun e4 _=>e4.toNat,⟨rfl,by omega,by omega,by rw[apB]⟩, ?_⟩, ?_⟩
  ·rintro e4 cH ⟨rfl,aY,bj,bG⟩;obtain⟨hY,rfl⟩:=apG (a:=e4) (by omega);simp only[apB]at bG⊢;refine⟨fun h=> ?_,fun h=> ?_⟩
   ·have h:=apJ h;have ch:hY<cH.length:=by omega
    rw[bQ (x:=(hY:Int)-1) (by omega)]
    obtain⟨fW,rfl⟩:∃fW,hY=fW+1:=⟨hY-1,by omega⟩
    refine⟨by omega,by omega,eb.len df,by omega,by omega,eb.len ch,⟨eb.get df,eb.get ch⟩, ?_⟩;rintro _ rfl;refine⟨fun ad=>⟨⟨trivial,by omega,by omega, ?_⟩,by omega⟩,fun ad=>⟨trivial,by omega,by omega, ?_⟩⟩
    ·rw[bG,Iv (by omega) (by rw[jN];exact ad),show(((fW+1:Nat):Int)-1).toNat=fW by omega]
    ·rw[bG,w7 (by omega) (.inr (by rw[jN];exact ad))]
   ·have h:=apO h;exact⟨trivial,by omega,by omega,by rw[bG,w7 (by omega) (.inl (by omega))]⟩
  rintro e4 cH ⟨rfl,aY,bj,bG⟩;obtain⟨hY,rfl⟩:=apG (a:=e4) (by omega);simp only[apB]at bG⊢;have A5:hY<cH.length:=by omega
  refine⟨fun h=> ?_,fun h=> ?_⟩
  ·have h:=apJ h;exact⟨by rw[<-hd,ZV en bG (by omega)],by omega⟩
  ·have h:=apO h;have A6:c_<cH.length:=by omega
   rw[bQ (x:=(c_:Int)+1) (by omega),bQ (x:=(hY:Int)-1) (by omega),show(cH.set c_ (cH.getD hY [])).set hY (cH.getD c_ [])=dS cH c_ hY from rfl];refine⟨by omega,by omega,eb.len A5,by omega,by omega,eb.len A6,by omega,by omega,by omega,by omega,⟨by omega,by omega,by omega,by omega,eb.dS A6 A5,by rw[s0];exact il, ?_⟩,by show((hY:Int)-1+2-(c_+1)).toNat<((h7:Int)+2-pT).toNat;omega⟩;rw[<-hd,ac3 en bG (by omega) (by omega),show((c_:Int)+1).toNat=c_+1 by omega,show((hY:Int)-1).toNat=hY-1 by omega]
 ·rintro j o ⟨rfl,aI⟩;obtain⟨h7,rfl⟩:=apG aI;exact ag
end aa
end
section
namespace aa
open Go Go.ak Go.Sort
theorem aem {d:Array Row}{b i:Nat}(h:i<b)(aE:bl d[i]! d[i-1]! =false):scanSorted bl d b i=scanSorted bl d b (i+1):=by
 rw[scanSorted,apz (by simp[h,aE])]
theorem RG {d:Array Row}{b i:Nat}(h:b<=i\/bl d[i]! d[i-1]! =true):scanSorted bl d b i=i:=by
 rw[scanSorted,apy];rcases h with h|h
 ·simp;omega
 ·simp[h]
theorem afn {a b s i:Nat}{d:Array Row}(h:scanSorted bl d b i=b):partialIns bl a b (s+1) i d=(d,true):=by
 rw[partialIns];simp only[h,ap1]
theorem ac4 {a b s i j:Nat}{d:Array Row}(h:scanSorted bl d b i=j)(aI:j≠b)(ay:b-a<50):partialIns bl a b (s+1) i d=(d,false):=by
 rw[partialIns];simp only[h,apy aI,apz ay]
theorem afZ {a b s i j:Nat}{d:Array Row}(h:scanSorted bl d b i=j)(aI:j≠b)(ay:¬b-a<50){d2 d3:Array Row}
 (ad:(if j-a>=2 then shiftDown bl (j-1) (swp d j (j-1))else swp d j (j-1))=d2)
 (aA:(if b-j>=2 then shiftUp bl b (j+1) d2 else d2)=d3):partialIns bl a b (s+1) i d=partialIns bl a b s j d3:=by
 rw[partialIns];simp only[h,apy aI,apy ay,ad,aA]
theorem RH {j:Nat}{d:Array Row}(h:j=0\/bl d[j]! d[j-1]! =false):shiftDown bl j d=d:=by
 cases j with
 |zero=>rfl
 |succ j=>
  rcases h with h|h
  ·cases h
  ·rw[shiftDown,apz];simpa using h
theorem af0 {j:Nat}{l:List Row}(h:bl l.toArray[j+1]! l.toArray[j]! =true):shiftDown bl (j+1) l.toArray=shiftDown bl j (dS l (j+1) j).toArray:=by
 rw[shiftDown,apy (by rw[h];simp),kP]
theorem RI {b j:Nat}{d:Array Row}(h:b<=j\/bl d[j]! d[j-1]! =false):shiftUp bl b j d=d:=by
 rw[shiftUp];split
 ·rcases h with h|h
  ·omega
  ·rw[apz];simpa using h
 ·rfl
theorem af1 {b j:Nat}{l:List Row}(ah:j<b)(h:bl l.toArray[j]! l.toArray[j-1]! =true):shiftUp bl b j l.toArray=shiftUp bl b (j+1) (dS l j (j-1)).toArray:=by
 rw[shiftUp,apz ah,apy (by rw[h];simp),kP]
theorem LB (l:List Row)(a b:Int)(K:ae->R->Prop)(h:(fU l a b/\a<b)/\K (.ar 11 (partialInsertionSort bl l.toArray a.toNat b.toNat).1.toList) (.d (.bool (partialInsertionSort bl l.toArray a.toNat b.toNat).2))):LA l a b K:=by
 obtain⟨⟨⟨ax,aR,-,ah,aB⟩,jP⟩,ag⟩:=h;obtain⟨A,rfl⟩:=apG aR;obtain⟨B,rfl⟩:=apG (aq0 aR (Int.le_of_lt jP));simp only[apB]at ag;unfold partialInsertionSort at ag;unfold LA ai List.aS;rw[bQ (x:=(A:Int)+1) (by omega),bQ (x:=(B:Int)-A) (by omega)];generalize eD:partialIns bl A B 5 (A+1) l.toArray=bC at ag;refine⟨fun o=>bC=(o.toArray,false),⟨fun i s o=>(A:Int)+1<=i/\i<=B/\0<=s/\s<=5/\c9 o/\o.length=l.length/\partialIns bl A B (5-s:Int).toNat i.toNat o.toArray=bC,fun _ s _=>(5-s:Int).toNat,⟨by omega,by omega,by omega,by omega,ax,rfl, ?_⟩, ?_⟩, ?_⟩
 ·rw[show((A:Int)+1).toNat=A+1 by omega];exact eD
 ·rintro i s o ⟨q1,cG,cV,gD,eb,il,hd⟩;obtain⟨aQ,rfl⟩:=apG (a:=i) (by omega);obtain⟨S,rfl⟩:=apG cV;simp only[apB]at hd⊢;refine⟨fun h=> ?_,fun h=> ?_⟩
  case refine_2=>
   have h:=apO h;rw[show(5-(S:Int)).toNat=0 by omega]at hd;exact hd.symm
  have h:=apJ h
  obtain⟨T,bp⟩:∃T,(5-(S:Int)).toNat=T+1:=⟨(5-(S:Int)).toNat-1,by omega⟩
  rw[bp]at hd;rw[bQ (x:=(S:Int)+1) (by omega)];refine⟨fun i2 bx=>bx=o/\(aQ:Int)<=i2/\i2<=B/\scanSorted bl o.toArray B aQ=i2.toNat,⟨fun i2 bx=>bx=o/\(aQ:Int)<=i2/\i2<=B/\scanSorted bl o.toArray B aQ=scanSorted bl o.toArray B i2.toNat,fun i2 _=>((B:Int)-i2).toNat,⟨rfl,by omega,by omega,by rw[apB]⟩, ?_⟩, ?_⟩
  ·rintro i2 bx ⟨rfl,kD,lk,en⟩;obtain⟨c_,rfl⟩:=apG (a:=i2) (by omega);simp only[apB]at en⊢;refine⟨fun h=> ?_,fun h=> ?_⟩
   ·have h:=apJ h;have ch:c_<bx.length:=by omega
    have df:c_-1<bx.length:=by omega
    rw[bQ (x:=(c_:Int)+1) (by omega),bQ (x:=(c_:Int)-1) (by omega),show((c_:Int)-1).toNat=c_-1 by omega];refine⟨by omega,by omega,eb.len ch,by omega,by omega,eb.len df,⟨eb.get ch,eb.get df⟩, ?_⟩;rintro _ rfl;refine⟨fun ad=>⟨⟨trivial,by omega,by omega, ?_⟩,by omega⟩,fun ad=>⟨trivial,by omega,by omega, ?_⟩⟩
    ·rw[en,aem (by omega) (by rw[jN];simpa using ad),show((c_:Int)+1).toNat=c_+1 by omega]
    ·rw[en,RG (.inr (by rw[jN];simpa using ad))]
   ·have h:=apO h;exact⟨trivial,by omega,by omega,by rw[en,RG (.inl (by omega))]⟩
  rintro i2 bx ⟨rfl,kD,lk,en⟩;obtain⟨c_,rfl⟩:=apG (a:=i2) (by omega);simp only[apB]at en⊢;refine⟨fun h=> ?_,fun h=> ?_⟩
  ·have h:=apJ h;have h:c_=B:=by omega
   subst h;rw[afn en]at hd;rw[<-hd]at ag;exact ag
  have h:=apO h;have dn:c_≠B:=fun e=>h (by rw[e]);refine⟨fun h=> ?_,fun h=> ?_⟩
  ·have h:=apJ h;rw[ac4 en dn (by omega)]at hd;rw[<-hd]at ag;exact ag
  have ao3:=apO h;have ch:c_<bx.length:=by omega
  have df:c_-1<bx.length:=by omega
  rw[bQ (x:=(c_:Int)+1) (by omega),bQ (x:=(c_:Int)-1) (by omega),bQ (x:=(c_:Int)-A) (by omega),bQ (x:=(B:Int)-c_) (by omega),show((c_:Int)-1).toNat=c_-1 by omega];simp only[apL];rw[show(bx.set c_ (bx.getD (c_-1) [])).set (c_-1) (bx.getD c_ [])=dS bx c_ (c_-1)from rfl];refine⟨by omega,by omega,eb.len df,by omega,by omega,eb.len ch,by omega,by omega,by omega,by omega, ?_⟩;have gj:=eb.dS ch df;have fg:(dS bx c_ (c_-1)).length=l.length:=by rw[s0];exact il
  have oD:=fun d2 d3=> @afZ A B T aQ c_ bx.toArray en dn (by omega) d2 d3;rw[kP]at oD;generalize dS bx c_ (c_-1)=de at gj fg oD;clear en ch df;refine⟨fun o=>c9 o/\o.length=l.length/\(if c_-A>=2 then shiftDown bl (c_-1) de.toArray else de.toArray)=o.toArray,⟨fun h=> ?_,fun h=> ?_⟩, ?_⟩
  ·have h:=apJ h;rw[apz (show c_-A>=2 by omega)];refine⟨fun j o=>0<=j/\j<c_/\c9 o/\o.length=l.length/\shiftDown bl (c_-1) de.toArray=shiftDown bl j.toNat o.toArray,fun j _=>j.toNat,⟨by omega,by omega,gj,fg,by rw[show((c_:Int)-1).toNat=c_-1 by omega]⟩, ?_⟩;rintro j o ⟨g1,g2,g3,g4,g5⟩;obtain⟨J,rfl⟩:=apG g1;simp only[apB,apL]at g5⊢;refine⟨fun h=> ?_,fun h=> ?_⟩
   ·have h:=apJ h
    obtain⟨fW,rfl⟩:∃fW,J=fW+1:=⟨J-1,by omega⟩
    rw[bQ (x:=((fW+1:Nat):Int)-1) (by omega),show((fW+1:Nat):Int)-1=(fW:Int) by omega,apB];have ch:fW+1<o.length:=by omega
    have df:fW<o.length:=by omega
    refine⟨by omega,by omega,g3.len ch,by omega,by omega,g3.len df,⟨g3.get ch,g3.get df⟩, ?_⟩;rintro _ rfl;refine⟨fun ad=>⟨g3,g4, ?_⟩,fun ad=>⟨by omega,by omega,g3.len df,by omega,by omega,g3.len ch,by omega,by omega,by omega,by omega,⟨by omega,by omega,g3.dS ch df,by simpa using g4, ?_⟩,by omega⟩⟩
    ·rw[g5,RH (.inr (by rw[jN];simpa using ad))]
    ·rw[g5,af0 (by rw[jN];simpa using ad)];rfl
   ·have h:=apO h;exact⟨g3,g4,by rw[g5,RH (.inl (by omega))]⟩
  ·have h:=apO h;rw[apy (show ¬c_-A>=2 by omega)];exact⟨gj,fg,rfl⟩
  rintro l2 ⟨jx,hX,aJ⟩
  replace oD:=fun d3=>oD _ d3 aJ
  refine⟨fun h=> ?_,fun h=> ?_⟩
  ·have h:=apJ h;rw[apz (show B-c_>=2 by omega)]at oD;refine⟨fun j o=>(c_:Int)+1<=j/\j<=B/\c9 o/\o.length=l.length/\shiftUp bl B (c_+1) l2.toArray=shiftUp bl B j.toNat o.toArray,fun j _=>((B:Int)-j).toNat,⟨by omega,by omega,jx,hX,by rw[show((c_:Int)+1).toNat=c_+1 by omega]⟩, ?_⟩;rintro j o ⟨g1,g2,g3,g4,g5⟩;obtain⟨J,rfl⟩:=apG (a:=j) (by omega);simp only[apB,apL]at g5⊢
   have fin:shiftUp bl B J o.toArray=o.toArray->((A:Int)+1<=c_/\(c_:Int)<=B/\(0:Int)<=(S:Int)+1/\(S:Int)+1<=5/\c9 o/\o.length=l.length/\partialIns bl A B (5-((S:Int)+1)).toNat c_ o.toArray=bC)/\(5-((S:Int)+1)).toNat<(5-(S:Int)).toNat:=fun e=>by
    refine⟨⟨by omega,by omega,by omega,by omega,g3,g4, ?_⟩,by omega⟩;rw[<-hd,oD _ (g5.trans e),show(5-((S:Int)+1)).toNat=T by omega]
   refine⟨fun h=> ?_,fun h=> ?_⟩
   ·have h:=apJ h;have ch:J<o.length:=by omega
    have df:J-1<o.length:=by omega
    rw[bQ (x:=(J:Int)+1) (by omega),bQ (x:=(J:Int)-1) (by omega),show((J:Int)-1).toNat=J-1 by omega];refine⟨by omega,by omega,g3.len ch,by omega,by omega,g3.len df,⟨g3.get ch,g3.get df⟩, ?_⟩;rintro _ rfl;refine⟨fun ad=>fin (RI (.inr (by rw[jN];simpa using ad))),fun ad=>⟨by omega,by omega,g3.len df,by omega,by omega,g3.len ch,by omega,by omega,by omega,by omega,⟨by omega,by omega,g3.dS ch df,by simpa using g4, ?_⟩,by omega⟩⟩;rw[g5,af1 (by omega) (by rw[jN];simpa using ad),show((J:Int)+1).toNat=J+1 by omega];rfl
   ·have h:=apO h;exact fin (RI (.inl (by omega)))
  ·have h:=apO h;rw[apy (show ¬B-c_>=2 by omega)]at oD;refine⟨⟨by omega,by omega,by omega,by omega,jx,hX, ?_⟩,by omega⟩;rw[<-hd,oD _ rfl,show(5-((S:Int)+1)).toNat=T by omega]
 ·rintro o rfl;exact ag
end aa
end
