/- Helpers for the statements: facts about numbers, fractions and polynomials as lists, and the proofs of the conditions. Condition: none. -/
import Derived.Test.YtmeonjefiioegaaGreatDoorA2
import Derived.Lib.Bytealg
import Derived.Sort.AssemblyPlain
import Derived.Sort.LotD4
section
namespace ab
def val:List Int->Nat
 |[]=>0
 |x::r=>x.toNat+4294967296*val r
def bK (a:List Int):Prop:=∀i,0<=a.getD i 0/\a.getD i 0<4294967296
def aQ (n:Nat):List Int:=if h:n=0 then[]else((n%4294967296:Nat):Int)::aQ (n/4294967296)
  termination_by n
  decreasing_by exact aqI (aqJ h) (by decide)
def dt (a:List Int)(i:Nat):Nat:=val (a.take i)
theorem bK.mem {a:List Int}(h:bK a){x:Int}(ai:x∈a):0<=x/\x<4294967296:=by
 obtain⟨i,hi,rfl⟩:=List.mem_iff_getElem.1 ai;have:=h i;simpa[aoA,hi]using this
theorem bK.of {a:List Int}(h:∀x∈a,0<=x/\x<4294967296):bK a:=fun i=>by
 by_cases hi:i<a.length
 ·have:=h _ (apF hi);simpa[aoA,hi]using this
 ·simp[aoA,hi]
theorem bK.nil:bK []:= .of (by simp)
theorem bK.cons {x:Int}{r:List Int}(h:bK (x::r)):(0<=x/\x<4294967296)/\bK r:=⟨h.mem (by simp), .of fun y bp=>h.mem (by simp[bp])⟩
theorem bK.mk {x:Int}{r:List Int}(ai:0<=x/\x<4294967296)(h:bK r):bK (x::r):= .of fun y bp=>by
 rcases ao7.1 bp with rfl|bp
 ·exact ai
 ·exact h.mem bp
theorem bK.take {a:List Int}(h:bK a)(n:Nat):bK (a.take n):= .of fun _ ai=>h.mem (List.mem_of_mem_take ai)
theorem bK.drop {a:List Int}(h:bK a)(n:Nat):bK (a.drop n):= .of fun _ ai=>h.mem (List.mem_of_mem_drop ai)
theorem bK.append {a b:List Int}(h:bK a)(k:bK b):bK (a++b):= .of fun x ai=>by
 rcases apV.1 ai with ai|ai
 ·exact h.mem ai
 ·exact k.mem ai
theorem bK.set {a:List Int}(h:bK a)(i:Nat){x:Int}(ai:0<=x/\x<4294967296):bK (a.set i x):= .of fun y bp=>by
 rcases ap9 bp with bp|rfl
 ·exact h.mem bp
 ·exact ai
theorem bK.nm (n:Nat):bK (List.replicate n 0):= .of fun x ai=>by rw[List.eq_of_mem_replicate ai];decide
theorem NH (a b:List Int):val (a++b)=val a+4294967296^a.length*val b:=by
 induction a with
 |nil=>simp[val]
 |cons x r bF=>
  simp only[apO,val,bF,apq,ao2,aoO];rw[ao9 (4294967296^r.length) 4294967296,apa];omega
theorem yg (n:Nat):val (List.replicate n 0)=0:=by
 induction n with
 |zero=>rfl
 |succ n bF=>simp[List.replicate_succ,val,bF]
theorem iD {a:List Int}(h:bK a):val a<4294967296^a.length:=by
 induction a with
 |nil=>simp[val]
 |cons x r bF=>
  obtain⟨⟨U,aa⟩,an⟩:=h.cons;have:=bF an;simp only[val,apq,ao2];have ai:x.toNat<4294967296:=by omega
  omega
theorem iC (a:List Int):dt a 0=0:=by simp[dt,val]
theorem gr (a:List Int)(i:Nat):dt a (i+1)=dt a i+4294967296^i*(a.getD i 0).toNat:=by
 unfold dt
 by_cases h:i<a.length
 ·rw[List.take_succ_eq_append_getElem h,NH];simp only[val,ao3,aqW (Nat.le_of_lt h),ao4,aoW];simp[aoA,h]
 ·rw[aqB (by omega),aqB (by omega)];simp[aoA,h]
theorem ht (a:List Int){i:Nat}(h:a.length<=i):dt a i=val a:=by unfold dt;rw[aqB h]
theorem rf (a:List Int)(i j:Nat)(v:Int)(h:i<=j):dt (a.set j v) i=dt a i:=by
 unfold dt;rw[List.take_set_of_le h]
theorem rp {a:List Int}(h:bK a)(i:Nat):dt a i<4294967296^i:=by
 unfold dt;have:=iD (h.take i);refine aoV this (apf (by decide) ?_);simp;omega
theorem kD:aQ 0=[]:=by unfold aQ;simp
theorem wa {n:Nat}(h:n≠0):aQ n=((n%4294967296:Nat):Int)::aQ (n/4294967296):=by rw[aQ];simp[h]
theorem ef (n:Nat):val (aQ n)=n:=by
 induction n using Nat.strongRecOn with
 |_ n bF=>
  by_cases h:n=0
  ·subst h;rw[kD];rfl
  ·rw[wa h,val,bF _ (aqI (aqJ h) (by decide))];omega
theorem gq (n:Nat):bK (aQ n):=by
 induction n using Nat.strongRecOn with
 |_ n bF=>
  by_cases h:n=0
  ·subst h;rw[kD];exact .nil
  ·rw[wa h];have:n%4294967296<4294967296:=aph _ (by decide);exact .mk ⟨by omega,by omega⟩ (bF _ (aqI (aqJ h) (by decide)))
theorem Hg {a b:Nat}:aQ a=aQ b↔a=b:=⟨fun h=>by rw[<-ef a,<-ef b,h],fun h=>h▸rfl⟩
theorem qR {n:Nat}:aQ n=[]↔n=0:=by
 rw[<-kD,Hg]
theorem hQ {n k:Nat}:(aQ n).length<=k↔n<4294967296^k:=by
 induction k generalizing n with
 |zero=>
  simp only[Nat.le_zero,apl,qR,aqg];omega
 |succ k bF=>
  by_cases h:n=0
  ·subst h;rw[kD];simp[Nat.pow_pos]
  ·rw[wa h,apq,Nat.add_le_add_iff_right,bF,ao2];exact Nat.div_lt_iff_lt_mul (by decide)
def Norm (a:List Int):Prop:=a.getLast?≠some 0
theorem G3 (n:Nat):Norm (aQ n):=by
 induction n using Nat.strongRecOn with
 |_ n bF=>
  by_cases h:n=0
  ·subst h;rw[kD];simp[Norm]
  ·have ax:=bF _ (aqI (aqJ h) (by decide:1<4294967296));rw[wa h];unfold Norm at ax⊢;rw[List.getLast?_cons]
   cases ai:(aQ (n/4294967296)).getLast? with
   |none=>
    have:aQ (n/4294967296)=[]:=by simpa using ai
    rw[qR]at this;have aa:=Nat.mod_add_div n 4294967296;rw[this]at aa;simp only[Option.getD_none,ne_eq,aoU];omega
   |some y=>rw[ai]at ax;simpa using ax
theorem yh:∀{a:List Int},bK a->Norm a->aQ (val a)=a
 |[],_,_=>kD
 |x::r,h,av=>by
  obtain⟨⟨U,aa⟩,an⟩:=h.cons
  have aji:Norm r:=by
   unfold Norm at av⊢;rw[List.getLast?_cons]at av;intro ai;rw[ai]at av;simp at av
  have bF:=yh an aji
  have hm:val (x::r)%4294967296=x.toNat:=by
   rw[val,Nat.add_mul_mod_self_left,apv (by omega)]
  have a8:val (x::r)/4294967296=val r:=by
   rw[val,Nat.add_mul_div_left _ _ (by decide),aqf (by omega),ao8]
  have dg:val (x::r)≠0:=by
   intro bc;rw[bc]at hm a8;simp at hm a8;have:r=[]:=by rw[<-bF,<-a8];exact kD
   subst this;unfold Norm at av;simp at av;omega
  rw[wa dg,hm,a8,bF,Int.toNat_of_nonneg U]
theorem Xe {a:List Int}(h:a.getD (a.length-1) 0=0):val (a.take (a.length-1))=val a:=by
 by_cases he:a.length=0
 ·have:a=[]:=apl.1 he;subst this;rfl
 ·have:=gr a (a.length-1);rw[h,show a.length-1+1=a.length by omega,ht a (aoE _)]at this;simpa[dt]using this.symm
theorem Bf {a:List Int}(h:a=[]\/a.getD (a.length-1) 0≠0):Norm a:=by
 unfold Norm;rcases h with rfl|h
 ·simp
 ·rw[List.getLast?_eq_getElem?];intro ai;apply h;rw[aoA,ai];rfl
end ab
end
section
namespace ab
def ji (n:Nat):List Int:=if h:n=0 then[]else((48+n%10:Nat):Int)::ji (n/10)
  termination_by n
  decreasing_by exact aqI (aqJ h) (by decide)
def dec (n:Nat):List Int:=if n=0 then[48]else(ji n).reverse
theorem ub:ji 0=[]:=by unfold ji;simp
theorem B0 {n:Nat}(h:n≠0):ji n=((48+n%10:Nat):Int)::ji (n/10):=by rw[ji];simp[h]
theorem Pt {n:Nat}:ji n=[]↔n=0:=by
 by_cases h:n=0
 ·subst h;simp[ub]
 ·rw[B0 h];simp[h]
theorem abJ {n k:Nat}:(ji n).length<=k↔n<10^k:=by
 induction k generalizing n with
 |zero=>
  simp only[Nat.le_zero,apl,Pt,aqg];omega
 |succ k bF=>
  by_cases h:n=0
  ·subst h;rw[ub];simp[Nat.pow_pos]
  ·rw[B0 h,apq,Nat.add_le_add_iff_right,bF,ao2];exact Nat.div_lt_iff_lt_mul (by decide)
theorem abK {n:Nat}{x:Int}(h:x∈ji n):48<=x/\x<58:=by
 induction n using Nat.strongRecOn with
 |_ n bF=>
  by_cases bc:n=0
  ·subst bc;rw[ub]at h;cases h
  ·rw[B0 bc,ao7]at h;rcases h with rfl|h
   ·omega
   ·exact bF _ (aqI (aqJ bc) (by decide)) h
theorem Qt {a:List Int}(h:bK a):(ji (val a)).length<=10*a.length:=by
 rw[abJ];refine aoV (iD h) ?_;rw[Nat.pow_mul];exact Nat.pow_le_pow_left (by decide) _
def vD (acc:Nat):List Int->Nat
 |[]=>acc
 |x::r=>vD (acc*10+(x-48).toNat) r
def R2 (s:List Int):Bool:=decide (s≠[])&&s.all fun x=>decide (48<=x/\x<=57)
def Da (s:List Int):Int:=if R2 s=true then(if 60<s.length then 9 else 0)else 4
def Db (s:List Int):List Int:=if R2 s=true/\s.length<=60 then aQ (vD 0 s)else[]
end ab
end
section
namespace Go.al
def bg (S:List J->Option (Prop×J)):List J->(J->Prop)->Prop:=fun args K=>match S args with|some (p,r)=>p/\K r|none=>False
theorem ct (S:List J->Option (Prop×J)):k0 (bg S):=by
 refine⟨fun args K K' ae h=> ?_,fun args K h=> ?_⟩
 ·unfold bg at h⊢;split
  ·rename_i he;rw[he]at h;exact⟨h.1,ae _ h.2⟩
  ·rename_i he;rw[he]at h;exact h
 ·unfold bg at h;split at h
  ·exact⟨_,h.2⟩
  ·exact h.elim
def fm (S:J->af->List J->Option (Prop×af×J)):J->af->List J->(af->J->Prop)->Prop:=fun a o args K=>match S a o args with|some (p,cc,r)=>p/\K cc r|none=>False
theorem gZ (S:J->af->List J->Option (Prop×af×J)):kr (fm S):=by
 refine⟨fun a o args K K' ae h=> ?_,fun a o args K h=> ?_⟩
 ·unfold fm at h⊢;split
  ·rename_i he;rw[he]at h;exact⟨h.1,ae _ _ h.2⟩
  ·rename_i he;rw[he]at h;exact h
 ·unfold fm at h;split at h
  ·exact⟨_,_,h.2⟩
  ·exact h.elim
end Go.al
namespace ab
open Go Go.al
def L (x:Int):Prop:=0<=x/\x<4294967296
def bC (a:List Int):Prop:=bK a/\a.length<=100000000
abbrev gm (x:Int):J:= .d (.int .u32 x)
abbrev FY (x:Int):J:= .d (.int .i64 x)
def Dc.T:=bg fun|[.d (.int .u32 x), .d (.int .u32 y)]=>some (L x/\L y, .tup [.d (.int .u32 (x*y/4294967296)), .d (.int .u32 (x*y%4294967296))])|_=>none
def Dd.T:=bg fun|[.d (.int .u32 x), .d (.int .u32 y), .d (.int .u32 c)]=>some (L x/\L y/\0<=c/\c<=1, .tup [.d (.int .u32 ((x+y+c)%4294967296)), .d (.int .u32 ((x+y+c)/4294967296))])|_=>none
def De.T:=bg fun|[.d (.int .u32 x), .d (.int .u32 y), .d (.int .u32 c)]=>some (L x/\L y/\0<=c/\c<=1, .tup [.d (.int .u32 ((x-y-c)%4294967296)), .d (.int .u32 (if x-y-c<0 then 1 else 0))])|_=>none
def Df.T:=bg fun|[.d (.int .u32 h), .d (.int .u32 l), .d (.int .u32 y)]=>some (L h/\L l/\L y/\h<y, .tup [.d (.int .u32 ((h*4294967296+l)/y)), .d (.int .u32 ((h*4294967296+l)%y))])|_=>none
def DS.T:=bg fun|[.d (.ad .u32 a)]=>some (bK a/\a.length<=1000000000, .d (.ad .u32 (aQ (val a))))|_=>none
def Dg.T:=bg fun|[.d (.ad .u32 a)]=>some (a.length<=100000000, .d (.ad .u32 a))|_=>none
def DT.T:=bg fun|[.d (.ad .u32 a)]=>some (bC a, .d (.ad .u32 (aQ (val a))))|_=>none
def BL.T:=bg fun|[.d (.int .u64 u)]=>some (0<=u/\u<18446744073709551616, .d (.ad .u32 (aQ u.toNat)))|_=>none
def Cz.T:=bg fun|[.d (.ad .u32 a)]=>some (bK a/\a.length<=2, .d (.int .u64 (val a)))|_=>none
def cmp (a b:Nat):Int:=if a<b then-1 else if a=b then 0 else 1
def EE.T:=bg fun|[.d (.ad .u32 a), .d (.ad .u32 b)]=>some (bC a/\bC b, .d (.int .i64 (cmp (val a) (val b))))|_=>none
def iF.T:=bg fun|[.d (.ad .u32 a), .d (.ad .u32 b)]=>some (bC a/\bC b, .d (.ad .u32 (aQ (val a+val b))))|_=>none
def EF.T:=bg fun|[.d (.ad .u32 a), .d (.ad .u32 b)]=>some (bC a/\bC b, .d (.ad .u32 (aQ (val a*val b))))|_=>none
def EG.T:=bg fun|[.d (.ad .u32 a), .d (.ad .u32 b)]=>some (bC a/\bC b, .tup [.d (.ad .u32 (if val a<val b then[]else aQ (val a-val b))), .d (.int .i64 (if val a<val b then 1 else 0))])|_=>none
def Dh.T:=bg fun|[.d (.ad .u32 a), .d (.int .u32 d)]=>some (bC a/\L d/\0<d, .tup [.d (.ad .u32 (aQ (val a/d.toNat))), .d (.int .u32 (val a%d.toNat:Nat))])|_=>none
def CA.T:=bg fun|[.d (.ad .u32 a), .d (.ad .u32 b)]=>some (bC a/\bC b, .tup [.d (.ad .u32 (if val b=0 then[]else aQ (val a/val b))), .d (.ad .u32 (if val b=0 then[]else aQ (val a%val b))), .d (.int .i64 (if val b=0 then 3 else 0))])|_=>none
def anJ.T:=bg fun|[.d (.ad .u32 a), .d (.int .i64 n)]=>some (bK a/\a.length<=1000000, .tup [.d (.ad .u32 (if 0<=n/\n<=64 then aQ (val a^n.toNat)else[])), .d (.int .i64 (if 0<=n/\n<=64 then 0 else 1))])|_=>none
def DU.T:=bg fun|[.d (.ad .u32 a), .d (.ad .u32 b)]=>some (a.length<=1000000000/\b.length<=1000000000, .d (.bool (decide (a=b))))|_=>none
def ana.T:=bg fun|[.d (.ad .u32 a), .d (.ad .u32 b)]=>some (bC a/\bC b/\val b<4294967296, .tup [.d (.ad .u32 (if val b=0 then[]else aQ (val a/val b))), .d (.ad .u32 (if val b=0 then[]else aQ (val a%val b))), .d (.int .i64 (if val b=0 then 3 else 0))])|_=>none
def B1.T:=fm fun| .vec n, .ad .u8 l,[]=>(match Nat.beq n 0 with|true=>some (l.length<=1000000000000, .ad .u8 l.reverse, .tup [])|false=>none)|_,_,_=>none
def CB.T:=bg fun|[.d (.ad .u32 a)]=>some (bC a, .d (.str (dec (val a))))|_=>none
def anp.T:=bg fun|[]=>some (True, .d (.bool true))|_=>none
def amM.T:=bg fun|[.d (.ad .u32 a), .d (.int .u8 m), .d (.int .u8 n)]=>some (bK a/\0<=m/\0<=n, .d (.bool true))|_=>none
def anb.T:=bg fun|[.d (.int .i64 n)]=>some (-9223372036854775808<=n/\n<9223372036854775808, .tup [.d (.ad .u32 (if n<0 then[]else aQ n.toNat)), .d (.int .i64 (if n<0 then 1 else 0))])|_=>none
def anK.T:=bg fun|[.d (.ad .u32 a)]=>some (bC a, .tup [.d (.int .i64 (if val a<9223372036854775808 then val a else 0)), .d (.int .i64 (if val a<9223372036854775808 then 0 else 1))])|_=>none
def anq.T:=bg fun|[.d (.str s)]=>some (s.length<=1000000000000, .tup [.d (.ad .u32 (Db s)), .d (.int .i64 (Da s))])|_=>none
def am7.T:=bg fun|[.d (.ad .u32 a)]=>some (True, .d (.bool (decide (a.length<=24))))|_=>none
def amT.T:=bg fun|[.d (.ad .u32 a), .d (.ad .u32 b), .d (.ad .u32 c)]=>some (bK a/\bK b/\bK c, .d (.bool true))|_=>none
def amU.T:=bg fun|[.d (.int .i64 m), .d (.int .i64 n)]=>some (-9223372036854775808<=m/\m<9223372036854775808/\-9223372036854775808<=n/\n<9223372036854775808, .d (.bool true))|_=>none
def amN.T:=bg fun|[.d (.ad .u32 a), .d (.int .u8 z)]=>some (bK a/\0<=z/\z<256, .d (.bool true))|_=>none
def c4 (n:Nat):Nat:=if n=0 then 0 else n.log2+1
def kh (n:Nat):Nat->List Int
 |0=>[]
 |k+1=>((n%4294967296:Nat):Int)::kh (n/4294967296) k
def Di.T:=bg fun|[.d (.int .u32 x)]=>some (L x, .d (.int .i64 (c4 x.toNat)))|_=>none
def B2.T:=bg fun|[.d (.int .u32 x)]=>some (L x, .d (.int .i64 (32-c4 x.toNat)))|_=>none
def Dj.T:=mW fun|[.d (.ad .u32 a), .d (.int .u64 k)]=>some (bC a/\0<=k/\k<32, .ad .u32 (kh (val a*2^k.toNat) (a.length+1)))|_=>none
def DV.T:=bg fun|[.d (.ad .u32 a), .d (.ad .u32 b)]=>some (bC a/\bC b/\Norm a/\Norm b/\2<=b.length/\val b<=val a, .tup [.d (.ad .u32 (aQ (val a/val b))), .d (.ad .u32 (aQ (val a%val b)))])|_=>none
def EH.T:=bg fun|[.d (.ad .u32 a), .d (.ad .u32 b)]=>some (bC a/\bC b, .d (.ad .u32 (aQ (Nat.gcd (val a) (val b)))))|_=>none
def amK.T:=bg fun|[.d (.ad .u32 a), .d (.ad .u32 b)]=>some (bK a/\bK b, .d (.bool true))|_=>none
def amO.T:=bg fun|[.d (.ad .u32 a), .d (.ad .u32 b), .d (.ad .u32 c)]=>some (bK a/\bK b/\bK c, .d (.bool true))|_=>none
def B3.T:=mW fun|[.d (.ad .u32 a)]=>some (bC a, .ad .u32 (aQ (val a)))|_=>none
def CC.T:=bg fun|[.d (.ad .u32 a), .d (.ad .u32 b)]=>some (bC a/\bC b, .d (.int .i64 (cmp (val a) (val b))))|_=>none
def CD.T:=bg fun|[.d (.ad .u32 a), .d (.ad .u32 b)]=>some (bK a/\bK b/\a.length<=90000000/\b.length<=90000000, .d (.ad .u32 (aQ (val a+val b))))|_=>none
def CE.T:=bg fun|[.d (.ad .u32 a), .d (.ad .u32 b)]=>some (bK a/\bK b/\a.length<=40000000/\b.length<=40000000, .d (.ad .u32 (aQ (val a*val b))))|_=>none
def CF.T:=bg fun|[.d (.ad .u32 a), .d (.ad .u32 b)]=>some (bC a/\bC b, .tup [.d (.ad .u32 (if val a<val b then[]else aQ (val a-val b))), .d (.int .i64 (if val a<val b then 1 else 0))])|_=>none
def BM.T:=bg fun|[.d (.ad .u32 a), .d (.int .u32 d)]=>some (bC a/\L d/\0<d, .tup [.d (.ad .u32 (aQ (val a/d.toNat))), .d (.int .u32 (val a%d.toNat:Nat))])|_=>none
def By.T:=bg fun|[.d (.ad .u32 a), .d (.ad .u32 b)]=>some (bK a/\a.length<=90000000/\bK b/\b.length<=90000000, .tup [.d (.ad .u32 (if val b=0 then[]else aQ (val a/val b))), .d (.ad .u32 (if val b=0 then[]else aQ (val a%val b))), .d (.int .i64 (if val b=0 then 3 else 0))])|_=>none
def amX.T:=bg fun|[.d (.ad .u32 a), .d (.ad .u32 b)]=>some (bC a/\bC b/\val b<4294967296, .tup [.d (.ad .u32 (if val b=0 then[]else aQ (val a/val b))), .d (.ad .u32 (if val b=0 then[]else aQ (val a%val b))), .d (.int .i64 (if val b=0 then 3 else 0))])|_=>none
def CG.T:=bg fun|[.d (.ad .u32 a), .d (.ad .u32 b)]=>some (bK a/\a.length<=90000000/\bK b/\b.length<=90000000, .d (.ad .u32 (aQ (Nat.gcd (val a) (val b)))))|_=>none
def Bs.T:=bg fun|[.d (.int .i64 n)]=>some (-9223372036854775808<=n/\n<9223372036854775808, .tup [.d (.ad .u32 (if n<0 then[]else aQ n.toNat)), .d (.int .i64 (if n<0 then 1 else 0))])|_=>none
def anh.T:=bg fun|[.d (.ad .u32 a)]=>some (bC a, .tup [.d (.int .i64 (if val a<9223372036854775808 then val a else 0)), .d (.int .i64 (if val a<9223372036854775808 then 0 else 1))])|_=>none
def am8.T:=bg fun|[.d (.str s)]=>some (s.length<=1000000000000, .tup [.d (.ad .u32 (Db s)), .d (.int .i64 (Da s))])|_=>none
def ani.T:=bg fun|[.d (.ad .u32 a), .d (.int .i64 n)]=>some (bK a/\a.length<=500000, .tup [.d (.ad .u32 (if 0<=n/\n<=64 then aQ (val a^n.toNat)else[])), .d (.int .i64 (if 0<=n/\n<=64 then 0 else 1))])|_=>none
def am0.T:=bg fun|[.d (.ad .u32 a)]=>some (bC a, .d (.str (dec (val a))))|_=>none
def BN.T:=mW fun|[.d (.ad .u32 a), .d (.int .i64 k)]=>some (bC a/\0<=k/\k<32, .ad .u32 (kh (val a*2^k.toNat) (a.length+1)))|_=>none
def Bt.T:=bg fun|[.d (.ad .u32 a), .d (.int .i64 k)]=>some (bC a/\0<=k/\k<32, .d (.ad .u32 (aQ (val a/2^k.toNat))))|_=>none
def am1.T:=bg fun|[.d (.ad .u32 a), .d (.ad .u32 b)]=>some (bK a/\bK b/\a.length<=1000000/\b.length<=1000000, .d (.bool true))|_=>none
def BO.T:=fm fun| .vec z, .ad .u32 u,[.d (.ad .u32 v), .d (.int .i64 j)]=>(match Nat.beq z 0 with|true=>some (bC u/\bC v/\2<=v.length/\0<=j/\j.toNat+v.length<u.length/\2147483648*4294967296^(v.length-1)<=val v/\val u<4294967296^(j.toNat+1)*val v, .ad .u32 (kh (val u-4294967296^j.toNat*((val u/4294967296^j.toNat)/val v*val v)) u.length), .d (.int .u32 ((val u/4294967296^j.toNat)/val v:Nat)))|false=>none)|_,_,_=>none
def amY.T:=bg fun|[.d (.ad .u32 a), .d (.ad .u32 b), .d (.int .i64 n), .d (.str _)]=>some (bK a/\bK b/\-9223372036854775808<=n/\n<9223372036854775808, .d (.bool true))|_=>none
end ab
end
section
namespace ab
open Go Go.al
def i64 (x:Int):Prop:=-9223372036854775808<=x/\x<9223372036854775808
def dQ (l:List Int)(a:Int):Prop:=0<=a/\l.length<=1000/\∀x∈l,i64 x
def uX (l:List Int)(a:Int):Int:=if(l.length:Int)<=a then a else a+1
def qe (l:List Int)(a:Int):Int:=if(l.length:Int)<=a then 0 else l.getD a.toNat 0
def c0 (l:List Int)(a n:Int):Int:=if n<1 then a else uX l a
def fr (l:List Int)(a n:Int):Int:=if n<1 then 0 else qe l a%n
def mX (l:List Int)(a:Int)(m:List Int):Int:=m.getD (fr l a m.length).toNat 0
def qM:List Int:=[0,1,2,3,10,97,65536,2147483648,4294967295,4294967291,123456789,4000000007]
def q4 (l:List Int):Nat->Int->List Int->List Int×Int
 |0,a,out=>(out,a)
 |i+1,a,out=>q4 l i (c0 l a 12) (out++[mX l a qM])
def lB (l:List Int)(a:Int):List Int×Int:=q4 l (fr l a 5).toNat (c0 l a 5) []
abbrev st (l:List Int)(a s:Int):af:= .cells [.d (.ad .i64 l), .d (.int .i64 a), .d (.int .i64 s)]
def Dk.T:=mW fun|[.d (.ad .i64 l)]=>some (True, .cells [.d (.ad .i64 (l.take 1000)), .d (.int .i64 0), .d (.int .i64 0)])|_=>none
def Dl.T:=fm fun| .ptr z o, .cells [.d (.ad .i64 l), .d (.int .i64 a), .d (.int .i64 s)],[]=>(match Nat.beq z 0,Nat.beq o 0 with|true,true=>some (dQ l a, .cells [.d (.ad .i64 l), .d (.int .i64 (uX l a)), .d (.int .i64 s)], .d (.int .i64 (qe l a)))|_,_=>none)|_,_,_=>none
def EI.T:=fm fun| .ptr z o, .cells [.d (.ad .i64 l), .d (.int .i64 a), .d (.int .i64 s)],[.d (.int .i64 n)]=>(match Nat.beq z 0,Nat.beq o 0 with|true,true=>some (dQ l a/\i64 n, .cells [.d (.ad .i64 l), .d (.int .i64 (c0 l a n)), .d (.int .i64 s)], .d (.int .i64 (fr l a n)))|_,_=>none)|_,_,_=>none
def CH.T:=fm fun| .ptr z o, .cells [.d (.ad .i64 l), .d (.int .i64 a), .d (.int .i64 s)],[.d (.ad .i64 m)]=>(match Nat.beq z 0,Nat.beq o 0 with|true,true=>some (dQ l a/\0<m.length/\m.length<=1000, .cells [.d (.ad .i64 l), .d (.int .i64 (c0 l a m.length)), .d (.int .i64 s)], .d (.int .i64 (mX l a m)))|_,_=>none)|_,_,_=>none
def B4.T:=fm fun| .ptr z o, .cells [.d (.ad .i64 l), .d (.int .i64 a), .d (.int .i64 s)],[]=>(match Nat.beq z 0,Nat.beq o 0 with|true,true=>some (dQ l a, .cells [.d (.ad .i64 l), .d (.int .i64 (lB l a).2), .d (.int .i64 s)], .d (.ad .u32 (lB l a).1))|_,_=>none)|_,_,_=>none
def amR.T:=bg fun|[.d (.ad .i64 l)]=>some (∀x∈l,i64 x, .d (.bool true))|_=>none
end ab
end
section
namespace ab
open Go Go.al
def dL (s:Bool)(n:Nat):Int:=if s then-(n:Int)else n
def bb (s:Bool)(a b:List Int):Rat:=mkRat (dL s (val a)) (val b)
def cl (r:Rat):Bool:=decide (r.num<0)
def cj (r:Rat):List Int:=aQ r.num.natAbs
def ca (r:Rat):List Int:=aQ r.den
def bO (k:Nat)(a:List Int):Prop:=bK a/\a.length<=k
def xQ (r:Rat):Bool:=decide (r=0)
def k1 (r:Rat):Int:=if r=0 then 0 else if r<0 then-1 else 1
def Sv (r:Rat):List Int:=(if cl r then[45]else[])++dec r.num.natAbs++(if r.den=1 then[]else 47::dec r.den)
def EJ:List Int->List Int
 |[]=>[]
 |x::r=>if x=47 then[]else x::EJ r
def EK:List Int->List Int
 |[]=>[]
 |x::r=>if x=47 then r else EK r
def zq:List Int->Bool
 |[]=>false
 |x::r=>if x=47 then true else zq r
def IW (s:List Int):Bool:=decide (s.getD 0 0=45)
def uY (s:List Int):List Int:=if IW s then s.drop 1 else s
def Tw (s:List Int):Int:=Da (EJ (uY s))
def Tx (s:List Int):Int:=if zq (uY s)then Da (EK (uY s))else 0
def ajj (s:List Int):Nat:=val (Db (EJ (uY s)))
def Ty (s:List Int):Nat:=if zq (uY s)then val (Db (EK (uY s)))else 1
def Fs (s:List Int):Int:=if Tw s=4\/Tx s=4 then 4 else if Tw s≠0\/Tx s≠0 then 9 else if Ty s=0 then 3 else 0
def JD (s:List Int):Rat:=mkRat (dL (IW s) (ajj s)) (Ty s)
def ry (c:Bool)(r:Rat):Bool:=if c then cl r else false
def rz (c:Bool)(r:Rat):List Int:=if c then cj r else[]
def rA (c:Bool)(r:Rat):List Int:=if c then ca r else[]
def EL.T:=bg fun|[.agg [.d (.bool s), .d (.ad .u32 a), .d (.ad .u32 b)]]=>some (True, .agg [.d (.bool s), .d (.ad .u32 a), .d (.ad .u32 b)])|_=>none
def CI.T:=bg fun|[.d (.bool s), .d (.ad .u32 a), .d (.ad .u32 b)]=>some (bC a/\bC b/\val b≠0, .agg [.d (.bool (cl (bb s a b))), .d (.ad .u32 (cj (bb s a b))), .d (.ad .u32 (ca (bb s a b)))])|_=>none
def CJ.T:=bg fun|[.d (.ad .u32 a)]=>some (bC a, .d (.bool (decide (val a=0))))|_=>none
def wC.T:=bg fun|[.agg [.d (.bool s), .d (.ad .u32 a), .d (.ad .u32 b)]]=>some (bC a/\bC b, .agg [.d (.bool (cl (bb s a b))), .d (.ad .u32 (cj (bb s a b))), .d (.ad .u32 (ca (bb s a b)))])|_=>none
def EM.T:=bg fun|[.d (.ad .u32 a)]=>some (True, .d (.bool (decide (a=[1]))))|_=>none
def Bz.T:=bg fun|[.d (.int .i64 n)]=>some (i64 n, .tup [.d (.bool (decide (n<0))), .d (.ad .u32 (aQ n.natAbs))])|_=>none
def sU.T:=bg fun|[.d (.int .i64 n)]=>some (i64 n, .agg [.d (.bool (cl (n:Rat))), .d (.ad .u32 (cj (n:Rat))), .d (.ad .u32 (ca (n:Rat)))])|_=>none
def DW.T:=bg fun|[.d (.int .i64 n), .d (.int .i64 d)]=>some (i64 n/\i64 d, .tup [.agg [.d (.bool (ry (!decide (d=0)) (Rat.divInt n d))), .d (.ad .u32 (rz (!decide (d=0)) (Rat.divInt n d))), .d (.ad .u32 (rA (!decide (d=0)) (Rat.divInt n d)))], .d (.int .i64 (if d=0 then 3 else 0))])|_=>none
def anr.T:=bg fun|[.d (.bool s), .d (.ad .u32 a), .d (.ad .u32 b)]=>some (bC a/\bC b, .tup [.agg [.d (.bool (ry (!decide (val b=0)) (bb s a b))), .d (.ad .u32 (rz (!decide (val b=0)) (bb s a b))), .d (.ad .u32 (rA (!decide (val b=0)) (bb s a b)))], .d (.int .i64 (if val b=0 then 3 else 0))])|_=>none
def B5.T:=bg fun|[.d (.bool s), .d (.ad .u32 a), .d (.bool t), .d (.ad .u32 b), .d (.ad .u32 d)]=>some (bO 50000000 a/\bO 50000000 b/\bC d/\val d≠0, .agg [.d (.bool (cl (mkRat (dL s (val a)+dL t (val b)) (val d)))), .d (.ad .u32 (cj (mkRat (dL s (val a)+dL t (val b)) (val d)))), .d (.ad .u32 (ca (mkRat (dL s (val a)+dL t (val b)) (val d))))])|_=>none
def wY.T:=bg fun|[.agg [.d (.bool s), .d (.ad .u32 a), .d (.ad .u32 b)], .agg [.d (.bool t), .d (.ad .u32 c), .d (.ad .u32 d)]]=>some (bO 1000000 a/\bO 1000000 b/\bO 1000000 c/\bO 1000000 d, .agg [.d (.bool (cl (bb s a b+bb t c d))), .d (.ad .u32 (cj (bb s a b+bb t c d))), .d (.ad .u32 (ca (bb s a b+bb t c d)))])|_=>none
def DX.T:=bg fun|[.agg [.d (.bool s), .d (.ad .u32 a), .d (.ad .u32 b)]]=>some (bO 1000000 a/\bO 1000000 b, .agg [.d (.bool (cl (-bb s a b))), .d (.ad .u32 (cj (-bb s a b))), .d (.ad .u32 (ca (-bb s a b)))])|_=>none
def DY.T:=bg fun|[.agg [.d (.bool s), .d (.ad .u32 a), .d (.ad .u32 b)], .agg [.d (.bool t), .d (.ad .u32 c), .d (.ad .u32 d)]]=>some (bO 1000000 a/\bO 1000000 b/\bO 1000000 c/\bO 1000000 d, .agg [.d (.bool (cl (bb s a b-bb t c d))), .d (.ad .u32 (cj (bb s a b-bb t c d))), .d (.ad .u32 (ca (bb s a b-bb t c d)))])|_=>none
def wZ.T:=bg fun|[.agg [.d (.bool s), .d (.ad .u32 a), .d (.ad .u32 b)], .agg [.d (.bool t), .d (.ad .u32 c), .d (.ad .u32 d)]]=>some (bO 1000000 a/\bO 1000000 b/\bO 1000000 c/\bO 1000000 d, .agg [.d (.bool (cl (bb s a b*bb t c d))), .d (.ad .u32 (cj (bb s a b*bb t c d))), .d (.ad .u32 (ca (bb s a b*bb t c d)))])|_=>none
def anx.T:=bg fun|[.agg [.d (.bool s), .d (.ad .u32 a), .d (.ad .u32 b)], .agg [.d (.bool t), .d (.ad .u32 c), .d (.ad .u32 d)]]=>some (bO 1000000 a/\bO 1000000 b/\bO 1000000 c/\bO 1000000 d, .tup [.agg [.d (.bool (ry (!xQ (bb t c d)) (bb s a b/bb t c d))), .d (.ad .u32 (rz (!xQ (bb t c d)) (bb s a b/bb t c d))), .d (.ad .u32 (rA (!xQ (bb t c d)) (bb s a b/bb t c d)))], .d (.int .i64 (if xQ (bb t c d)=true then 3 else 0))])|_=>none
def wM.T:=bg fun|[.agg [.d (.bool s), .d (.ad .u32 a), .d (.ad .u32 b)]]=>some (bC a/\bC b, .d (.int .i64 (k1 (bb s a b))))|_=>none
def DZ.T:=bg fun|[.agg [.d (.bool s), .d (.ad .u32 a), .d (.ad .u32 b)], .agg [.d (.bool t), .d (.ad .u32 c), .d (.ad .u32 d)]]=>some (bO 1000000 a/\bO 1000000 b/\bO 1000000 c/\bO 1000000 d, .d (.int .i64 (k1 (bb s a b-bb t c d))))|_=>none
def wD.T:=bg fun|[.agg [.d (.bool s), .d (.ad .u32 a), .d (.ad .u32 b)], .agg [.d (.bool t), .d (.ad .u32 c), .d (.ad .u32 d)]]=>some (bO 1000000 a/\bO 1000000 b/\bO 1000000 c/\bO 1000000 d, .d (.bool (decide (bb s a b=bb t c d))))|_=>none
def anz.T:=bg fun|[.agg [.d (.bool s), .d (.ad .u32 a), .d (.ad .u32 b)], .d (.int .i64 n)]=>some (bO 10000 a/\bO 10000 b, .tup [.agg [.d (.bool (ry (decide (0<=n/\n<=64)) (bb s a b^n.toNat))), .d (.ad .u32 (rz (decide (0<=n/\n<=64)) (bb s a b^n.toNat))), .d (.ad .u32 (rA (decide (0<=n/\n<=64)) (bb s a b^n.toNat)))], .d (.int .i64 (if 0<=n/\n<=64 then 0 else 1))])|_=>none
def anj.T:=bg fun|[.d (.str s)]=>some (s.length<=1000000, .tup [.agg [.d (.bool (ry (decide (Fs s=0)) (JD s))), .d (.ad .u32 (rz (decide (Fs s=0)) (JD s))), .d (.ad .u32 (rA (decide (Fs s=0)) (JD s)))], .d (.int .i64 (Fs s))])|_=>none
def B6.T:=bg fun|[.agg [.d (.bool s), .d (.ad .u32 a), .d (.ad .u32 b)]]=>some (bO 1000000 a/\bO 1000000 b, .d (.str (Sv (bb s a b))))|_=>none
def am2.T:=bg fun|[.d (.str s), .d (.str p)]=>some (p=[45]/\s.length<=1000000000000, .tup [.d (.str (uY s)), .d (.bool (IW s))])|_=>none
def anL.T:=bg fun|[.d (.str s), .d (.str p)]=>some (p=[47]/\s.length<=1000000000000, .tup [.d (.str (EJ s)), .d (.str (if zq s then EK s else[])), .d (.bool (zq s))])|_=>none
def Dm.T:=bg fun|[.agg [.d (.bool s), .d (.ad .u32 a), .d (.ad .u32 b)], .agg [.d (.bool t), .d (.ad .u32 c), .d (.ad .u32 d)]]=>some (a.length<=1000000000/\b.length<=1000000000/\c.length<=1000000000/\d.length<=1000000000, .d (.bool (decide (s=t/\a=c/\b=d))))|_=>none
def ank.T:=bg fun|[.agg [.d (.bool s), .d (.ad .u32 a), .d (.ad .u32 b)], .d (.int .i64 n)]=>some (bO 10000 a/\bO 10000 b/\n<=64, .agg [.d (.bool (cl (bb s a b^n.toNat))), .d (.ad .u32 (cj (bb s a b^n.toNat))), .d (.ad .u32 (ca (bb s a b^n.toNat)))])|_=>none
end ab
end
section
namespace Go.al
def idx (c:Int):List Int->Int
 |[]=>-1
 |x::r=>if x=c then 0 else if idx c r=-1 then-1 else idx c r+1
def anM.T:=bg fun|[.d (.str s), .d (.int .u8 c)]=>some (0<=c/\c<256, .d (.int .i64 (idx c s)))|_=>none
end Go.al
end
section
namespace ab
open Go Go.al
abbrev rg (r:Rat):J:= .agg [.d (.bool (cl r)), .d (.ad .u32 (cj r)), .d (.ad .u32 (ca r))]
abbrev dR (s:Bool)(a b:List Int):J:= .agg [.d (.bool s), .d (.ad .u32 a), .d (.ad .u32 b)]
def Ik (s p:List Int):Bool:=decide (p.length<=s.length/\s.take p.length=p)
def am3.T:=bg fun|[.d (.str s), .d (.str p)]=>some (s.length<=1000000000000/\p.length<=1000000000000, .d (.bool (Ik s p)))|_=>none
def amZ.T:=bg fun|[.d (.str s), .d (.str p)]=>some (s.length<=1000000000000/\p.length<=1000000000000, .tup [.d (.str (if Ik s p then s.drop p.length else s)), .d (.bool (Ik s p))])|_=>none
def anl.T:=bg fun|[.d (.str s), .d (.str p)]=>some (p.length=1/\0<=p.getD 0 0/\p.getD 0 0<256/\s.length<=1000000000000, .d (.int .i64 (idx (p.getD 0 0) s)))|_=>none
def anA.T:=bg fun|[.d (.str s), .d (.str p)]=>some (p.length=1/\0<=p.getD 0 0/\p.getD 0 0<256/\s.length<=1000000000000, .tup [.d (.str (if idx (p.getD 0 0) s<0 then s else s.take (idx (p.getD 0 0) s).toNat)), .d (.str (if idx (p.getD 0 0) s<0 then[]else s.drop ((idx (p.getD 0 0) s).toNat+1))), .d (.bool (!decide (idx (p.getD 0 0) s<0)))])|_=>none
def CK.T:=bg fun|[.d (.bool s), .d (.ad .u32 a), .d (.ad .u32 b)]=>some (bO 90000000 a/\bO 90000000 b/\val b≠0, .agg [.d (.bool (cl (bb s a b))), .d (.ad .u32 (cj (bb s a b))), .d (.ad .u32 (ca (bb s a b)))])|_=>none
def B7.T:=bg fun|[.agg [.d (.bool s), .d (.ad .u32 a), .d (.ad .u32 b)]]=>some (bO 90000000 a/\bO 90000000 b, .agg [.d (.bool (cl (bb s a b))), .d (.ad .u32 (cj (bb s a b))), .d (.ad .u32 (ca (bb s a b)))])|_=>none
def ans.T:=bg fun|[.d (.bool s), .d (.ad .u32 a), .d (.ad .u32 b)]=>some (bO 90000000 a/\bO 90000000 b, .tup [.agg [.d (.bool (ry (!decide (val b=0)) (bb s a b))), .d (.ad .u32 (rz (!decide (val b=0)) (bb s a b))), .d (.ad .u32 (rA (!decide (val b=0)) (bb s a b)))], .d (.int .i64 (if val b=0 then 3 else 0))])|_=>none
def Dn.T:=bg fun|[.agg [.d (.bool s), .d (.ad .u32 a), .d (.ad .u32 b)]]=>some (bO 90000000 a/\bO 90000000 b, .d (.int .i64 (k1 (bb s a b))))|_=>none
def kJ (l:List Int)(a lo hi:Int):Int:=lo+fr l a (hi-lo+1)
def IX (l:List Int)(a:Int):Int:=kJ l a (-6) 6
def IY (l:List Int)(a:Int):Int:=kJ l (c0 l a 13) 1 5
def iG (l:List Int)(a:Int):Rat:=Rat.divInt (IX l a) (IY l a)
def kR (l:List Int)(a:Int):Int:=c0 l (c0 l a 13) 5
def p4 (l:List Int)(a:Int):Int:=fr l a 4
def wN (l:List Int)(a:Int):Bool:=
 if p4 l a=0 then cl (iG l (c0 l a 4))else if p4 l a=1 then decide (fr l (c0 l a 4) 2=0)else decide (fr l (c0 l (c0 l a 4) 6) 2=0)
def sH (l:List Int)(a:Int):List Int:=
 if p4 l a=0 then cj (iG l (c0 l a 4))else if p4 l a=1 then(lB l (c0 l (c0 l a 4) 2)).1 else
  [kJ l (c0 l a 4) 1 6*fr l (c0 l (c0 l (c0 l a 4) 6) 2) 9,0]
def sI (l:List Int)(a:Int):List Int:=
 if p4 l a=0 then ca (iG l (c0 l a 4))else if p4 l a=1 then(lB l (lB l (c0 l (c0 l a 4) 2)).2).1 else
  [kJ l (c0 l a 4) 1 6*fr l (c0 l (c0 l (c0 l (c0 l a 4) 6) 2) 9) 6]
def wO (l:List Int)(a:Int):Int:=
 if p4 l a=0 then kR l (c0 l a 4)else if p4 l a=1 then(lB l (lB l (c0 l (c0 l a 4) 2)).2).2 else
  c0 l (c0 l (c0 l (c0 l (c0 l a 4) 6) 2) 9) 6
def B8.T:=fm fun| .ptr z o, .cells [.d (.ad .i64 l), .d (.int .i64 a), .d (.int .i64 s)],[.d (.int .i64 lo), .d (.int .i64 hi)]=>(match Nat.beq z 0,Nat.beq o 0 with|true,true=>some (dQ l a/\-1000000000<=lo/\lo<=hi/\hi<=1000000000, .cells [.d (.ad .i64 l), .d (.int .i64 (c0 l a (hi-lo+1))), .d (.int .i64 s)], .d (.int .i64 (kJ l a lo hi)))|_,_=>none)|_,_,_=>none
def Dp.T:=fm fun| .ptr z o, .cells [.d (.ad .i64 l), .d (.int .i64 a), .d (.int .i64 s)],[]=>(match Nat.beq z 0,Nat.beq o 0 with|true,true=>some (dQ l a, .cells [.d (.ad .i64 l), .d (.int .i64 (kR l a)), .d (.int .i64 s)],rg (iG l a))|_,_=>none)|_,_,_=>none
def B9.T:=fm fun| .ptr z o, .cells [.d (.ad .i64 l), .d (.int .i64 a), .d (.int .i64 s)],[]=>(match Nat.beq z 0,Nat.beq o 0 with|true,true=>some (dQ l a, .cells [.d (.ad .i64 l), .d (.int .i64 (wO l a)), .d (.int .i64 s)],dR (wN l a) (sH l a) (sI l a))|_,_=>none)|_,_,_=>none
def am4.T:=bg fun|[.d (.ad .u32 a)]=>some (bC a, .d (.bool (decide (a=aQ (val a)))))|_=>none
def anc.T:=bg fun|[.agg [.d (.bool AM), .d (.ad .u32 a), .d (.ad .u32 b)]]=>some (True, .d (.bool (decide (a.length<=12/\b.length<=12))))|_=>none
def ane.T:=bg fun|[]=>some (True, .d (.bool true))|_=>none
def am9.T:=bg fun|[.agg [.d (.bool AM), .d (.ad .u32 a), .d (.ad .u32 b)], .agg [.d (.bool UF), .d (.ad .u32 c), .d (.ad .u32 d)]]=>some (bO 100000 a/\bO 100000 b/\bO 100000 c/\bO 100000 d, .d (.bool true))|_=>none
def amL.T:=bg fun|[.agg [.d (.bool AM), .d (.ad .u32 a), .d (.ad .u32 b)], .agg [.d (.bool UF), .d (.ad .u32 c), .d (.ad .u32 d)]]=>some (bK a/\bK b/\bK c/\bK d, .d (.bool true))|_=>none
def amS.T:=bg fun|[.d (.ad .i64 l)]=>some (∀x∈l,i64 x, .d (.bool true))|_=>none
def anf.T:=mW fun|[.d (.ad .u32 a), .d (.ad .u32 b)]=>some (bK a/\bK b/\a.length<=40000000/\b.length<=40000000, .ad .u32 (aQ (val a*val b)))|_=>none
def amJ.T:=bg fun|[.d (.ad .i64 l), .d (.int .u32 k), .d (.int .u8 z)]=>some ((∀x∈l,i64 x)/\L k/\0<=z/\z<256, .d (.bool true))|_=>none
def amP.T:=bg fun|[.agg [.d (.bool AM), .d (.ad .u32 a), .d (.ad .u32 b)]]=>some (bK a/\bK b, .d (.bool true))|_=>none
def amV.T:=bg fun|[.agg [.d (.bool AM), .d (.ad .u32 a), .d (.ad .u32 b)], .agg [.d (.bool UF), .d (.ad .u32 c), .d (.ad .u32 d)], .d (.int .i64 x), .d (.int .i64 y), .d (.int .i64 n), .d (.str aon)]=>some (bK a/\bK b/\bK c/\bK d/\i64 x/\i64 y/\i64 n, .d (.bool true))|_=>none
def amQ.T:=bg fun|[.d (.ad .i64 l), .d (.str t), .d (.int .i64 n)]=>some ((∀x∈l,i64 x)/\(∀x∈t,0<=x/\x<256)/\i64 n, .d (.bool true))|_=>none
end ab
end
section
namespace ab
open Go Go.al
abbrev Row:=List R
abbrev Rows:=List (List R)
def eP (r:Row):Prop:=∃(oG fT fZ hV jG jH oH r5:Int) (s:Bool) (a b:List Int),
 r=[.int .i64 oG, .int .i64 fT, .int .i64 fZ, .int .i64 hV, .int .i64 jG, .int .i64 jH, .int .i64 oH, .int .i64 r5, .bool s, .ad .u32 a, .ad .u32 b]
def c7 (l:Rows):Prop:=∀r∈l,eP r
def dq (r:Row):List Int:=(r.take 8).map R.toInt
def ez:List Int->List Int->Int
 |a::x,b::y=>if a<b then-1 else if b<a then 1 else ez x y
 |[],[]=>0
 |[],_=>-1
 |_,[]=>1
def gH (a b:Row):Int:=-ez (dq a) (dq b)
def bk (a b:Row):Bool:=decide (gH a b<0)
structure ee where
 g:Nat
 desc:Bool
def ee.is (q:ee)(g:Nat)(c:List J):Bool:=
 match Nat.beq g q.g,q.desc,c with
 |true,true,[.agg [.bt]]=>true
 |true,false,[.agg [.d (.int .i64 8)]]=>true
 |_,_,_=>false
def qf.T (q:ee):=bg fun
 |[.agg [.d c], .rw m a, .rw n b]=>(match Nat.beq m 11,Nat.beq n 11,q.desc,c with
  |true,true,true, .bool true=>some (eP a/\eP b, .d (.int .i64 (gH a b)))
  |true,true,false, .int .i64 8=>some (eP a/\eP b, .d (.int .i64 (gH a b)))
  |_,_,_,_=>none)
 |_=>none
def fP (l:Rows)(a b:Int):Prop:=c7 l/\0<=a/\a<=b/\b<=(l.length:Int)/\l.length<1000000000000000
def EN.T (q:ee):=fm fun
 | .vec z, .ar ak l,[.d (.int .i64 a), .d (.int .i64 b), .cls g c]=>(match Nat.beq z 0,Nat.beq ak 11,q.is g c with
  |true,true,true=>some (fP l a b, .ar 11 (Go.Sort.insertionSort bk l.toArray a.toNat b.toNat).toList, .tup [])
  |_,_,_=>none)
 |_,_,_=>none
def D0.T (q:ee):=fm fun
 | .vec z, .ar ak l,[.d (.int .i64 lo), .d (.int .i64 hi), .d (.int .i64 f), .cls g c]=>(match Nat.beq z 0,Nat.beq ak 11,q.is g c with
  |true,true,true=>some (c7 l/\0<=lo/\lo<=(l.length:Int)/\0<=hi/\0<=f/\f+hi<=(l.length:Int)/\l.length<1000000000000000, .ar 11 (Go.Sort.siftDown bk hi.toNat f.toNat lo.toNat l.toArray).toList, .tup [])
  |_,_,_=>none)
 |_,_,_=>none
def D1.T (q:ee):=fm fun
 | .vec z, .ar ak l,[.d (.int .i64 a), .d (.int .i64 b), .cls g c]=>(match Nat.beq z 0,Nat.beq ak 11,q.is g c with
  |true,true,true=>some (fP l a b/\a<b, .ar 11 (Go.Sort.heapSort bk l.toArray a.toNat b.toNat).toList, .tup [])
  |_,_,_=>none)
 |_,_,_=>none
def D2.T (q:ee):=fm fun
 | .vec z, .ar ak l,[.d (.int .i64 a), .d (.int .i64 b), .d (.int .i64 p), .cls g c]=>(match Nat.beq z 0,Nat.beq ak 11,q.is g c with
  |true,true,true=>some (fP l a b/\a<=p/\p<b, .ar 11 (Go.Sort.partition bk l.toArray a.toNat b.toNat p.toNat).2.2.toList, .tup [.d (.int .i64 (Go.Sort.partition bk l.toArray a.toNat b.toNat p.toNat).1), .d (.bool (Go.Sort.partition bk l.toArray a.toNat b.toNat p.toNat).2.1)])
  |_,_,_=>none)
 |_,_,_=>none
def CL.T (q:ee):=fm fun
 | .vec z, .ar ak l,[.d (.int .i64 a), .d (.int .i64 b), .d (.int .i64 p), .cls g c]=>(match Nat.beq z 0,Nat.beq ak 11,q.is g c with
  |true,true,true=>some (fP l a b/\a<=p/\p<b, .ar 11 (Go.Sort.partitionEqual bk l.toArray a.toNat b.toNat p.toNat).2.toList, .d (.int .i64 (Go.Sort.partitionEqual bk l.toArray a.toNat b.toNat p.toNat).1))
  |_,_,_=>none)
 |_,_,_=>none
def B_.T (q:ee):=fm fun
 | .vec z, .ar ak l,[.d (.int .i64 a), .d (.int .i64 b), .cls g c]=>(match Nat.beq z 0,Nat.beq ak 11,q.is g c with
  |true,true,true=>some (fP l a b/\a<b, .ar 11 (Go.Sort.partialInsertionSort bk l.toArray a.toNat b.toNat).1.toList, .d (.bool (Go.Sort.partialInsertionSort bk l.toArray a.toNat b.toNat).2))
  |_,_,_=>none)
 |_,_,_=>none
def EO.T (q:ee):=fm fun
 | .vec z, .ar ak l,[.d (.int .i64 a), .d (.int .i64 b), .cls g c]=>(match Nat.beq z 0,Nat.beq ak 11,q.is g c with
  |true,true,true=>some (fP l a b, .ar 11 (Go.Sort.reverseRange l.toArray a.toNat b.toNat).toList, .tup [])
  |_,_,_=>none)
 |_,_,_=>none
def wP.T:=bg fun|[.d (.int .u64 x)]=>some (0<=x/\x<18446744073709551616, .d (.int .i64 (c4 x.toNat)))|_=>none
def EP.T:=bg fun|[.d (.int .i64 x)]=>some (0<=x/\x<4611686018427387904, .d (.int .u64 (2^c4 x.toNat:Nat)))|_=>none
def ER.T:=lC (ι:=Int) fun
 | .ptr z o, .cells [.d (.int .u64 x)],[]=>(match Nat.beq z 0,Nat.beq o 0 with
  |true,true=>some (0<=x/\x<18446744073709551616,fun y=>0<=y/\y<18446744073709551616,fun y=> .cells [.d (.int .u64 y)],fun y=> .d (.int .u64 y))
  |_,_=>none)
 |_,_,_=>none
def D3.T (q:ee):=fm fun
 | .ptr z o, .cells [.d (.int .i64 s)],[.d (.ar ak l), .d (.int .i64 a), .d (.int .i64 b), .cls g c]=>(match Nat.beq z 0,Nat.beq o 0,Nat.beq ak 11,q.is g c with
  |true,true,true,true=>some (c7 l/\0<=a/\a<(l.length:Int)/\0<=b/\b<(l.length:Int)/\0<=s/\s<1000, .cells [.d (.int .i64 (Go.Sort.order2 bk l.toArray a.toNat b.toNat s.toNat).2.2)], .tup [.d (.int .i64 (Go.Sort.order2 bk l.toArray a.toNat b.toNat s.toNat).1), .d (.int .i64 (Go.Sort.order2 bk l.toArray a.toNat b.toNat s.toNat).2.1)])
  |_,_,_,_=>none)
 |_,_,_=>none
def ES.T (q:ee):=fm fun
 | .ptr z o, .cells [.d (.int .i64 s)],[.d (.ar ak l), .d (.int .i64 a), .d (.int .i64 b), .d (.int .i64 e), .cls g c]=>(match Nat.beq z 0,Nat.beq o 0,Nat.beq ak 11,q.is g c with
  |true,true,true,true=>some (c7 l/\(0<=a/\a<(l.length:Int))/\(0<=b/\b<(l.length:Int))/\(0<=e/\e<(l.length:Int))/\0<=s/\s<900, .cells [.d (.int .i64 (Go.Sort.median bk l.toArray a.toNat b.toNat e.toNat s.toNat).2)], .d (.int .i64 (Go.Sort.median bk l.toArray a.toNat b.toNat e.toNat s.toNat).1))
  |_,_,_,_=>none)
 |_,_,_=>none
def CM.T (q:ee):=fm fun
 | .ptr z o, .cells [.d (.int .i64 s)],[.d (.ar ak l), .d (.int .i64 a), .cls g c]=>(match Nat.beq z 0,Nat.beq o 0,Nat.beq ak 11,q.is g c with
  |true,true,true,true=>some (c7 l/\0<a/\a+1<(l.length:Int)/\l.length<1000000000000000/\0<=s/\s<900, .cells [.d (.int .i64 (Go.Sort.medianAdjacent bk l.toArray a.toNat s.toNat).2)], .d (.int .i64 (Go.Sort.medianAdjacent bk l.toArray a.toNat s.toNat).1))
  |_,_,_,_=>none)
 |_,_,_=>none
def Dq.T (q:ee):=bg fun
 |[.d (.ar ak l), .d (.int .i64 a), .d (.int .i64 b), .cls g c]=>(match Nat.beq ak 11,q.is g c with
  |true,true=>some (fP l a b/\a<b, .tup [.d (.int .i64 (Go.Sort.choosePivot bk l.toArray a.toNat b.toNat).1), .d (.int .i64 (Go.Sort.hintCode (Go.Sort.choosePivot bk l.toArray a.toNat b.toNat).2))])
  |_,_=>none)
 |_=>none
def D4 (l:Rows)(a b:Int)(ch:Rows):Prop:=c7 ch/\Go.Sort.PermIn a.toNat b.toNat l.toArray ch.toArray
def lD (l:Rows)(a b:Int)(ch:Rows):Prop:=D4 l a b ch/\Go.Sort.SortedIn bk a.toNat b.toNat ch.toArray
def yX.T (q:ee):=lC (ι:=Rows) fun
 | .vec z, .ar ak l,[.d (.int .i64 a), .d (.int .i64 b), .cls g c]=>(match Nat.beq z 0,Nat.beq ak 11,q.is g c with
  |true,true,true=>some (fP l a b,D4 l a b,fun ch=> .ar 11 ch,fun _=> .tup [])
  |_,_,_=>none)
 |_,_,_=>none
def kS.T (q:ee)(n:Nat):=lC (ι:=Rows) fun
 | .vec z, .ar ak l,[.d (.int .i64 a), .d (.int .i64 b), .d (.int .i64 m), .cls g c]=>(match Nat.beq z 0,Nat.beq ak 11,q.is g c with
  |true,true,true=>some (fP l a b/\b-a<n/\(0<=m/\m<=64)/\Go.Sort.Below bk a.toNat b.toNat l.toArray,lD l a b,fun ch=> .ar 11 ch,fun _=> .tup [])
  |_,_,_=>none)
 |_,_,_=>none
def sV.T (q:ee):=lC (ι:=Rows) fun
 | .vec z, .ar ak l,[.d (.int .i64 a), .d (.int .i64 b), .d (.int .i64 m), .cls g c]=>(match Nat.beq z 0,Nat.beq ak 11,q.is g c with
  |true,true,true=>some (fP l a b/\(0<=m/\m<=64)/\Go.Sort.Below bk a.toNat b.toNat l.toArray,lD l a b,fun ch=> .ar 11 ch,fun _=> .tup [])
  |_,_,_=>none)
 |_,_,_=>none
def y_.T (q:ee):=lC (ι:=Rows) fun
 | .vec z, .ar ak l,[.cls g c]=>(match Nat.beq z 0,Nat.beq ak 11,q.is g c with
  |true,true,true=>some (c7 l/\l.length<1000000000000000,lD l 0 l.length,fun ch=> .ar 11 ch,fun _=> .tup [])
  |_,_,_=>none)
 |_,_,_=>none
end ab
end
section
namespace ab
open Go Go.al
def dZ (m:List Int):Row:=m.map (R.int .i64)
def ET (r:Row):Prop:=∃m:List Int,r=dZ m/\m.length=8/\∀x∈m,-4000000000000000000<=x/\x<=4000000000000000000
def jC (r:Row):List Int:=r.map R.toInt
def gi:List Int->List Int->List Int
 |a::x,b::y=>(a+b)::gi x y
 |_,_=>[]
def D6.T:=bg fun|[.d (.int .i64 a), .d (.int .i64 b)]=>some (True, .d (.int .i64 (if a<b then-1 else if b<a then 1 else 0)))|_=>none
def Ds.T:=bg fun|[.d (.int .i64 aoo)]=>some (True, .d (.bool false))|_=>none
def Ca.T:=bg fun|[.d (.ad .i64 a), .d (.ad .i64 b)]=>some (a.length<1000000000/\b.length<1000000000, .d (.int .i64 (ez a b)))|_=>none
def lJ:Int->List Int->Int
 |a,[]=>a
 |a,x::l=>lJ (if x>a then x else a) l
def EU.T:=bg fun|[.d (.ad .i64 a)]=>some (0<a.length/\a.length<1000000000, .d (.int .i64 (lJ (a.getD 0 0) (a.drop 1))))|_=>none
def Dt.T:=bg fun
 |[.rw m a, .rw n b]=>(match Nat.beq m 8,Nat.beq n 8 with
  |true,true=>some (ET a/\ET b, .rw 8 (dZ (gi (jC a) (jC b))))
  |_,_=>none)
 |_=>none
def Du.T:=mW fun|[.d (.ar ak l)]=>(match Nat.beq ak 11 with|true=>some (l.length<100000000000, .ar 11 l)|false=>none)|_=>none
def tl (r:Row):Rat:=bb (r.getD 8 .undef).toBool (r.getD 9 .undef).b2 (r.getD 10 .undef).b2
def fg (k:Nat)(r:Row):Prop:=∃(m:List Int) (s:Bool) (a b:List Int),r=dZ m++[.bool s, .ad .u32 a, .ad .u32 b]/\m.length=8/\(∀x∈m,-4000000000000000000<=x/\x<=4000000000000000000)/\bO k a/\bO k b
def jL (r:Row):Bool:=decide (k1 (tl r)=0)
def Dv.T:=bg fun|[.rw n r]=>(match Nat.beq n 11 with|true=>some (fg 1000000 r, .d (.bool (jL r)))|false=>none)|_=>none
def o7:Rows->Int->Int
 |[],_=>-1
 |r::l,i=>if jL r then i else o7 l (i+1)
def yI.T (g:Nat):=bg fun|[.d (.ar ak l), .fn f]=>(match Nat.beq ak 11,Nat.beq f g with|true,true=>some ((∀r∈l,fg 1000000 r)/\l.length<100000000000, .d (.int .i64 (o7 l 0)))|_,_=>none)|_=>none
def za.T (g:Nat):=w0 fun| .ar ak l,[.fn f]=>(match Nat.beq ak 11,Nat.beq f g with|true,true=>some ((∀r∈l,fg 1000000 r)/\l.length<100000000000, .ar 11 (l.filter fun r=> !jL r))|_,_=>none)|_,_=>none
abbrev ba:=List Int×Rat
def aM (r:Row):ba:=(dq r,tl r)
def hS (t:ba):Row:=dZ t.1++[.bool (cl t.2), .ad .u32 (cj t.2), .ad .u32 (ca t.2)]
def br (p:List ba):Rows:=p.map hS
def c2:List ba->List Int->Rat
 |[],_=>0
 |t::p,m=>(if t.1=m then t.2 else 0)+c2 p m
def ins (t:ba):List ba->List ba
 |[]=>if t.2=0 then[]else[t]
 |u::p=>if t.1=u.1 then(if u.2+t.2=0 then p else(u.1,u.2+t.2)::p)else if ez t.1 u.1=1 then(if t.2=0 then u::p else t::u::p)else u::ins t p
def nrm:List ba->List ba
 |[]=>[]
 |t::p=>ins t (nrm p)
def fw (m:List Int):Rows->Nat
 |[]=>0
 |r::l=>(if dq r=m then 1 else 0)+fw m l
def iZ (l:Rows):Prop:=∃k c:Nat,1<=k/\(∀r∈l,fg k r)/\(∀m,fw m l<=c)/\c*(2*k+2)<=900000/\k<=900000/\l.length<=1000000000
def so.T:=bg fun|[.d (.ar ak l)]=>(match Nat.beq ak 11 with|true=>some (iZ l, .d (.ar 11 (br (nrm (l.map aM)))))|false=>none)|_=>none
end ab
end
section
open Go Go.al
namespace ab
def Le:List Int->List Int->(J->Prop)->Prop:=
 fun(a b:List Int) (K:J->Prop)=>∃(aK:Int->Prop),∃(m:Int->Nat),aK (0:Int)/\∀(v11:Int),aK v11->(decide (v11<aO a)=true->(0:Int)<=v11/\v11<aO a/\(decide (aO b<=v11)=true->K (J.d (R.int IntKind.i64 (1:Int))))/\(decide (aO b<=v11)=false->(0:Int)<=v11/\v11<aO b/\True/\∀(x:Int),(x=if List.getD a (Int.toNat v11) (0:Int)<List.getD b (Int.toNat v11) (0:Int)then(-1:Int)else if List.getD b (Int.toNat v11) (0:Int)<List.getD a (Int.toNat v11) (0:Int)then(1:Int)else(0:Int))->((!decide (x=(0:Int)))=true->K (J.d (R.int IntKind.i64 x)))/\((!decide (x=(0:Int)))=false->aK (ah (v11+(1:Int)))/\m (ah (v11+(1:Int)))<m v11)))/\(decide (v11<aO a)=false->(decide (aO a<aO b)=true->K (J.d (R.int IntKind.i64 (-1:Int))))/\(decide (aO a<aO b)=false->K (J.d (R.int IntKind.i64 (0:Int)))))
def Lw:Int->Int->(J->Prop)->Prop:=
 fun a b K=>True/\∀x,x=false->True/\∀aV,aV=false->(x=true->(aV=true->K (J.d (R.int .i64 0)))/\(aV=false->K (J.d (R.int .i64 (-1)))))/\(x=false->(aV=true->K (J.d (R.int .i64 1)))/\(aV=false->(decide (a<b)=true->K (J.d (R.int .i64 (-1))))/\(decide (a<b)=false->(decide (b<a)=true->K (J.d (R.int .i64 1)))/\(decide (b<a)=false->K (J.d (R.int .i64 0))))))
def LF:Int->(J->Prop)->Prop:=
 fun a K=>K (J.d (R.bool !decide (a=a)))
def K8:ab.Row->ab.Row->(J->Prop)->Prop:=
 fun a b K=>List.length a=(11:Nat)/\(∀(x:R),x∈List.take (8:Nat) a->x.dd .i64)/\(0:Int)<=(8:Int)/\(8:Int)<=(8:Int)/\List.length b=(11:Nat)/\(∀(x:R),x∈List.take (8:Nat) b->x.dd .i64)/\(0:Int)<=(8:Int)/\(8:Int)<=(8:Int)/\((List.take (8:Nat) (List.map R.toInt (List.take (8:Nat) a))).length<(1000000000:Nat)/\(List.take (8:Nat) (List.map R.toInt (List.take (8:Nat) b))).length<(1000000000:Nat))/\∀x,x=ez (List.take (8:Nat) (List.map R.toInt (List.take (8:Nat) a))) (List.take (8:Nat) (List.map R.toInt (List.take (8:Nat) b)))->K (J.d (R.int .i64 (ah ((0:Int)-x))))
def KR:ab.Row->ab.Row->(J->Prop)->Prop:=
 fun a b K=>List.length a=11/\(∀(x:R),x∈List.take 8 a->x.dd .i64)/\List.length b=11/\(∀(x:R),x∈List.take 8 b->x.dd .i64)/\((List.map R.toInt (List.take 8 a)).length<1000000000/\(List.map R.toInt (List.take 8 b)).length<1000000000)/\∀x,x=ez (List.map R.toInt (List.take 8 a)) (List.map R.toInt (List.take 8 b))->(true=true->K (J.d (R.int .i64 (ah (0-x)))))/\(true=false->K (J.d (R.int .i64 x)))
def Lx:List Int->(J->Prop)->Prop:=
 fun a K=>∃(bm:Prop),((decide (↑a.length<(1:Int))=true->False)/\(decide (↑a.length<(1:Int))=false->bm))/\(bm->(0:Int)<=(0:Int)/\(0:Int)<↑a.length/\∃(aK:Int->Int->Prop),∃(m:Int->Int->Nat),aK (a.getD (0:Nat) (0:Int)) (1:Int)/\∀(v3 v4:Int),aK v3 v4->(decide (v4<↑a.length)=true->(0:Int)<=v4/\v4<↑a.length/\aK (if v3<a.getD v4.toNat (0:Int)then a.getD v4.toNat (0:Int)else v3) (ah (v4+(1:Int)))/\m (if v3<a.getD v4.toNat (0:Int)then a.getD v4.toNat (0:Int)else v3) (ah (v4+(1:Int)))<m v3 v4)/\(decide (v4<↑a.length)=false->K (J.d (R.int .i64 v3))))
def LS:ab.Row->ab.Row->(J->Prop)->Prop:=
 fun a b K=>∃(aK:Int->List (List R)->List (List R)->List (List R)->Prop),∃(m:Int->List (List R)->List (List R)->List (List R)->Nat),aK 0 [a] [b] [[R.int .i64 0,R.int .i64 0,R.int .i64 0,R.int .i64 0,R.int .i64 0,R.int .i64 0,R.int .i64 0,R.int .i64 0]]/\∀(v6:Int) (aq bz bl:List (List R)),aK v6 aq bz bl->(decide (v6<8)=true->0<=v6/\v6<8/\((aq.getD 0 []).getD v6.toNat R.undef).dd .i64/\0<=v6/\v6<8/\((bz.getD 0 []).getD v6.toNat R.undef).dd .i64/\0<=v6/\v6<8/\aK (ah (v6+1)) (aq.set 0 ((aq.getD 0 []).set v6.toNat (R.int .i64 (ah (((aq.getD 0 []).getD v6.toNat R.undef).toInt+((bz.getD 0 []).getD v6.toNat R.undef).toInt))))) bz bl/\m (ah (v6+1)) (aq.set 0 ((aq.getD 0 []).set v6.toNat (R.int .i64 (ah (((aq.getD 0 []).getD v6.toNat R.undef).toInt+((bz.getD 0 []).getD v6.toNat R.undef).toInt))))) bz bl<m v6 aq bz bl)/\(decide (v6<8)=false->(aq.getD 0 []).length=8/\((bl.set 0 (aq.getD 0 [])).getD 0 []).length=8/\K (J.rw 8 ((bl.set 0 (aq.getD 0 [])).getD 0 [])))
def Ly:ab.Row->(J->Prop)->Prop:=
 fun r K=>(List.getD r 8 R.undef).isBool/\(List.getD r 9 R.undef).eJ .u32/\(List.getD r 10 R.undef).eJ .u32/\(bC (List.getD r 9 R.undef).b2/\bC (List.getD r 10 R.undef).b2)/\∀x,x=k1 (bb (List.getD r 8 R.undef).toBool (List.getD r 9 R.undef).b2 (List.getD r 10 R.undef).b2)->K (J.d (R.bool (decide (x=0))))
def KS:ab.Rows->(J->Prop)->Prop:=
 fun l K=>∃(aK:Int->Prop),∃(m:Int->Nat),aK 0/\∀(bn:Int),aK bn->(decide (bn<(aO l))=true->0<=bn/\bn<(aO l)/\(List.aG l bn).length=11/\fg 1000000 (List.aG l bn)/\∀x,x=jL (List.aG l bn)->(x=true->K (J.d (R.int .i64 bn)))/\(x=false->aK (ah (bn+1))/\m (ah (bn+1))<m bn))/\(decide (bn<(aO l))=false->K (J.d (R.int .i64 (-1))))
def KO:ab.Rows->(af->Prop)->Prop:=
 fun l K=>((∀(r:List R),r∈l->fg 1000000 r)/\List.length l<100000000000)/\∀x,x=o7 l 0->(decide (x=-1)=true->K (af.ar 11 l))/\(decide (x=-1)=false->∃(aK:Int->Int->List (List R)->Prop),∃(m:Int->Int->List (List R)->Nat),aK x (ah (x+1)) l/\∀(v5 v6:Int) (aq:List (List R)),aK v5 v6 aq->(decide (v6<↑aq.length)=true->0<=v6/\v6<↑aq.length/\(aq.aG v6).length=11/\(aq.aG v6).length=11/\fg 1000000 (aq.aG v6)/\∀x,x=jL (aq.aG v6)->((!x)=true->(aq.aG v6).length=11/\0<=v5/\v5<↑aq.length/\aK (ah (v5+1)) (ah (v6+1)) (aq.set v5.toNat (aq.aG v6))/\m (ah (v5+1)) (ah (v6+1)) (aq.set v5.toNat (aq.aG v6))<m v5 v6 aq)/\((!x)=false->aK v5 (ah (v6+1)) aq/\m v5 (ah (v6+1)) aq<m v5 v6 aq))/\(decide (v6<↑aq.length)=false->0<=v5/\v5<↑aq.length/\0<=v5/\v5<=↑(List.take v5.toNat aq++List.replicate (aq.length-v5.toNat) [R.int .i64 0,R.int .i64 0,R.int .i64 0,R.int .i64 0,R.int .i64 0,R.int .i64 0,R.int .i64 0,R.int .i64 0,R.bool false,R.ad .u32 [],R.ad .u32 []]).length/\K (af.ar 11 (List.take v5.toNat (List.take v5.toNat aq++List.replicate (aq.length-v5.toNat) [R.int .i64 0,R.int .i64 0,R.int .i64 0,R.int .i64 0,R.int .i64 0,R.int .i64 0,R.int .i64 0,R.int .i64 0,R.bool false,R.ad .u32 [],R.ad .u32 []])))))
def K5:ab.Rows->(af->Prop)->Prop:=
 fun l K=>∀b,(b=true->l=[])->(b=true->K (af.ar (11:Nat) []))/\(b=false->((0:Int)+(aO l))*(120:Int)<=(70368744177664:Int)/\K (af.ar (11:Nat) ([]++l)))
def LG:ab.Rows->(J->Prop)->Prop:=
 fun l K=>(0:Int)<=(0:Int)/\(0:Int)<=(aO l)/\(aO l)*(120:Int)<=(281474976710656:Int)/\∃(aK:Int->List (List R)->List (List R)->Prop),∃(m:Int->List (List R)->List (List R)->Nat),aK (0:Int) [] (List.replicate (0:Nat) [R.int .i64 (0:Int),R.int .i64 (0:Int),R.int .i64 (0:Int),R.int .i64 (0:Int),R.int .i64 (0:Int),R.int .i64 (0:Int),R.int .i64 (0:Int),R.int .i64 (0:Int),R.bool false,R.ad .u32 [],R.ad .u32 []])/\∀(bW:Int) (aq bz:List (List R)),aK bW aq bz->(decide (bW<(aO l))=true->(0:Int)<=bW/\bW<(aO l)/\(List.aG l bW).length=(11:Nat)/\(List.aG l bW).length=(11:Nat)/\kc (List.take (8:Nat) (List.aG l bW))/\((du (8:Nat) [R.int .i64 (0:Int)] aq (List.map R.toInt (List.take (8:Nat) (List.aG l bW)))).getD (0:Nat) R.undef).dd .i64/\(mR (8:Nat) aq (List.map R.toInt (List.take (8:Nat) (List.aG l bW)))=true->(0:Int)<=((du (8:Nat) [R.int .i64 (0:Int)] aq (List.map R.toInt (List.take (8:Nat) (List.aG l bW)))).getD (0:Nat) R.undef).toInt/\((du (8:Nat) [R.int .i64 (0:Int)] aq (List.map R.toInt (List.take (8:Nat) (List.aG l bW)))).getD (0:Nat) R.undef).toInt<↑bz.length/\((bz.getD ((du (8:Nat) [R.int .i64 (0:Int)] aq (List.map R.toInt (List.take (8:Nat) (List.aG l bW)))).getD (0:Nat) R.undef).toInt.toNat []).eV).isBool/\((bz.getD ((du (8:Nat) [R.int .i64 (0:Int)] aq (List.map R.toInt (List.take (8:Nat) (List.aG l bW)))).getD (0:Nat) R.undef).toInt.toNat []).eb).eJ .u32/\((bz.getD ((du (8:Nat) [R.int .i64 (0:Int)] aq (List.map R.toInt (List.take (8:Nat) (List.aG l bW)))).getD (0:Nat) R.undef).toInt.toNat []).ec).eJ .u32/\((List.aG l bW).eV).isBool/\((List.aG l bW).eb).eJ .u32/\((List.aG l bW).ec).eJ .u32/\(bO (1000000:Nat) ((bz.getD ((du (8:Nat) [R.int .i64 (0:Int)] aq (List.map R.toInt (List.take (8:Nat) (List.aG l bW)))).getD (0:Nat) R.undef).toInt.toNat []).eb).b2/\bO (1000000:Nat) ((bz.getD ((du (8:Nat) [R.int .i64 (0:Int)] aq (List.map R.toInt (List.take (8:Nat) (List.aG l bW)))).getD (0:Nat) R.undef).toInt.toNat []).ec).b2/\bO (1000000:Nat) ((List.aG l bW).eb).b2/\bO (1000000:Nat) ((List.aG l bW).ec).b2)/\∀x,x=cl (bb ((bz.getD ((du (8:Nat) [R.int .i64 (0:Int)] aq (List.map R.toInt (List.take (8:Nat) (List.aG l bW)))).getD (0:Nat) R.undef).toInt.toNat []).eV).toBool ((bz.getD ((du (8:Nat) [R.int .i64 (0:Int)] aq (List.map R.toInt (List.take (8:Nat) (List.aG l bW)))).getD (0:Nat) R.undef).toInt.toNat []).eb).b2 ((bz.getD ((du (8:Nat) [R.int .i64 (0:Int)] aq (List.map R.toInt (List.take (8:Nat) (List.aG l bW)))).getD (0:Nat) R.undef).toInt.toNat []).ec).b2+bb ((List.aG l bW).eV).toBool ((List.aG l bW).eb).b2 ((List.aG l bW).ec).b2)->∀aV,aV=cj (bb ((bz.getD ((du (8:Nat) [R.int .i64 (0:Int)] aq (List.map R.toInt (List.take (8:Nat) (List.aG l bW)))).getD (0:Nat) R.undef).toInt.toNat []).eV).toBool ((bz.getD ((du (8:Nat) [R.int .i64 (0:Int)] aq (List.map R.toInt (List.take (8:Nat) (List.aG l bW)))).getD (0:Nat) R.undef).toInt.toNat []).eb).b2 ((bz.getD ((du (8:Nat) [R.int .i64 (0:Int)] aq (List.map R.toInt (List.take (8:Nat) (List.aG l bW)))).getD (0:Nat) R.undef).toInt.toNat []).ec).b2+bb ((List.aG l bW).eV).toBool ((List.aG l bW).eb).b2 ((List.aG l bW).ec).b2)->∀aS,aS=ca (bb ((bz.getD ((du (8:Nat) [R.int .i64 (0:Int)] aq (List.map R.toInt (List.take (8:Nat) (List.aG l bW)))).getD (0:Nat) R.undef).toInt.toNat []).eV).toBool ((bz.getD ((du (8:Nat) [R.int .i64 (0:Int)] aq (List.map R.toInt (List.take (8:Nat) (List.aG l bW)))).getD (0:Nat) R.undef).toInt.toNat []).eb).b2 ((bz.getD ((du (8:Nat) [R.int .i64 (0:Int)] aq (List.map R.toInt (List.take (8:Nat) (List.aG l bW)))).getD (0:Nat) R.undef).toInt.toNat []).ec).b2+bb ((List.aG l bW).eV).toBool ((List.aG l bW).eb).b2 ((List.aG l bW).ec).b2)->(0:Int)<=((du (8:Nat) [R.int .i64 (0:Int)] aq (List.map R.toInt (List.take (8:Nat) (List.aG l bW)))).getD (0:Nat) R.undef).toInt/\((du (8:Nat) [R.int .i64 (0:Int)] aq (List.map R.toInt (List.take (8:Nat) (List.aG l bW)))).getD (0:Nat) R.undef).toInt<↑bz.length/\aK (ah (bW+(1:Int))) aq (bz.set ((du (8:Nat) [R.int .i64 (0:Int)] aq (List.map R.toInt (List.take (8:Nat) (List.aG l bW)))).getD (0:Nat) R.undef).toInt.toNat (setRow (bz.getD ((du (8:Nat) [R.int .i64 (0:Int)] aq (List.map R.toInt (List.take (8:Nat) (List.aG l bW)))).getD (0:Nat) R.undef).toInt.toNat []) (8:Nat) [R.bool x,R.ad .u32 aV,R.ad .u32 aS]))/\m (ah (bW+(1:Int))) aq (bz.set ((du (8:Nat) [R.int .i64 (0:Int)] aq (List.map R.toInt (List.take (8:Nat) (List.aG l bW)))).getD (0:Nat) R.undef).toInt.toNat (setRow (bz.getD ((du (8:Nat) [R.int .i64 (0:Int)] aq (List.map R.toInt (List.take (8:Nat) (List.aG l bW)))).getD (0:Nat) R.undef).toInt.toNat []) (8:Nat) [R.bool x,R.ad .u32 aV,R.ad .u32 aS]))<m bW aq bz)/\(mR (8:Nat) aq (List.map R.toInt (List.take (8:Nat) (List.aG l bW)))=false->(List.aG l bW).length=(11:Nat)/\kc (List.take (8:Nat) (List.aG l bW))/\(List.aG l bW).length=(11:Nat)/\((List.aG l bW).eV).isBool/\((List.aG l bW).eb).eJ .u32/\((List.aG l bW).ec).eJ .u32/\(bC ((List.aG l bW).eb).b2/\bC ((List.aG l bW).ec).b2)/\∀x,x=cl (bb ((List.aG l bW).eV).toBool ((List.aG l bW).eb).b2 ((List.aG l bW).ec).b2)->∀aV,aV=cj (bb ((List.aG l bW).eV).toBool ((List.aG l bW).eb).b2 ((List.aG l bW).ec).b2)->∀aS,aS=ca (bb ((List.aG l bW).eV).toBool ((List.aG l bW).eb).b2 ((List.aG l bW).ec).b2)->(↑bz.length+↑[List.take (8:Nat) (List.aG l bW)++[R.bool x,R.ad .u32 aV,R.ad .u32 aS]].length)*(120:Int)<=(70368744177664:Int)/\aK (ah (bW+(1:Int))) (mb (8:Nat) (List.take (8:Nat) (List.aG l bW)) [R.int .i64 ↑bz.length] aq) (bz++[List.take (8:Nat) (List.aG l bW)++[R.bool x,R.ad .u32 aV,R.ad .u32 aS]])/\m (ah (bW+(1:Int))) (mb (8:Nat) (List.take (8:Nat) (List.aG l bW)) [R.int .i64 ↑bz.length] aq) (bz++[List.take (8:Nat) (List.aG l bW)++[R.bool x,R.ad .u32 aV,R.ad .u32 aS]])<m bW aq bz))/\(decide (bW<(aO l))=false->((∀(r:List R),r∈bz->fg (1000000:Nat) r)/\bz.length<(100000000000:Nat))/\∀x,x=List.filter (fun(r:List R)=> !jL r) bz->(c7 x/\x.length<(1000000000000000:Nat))/\∀(i:List (List R)),lD x (0:Int) (↑x.length) i->K (J.d (R.ar (11:Nat) i)))
def Ls:ab.Rows->(J->Prop)->Prop:=
 fun l K=>∃(aK:Int->List (List R)->List (List R)->Prop),∃(m:Int->List (List R)->List (List R)->Nat),aK 0 [] []/\∀(bW:Int) (aq bz:List (List R)),aK bW aq bz->(decide (bW<(aO l))=true->0<=bW/\bW<(aO l)/\(List.aG l bW).length=11/\∃(bm:List (List R)->List (List R)->List (List R)->Prop),((List.aG l bW).length=11/\kc (List.take 8 (List.aG l bW))/\((du 8 [R.bool false,R.ad .u32 [],R.ad .u32 []] aq (List.map R.toInt (List.take 8 (List.aG l bW)))).getD 0 R.undef).isBool/\((du 8 [R.bool false,R.ad .u32 [],R.ad .u32 []] aq (List.map R.toInt (List.take 8 (List.aG l bW)))).getD 1 R.undef).eJ .u32/\((du 8 [R.bool false,R.ad .u32 [],R.ad .u32 []] aq (List.map R.toInt (List.take 8 (List.aG l bW)))).getD 2 R.undef).eJ .u32/\((!mR 8 aq (List.map R.toInt (List.take 8 (List.aG l bW))))=true->(List.aG l bW).length=11/\((bz.length:Int)+↑[List.take 8 (List.aG l bW)].length)*64<=70368744177664/\bm aq (bz++[List.take 8 (List.aG l bW)]) [List.aG l bW])/\((!mR 8 aq (List.map R.toInt (List.take 8 (List.aG l bW))))=false->bm aq bz [List.aG l bW]))/\∀(bJ eG bl:List (List R)),bm bJ eG bl->(bl.getD 0 []).length=11/\(bl.getD 0 []).length=11/\kc (List.take 8 (bl.getD 0 []))/\((du 8 [R.bool false,R.ad .u32 [],R.ad .u32 []] bJ (List.map R.toInt (List.take 8 (bl.getD 0 [])))).getD 0 R.undef).isBool/\((du 8 [R.bool false,R.ad .u32 [],R.ad .u32 []] bJ (List.map R.toInt (List.take 8 (bl.getD 0 [])))).getD 1 R.undef).eJ .u32/\((du 8 [R.bool false,R.ad .u32 [],R.ad .u32 []] bJ (List.map R.toInt (List.take 8 (bl.getD 0 [])))).getD 2 R.undef).eJ .u32/\((bl.getD 0 []).eV).isBool/\((bl.getD 0 []).eb).eJ .u32/\((bl.getD 0 []).ec).eJ .u32/\(bO 1000000 ((du 8 [R.bool false,R.ad .u32 [],R.ad .u32 []] bJ (List.map R.toInt (List.take 8 (bl.getD 0 [])))).getD 1 R.undef).b2/\bO 1000000 ((du 8 [R.bool false,R.ad .u32 [],R.ad .u32 []] bJ (List.map R.toInt (List.take 8 (bl.getD 0 [])))).getD 2 R.undef).b2/\bO 1000000 ((bl.getD 0 []).eb).b2/\bO 1000000 ((bl.getD 0 []).ec).b2)/\∀x,x=cl (bb ((du 8 [R.bool false,R.ad .u32 [],R.ad .u32 []] bJ (List.map R.toInt (List.take 8 (bl.getD 0 [])))).getD 0 R.undef).toBool ((du 8 [R.bool false,R.ad .u32 [],R.ad .u32 []] bJ (List.map R.toInt (List.take 8 (bl.getD 0 [])))).getD 1 R.undef).b2 ((du 8 [R.bool false,R.ad .u32 [],R.ad .u32 []] bJ (List.map R.toInt (List.take 8 (bl.getD 0 [])))).getD 2 R.undef).b2+bb ((bl.getD 0 []).eV).toBool ((bl.getD 0 []).eb).b2 ((bl.getD 0 []).ec).b2)->∀aV,aV=cj (bb ((du 8 [R.bool false,R.ad .u32 [],R.ad .u32 []] bJ (List.map R.toInt (List.take 8 (bl.getD 0 [])))).getD 0 R.undef).toBool ((du 8 [R.bool false,R.ad .u32 [],R.ad .u32 []] bJ (List.map R.toInt (List.take 8 (bl.getD 0 [])))).getD 1 R.undef).b2 ((du 8 [R.bool false,R.ad .u32 [],R.ad .u32 []] bJ (List.map R.toInt (List.take 8 (bl.getD 0 [])))).getD 2 R.undef).b2+bb ((bl.getD 0 []).eV).toBool ((bl.getD 0 []).eb).b2 ((bl.getD 0 []).ec).b2)->∀aS,aS=ca (bb ((du 8 [R.bool false,R.ad .u32 [],R.ad .u32 []] bJ (List.map R.toInt (List.take 8 (bl.getD 0 [])))).getD 0 R.undef).toBool ((du 8 [R.bool false,R.ad .u32 [],R.ad .u32 []] bJ (List.map R.toInt (List.take 8 (bl.getD 0 [])))).getD 1 R.undef).b2 ((du 8 [R.bool false,R.ad .u32 [],R.ad .u32 []] bJ (List.map R.toInt (List.take 8 (bl.getD 0 [])))).getD 2 R.undef).b2+bb ((bl.getD 0 []).eV).toBool ((bl.getD 0 []).eb).b2 ((bl.getD 0 []).ec).b2)->kc (List.take 8 (bl.getD 0 []))/\aK (ah (bW+1)) (mb 8 (List.take 8 (bl.getD 0 [])) [R.bool x,R.ad .u32 aV,R.ad .u32 aS] bJ) eG/\m (ah (bW+1)) (mb 8 (List.take 8 (bl.getD 0 [])) [R.bool x,R.ad .u32 aV,R.ad .u32 aS] bJ) eG<m bW aq bz)/\(decide (bW<(aO l))=false->∃(aK:Int->List (List R)->List (List R)->List (List R)->Prop),∃(m:Int->List (List R)->List (List R)->List (List R)->Nat),aK 0 aq bz []/\∀(v46:Int) (aq eG bl:List (List R)),aK v46 aq eG bl->(decide (v46<↑bz.length)=true->0<=v46/\v46<↑eG.length/\(eG.aG v46).length=8/\(eG.aG v46).length=8/\kc (eG.aG v46)/\((du 8 [R.bool false,R.ad .u32 [],R.ad .u32 []] aq (List.map R.toInt (eG.aG v46))).getD 0 R.undef).isBool/\((du 8 [R.bool false,R.ad .u32 [],R.ad .u32 []] aq (List.map R.toInt (eG.aG v46))).getD 1 R.undef).eJ .u32/\((du 8 [R.bool false,R.ad .u32 [],R.ad .u32 []] aq (List.map R.toInt (eG.aG v46))).getD 2 R.undef).eJ .u32/\(bC ((du 8 [R.bool false,R.ad .u32 [],R.ad .u32 []] aq (List.map R.toInt (eG.aG v46))).getD 1 R.undef).b2/\bC ((du 8 [R.bool false,R.ad .u32 [],R.ad .u32 []] aq (List.map R.toInt (eG.aG v46))).getD 2 R.undef).b2)/\∀x,x=k1 (bb ((du 8 [R.bool false,R.ad .u32 [],R.ad .u32 []] aq (List.map R.toInt (eG.aG v46))).getD 0 R.undef).toBool ((du 8 [R.bool false,R.ad .u32 [],R.ad .u32 []] aq (List.map R.toInt (eG.aG v46))).getD 1 R.undef).b2 ((du 8 [R.bool false,R.ad .u32 [],R.ad .u32 []] aq (List.map R.toInt (eG.aG v46))).getD 2 R.undef).b2)->((!decide (x=0))=true->(eG.aG v46).length=8/\(eG.aG v46).length=8/\kc (eG.aG v46)/\((du 8 [R.bool false,R.ad .u32 [],R.ad .u32 []] aq (List.map R.toInt (eG.aG v46))).getD 0 R.undef).isBool/\((du 8 [R.bool false,R.ad .u32 [],R.ad .u32 []] aq (List.map R.toInt (eG.aG v46))).getD 1 R.undef).eJ .u32/\((du 8 [R.bool false,R.ad .u32 [],R.ad .u32 []] aq (List.map R.toInt (eG.aG v46))).getD 2 R.undef).eJ .u32/\((bl.length:Int)+↑[eG.aG v46++[R.bool ((du 8 [R.bool false,R.ad .u32 [],R.ad .u32 []] aq (List.map R.toInt (eG.aG v46))).getD 0 R.undef).toBool,R.ad .u32 ((du 8 [R.bool false,R.ad .u32 [],R.ad .u32 []] aq (List.map R.toInt (eG.aG v46))).getD 1 R.undef).b2,R.ad .u32 ((du 8 [R.bool false,R.ad .u32 [],R.ad .u32 []] aq (List.map R.toInt (eG.aG v46))).getD 2 R.undef).b2]].length)*120<=70368744177664/\aK (ah (v46+1)) aq eG (bl++[eG.aG v46++[R.bool ((du 8 [R.bool false,R.ad .u32 [],R.ad .u32 []] aq (List.map R.toInt (eG.aG v46))).getD 0 R.undef).toBool,R.ad .u32 ((du 8 [R.bool false,R.ad .u32 [],R.ad .u32 []] aq (List.map R.toInt (eG.aG v46))).getD 1 R.undef).b2,R.ad .u32 ((du 8 [R.bool false,R.ad .u32 [],R.ad .u32 []] aq (List.map R.toInt (eG.aG v46))).getD 2 R.undef).b2]])/\m (ah (v46+1)) aq eG (bl++[eG.aG v46++[R.bool ((du 8 [R.bool false,R.ad .u32 [],R.ad .u32 []] aq (List.map R.toInt (eG.aG v46))).getD 0 R.undef).toBool,R.ad .u32 ((du 8 [R.bool false,R.ad .u32 [],R.ad .u32 []] aq (List.map R.toInt (eG.aG v46))).getD 1 R.undef).b2,R.ad .u32 ((du 8 [R.bool false,R.ad .u32 [],R.ad .u32 []] aq (List.map R.toInt (eG.aG v46))).getD 2 R.undef).b2]])<m v46 aq eG bl)/\((!decide (x=0))=false->aK (ah (v46+1)) aq eG bl/\m (ah (v46+1)) aq eG bl<m v46 aq eG bl))/\(decide (v46<↑bz.length)=false->(c7 bl/\bl.length<1000000000000000)/\∀(i:List (List R)),lD bl 0 (↑bl.length) i->K (J.d (R.ar 11 i))))
end ab
end
section
open Go Go.al
namespace ab
def Mk:Int->(J->Prop)->Prop:=
 fun x K=>∃(bm:Int->Int->Prop),((decide (4294967296<=x)=true->bm (x.fdiv 4294967296) 32)/\(decide (4294967296<=x)=false->bm x 0))/\∀(v0 v2:Int),bm v0 v2->∃(bm:Int->Int->Prop),((decide (65536<=v0)=true->bm (v0.fdiv 65536) (ah (v2+16)))/\(decide (65536<=v0)=false->bm v0 v2))/\∀(v0 v2:Int),bm v0 v2->(decide (256<=v0)=true->0<=IntKind.u8.wrap (v0.fdiv 256)/\IntKind.u8.wrap (v0.fdiv 256)<256/\K (J.d (R.int .i64 (ah (ah (v2+8)+ah ((have y:=have y:=have y:=have y:=have y:=have y:=[8,8,8,8];8::8::8::8::y;have y:=8::8::8::8::y;8::8::8::8::y;have y:=have y:=8::8::8::8::y;8::8::8::8::y;have y:=8::8::8::8::y;8::8::8::8::y;have y:=have y:=have y:=8::8::8::8::y;8::8::8::8::y;have y:=8::8::8::8::y;8::8::8::8::y;have y:=have y:=8::8::8::8::y;8::8::8::8::y;have y:=8::8::8::8::y;8::8::8::8::y;have y:=have y:=have y:=have y:=8::8::8::8::y;8::8::8::8::y;have y:=8::8::8::8::y;8::8::8::8::y;have y:=have y:=8::8::8::8::y;8::8::8::8::y;have y:=8::8::8::8::y;8::8::8::8::y;have y:=have y:=have y:=8::8::8::8::y;8::8::8::8::y;have y:=8::8::8::8::y;8::8::8::8::y;have y:=have y:=8::8::8::8::y;8::8::8::8::y;have y:=8::8::8::8::y;8::8::8::8::y;have y:=have y:=have y:=have y:=have y:=7::7::7::7::y;7::7::7::7::y;have y:=7::7::7::7::y;7::7::7::7::y;have y:=have y:=7::7::7::7::y;7::7::7::7::y;have y:=7::7::7::7::y;7::7::7::7::y;have y:=have y:=have y:=7::7::7::7::y;7::7::7::7::y;have y:=7::7::7::7::y;7::7::7::7::y;have y:=have y:=7::7::7::7::y;7::7::7::7::y;have y:=7::7::7::7::y;7::7::7::7::y;have y:=have y:=have y:=have y:=6::6::6::6::y;6::6::6::6::y;have y:=6::6::6::6::y;6::6::6::6::y;have y:=have y:=6::6::6::6::y;6::6::6::6::y;have y:=6::6::6::6::y;6::6::6::6::y;have y:=have y:=have y:=5::5::5::5::y;5::5::5::5::y;have y:=5::5::5::5::y;5::5::5::5::y;have y:=have y:=4::4::4::4::y;4::4::4::4::y;have y:=3::3::3::3::y;0::1::2::2::y).getD (IntKind.u8.wrap (v0.fdiv 256)).toNat 0))))))/\(decide (256<=v0)=false->0<=IntKind.u8.wrap v0/\IntKind.u8.wrap v0<256/\K (J.d (R.int .i64 (ah (v2+ah ((have y:=have y:=have y:=have y:=have y:=have y:=[8,8,8,8];8::8::8::8::y;have y:=8::8::8::8::y;8::8::8::8::y;have y:=have y:=8::8::8::8::y;8::8::8::8::y;have y:=8::8::8::8::y;8::8::8::8::y;have y:=have y:=have y:=8::8::8::8::y;8::8::8::8::y;have y:=8::8::8::8::y;8::8::8::8::y;have y:=have y:=8::8::8::8::y;8::8::8::8::y;have y:=8::8::8::8::y;8::8::8::8::y;have y:=have y:=have y:=have y:=8::8::8::8::y;8::8::8::8::y;have y:=8::8::8::8::y;8::8::8::8::y;have y:=have y:=8::8::8::8::y;8::8::8::8::y;have y:=8::8::8::8::y;8::8::8::8::y;have y:=have y:=have y:=8::8::8::8::y;8::8::8::8::y;have y:=8::8::8::8::y;8::8::8::8::y;have y:=have y:=8::8::8::8::y;8::8::8::8::y;have y:=8::8::8::8::y;8::8::8::8::y;have y:=have y:=have y:=have y:=have y:=7::7::7::7::y;7::7::7::7::y;have y:=7::7::7::7::y;7::7::7::7::y;have y:=have y:=7::7::7::7::y;7::7::7::7::y;have y:=7::7::7::7::y;7::7::7::7::y;have y:=have y:=have y:=7::7::7::7::y;7::7::7::7::y;have y:=7::7::7::7::y;7::7::7::7::y;have y:=have y:=7::7::7::7::y;7::7::7::7::y;have y:=7::7::7::7::y;7::7::7::7::y;have y:=have y:=have y:=have y:=6::6::6::6::y;6::6::6::6::y;have y:=6::6::6::6::y;6::6::6::6::y;have y:=have y:=6::6::6::6::y;6::6::6::6::y;have y:=6::6::6::6::y;6::6::6::6::y;have y:=have y:=have y:=5::5::5::5::y;5::5::5::5::y;have y:=5::5::5::5::y;5::5::5::5::y;have y:=have y:=4::4::4::4::y;4::4::4::4::y;have y:=3::3::3::3::y;0::1::2::2::y).getD (IntKind.u8.wrap v0).toNat 0))))))
def XT:Int->(J->Prop)->Prop:=
 fun x K=>(0<=x/\x<18446744073709551616)/\∀aV,aV=↑(c4 x.toNat)->K (J.d (R.int .i64 aV))
def Lz:Int->(J->Prop)->Prop:=
 fun x K=>((0:Int)<=aT x/\aT x<(18446744073709551616:Int))/\∀aV,aV=↑(c4 (aT x).toNat)->(0:Int)<=aV/\K (J.d (R.int .u64 (aT ((1:Int)*(2:Int)^min aV.toNat (64:Nat)))))
def Vm:Int->(af->J->Prop)->Prop:=
 fun x K=>K (af.cells [J.d (R.int .u64 (cL BinOp.xor .u64 (cL BinOp.xor .u64 (cL BinOp.xor .u64 x (IntKind.u64.wrap (x*8192))) ((cL BinOp.xor .u64 x (IntKind.u64.wrap (x*8192))).fdiv 128)) (IntKind.u64.wrap (cL BinOp.xor .u64 (cL BinOp.xor .u64 x (IntKind.u64.wrap (x*8192))) ((cL BinOp.xor .u64 x (IntKind.u64.wrap (x*8192))).fdiv 128)*131072))))]) (J.d (R.int .u64 (cL BinOp.xor .u64 (cL BinOp.xor .u64 (cL BinOp.xor .u64 x (IntKind.u64.wrap (x*8192))) ((cL BinOp.xor .u64 x (IntKind.u64.wrap (x*8192))).fdiv 128)) (IntKind.u64.wrap (cL BinOp.xor .u64 (cL BinOp.xor .u64 x (IntKind.u64.wrap (x*8192))) ((cL BinOp.xor .u64 x (IntKind.u64.wrap (x*8192))).fdiv 128)*131072)))))
def K2:ab.Rows->Int->Int->Int->(af->J->Prop)->Prop:=
 fun l a b s K=>0<=b/\b<(aO l)/\(List.aG l b).length=11/\0<=a/\a<(aO l)/\(List.aG l a).length=11/\(eP (List.aG l b)/\eP (List.aG l a))/\∀x,x=gH (List.aG l b) (List.aG l a)->(decide (x<0)=true->K (af.cells [J.d (R.int .i64 (ah (s+1)))]) (J.tup [J.d (R.int .i64 b),J.d (R.int .i64 a)]))/\(decide (x<0)=false->K (af.cells [J.d (R.int .i64 s)]) (J.tup [J.d (R.int .i64 a),J.d (R.int .i64 b)]))
def K3:ab.Rows->Int->Int->Int->Int->(af->J->Prop)->Prop:=
 fun(l:ab.Rows) (a b e s:Int) (K:af->J->Prop)=>(ab.c7 l/\(0:Int)<=a/\a<aO l/\(0:Int)<=b/\b<aO l/\(0:Int)<=s/\s<(1000:Int))/\∀(x:Int),x=(Nat.cast:Nat->Int) («Sort».order2 ab.bk {toList:=l} (Int.toNat a) (Int.toNat b) (Int.toNat s)).2.2->∀(aV:Int),aV=(Nat.cast:Nat->Int) («Sort».order2 ab.bk {toList:=l} (Int.toNat a) (Int.toNat b) (Int.toNat s)).1->∀(aS:Int),aS=(Nat.cast:Nat->Int) («Sort».order2 ab.bk {toList:=l} (Int.toNat a) (Int.toNat b) (Int.toNat s)).2.1->(ab.c7 l/\(0:Int)<=aS/\aS<aO l/\(0:Int)<=e/\e<aO l/\(0:Int)<=x/\x<(1000:Int))/\∀(bo:Int),bo=(Nat.cast:Nat->Int) («Sort».order2 ab.bk {toList:=l} (Int.toNat aS) (Int.toNat e) (Int.toNat x)).2.2->∀(cp:Int),cp=(Nat.cast:Nat->Int) («Sort».order2 ab.bk {toList:=l} (Int.toNat aS) (Int.toNat e) (Int.toNat x)).1->∀(c8:Int),c8=(Nat.cast:Nat->Int) («Sort».order2 ab.bk {toList:=l} (Int.toNat aS) (Int.toNat e) (Int.toNat x)).2.1->(ab.c7 l/\(0:Int)<=aV/\aV<aO l/\(0:Int)<=cp/\cp<aO l/\(0:Int)<=bo/\bo<(1000:Int))/\∀(x:Int),x=(Nat.cast:Nat->Int) («Sort».order2 ab.bk {toList:=l} (Int.toNat aV) (Int.toNat cp) (Int.toNat bo)).2.2->∀(c5:Int),c5=(Nat.cast:Nat->Int) («Sort».order2 ab.bk {toList:=l} (Int.toNat aV) (Int.toNat cp) (Int.toNat bo)).1->∀(dm:Int),dm=(Nat.cast:Nat->Int) («Sort».order2 ab.bk {toList:=l} (Int.toNat aV) (Int.toNat cp) (Int.toNat bo)).2.1->K (af.cells [J.d (R.int IntKind.i64 x)]) (J.d (R.int IntKind.i64 dm))
def KD:ab.Rows->Int->Int->(af->J->Prop)->Prop:=
 fun l a s K=>(c7 l/\(0<=ah (a-1)/\ah (a-1)<(aO l))/\(0<=a/\a<(aO l))/\(0<=ah (a+1)/\ah (a+1)<(aO l))/\0<=s/\s<900)/\∀x,x=↑(«Sort».median bk {toList:=l} (ah (a-1)).toNat a.toNat (ah (a+1)).toNat s.toNat).snd->∀aV,aV=↑(«Sort».median bk {toList:=l} (ah (a-1)).toNat a.toNat (ah (a+1)).toNat s.toNat).fst->K (af.cells [J.d (R.int .i64 x)]) (J.d (R.int .i64 aV))
def KM:ab.Rows->Int->Int->(J->Prop)->Prop:=
 fun l a b K=>∃(bm:Int->Int->Prop),((decide ((8:Int)<=ah (b-a))=true->∃(pn:Int->Int->Int->Int->Prop),((decide ((50:Int)<=ah (b-a))=true->(c7 l/\(0:Int)<ah (a+ah (ah ((ah (b-a)).tdiv (4:Int))*(1:Int)))/\ah (a+ah (ah ((ah (b-a)).tdiv (4:Int))*(1:Int)))+(1:Int)<(aO l)/\List.length l<(1000000000000000:Nat)/\(0:Int)<=(0:Int)/\(0:Int)<(900:Int))/\∀x,x=↑(«Sort».medianAdjacent bk {toList:=l} (ah (a+ah (ah ((ah (b-a)).tdiv (4:Int))*(1:Int)))).toNat (0:Nat)).snd->∀aV,aV=↑(«Sort».medianAdjacent bk {toList:=l} (ah (a+ah (ah ((ah (b-a)).tdiv (4:Int))*(1:Int)))).toNat (0:Nat)).fst->(c7 l/\(0:Int)<ah (a+ah (ah ((ah (b-a)).tdiv (4:Int))*(2:Int)))/\ah (a+ah (ah ((ah (b-a)).tdiv (4:Int))*(2:Int)))+(1:Int)<(aO l)/\List.length l<(1000000000000000:Nat)/\(0:Int)<=x/\x<(900:Int))/\∀aS,aS=↑(«Sort».medianAdjacent bk {toList:=l} (ah (a+ah (ah ((ah (b-a)).tdiv (4:Int))*(2:Int)))).toNat x.toNat).snd->∀bo,bo=↑(«Sort».medianAdjacent bk {toList:=l} (ah (a+ah (ah ((ah (b-a)).tdiv (4:Int))*(2:Int)))).toNat x.toNat).fst->(c7 l/\(0:Int)<ah (a+ah (ah ((ah (b-a)).tdiv (4:Int))*(3:Int)))/\ah (a+ah (ah ((ah (b-a)).tdiv (4:Int))*(3:Int)))+(1:Int)<(aO l)/\List.length l<(1000000000000000:Nat)/\(0:Int)<=aS/\aS<(900:Int))/\∀x,x=↑(«Sort».medianAdjacent bk {toList:=l} (ah (a+ah (ah ((ah (b-a)).tdiv (4:Int))*(3:Int)))).toNat aS.toNat).snd->∀cp,cp=↑(«Sort».medianAdjacent bk {toList:=l} (ah (a+ah (ah ((ah (b-a)).tdiv (4:Int))*(3:Int)))).toNat aS.toNat).fst->pn aV bo cp x)/\(decide ((50:Int)<=ah (b-a))=false->pn (ah (a+ah (ah ((ah (b-a)).tdiv (4:Int))*(1:Int)))) (ah (a+ah (ah ((ah (b-a)).tdiv (4:Int))*(2:Int)))) (ah (a+ah (ah ((ah (b-a)).tdiv (4:Int))*(3:Int)))) (0:Int)))/\∀(v12 b4 cV s:Int),pn v12 b4 cV s->(c7 l/\((0:Int)<=v12/\v12<(aO l))/\((0:Int)<=b4/\b4<(aO l))/\((0:Int)<=cV/\cV<(aO l))/\(0:Int)<=s/\s<(900:Int))/\∀x,x=↑(«Sort».median bk {toList:=l} v12.toNat b4.toNat cV.toNat s.toNat).snd->∀aV,aV=↑(«Sort».median bk {toList:=l} v12.toNat b4.toNat cV.toNat s.toNat).fst->bm aV x)/\(decide ((8:Int)<=ah (b-a))=false->bm (ah (a+ah (ah ((ah (b-a)).tdiv (4:Int))*(2:Int)))) (0:Int)))/\∀(b4 s:Int),bm b4 s->(decide (s=(0:Int))=true->K (J.tup [J.d (R.int .i64 b4),J.d (R.int .i64 (1:Int))]))/\(decide (s=(0:Int))=false->(decide (s=(12:Int))=true->K (J.tup [J.d (R.int .i64 b4),J.d (R.int .i64 (2:Int))]))/\(decide (s=(12:Int))=false->K (J.tup [J.d (R.int .i64 b4),J.d (R.int .i64 (0:Int))])))
def KF:ab.Rows->Int->Int->(af->J->Prop)->Prop:=
 fun l a b K=>(decide ((8:Int)<=ah (b-a))=true->((0:Int)<=ah (b-a)/\ah (b-a)<(4611686018427387904:Int))/\∀x,x=↑((2:Nat)^c4 (ah (b-a)).toNat)->∃(aK:Int->List (List R)->Int->Prop),∃(m:Int->List (List R)->Int->Nat),aK (ah (ah (a+ah (ah ((ah (b-a)).tdiv (4:Int))*(2:Int)))-(1:Int))) l (aT (ah (b-a)))/\∀(v11:Int) (aq:List (List R)) (r:Int),aK v11 aq r->(decide (v11<=ah (ah (a+ah (ah ((ah (b-a)).tdiv (4:Int))*(2:Int)))+(1:Int)))=true->((0:Int)<=r/\r<(18446744073709551616:Int))/\∀(i:Int),(0:Int)<=i/\i<(18446744073709551616:Int)->∃(bm:Int->List (List R)->Prop),((decide (ah (b-a)<=ah (cL BinOp.and .u64 i (aT (x-(1:Int)))))=true->(false,af.cells [J.d (R.int .u64 i)])=(false,af.cells [J.d (R.int .u64 i)])/\bm (ah (ah (cL BinOp.and .u64 i (aT (x-(1:Int))))-ah (b-a))) aq)/\(decide (ah (b-a)<=ah (cL BinOp.and .u64 i (aT (x-(1:Int)))))=false->(false,af.cells [J.d (R.int .u64 i)])=(false,af.cells [J.d (R.int .u64 i)])/\bm (ah (cL BinOp.and .u64 i (aT (x-(1:Int))))) aq))/\∀(v12:Int) (bJ:List (List R)),bm v12 bJ->(0:Int)<=ah (a+v12)/\ah (a+v12)<↑bJ.length/\(bJ.getD (ah (a+v12)).toNat []).length=(11:Nat)/\(0:Int)<=v11/\v11<↑bJ.length/\(bJ.aG v11).length=(11:Nat)/\(0:Int)<=v11/\v11<↑bJ.length/\(0:Int)<=ah (a+v12)/\ah (a+v12)<↑(bJ.set v11.toNat (bJ.getD (ah (a+v12)).toNat [])).length/\aK (ah (v11+(1:Int))) ((bJ.set v11.toNat (bJ.getD (ah (a+v12)).toNat [])).set (ah (a+v12)).toNat (bJ.aG v11)) i/\m (ah (v11+(1:Int))) ((bJ.set v11.toNat (bJ.getD (ah (a+v12)).toNat [])).set (ah (a+v12)).toNat (bJ.aG v11)) i<m v11 aq r)/\(decide (v11<=ah (ah (a+ah (ah ((ah (b-a)).tdiv (4:Int))*(2:Int)))+(1:Int)))=false->K (af.ar (11:Nat) aq) (J.tup [])))/\(decide ((8:Int)<=ah (b-a))=false->K (af.ar (11:Nat) l) (J.tup []))
def KZ:Nat->ab.Rows->Int->Int->Int->(af->J->Prop)->Prop:=
 fun n l a b m K=>∃(aK:Int->Int->Int->Bool->Bool->List (List R)->Prop),∃(fh:Int->Int->Int->Bool->Bool->List (List R)->Nat),aK a b m true true l/\∀(v1 v2 v3:Int) (v10 v11:Bool) (aq:List (List R)),aK v1 v2 v3 v10 v11 aq->(decide (ah (v2-v1)<=(12:Int))=true->fP aq v1 v2/\∀x,x=(«Sort».insertionSort bk {toList:=aq} v1.toNat v2.toNat).toList->K (af.ar (11:Nat) x) (J.tup []))/\(decide (ah (v2-v1)<=(12:Int))=false->(decide (v3=(0:Int))=true->(0:Nat)<aq.length/\(fP aq v1 v2/\v1<v2)/\∀x,x=(«Sort».heapSort bk {toList:=aq} v1.toNat v2.toNat).toList->K (af.ar (11:Nat) x) (J.tup []))/\(decide (v3=(0:Int))=false->∃(bm:Int->List (List R)->Prop),(((!v10)=true->(0:Nat)<aq.length/\fP aq v1 v2/\∀(i:List (List R)),D4 aq v1 v2 i->bm (ah (v3-(1:Int))) i)/\((!v10)=false->bm v3 aq))/\∀(jX:Int) (bJ:List (List R)),bm jX bJ->(fP bJ v1 v2/\v1<v2)/\∀x,x=↑(«Sort».choosePivot bk {toList:=bJ} v1.toNat v2.toNat).fst->∀aV,aV= «Sort».hintCode («Sort».choosePivot bk {toList:=bJ} v1.toNat v2.toNat).snd->∃(bm:Int->Int->List (List R)->Prop),((decide (aV=(2:Int))=true->(0:Nat)<bJ.length/\fP bJ v1 v2/\∀aS,aS=(«Sort».reverseRange {toList:=bJ} v1.toNat v2.toNat).toList->bm (ah (ah (v2-(1:Int))-ah (x-v1))) (1:Int) aS)/\(decide (aV=(2:Int))=false->bm x aV bJ))/\∀(b4 cV:Int) (d_:List (List R)),bm b4 cV d_->∃(bm:List (List R)->Prop),((v10=true->(v11=true->(decide (cV=(1:Int))=true->(0:Nat)<d_.length/\(fP d_ v1 v2/\v1<v2)/\∀x,x=(«Sort».partialInsertionSort bk {toList:=d_} v1.toNat v2.toNat).fst.toList->∀aS,aS=(«Sort».partialInsertionSort bk {toList:=d_} v1.toNat v2.toNat).snd->(aS=true->K (af.ar (11:Nat) x) (J.tup []))/\(aS=false->bm x))/\(decide (cV=(1:Int))=false->bm d_))/\(v11=false->bm d_))/\(v10=false->bm d_))/\∀(eQ:List (List R)),bm eQ->(decide ((0:Int)<v1)=true->(0:Int)<=ah (v1-(1:Int))/\ah (v1-(1:Int))<↑eQ.length/\(eQ.getD (ah (v1-(1:Int))).toNat []).length=(11:Nat)/\(0:Int)<=b4/\b4<↑eQ.length/\(eQ.aG b4).length=(11:Nat)/\(eP (eQ.getD (ah (v1-(1:Int))).toNat [])/\eP (eQ.aG b4))/\∀x,x=gH (eQ.getD (ah (v1-(1:Int))).toNat []) (eQ.aG b4)->((!decide (x<(0:Int)))=true->(0:Nat)<eQ.length/\(fP eQ v1 v2/\v1<=b4/\b4<v2)/\∀x,x=(«Sort».partitionEqual bk {toList:=eQ} v1.toNat v2.toNat b4.toNat).snd.toList->∀aS,aS=↑(«Sort».partitionEqual bk {toList:=eQ} v1.toNat v2.toNat b4.toNat).fst->aK aS v2 jX v10 v11 x/\fh aS v2 jX v10 v11 x<fh v1 v2 v3 v10 v11 aq)/\((!decide (x<(0:Int)))=false->(0:Nat)<eQ.length/\(fP eQ v1 v2/\v1<=b4/\b4<v2)/\∀x,x=(«Sort».partition bk {toList:=eQ} v1.toNat v2.toNat b4.toNat).snd.snd.toList->∀aS,aS=↑(«Sort».partition bk {toList:=eQ} v1.toNat v2.toNat b4.toNat).fst->∀bo,bo=(«Sort».partition bk {toList:=eQ} v1.toNat v2.toNat b4.toNat).snd.fst->(decide (ah (aS-v1)<ah (v2-aS))=true->(fP x v1 aS/\aS-v1<↑n/\((0:Int)<=jX/\jX<=(64:Int))/\ «Sort».Below bk v1.toNat aS.toNat {toList:=x})/\∀(i:List (List R)),lD x v1 aS i->aK (ah (aS+(1:Int))) v2 jX (decide (ah ((ah (v2-v1)).tdiv (8:Int))<=ah (aS-v1))) bo i/\fh (ah (aS+(1:Int))) v2 jX (decide (ah ((ah (v2-v1)).tdiv (8:Int))<=ah (aS-v1))) bo i<fh v1 v2 v3 v10 v11 aq)/\(decide (ah (aS-v1)<ah (v2-aS))=false->(fP x (ah (aS+(1:Int))) v2/\v2-ah (aS+(1:Int))<↑n/\((0:Int)<=jX/\jX<=(64:Int))/\ «Sort».Below bk (ah (aS+(1:Int))).toNat v2.toNat {toList:=x})/\∀(i:List (List R)),lD x (ah (aS+(1:Int))) v2 i->aK v1 aS jX (decide (ah ((ah (v2-v1)).tdiv (8:Int))<=ah (v2-aS))) bo i/\fh v1 aS jX (decide (ah ((ah (v2-v1)).tdiv (8:Int))<=ah (v2-aS))) bo i<fh v1 v2 v3 v10 v11 aq)))/\(decide ((0:Int)<v1)=false->(0:Nat)<eQ.length/\(fP eQ v1 v2/\v1<=b4/\b4<v2)/\∀x,x=(«Sort».partition bk {toList:=eQ} v1.toNat v2.toNat b4.toNat).snd.snd.toList->∀aS,aS=↑(«Sort».partition bk {toList:=eQ} v1.toNat v2.toNat b4.toNat).fst->∀bo,bo=(«Sort».partition bk {toList:=eQ} v1.toNat v2.toNat b4.toNat).snd.fst->(decide (ah (aS-v1)<ah (v2-aS))=true->(fP x v1 aS/\aS-v1<↑n/\((0:Int)<=jX/\jX<=(64:Int))/\ «Sort».Below bk v1.toNat aS.toNat {toList:=x})/\∀(i:List (List R)),lD x v1 aS i->aK (ah (aS+(1:Int))) v2 jX (decide (ah ((ah (v2-v1)).tdiv (8:Int))<=ah (aS-v1))) bo i/\fh (ah (aS+(1:Int))) v2 jX (decide (ah ((ah (v2-v1)).tdiv (8:Int))<=ah (aS-v1))) bo i<fh v1 v2 v3 v10 v11 aq)/\(decide (ah (aS-v1)<ah (v2-aS))=false->(fP x (ah (aS+(1:Int))) v2/\v2-ah (aS+(1:Int))<↑n/\((0:Int)<=jX/\jX<=(64:Int))/\ «Sort».Below bk (ah (aS+(1:Int))).toNat v2.toNat {toList:=x})/\∀(i:List (List R)),lD x (ah (aS+(1:Int))) v2 i->aK v1 aS jX (decide (ah ((ah (v2-v1)).tdiv (8:Int))<=ah (v2-aS))) bo i/\fh v1 aS jX (decide (ah ((ah (v2-v1)).tdiv (8:Int))<=ah (v2-aS))) bo i<fh v1 v2 v3 v10 v11 aq))))
def KP:ab.Rows->(af->J->Prop)->Prop:=
 fun(l:ab.Rows) (K:af->J->Prop)=>((0:Int)<=aT (aO l)/\aT (aO l)<(18446744073709551616:Int))/\∀(x:Int),x=(Nat.cast:Nat->Int) (ab.c4 (Int.toNat (aT (aO l))))->(ab.fP l (0:Int) (aO l)/\((0:Int)<=x/\x<=(64:Int))/\ «Sort».Below ab.bk (0:Nat) (Int.toNat (aO l)) {toList:=l})/\∀(i:List (List R)),ab.lD l (0:Int) (aO l) i->K (af.ar (11:Nat) i) (J.tup [])
end ab
end
section
open Go Go.al
namespace ab
def KG:ab.Rows->Int->Int->(af->J->Prop)->Prop:=
 fun l a b K=>∃(aK:Int->List (List R)->Prop),∃(m:Int->List (List R)->Nat),aK (ah (a+1)) l/\∀(bn:Int) (aq:List (List R)),aK bn aq->(decide (bn<b)=true->∃(fk:Int->List (List R)->Prop),∃(fh:Int->List (List R)->Nat),fk bn aq/\∀(v9:Int) (bJ:List (List R)),fk v9 bJ->(decide (a<v9)=true->0<=v9/\v9<↑bJ.length/\(bJ.aG v9).length=11/\0<=ah (v9-1)/\ah (v9-1)<↑bJ.length/\(bJ.getD (ah (v9-1)).toNat []).length=11/\(eP (bJ.aG v9)/\eP (bJ.getD (ah (v9-1)).toNat []))/\∀x,x=gH (bJ.aG v9) (bJ.getD (ah (v9-1)).toNat [])->(decide (x<0)=true->0<=ah (v9-1)/\ah (v9-1)<↑bJ.length/\(bJ.getD (ah (v9-1)).toNat []).length=11/\0<=v9/\v9<↑bJ.length/\(bJ.aG v9).length=11/\0<=v9/\v9<↑bJ.length/\0<=ah (v9-1)/\ah (v9-1)<↑(bJ.set v9.toNat (bJ.getD (ah (v9-1)).toNat [])).length/\fk (ah (v9-1)) ((bJ.set v9.toNat (bJ.getD (ah (v9-1)).toNat [])).set (ah (v9-1)).toNat (bJ.aG v9))/\fh (ah (v9-1)) ((bJ.set v9.toNat (bJ.getD (ah (v9-1)).toNat [])).set (ah (v9-1)).toNat (bJ.aG v9))<fh v9 bJ)/\(decide (x<0)=false->aK (ah (bn+1)) bJ/\m (ah (bn+1)) bJ<m bn aq))/\(decide (a<v9)=false->aK (ah (bn+1)) bJ/\m (ah (bn+1)) bJ<m bn aq))/\(decide (bn<b)=false->K (af.ar 11 aq) (J.tup []))
def KV:ab.Rows->Int->Int->Int->(af->J->Prop)->Prop:=
 fun l lo hi f K=>∃(aK:Int->List (List R)->Prop),∃(m:Int->List (List R)->Nat),aK lo l/\∀(v10:Int) (aq:List (List R)),aK v10 aq->(decide (hi<=ah (ah (2*v10)+1))=true->K (af.ar 11 aq) (J.tup []))/\(decide (hi<=ah (ah (2*v10)+1))=false->∃(bm:Int->List (List R)->Prop),((decide (ah (ah (ah (2*v10)+1)+1)<hi)=true->0<=ah (f+ah (ah (2*v10)+1))/\ah (f+ah (ah (2*v10)+1))<↑aq.length/\(aq.getD (ah (f+ah (ah (2*v10)+1))).toNat []).length=11/\0<=ah (ah (f+ah (ah (2*v10)+1))+1)/\ah (ah (f+ah (ah (2*v10)+1))+1)<↑aq.length/\(aq.getD (ah (ah (f+ah (ah (2*v10)+1))+1)).toNat []).length=11/\(eP (aq.getD (ah (f+ah (ah (2*v10)+1))).toNat [])/\eP (aq.getD (ah (ah (f+ah (ah (2*v10)+1))+1)).toNat []))/\∀x,x=gH (aq.getD (ah (f+ah (ah (2*v10)+1))).toNat []) (aq.getD (ah (ah (f+ah (ah (2*v10)+1))+1)).toNat [])->(decide (x<0)=true->bm (ah (ah (ah (2*v10)+1)+1)) aq)/\(decide (x<0)=false->bm (ah (ah (2*v10)+1)) aq))/\(decide (ah (ah (ah (2*v10)+1)+1)<hi)=false->bm (ah (ah (2*v10)+1)) aq))/\∀(v11:Int) (bJ:List (List R)),bm v11 bJ->0<=ah (f+v10)/\ah (f+v10)<↑bJ.length/\(bJ.getD (ah (f+v10)).toNat []).length=11/\0<=ah (f+v11)/\ah (f+v11)<↑bJ.length/\(bJ.getD (ah (f+v11)).toNat []).length=11/\(eP (bJ.getD (ah (f+v10)).toNat [])/\eP (bJ.getD (ah (f+v11)).toNat []))/\∀x,x=gH (bJ.getD (ah (f+v10)).toNat []) (bJ.getD (ah (f+v11)).toNat [])->((!decide (x<0))=true->K (af.ar 11 bJ) (J.tup []))/\((!decide (x<0))=false->0<=ah (f+v11)/\ah (f+v11)<↑bJ.length/\(bJ.getD (ah (f+v11)).toNat []).length=11/\0<=ah (f+v10)/\ah (f+v10)<↑bJ.length/\(bJ.getD (ah (f+v10)).toNat []).length=11/\0<=ah (f+v10)/\ah (f+v10)<↑bJ.length/\0<=ah (f+v11)/\ah (f+v11)<↑(bJ.set (ah (f+v10)).toNat (bJ.getD (ah (f+v11)).toNat [])).length/\aK v11 ((bJ.set (ah (f+v10)).toNat (bJ.getD (ah (f+v11)).toNat [])).set (ah (f+v11)).toNat (bJ.getD (ah (f+v10)).toNat []))/\m v11 ((bJ.set (ah (f+v10)).toNat (bJ.getD (ah (f+v11)).toNat [])).set (ah (f+v11)).toNat (bJ.getD (ah (f+v10)).toNat []))<m v10 aq))
def KW:ab.Rows->Int->Int->(af->J->Prop)->Prop:=
 fun l a b K=>∃(bm:List (List R)->Prop),(∃(aK:Int->List (List R)->Prop),∃(m:Int->List (List R)->Nat),aK (ah ((ah (ah (b-a)-(1:Int))).tdiv (2:Int))) l/\∀(v11:Int) (aq:List (List R)),aK v11 aq->(decide ((0:Int)<=v11)=true->(0:Nat)<aq.length/\(c7 aq/\(0:Int)<=v11/\v11<=↑aq.length/\(0:Int)<=ah (b-a)/\(0:Int)<=a/\a+ah (b-a)<=↑aq.length/\aq.length<(1000000000000000:Nat))/\aK (ah (v11-(1:Int))) («Sort».siftDown bk (ah (b-a)).toNat a.toNat v11.toNat {toList:=aq}).toList/\m (ah (v11-(1:Int))) («Sort».siftDown bk (ah (b-a)).toNat a.toNat v11.toNat {toList:=aq}).toList<m v11 aq)/\(decide ((0:Int)<=v11)=false->bm aq))/\∀(aq:List (List R)),bm aq->∃(aK:Int->List (List R)->Prop),∃(m:Int->List (List R)->Nat),aK (ah (ah (b-a)-(1:Int))) aq/\∀(v12:Int) (aq:List (List R)),aK v12 aq->(decide ((0:Int)<=v12)=true->(0:Int)<=ah (a+v12)/\ah (a+v12)<↑aq.length/\(aq.getD (ah (a+v12)).toNat []).length=(11:Nat)/\(0:Int)<=a/\a<↑aq.length/\(aq.aG a).length=(11:Nat)/\(0:Int)<=a/\a<↑aq.length/\(0:Int)<=ah (a+v12)/\ah (a+v12)<↑(aq.set a.toNat (aq.getD (ah (a+v12)).toNat [])).length/\(0:Nat)<((aq.set a.toNat (aq.getD (ah (a+v12)).toNat [])).set (ah (a+v12)).toNat (aq.aG a)).length/\(c7 ((aq.set a.toNat (aq.getD (ah (a+v12)).toNat [])).set (ah (a+v12)).toNat (aq.aG a))/\(0:Int)<=(0:Int)/\(0:Int)<=↑((aq.set a.toNat (aq.getD (ah (a+v12)).toNat [])).set (ah (a+v12)).toNat (aq.aG a)).length/\(0:Int)<=v12/\(0:Int)<=a/\a+v12<=↑((aq.set a.toNat (aq.getD (ah (a+v12)).toNat [])).set (ah (a+v12)).toNat (aq.aG a)).length/\((aq.set a.toNat (aq.getD (ah (a+v12)).toNat [])).set (ah (a+v12)).toNat (aq.aG a)).length<(1000000000000000:Nat))/\aK (ah (v12-(1:Int))) («Sort».siftDown bk v12.toNat a.toNat (0:Nat) {toList:=(aq.set a.toNat (aq.getD (ah (a+v12)).toNat [])).set (ah (a+v12)).toNat (aq.aG a)}).toList/\m (ah (v12-(1:Int))) («Sort».siftDown bk v12.toNat a.toNat (0:Nat) {toList:=(aq.set a.toNat (aq.getD (ah (a+v12)).toNat [])).set (ah (a+v12)).toNat (aq.aG a)}).toList<m v12 aq)/\(decide ((0:Int)<=v12)=false->K (af.ar (11:Nat) aq) (J.tup []))
def KT:ab.Rows->Int->Int->Int->(af->J->Prop)->Prop:=
 fun l a b p K=>0<=p/\p<(aO l)/\(List.aG l p).length=11/\0<=a/\a<(aO l)/\(List.aG l a).length=11/\0<=a/\a<(aO l)/\0<=p/\p<↑(List.set l a.toNat (List.aG l p)).length/\∃(bm:Int->List (List R)->Prop),(∃(aK:Int->List (List R)->Prop),∃(m:Int->List (List R)->Nat),aK (ah (a+1)) ((List.set l a.toNat (List.aG l p)).set p.toNat (List.aG l a))/\∀(v12:Int) (aq:List (List R)),aK v12 aq->(decide (v12<=ah (b-1))=true->0<=v12/\v12<↑aq.length/\(aq.aG v12).length=11/\0<=a/\a<↑aq.length/\(aq.aG a).length=11/\(eP (aq.aG v12)/\eP (aq.aG a))/\∀x,x=gH (aq.aG v12) (aq.aG a)->(decide (x<0)=true->aK (ah (v12+1)) aq/\m (ah (v12+1)) aq<m v12 aq)/\(decide (x<0)=false->bm v12 aq))/\(decide (v12<=ah (b-1))=false->bm v12 aq))/\∀(v12:Int) (aq:List (List R)),bm v12 aq->∃(bm:Int->List (List R)->Prop),(∃(aK:Int->List (List R)->Prop),∃(m:Int->List (List R)->Nat),aK (ah (b-1)) aq/\∀(b4:Int) (aq:List (List R)),aK b4 aq->(decide (v12<=b4)=true->0<=b4/\b4<↑aq.length/\(aq.aG b4).length=11/\0<=a/\a<↑aq.length/\(aq.aG a).length=11/\(eP (aq.aG b4)/\eP (aq.aG a))/\∀x,x=gH (aq.aG b4) (aq.aG a)->((!decide (x<0))=true->aK (ah (b4-1)) aq/\m (ah (b4-1)) aq<m b4 aq)/\((!decide (x<0))=false->bm b4 aq))/\(decide (v12<=b4)=false->bm b4 aq))/\∀(b4:Int) (aq:List (List R)),bm b4 aq->(decide (b4<v12)=true->0<=a/\a<↑aq.length/\(aq.aG a).length=11/\0<=b4/\b4<↑aq.length/\(aq.aG b4).length=11/\0<=b4/\b4<↑aq.length/\0<=a/\a<↑(aq.set b4.toNat (aq.aG a)).length/\K (af.ar 11 ((aq.set b4.toNat (aq.aG a)).set a.toNat (aq.aG b4))) (J.tup [J.d (R.int .i64 b4),J.d (R.bool true)]))/\(decide (b4<v12)=false->0<=b4/\b4<↑aq.length/\(aq.aG b4).length=11/\0<=v12/\v12<↑aq.length/\(aq.aG v12).length=11/\0<=v12/\v12<↑aq.length/\0<=b4/\b4<↑(aq.set v12.toNat (aq.aG b4)).length/\∃(bm:Int->List (List R)->Prop),(∃(aK:Int->Int->List (List R)->Prop),∃(m:Int->Int->List (List R)->Nat),aK (ah (v12+1)) (ah (b4-1)) ((aq.set v12.toNat (aq.aG b4)).set b4.toNat (aq.aG v12))/\∀(v12 b4:Int) (aq:List (List R)),aK v12 b4 aq->∃(pn:Int->List (List R)->Prop),(∃(aK:Int->List (List R)->Prop),∃(m:Int->List (List R)->Nat),aK v12 aq/\∀(v12:Int) (aq:List (List R)),aK v12 aq->(decide (v12<=b4)=true->0<=v12/\v12<↑aq.length/\(aq.aG v12).length=11/\0<=a/\a<↑aq.length/\(aq.aG a).length=11/\(eP (aq.aG v12)/\eP (aq.aG a))/\∀x,x=gH (aq.aG v12) (aq.aG a)->(decide (x<0)=true->aK (ah (v12+1)) aq/\m (ah (v12+1)) aq<m v12 aq)/\(decide (x<0)=false->pn v12 aq))/\(decide (v12<=b4)=false->pn v12 aq))/\∀(gB:Int) (bJ:List (List R)),pn gB bJ->∃(vh:Int->List (List R)->Prop),(∃(aK:Int->List (List R)->Prop),∃(m:Int->List (List R)->Nat),aK b4 bJ/\∀(b4:Int) (aq:List (List R)),aK b4 aq->(decide (gB<=b4)=true->0<=b4/\b4<↑aq.length/\(aq.aG b4).length=11/\0<=a/\a<↑aq.length/\(aq.aG a).length=11/\(eP (aq.aG b4)/\eP (aq.aG a))/\∀x,x=gH (aq.aG b4) (aq.aG a)->((!decide (x<0))=true->aK (ah (b4-1)) aq/\m (ah (b4-1)) aq<m b4 aq)/\((!decide (x<0))=false->vh b4 aq))/\(decide (gB<=b4)=false->vh b4 aq))/\∀(lE:Int) (d_:List (List R)),vh lE d_->(decide (lE<gB)=true->bm lE d_)/\(decide (lE<gB)=false->0<=lE/\lE<↑d_.length/\(d_.aG lE).length=11/\0<=gB/\gB<↑d_.length/\(d_.aG gB).length=11/\0<=gB/\gB<↑d_.length/\0<=lE/\lE<↑(d_.set gB.toNat (d_.aG lE)).length/\aK (ah (gB+1)) (ah (lE-1)) ((d_.set gB.toNat (d_.aG lE)).set lE.toNat (d_.aG gB))/\m (ah (gB+1)) (ah (lE-1)) ((d_.set gB.toNat (d_.aG lE)).set lE.toNat (d_.aG gB))<m v12 b4 aq))/\∀(b4:Int) (aq:List (List R)),bm b4 aq->0<=a/\a<↑aq.length/\(aq.aG a).length=11/\0<=b4/\b4<↑aq.length/\(aq.aG b4).length=11/\0<=b4/\b4<↑aq.length/\0<=a/\a<↑(aq.set b4.toNat (aq.aG a)).length/\K (af.ar 11 ((aq.set b4.toNat (aq.aG a)).set a.toNat (aq.aG b4))) (J.tup [J.d (R.int .i64 b4),J.d (R.bool false)]))
def KE:ab.Rows->Int->Int->Int->(af->J->Prop)->Prop:=
 fun l a b p K=>0<=p/\p<(aO l)/\(List.aG l p).length=11/\0<=a/\a<(aO l)/\(List.aG l a).length=11/\0<=a/\a<(aO l)/\0<=p/\p<↑(List.set l a.toNat (List.aG l p)).length/\∃(bm:Int->List (List R)->Prop),(∃(aK:Int->Int->List (List R)->Prop),∃(m:Int->Int->List (List R)->Nat),aK (ah (a+1)) (ah (b-1)) ((List.set l a.toNat (List.aG l p)).set p.toNat (List.aG l a))/\∀(v11 v12:Int) (aq:List (List R)),aK v11 v12 aq->∃(pn:Int->List (List R)->Prop),(∃(aK:Int->List (List R)->Prop),∃(m:Int->List (List R)->Nat),aK v11 aq/\∀(v11:Int) (aq:List (List R)),aK v11 aq->(decide (v11<=v12)=true->0<=a/\a<↑aq.length/\(aq.aG a).length=11/\0<=v11/\v11<↑aq.length/\(aq.aG v11).length=11/\(eP (aq.aG a)/\eP (aq.aG v11))/\∀x,x=gH (aq.aG a) (aq.aG v11)->((!decide (x<0))=true->aK (ah (v11+1)) aq/\m (ah (v11+1)) aq<m v11 aq)/\((!decide (x<0))=false->pn v11 aq))/\(decide (v11<=v12)=false->pn v11 aq))/\∀(iW:Int) (bJ:List (List R)),pn iW bJ->∃(vh:Int->List (List R)->Prop),(∃(aK:Int->List (List R)->Prop),∃(m:Int->List (List R)->Nat),aK v12 bJ/\∀(v12:Int) (aq:List (List R)),aK v12 aq->(decide (iW<=v12)=true->0<=a/\a<↑aq.length/\(aq.aG a).length=11/\0<=v12/\v12<↑aq.length/\(aq.aG v12).length=11/\(eP (aq.aG a)/\eP (aq.aG v12))/\∀x,x=gH (aq.aG a) (aq.aG v12)->(decide (x<0)=true->aK (ah (v12-1)) aq/\m (ah (v12-1)) aq<m v12 aq)/\(decide (x<0)=false->vh v12 aq))/\(decide (iW<=v12)=false->vh v12 aq))/\∀(gB:Int) (d_:List (List R)),vh gB d_->(decide (gB<iW)=true->bm iW d_)/\(decide (gB<iW)=false->0<=gB/\gB<↑d_.length/\(d_.aG gB).length=11/\0<=iW/\iW<↑d_.length/\(d_.aG iW).length=11/\0<=iW/\iW<↑d_.length/\0<=gB/\gB<↑(d_.set iW.toNat (d_.aG gB)).length/\aK (ah (iW+1)) (ah (gB-1)) ((d_.set iW.toNat (d_.aG gB)).set gB.toNat (d_.aG iW))/\m (ah (iW+1)) (ah (gB-1)) ((d_.set iW.toNat (d_.aG gB)).set gB.toNat (d_.aG iW))<m v11 v12 aq))/\∀(v11:Int) (aq:List (List R)),bm v11 aq->K (af.ar 11 aq) (J.d (R.int .i64 v11))
def KB:ab.Rows->Int->Int->(af->J->Prop)->Prop:=
 fun l a b K=>∃(bm:List (List R)->Prop),(∃(aK:Int->Int->List (List R)->Prop),∃(m:Int->Int->List (List R)->Nat),aK (ah (a+1)) 0 l/\∀(v9 v10:Int) (aq:List (List R)),aK v9 v10 aq->(decide (v10<5)=true->∃(bm:Int->List (List R)->Prop),(∃(aK:Int->List (List R)->Prop),∃(m:Int->List (List R)->Nat),aK v9 aq/\∀(v9:Int) (aq:List (List R)),aK v9 aq->(decide (v9<b)=true->0<=v9/\v9<↑aq.length/\(aq.aG v9).length=11/\0<=ah (v9-1)/\ah (v9-1)<↑aq.length/\(aq.getD (ah (v9-1)).toNat []).length=11/\(eP (aq.aG v9)/\eP (aq.getD (ah (v9-1)).toNat []))/\∀x,x=gH (aq.aG v9) (aq.getD (ah (v9-1)).toNat [])->((!decide (x<0))=true->aK (ah (v9+1)) aq/\m (ah (v9+1)) aq<m v9 aq)/\((!decide (x<0))=false->bm v9 aq))/\(decide (v9<b)=false->bm v9 aq))/\∀(gj:Int) (bJ:List (List R)),bm gj bJ->(decide (gj=b)=true->K (af.ar 11 bJ) (J.d (R.bool true)))/\(decide (gj=b)=false->(decide (ah (b-a)<50)=true->K (af.ar 11 bJ) (J.d (R.bool false)))/\(decide (ah (b-a)<50)=false->0<=ah (gj-1)/\ah (gj-1)<↑bJ.length/\(bJ.getD (ah (gj-1)).toNat []).length=11/\0<=gj/\gj<↑bJ.length/\(bJ.aG gj).length=11/\0<=gj/\gj<↑bJ.length/\0<=ah (gj-1)/\ah (gj-1)<↑(bJ.set gj.toNat (bJ.getD (ah (gj-1)).toNat [])).length/\∃(bm:List (List R)->Prop),((decide (2<=ah (gj-a))=true->∃(aK:Int->List (List R)->Prop),∃(m:Int->List (List R)->Nat),aK (ah (gj-1)) ((bJ.set gj.toNat (bJ.getD (ah (gj-1)).toNat [])).set (ah (gj-1)).toNat (bJ.aG gj))/\∀(v11:Int) (aq:List (List R)),aK v11 aq->(decide (1<=v11)=true->0<=v11/\v11<↑aq.length/\(aq.aG v11).length=11/\0<=ah (v11-1)/\ah (v11-1)<↑aq.length/\(aq.getD (ah (v11-1)).toNat []).length=11/\(eP (aq.aG v11)/\eP (aq.getD (ah (v11-1)).toNat []))/\∀x,x=gH (aq.aG v11) (aq.getD (ah (v11-1)).toNat [])->((!decide (x<0))=true->bm aq)/\((!decide (x<0))=false->0<=ah (v11-1)/\ah (v11-1)<↑aq.length/\(aq.getD (ah (v11-1)).toNat []).length=11/\0<=v11/\v11<↑aq.length/\(aq.aG v11).length=11/\0<=v11/\v11<↑aq.length/\0<=ah (v11-1)/\ah (v11-1)<↑(aq.set v11.toNat (aq.getD (ah (v11-1)).toNat [])).length/\aK (ah (v11-1)) ((aq.set v11.toNat (aq.getD (ah (v11-1)).toNat [])).set (ah (v11-1)).toNat (aq.aG v11))/\m (ah (v11-1)) ((aq.set v11.toNat (aq.getD (ah (v11-1)).toNat [])).set (ah (v11-1)).toNat (aq.aG v11))<m v11 aq))/\(decide (1<=v11)=false->bm aq))/\(decide (2<=ah (gj-a))=false->bm ((bJ.set gj.toNat (bJ.getD (ah (gj-1)).toNat [])).set (ah (gj-1)).toNat (bJ.aG gj))))/\∀(d_:List (List R)),bm d_->(decide (2<=ah (b-gj))=true->∃(fk:Int->List (List R)->Prop),∃(fh:Int->List (List R)->Nat),fk (ah (gj+1)) d_/\∀(v12:Int) (eQ:List (List R)),fk v12 eQ->(decide (v12<b)=true->0<=v12/\v12<↑eQ.length/\(eQ.aG v12).length=11/\0<=ah (v12-1)/\ah (v12-1)<↑eQ.length/\(eQ.getD (ah (v12-1)).toNat []).length=11/\(eP (eQ.aG v12)/\eP (eQ.getD (ah (v12-1)).toNat []))/\∀x,x=gH (eQ.aG v12) (eQ.getD (ah (v12-1)).toNat [])->((!decide (x<0))=true->aK gj (ah (v10+1)) eQ/\m gj (ah (v10+1)) eQ<m v9 v10 aq)/\((!decide (x<0))=false->0<=ah (v12-1)/\ah (v12-1)<↑eQ.length/\(eQ.getD (ah (v12-1)).toNat []).length=11/\0<=v12/\v12<↑eQ.length/\(eQ.aG v12).length=11/\0<=v12/\v12<↑eQ.length/\0<=ah (v12-1)/\ah (v12-1)<↑(eQ.set v12.toNat (eQ.getD (ah (v12-1)).toNat [])).length/\fk (ah (v12+1)) ((eQ.set v12.toNat (eQ.getD (ah (v12-1)).toNat [])).set (ah (v12-1)).toNat (eQ.aG v12))/\fh (ah (v12+1)) ((eQ.set v12.toNat (eQ.getD (ah (v12-1)).toNat [])).set (ah (v12-1)).toNat (eQ.aG v12))<fh v12 eQ))/\(decide (v12<b)=false->aK gj (ah (v10+1)) eQ/\m gj (ah (v10+1)) eQ<m v9 v10 aq))/\(decide (2<=ah (b-gj))=false->aK gj (ah (v10+1)) d_/\m gj (ah (v10+1)) d_<m v9 v10 aq))))/\(decide (v10<5)=false->bm aq))/\∀(aq:List (List R)),bm aq->K (af.ar 11 aq) (J.d (R.bool false))
def KJ:ab.Rows->Int->Int->(af->J->Prop)->Prop:=
 fun l a b K=>∃(aK:Int->Int->List (List R)->Prop),∃(m:Int->Int->List (List R)->Nat),aK a (ah (b-1)) l/\∀(bn v9:Int) (aq:List (List R)),aK bn v9 aq->(decide (bn<v9)=true->0<=v9/\v9<↑aq.length/\(aq.aG v9).length=11/\0<=bn/\bn<↑aq.length/\(aq.aG bn).length=11/\0<=bn/\bn<↑aq.length/\0<=v9/\v9<↑(aq.set bn.toNat (aq.aG v9)).length/\aK (ah (bn+1)) (ah (v9-1)) ((aq.set bn.toNat (aq.aG v9)).set v9.toNat (aq.aG bn))/\m (ah (bn+1)) (ah (v9-1)) ((aq.set bn.toNat (aq.aG v9)).set v9.toNat (aq.aG bn))<m bn v9 aq)/\(decide (bn<v9)=false->K (af.ar 11 aq) (J.tup []))
end ab
end
section
open Go Go.al
theorem ab.aah {args:List J}{K:J->Prop}(aX:ab.Dc.T args K):∃x y,args=[.d (.int .u32 x), .d (.int .u32 y)]:=by unfold ab.Dc.T bg at aX;grind [Go.al.aq4]
theorem ab.aai {args:List J}{K:J->Prop}(aX:ab.Dd.T args K):∃x y c,args=[.d (.int .u32 x), .d (.int .u32 y), .d (.int .u32 c)]:=by unfold ab.Dd.T bg at aX;grind [Go.al.aq4]
theorem ab.aaj {args:List J}{K:J->Prop}(aX:ab.De.T args K):∃x y c,args=[.d (.int .u32 x), .d (.int .u32 y), .d (.int .u32 c)]:=by unfold ab.De.T bg at aX;grind [Go.al.aq4]
theorem ab.aak {args:List J}{K:J->Prop}(aX:ab.Df.T args K):∃h l y,args=[.d (.int .u32 h), .d (.int .u32 l), .d (.int .u32 y)]:=by unfold ab.Df.T bg at aX;grind [Go.al.aq4]
theorem ab.abM {args:List J}{K:J->Prop}(aX:ab.DS.T args K):∃a,args=[.d (.ad .u32 a)]:=by unfold ab.DS.T bg at aX;grind [Go.al.aq4]
theorem ab.aal {args:List J}{K:J->Prop}(aX:ab.Dg.T args K):∃a,args=[.d (.ad .u32 a)]:=by unfold ab.Dg.T bg at aX;grind [Go.al.aq4]
theorem ab.abN {args:List J}{K:J->Prop}(aX:ab.DT.T args K):∃a,args=[.d (.ad .u32 a)]:=by unfold ab.DT.T bg at aX;grind [Go.al.aq4]
theorem ab.Xf {args:List J}{K:J->Prop}(aX:ab.BL.T args K):∃u,args=[.d (.int .u64 u)]:=by unfold ab.BL.T bg at aX;grind [Go.al.aq4]
theorem ab.YJ {args:List J}{K:J->Prop}(aX:ab.Cz.T args K):∃a,args=[.d (.ad .u32 a)]:=by unfold ab.Cz.T bg at aX;grind [Go.al.aq4]
theorem ab.adp {args:List J}{K:J->Prop}(aX:ab.EE.T args K):∃a b,args=[.d (.ad .u32 a), .d (.ad .u32 b)]:=by unfold ab.EE.T bg at aX;grind [Go.al.aq4]
theorem ab.adq {args:List J}{K:J->Prop}(aX:ab.iF.T args K):∃a b,args=[.d (.ad .u32 a), .d (.ad .u32 b)]:=by unfold ab.iF.T bg at aX;grind [Go.al.aq4]
theorem ab.adr {args:List J}{K:J->Prop}(aX:ab.EF.T args K):∃a b,args=[.d (.ad .u32 a), .d (.ad .u32 b)]:=by unfold ab.EF.T bg at aX;grind [Go.al.aq4]
theorem ab.ads {args:List J}{K:J->Prop}(aX:ab.EG.T args K):∃a b,args=[.d (.ad .u32 a), .d (.ad .u32 b)]:=by unfold ab.EG.T bg at aX;grind [Go.al.aq4]
theorem ab.aam {args:List J}{K:J->Prop}(aX:ab.Dh.T args K):∃a d,args=[.d (.ad .u32 a), .d (.int .u32 d)]:=by unfold ab.Dh.T bg at aX;grind [Go.al.aq4]
theorem ab.YK {args:List J}{K:J->Prop}(aX:ab.CA.T args K):∃a b,args=[.d (.ad .u32 a), .d (.ad .u32 b)]:=by unfold ab.CA.T bg at aX;grind [Go.al.aq4]
theorem ab.XU {a0:J}{cb:af}{args:List J}{K:af->J->Prop}(aX:ab.B1.T a0 cb args K):∃l,a0= .vec 0/\cb= .ad .u8 l/\args=[]:=by unfold ab.B1.T fm at aX;grind [Go.al.aq4]
theorem ab.YL {args:List J}{K:J->Prop}(aX:ab.CB.T args K):∃a,args=[.d (.ad .u32 a)]:=by unfold ab.CB.T bg at aX;grind [Go.al.aq4]
theorem ab.aan {args:List J}{K:J->Prop}(aX:ab.Di.T args K):∃x,args=[.d (.int .u32 x)]:=by unfold ab.Di.T bg at aX;grind [Go.al.aq4]
theorem ab.XV {args:List J}{K:J->Prop}(aX:ab.B2.T args K):∃x,args=[.d (.int .u32 x)]:=by unfold ab.B2.T bg at aX;grind [Go.al.aq4]
theorem ab.aao {args:List J}{K:af->Prop}(aX:ab.Dj.T args K):∃a k,args=[.d (.ad .u32 a), .d (.int .u64 k)]:=by unfold ab.Dj.T mW at aX;grind [Go.al.aq4]
theorem ab.abO {args:List J}{K:J->Prop}(aX:ab.DV.T args K):∃a b,args=[.d (.ad .u32 a), .d (.ad .u32 b)]:=by unfold ab.DV.T bg at aX;grind [Go.al.aq4]
theorem ab.adt {args:List J}{K:J->Prop}(aX:ab.EH.T args K):∃a b,args=[.d (.ad .u32 a), .d (.ad .u32 b)]:=by unfold ab.EH.T bg at aX;grind [Go.al.aq4]
theorem ab.XW {args:List J}{K:af->Prop}(aX:ab.B3.T args K):∃a,args=[.d (.ad .u32 a)]:=by unfold ab.B3.T mW at aX;grind [Go.al.aq4]
theorem ab.YM {args:List J}{K:J->Prop}(aX:ab.CC.T args K):∃a b,args=[.d (.ad .u32 a), .d (.ad .u32 b)]:=by unfold ab.CC.T bg at aX;grind [Go.al.aq4]
theorem ab.YN {args:List J}{K:J->Prop}(aX:ab.CD.T args K):∃a b,args=[.d (.ad .u32 a), .d (.ad .u32 b)]:=by unfold ab.CD.T bg at aX;grind [Go.al.aq4]
theorem ab.YO {args:List J}{K:J->Prop}(aX:ab.CE.T args K):∃a b,args=[.d (.ad .u32 a), .d (.ad .u32 b)]:=by unfold ab.CE.T bg at aX;grind [Go.al.aq4]
theorem ab.YP {args:List J}{K:J->Prop}(aX:ab.CF.T args K):∃a b,args=[.d (.ad .u32 a), .d (.ad .u32 b)]:=by unfold ab.CF.T bg at aX;grind [Go.al.aq4]
theorem ab.Xg {args:List J}{K:J->Prop}(aX:ab.BM.T args K):∃a d,args=[.d (.ad .u32 a), .d (.int .u32 d)]:=by unfold ab.BM.T bg at aX;grind [Go.al.aq4]
theorem ab.WB {args:List J}{K:J->Prop}(aX:ab.By.T args K):∃a b,args=[.d (.ad .u32 a), .d (.ad .u32 b)]:=by unfold ab.By.T bg at aX;grind [Go.al.aq4]
theorem ab.YQ {args:List J}{K:J->Prop}(aX:ab.CG.T args K):∃a b,args=[.d (.ad .u32 a), .d (.ad .u32 b)]:=by unfold ab.CG.T bg at aX;grind [Go.al.aq4]
theorem ab.Wh {args:List J}{K:J->Prop}(aX:ab.Bs.T args K):∃n,args=[.d (.int .i64 n)]:=by unfold ab.Bs.T bg at aX;grind [Go.al.aq4]
theorem ab.Xh {args:List J}{K:af->Prop}(aX:ab.BN.T args K):∃a k,args=[.d (.ad .u32 a), .d (.int .i64 k)]:=by unfold ab.BN.T mW at aX;grind [Go.al.aq4]
theorem ab.Wi {args:List J}{K:J->Prop}(aX:ab.Bt.T args K):∃a k,args=[.d (.ad .u32 a), .d (.int .i64 k)]:=by unfold ab.Bt.T bg at aX;grind [Go.al.aq4]
theorem ab.Xi {a0:J}{cb:af}{args:List J}{K:af->J->Prop}(aX:ab.BO.T a0 cb args K):∃u v j,a0= .vec 0/\cb= .ad .u32 u/\args=[.d (.ad .u32 v), .d (.int .i64 j)]:=by unfold ab.BO.T fm at aX;grind [Go.al.aq4]
theorem ab.abP {args:List J}{K:J->Prop}(aX:ab.DU.T args K):∃a b,args=[.d (.ad .u32 a), .d (.ad .u32 b)]:=by unfold ab.DU.T bg at aX;grind [Go.al.aq4]
end
section
open Go Go.al
namespace ab
def Pu:List Int->(J->Prop)->Prop:=
 fun a K=>∃(aK:List Int->Prop),∃(m:List Int->Nat),aK a/\∀(v0:List Int),aK v0->(decide ((0:Int)<↑v0.length)=true->0<=ah (↑v0.length-1)/\ah (↑v0.length-1)<↑v0.length/\(decide (v0.getD (ah (↑v0.length-1)).toNat 0=0)=true->0<=ah (↑v0.length-1)/\ah (↑v0.length-1)<=↑v0.length/\aK (List.take (ah (↑v0.length-1)).toNat v0)/\m (List.take (ah (↑v0.length-1)).toNat v0)<m v0)/\(decide (v0.getD (ah (↑v0.length-1)).toNat 0=0)=false->K (J.d (R.ad .u32 v0))))/\(decide ((0:Int)<↑v0.length)=false->K (J.d (R.ad .u32 v0)))
def Ml:Int->Int->(J->Prop)->Prop:=
 fun x y K=>K (J.tup [J.d (R.int .u32 (bX ((aT (aT x*aT y)).fdiv 4294967296))),J.d (R.int .u32 (bX (aT (aT x*aT y))))])
def Mm:Int->Int->Int->(J->Prop)->Prop:=
 fun x y c K=>K (J.tup [J.d (R.int .u32 (bX (aT (aT (aT x+aT y)+aT c)))),J.d (R.int .u32 (bX ((aT (aT (aT x+aT y)+aT c)).fdiv 4294967296)))])
def Mn:Int->Int->Int->(J->Prop)->Prop:=
 fun x y c K=>K (J.tup [J.d (R.int .u32 (bX (bX (x-y)-c))),J.d (R.int .u32 ((cL BinOp.or .u32 (cL BinOp.and .u32 (cL BinOp.xor .u32 4294967295 x) y) (cL BinOp.and .u32 (cL BinOp.xor .u32 4294967295 (cL BinOp.xor .u32 x y)) (bX (bX (x-y)-c)))).fdiv 2147483648))])
def WC:Int->Int->Int->(J->Prop)->Prop:=
 fun h l y K=>∃(bm:Prop),(((!decide (y=0))=true->(decide (y<=h)=true->False)/\(decide (y<=h)=false->bm))/\((!decide (y=0))=false->bm))/\(bm->¬IntKind.u64.wrap y=0/\¬IntKind.u64.wrap y=0
 /\K (J.tup [J.d (R.int .u32 (IntKind.u32.wrap (IntKind.u64.wrap ((cL BinOp.or .u64 (IntKind.u64.wrap (IntKind.u64.wrap h*4294967296)) (IntKind.u64.wrap l)).tdiv (IntKind.u64.wrap y))))),J.d (R.int .u32 (IntKind.u32.wrap ((cL BinOp.or .u64 (IntKind.u64.wrap (IntKind.u64.wrap h*4294967296)) (IntKind.u64.wrap l)).tmod (IntKind.u64.wrap y))))]))
def M9:List Int->(J->Prop)->Prop:=
 fun a K=>∀b,(b=true->a=[])->(b=true->K (J.d (R.ad .u32 [])))/\(b=false->((0:Int)+↑a.length)*(4:Int)<=(70368744177664:Int)/\K (J.d (R.ad .u32 ([]++a))))
def Pv:List Int->(J->Prop)->Prop:=
 fun a K=>(bK a/\a.length<=1000000000)/\(aQ (val a)).length<=100000000/\K (J.d (R.ad .u32 (aQ (val a))))
def MO:Int->(J->Prop)->Prop:=
 fun u K=>(bK [bX u,bX (u.fdiv 4294967296)]/\[bX u,bX (u.fdiv 4294967296)].length<=1000000000)/\K (J.d (R.ad .u32 (aQ (val [bX u,bX (u.fdiv 4294967296)]))))
def NI:List Int->(J->Prop)->Prop:=
 fun a K=>∃(aK:Int->Int->Prop),∃(m:Int->Int->Nat),aK 0 0/\∀(v3 bn:Int),aK v3 bn->(decide (bn<↑a.length)=true->0<=bn/\bn<↑a.length/\0<=ah (32*bn)/\aK (cL BinOp.or .u64 v3 (aT (aT (a.getD bn.toNat 0)*2^min (ah (32*bn)).toNat 64))) (ah (bn+1))/\m (cL BinOp.or .u64 v3 (aT (aT (a.getD bn.toNat 0)*2^min (ah (32*bn)).toNat 64))) (ah (bn+1))<m v3 bn)/\(decide (bn<↑a.length)=false->K (J.d (R.int .u64 v3)))
def Qu:List Int->List Int->(J->Prop)->Prop:=
 fun(a b:List Int) (K:J->Prop)=>(ab.bK a/\List.length a<=(1000000000:Nat))/\(ab.bK b/\List.length b<=(1000000000:Nat))/\((!decide (aO (ab.aQ (ab.val a))=aO (ab.aQ (ab.val b))))=true->(decide (aO (ab.aQ (ab.val a))<aO (ab.aQ (ab.val b)))=true->K (J.d (R.int IntKind.i64 (-1:Int))))/\(decide (aO (ab.aQ (ab.val a))<aO (ab.aQ (ab.val b)))=false->K (J.d (R.int IntKind.i64 (1:Int)))))/\((!decide (aO (ab.aQ (ab.val a))=aO (ab.aQ (ab.val b))))=false->∃(aK:Int->Prop),∃(m:Int->Nat),aK (ah (aO (ab.aQ (ab.val a))-(1:Int)))/\∀(v5:Int),aK v5->(decide ((0:Int)<=v5)=true->(0:Int)<=v5/\v5<aO (ab.aQ (ab.val a))/\(0:Int)<=v5/\v5<aO (ab.aQ (ab.val b))/\(decide (List.getD (ab.aQ (ab.val a)) (Int.toNat v5) (0:Int)<List.getD (ab.aQ (ab.val b)) (Int.toNat v5) (0:Int))=true->K (J.d (R.int IntKind.i64 (-1:Int))))/\(decide (List.getD (ab.aQ (ab.val a)) (Int.toNat v5) (0:Int)<List.getD (ab.aQ (ab.val b)) (Int.toNat v5) (0:Int))=false->(0:Int)<=v5/\v5<aO (ab.aQ (ab.val a))/\(0:Int)<=v5/\v5<aO (ab.aQ (ab.val b))/\(decide (List.getD (ab.aQ (ab.val b)) (Int.toNat v5) (0:Int)<List.getD (ab.aQ (ab.val a)) (Int.toNat v5) (0:Int))=true->K (J.d (R.int IntKind.i64 (1:Int))))/\(decide (List.getD (ab.aQ (ab.val b)) (Int.toNat v5) (0:Int)<List.getD (ab.aQ (ab.val a)) (Int.toNat v5) (0:Int))=false->aK (ah (v5-(1:Int)))/\m (ah (v5-(1:Int)))<m v5)))/\(decide ((0:Int)<=v5)=false->K (J.d (R.int IntKind.i64 (0:Int)))))
def Qv:List Int->List Int->(J->Prop)->Prop:=
 fun(a b:List Int) (K:J->Prop)=>∃(bm:List Int->List Int->Prop),((decide (aO a<aO b)=true->bm b a)/\(decide (aO a<aO b)=false->bm a b))/\∀(v0 v1:List Int),bm v0 v1->(0:Int)<=ah (aO v0+(1:Int))/\ah (aO v0+(1:Int))<=ah (aO v0+(1:Int))/\ah (aO v0+(1:Int))*(4:Int)<=(281474976710656:Int)/\∃(aK:Int->Int->List Int->Prop),∃(m:Int->Int->List Int->Nat),aK (0:Int) (0:Int) (List.replicate (Int.toNat (ah (aO v0+(1:Int)))) (0:Int))/\∀(v6 jc:Int) (aq:List Int),aK v6 jc aq->(decide (jc<aO v0)=true->(0:Int)<=jc/\jc<aO v0/\∃(bm:Int->Prop),((decide (jc<aO v1)=true->(0:Int)<=jc/\jc<aO v1/\(false,af.ad IntKind.u32 aq)=(false,af.ad IntKind.u32 aq)/\bm (List.getD v1 (Int.toNat jc) (0:Int)))/\(decide (jc<aO v1)=false->(false,af.ad IntKind.u32 aq)=(false,af.ad IntKind.u32 aq)/\bm (0:Int)))/\∀(v9:Int),bm v9->(ab.L (List.getD v0 (Int.toNat jc) (0:Int))/\ab.L v9/\(0:Int)<=v6/\v6<=(1:Int))/\(0:Int)<=jc/\jc<aO aq/\aK ((List.getD v0 (Int.toNat jc) (0:Int)+v9+v6)/(4294967296:Int)) (ah (jc+(1:Int))) (List.set aq (Int.toNat jc) ((List.getD v0 (Int.toNat jc) (0:Int)+v9+v6)%(4294967296:Int)))/\m ((List.getD v0 (Int.toNat jc) (0:Int)+v9+v6)/(4294967296:Int)) (ah (jc+(1:Int))) (List.set aq (Int.toNat jc) ((List.getD v0 (Int.toNat jc) (0:Int)+v9+v6)%(4294967296:Int)))<m v6 jc aq)/\(decide (jc<aO v0)=false->(0:Int)<=aO v0/\aO v0<aO aq/\(ab.bK (List.set aq (Int.toNat (aO v0)) v6)/\List.length (List.set aq (Int.toNat (aO v0)) v6)<=(1000000000:Nat))/\K (J.d (R.ad IntKind.u32 (ab.aQ (ab.val (List.set aq (Int.toNat (aO v0)) v6))))))
def Qw:List Int->List Int->(J->Prop)->Prop:=
 fun a b K=>(bK a/\a.length<=(1000000000:Nat))/\(bK b/\b.length<=(1000000000:Nat))/\(0:Int)<=ah (↑(aQ (val a)).length+↑(aQ (val b)).length)/\ah (↑(aQ (val a)).length+↑(aQ (val b)).length)<=ah (↑(aQ (val a)).length+↑(aQ (val b)).length)/\ah (↑(aQ (val a)).length+↑(aQ (val b)).length)*(4:Int)<=(281474976710656:Int)/\∃(aK:Int->List Int->Prop),∃(m:Int->List Int->Nat),aK (0:Int) (List.replicate (ah (↑(aQ (val a)).length+↑(aQ (val b)).length)).toNat (0:Int))/\∀(fW:Int) (aq:List Int),aK fW aq->(decide (fW<↑(aQ (val a)).length)=true->(0:Int)<=fW/\fW<↑(aQ (val a)).length/\∃(fk:Int->Int->List Int->Prop),∃(fh:Int->Int->List Int->Nat),fk (0:Int) (0:Int) aq/\∀(bn gE:Int) (bJ:List Int),fk bn gE bJ->(decide (gE<↑(aQ (val b)).length)=true->(0:Int)<=gE/\gE<↑(aQ (val b)).length/\(L ((aQ (val a)).getD fW.toNat (0:Int))/\L ((aQ (val b)).getD gE.toNat (0:Int)))/\(0:Int)<=ah (fW+gE)/\ah (fW+gE)<↑bJ.length/\(L ((aQ (val a)).getD fW.toNat (0:Int)*(aQ (val b)).getD gE.toNat (0:Int)%(4294967296:Int))/\L (bJ.getD (ah (fW+gE)).toNat (0:Int))/\(0:Int)<=(0:Int)/\(0:Int)<=(1:Int))/\(L (((aQ (val a)).getD fW.toNat (0:Int)*(aQ (val b)).getD gE.toNat (0:Int)%(4294967296:Int)+bJ.getD (ah (fW+gE)).toNat (0:Int)+(0:Int))%(4294967296:Int))/\L bn/\(0:Int)<=(0:Int)/\(0:Int)<=(1:Int))/\(0:Int)<=ah (fW+gE)/\ah (fW+gE)<↑bJ.length/\fk (bX (bX ((aQ (val a)).getD fW.toNat (0:Int)*(aQ (val b)).getD gE.toNat (0:Int)/(4294967296:Int)+((aQ (val a)).getD fW.toNat (0:Int)*(aQ (val b)).getD gE.toNat (0:Int)%(4294967296:Int)+bJ.getD (ah (fW+gE)).toNat (0:Int)+(0:Int))/(4294967296:Int))+(((aQ (val a)).getD fW.toNat (0:Int)*(aQ (val b)).getD gE.toNat (0:Int)%(4294967296:Int)+bJ.getD (ah (fW+gE)).toNat (0:Int)+(0:Int))%(4294967296:Int)+bn+(0:Int))/(4294967296:Int))) (ah (gE+(1:Int))) (bJ.set (ah (fW+gE)).toNat ((((aQ (val a)).getD fW.toNat (0:Int)*(aQ (val b)).getD gE.toNat (0:Int)%(4294967296:Int)+bJ.getD (ah (fW+gE)).toNat (0:Int)+(0:Int))%(4294967296:Int)+bn+(0:Int))%(4294967296:Int)))/\fh (bX (bX ((aQ (val a)).getD fW.toNat (0:Int)*(aQ (val b)).getD gE.toNat (0:Int)/(4294967296:Int)+((aQ (val a)).getD fW.toNat (0:Int)*(aQ (val b)).getD gE.toNat (0:Int)%(4294967296:Int)+bJ.getD (ah (fW+gE)).toNat (0:Int)+(0:Int))/(4294967296:Int))+(((aQ (val a)).getD fW.toNat (0:Int)*(aQ (val b)).getD gE.toNat (0:Int)%(4294967296:Int)+bJ.getD (ah (fW+gE)).toNat (0:Int)+(0:Int))%(4294967296:Int)+bn+(0:Int))/(4294967296:Int))) (ah (gE+(1:Int))) (bJ.set (ah (fW+gE)).toNat ((((aQ (val a)).getD fW.toNat (0:Int)*(aQ (val b)).getD gE.toNat (0:Int)%(4294967296:Int)+bJ.getD (ah (fW+gE)).toNat (0:Int)+(0:Int))%(4294967296:Int)+bn+(0:Int))%(4294967296:Int)))<fh bn gE bJ)/\(decide (gE<↑(aQ (val b)).length)=false->(0:Int)<=ah (fW+↑(aQ (val b)).length)/\ah (fW+↑(aQ (val b)).length)<↑bJ.length/\aK (ah (fW+(1:Int))) (bJ.set (ah (fW+↑(aQ (val b)).length)).toNat bn)/\m (ah (fW+(1:Int))) (bJ.set (ah (fW+↑(aQ (val b)).length)).toNat bn)<m fW aq))/\(decide (fW<↑(aQ (val a)).length)=false->(bK aq/\aq.length<=(1000000000:Nat))/\K (J.d (R.ad .u32 (aQ (val aq)))))
def Qx:List Int->List Int->(J->Prop)->Prop:=
 fun(a b:List Int) (K:J->Prop)=>(ab.bC a/\ab.bC b)/\(decide (ab.cmp (ab.val a) (ab.val b)<(0:Int))=true->K (J.tup [J.d (R.ad IntKind.u32 []),J.d (R.int IntKind.i64 (1:Int))]))/\(decide (ab.cmp (ab.val a) (ab.val b)<(0:Int))=false->(ab.bK a/\List.length a<=(1000000000:Nat))/\(ab.bK b/\List.length b<=(1000000000:Nat))/\(0:Int)<=aO (ab.aQ (ab.val a))/\aO (ab.aQ (ab.val a))<=aO (ab.aQ (ab.val a))/\aO (ab.aQ (ab.val a))*(4:Int)<=(281474976710656:Int)/\∃(aK:Int->Int->List Int->Prop),∃(m:Int->Int->List Int->Nat),aK (0:Int) (0:Int) (List.replicate (Int.toNat (aO (ab.aQ (ab.val a)))) (0:Int))/\∀(cU v24:Int) (aq:List Int),aK cU v24 aq->(decide (v24<aO (ab.aQ (ab.val a)))=true->(0:Int)<=v24/\v24<aO (ab.aQ (ab.val a))/\∃(bm:Int->Prop),((decide (v24<aO (ab.aQ (ab.val b)))=true->(0:Int)<=v24/\v24<aO (ab.aQ (ab.val b))/\(false,af.ad IntKind.u32 aq)=(false,af.ad IntKind.u32 aq)/\bm (List.getD (ab.aQ (ab.val b)) (Int.toNat v24) (0:Int)))/\(decide (v24<aO (ab.aQ (ab.val b)))=false->(false,af.ad IntKind.u32 aq)=(false,af.ad IntKind.u32 aq)/\bm (0:Int)))/\∀(v10:Int),bm v10->(ab.L (List.getD (ab.aQ (ab.val a)) (Int.toNat v24) (0:Int))/\ab.L v10/\(0:Int)<=cU/\cU<=(1:Int))/\(0:Int)<=v24/\v24<aO aq/\aK (if List.getD (ab.aQ (ab.val a)) (Int.toNat v24) (0:Int)-v10-cU<(0:Int)then(1:Int)else(0:Int)) (ah (v24+(1:Int))) (List.set aq (Int.toNat v24) ((List.getD (ab.aQ (ab.val a)) (Int.toNat v24) (0:Int)-v10-cU)%(4294967296:Int)))/\m (if List.getD (ab.aQ (ab.val a)) (Int.toNat v24) (0:Int)-v10-cU<(0:Int)then(1:Int)else(0:Int)) (ah (v24+(1:Int))) (List.set aq (Int.toNat v24) ((List.getD (ab.aQ (ab.val a)) (Int.toNat v24) (0:Int)-v10-cU)%(4294967296:Int)))<m cU v24 aq)/\(decide (v24<aO (ab.aQ (ab.val a)))=false->(ab.bK aq/\List.length aq<=(1000000000:Nat))/\K (J.tup [J.d (R.ad IntKind.u32 (ab.aQ (ab.val aq))),J.d (R.int IntKind.i64 (0:Int))])))
def Oy:List Int->Int->(J->Prop)->Prop:=
 fun(a:List Int) (d:Int) (K:J->Prop)=>(0:Int)<=aO a/\aO a<=aO a/\aO a*(4:Int)<=(281474976710656:Int)/\∃(aK:Int->Int->List Int->Prop),∃(m:Int->Int->List Int->Nat),aK (0:Int) (ah (aO a-(1:Int))) (List.replicate (Int.toNat (aO a)) (0:Int))/\∀(cU bn:Int) (aq:List Int),aK cU bn aq->(decide ((0:Int)<=bn)=true->(0:Int)<=bn/\bn<aO a/\(ab.L cU/\ab.L (List.getD a (Int.toNat bn) (0:Int))/\ab.L d/\cU<d)/\(0:Int)<=bn/\bn<aO aq/\aK ((cU*(4294967296:Int)+List.getD a (Int.toNat bn) (0:Int))%d) (ah (bn-(1:Int))) (List.set aq (Int.toNat bn) ((cU*(4294967296:Int)+List.getD a (Int.toNat bn) (0:Int))/d))/\m ((cU*(4294967296:Int)+List.getD a (Int.toNat bn) (0:Int))%d) (ah (bn-(1:Int))) (List.set aq (Int.toNat bn) ((cU*(4294967296:Int)+List.getD a (Int.toNat bn) (0:Int))/d))<m cU bn aq)/\(decide ((0:Int)<=bn)=false->(ab.bK aq/\List.length aq<=(1000000000:Nat))/\K (J.tup [J.d (R.ad IntKind.u32 (ab.aQ (ab.val aq))),J.d (R.int IntKind.u32 cU)]))
def M_:List Int->List Int->(J->Prop)->Prop:=
 fun(a b:List Int) (K:J->Prop)=>((!decide (aO a=aO b))=true->K (J.d (R.bool false)))/\((!decide (aO a=aO b))=false->∃(aK:Int->Prop),∃(m:Int->Nat),aK (0:Int)/\∀(v5:Int),aK v5->(decide (v5<aO a)=true->(0:Int)<=v5/\v5<aO a/\(0:Int)<=v5/\v5<aO b/\((!decide (List.getD a (Int.toNat v5) (0:Int)=List.getD b (Int.toNat v5) (0:Int)))=true->K (J.d (R.bool false)))/\((!decide (List.getD a (Int.toNat v5) (0:Int)=List.getD b (Int.toNat v5) (0:Int)))=false->aK (ah (v5+(1:Int)))/\m (ah (v5+(1:Int)))<m v5))/\(decide (v5<aO a)=false->K (J.d (R.bool true))))
end ab
end
section
open Go Go.al
namespace ab
theorem bR {x:Int}(h:-9223372036854775808<=x/\x<9223372036854775808):IntKind.wrap .i64 x=x:=by
 unfold IntKind.wrap;simp only[IntKind.signed,IntKind.bits,aqK,aoD,ge_iff_le];split<;>omega
theorem cP {x:Int}(h:0<=x/\x<18446744073709551616):IntKind.wrap .u64 x=x:=by
 unfold IntKind.wrap;simp[IntKind.signed,IntKind.bits];omega
theorem h1 {x:Int}(h:0<=x/\x<4294967296):IntKind.wrap .u32 x=x:=by
 unfold IntKind.wrap;simp[IntKind.signed,IntKind.bits];omega
theorem ke (x:Int):IntKind.wrap .u32 x=x%4294967296:=by
 unfold IntKind.wrap;simp[IntKind.signed,IntKind.bits]
theorem Ix (x:Int):IntKind.wrap .u64 x=x%18446744073709551616:=by
 unfold IntKind.wrap;simp[IntKind.signed,IntKind.bits]
end ab
namespace ab
theorem IZ (p q s:Nat)(a_:q<2^s)(h:p*2^s+q<18446744073709551616):cL .or .u64 ((p*2^s:Nat):Int) (q:Int)=((p*2^s+q:Nat):Int):=by
 have aA:((BitVec.ofInt 64 ((p*2^s:Nat):Int))|||(BitVec.ofInt 64 (q:Int))).toNat=p*2^s+q:=by
  rw[BitVec.toNat_or,BitVec.toNat_ofInt,BitVec.toNat_ofInt]
  have a1:(((p*2^s:Nat):Int)%((2^64:Nat):Int)).toNat=p*2^s:=by
   rw[aqX (by omega) (by omega)];exact aoB _
  have a2:((q:Int)%((2^64:Nat):Int)).toNat=q:=by
   rw[aqX (by omega) (by omega)];simp
  rw[a1,a2,<-Nat.shiftLeft_eq,<-Nat.shiftLeft_add_eq_or_of_lt a_]
 show IntKind.wrap .u64 _=_;have aL:((BitVec.ofInt (IntKind.u64).bits ((p*2^s:Nat):Int))|||(BitVec.ofInt (IntKind.u64).bits (q:Int))).toNat=p*2^s+q:=aA;rw[aL,cP (by omega)]
theorem zb {h l:Int}(b6:L h)(ax:L l):cL .or .u64 (h*4294967296) l=h*4294967296+l:=by
 unfold L at b6 ax;have tn:(2:Nat)^32=4294967296:=rfl;have:=IZ h.toNat l.toNat 32 (by rw[tn];omega) (by rw[tn];omega);rw[tn]at this;have aA:((h.toNat*4294967296:Nat):Int)=h*4294967296:=by omega
 have aL:((l.toNat:Nat):Int)=l:=by omega
 rw[aqT,aA,aL]at this;exact this
theorem Xj (x y:Int)(K:J->Prop)(h:Dc.T [.d (.int .u32 x), .d (.int .u32 y)] K):Ml x y K:=by
 obtain⟨⟨ai,bp⟩,ae⟩:=h;unfold L at ai bp;unfold Ml aT bX;have Ft:0<=x*y:=Int.mul_nonneg ai.1 bp.1;have anN:x*y<=4294967295*4294967295:=Int.mul_le_mul (by omega) (by omega) bp.1 (by omega);rw[cP (x:=x) (by omega),cP (x:=y) (by omega),cP (x:=x*y) (by omega),ke (x*y),apg _ (by omega),h1 (by omega)];exact ae
theorem Xk (x y c:Int)(K:J->Prop)(h:Dd.T [.d (.int .u32 x), .d (.int .u32 y), .d (.int .u32 c)] K):Mm x y c K:=by
 obtain⟨⟨ai,bp,U,aa⟩,ae⟩:=h;unfold L at ai bp;unfold Mm aT bX;rw[cP (x:=x) (by omega),cP (x:=y) (by omega),cP (x:=x+y) (by omega),cP (x:=c) (by omega),cP (x:=x+y+c) (by omega),ke (x+y+c),apg _ (by omega),h1 (by omega)];exact ae
theorem Xl (h l y:Int)(K:J->Prop)(b6:Df.T [.d (.int .u32 h), .d (.int .u32 l), .d (.int .u32 y)] K):WC h l y K:=by
 obtain⟨⟨b6,ax,bp,bG⟩,ae⟩:=b6;have gR:=zb b6 ax;unfold L at b6 ax bp;refine⟨True,⟨fun _=>⟨fun h=> ?_,fun _=>trivial⟩,fun _=>trivial⟩,fun _=> ?_⟩
 ·simp at h;omega
 have z6:IntKind.wrap .u64 y=y:=cP (by omega);have z7:0<=h*4294967296+l:=by omega
 have po:(h*4294967296+l)/y<4294967296:=Int.ediv_lt_of_lt_mul (by omega) (by
  have:(h+1)*4294967296<=y*4294967296:=Int.mul_le_mul_of_nonneg_right (by omega) (by omega)
  rw[Int.mul_comm 4294967296 y];omega)
 have th:0<=(h*4294967296+l)/y:=Int.ediv_nonneg z7 bp.1;have rD:0<=(h*4294967296+l)%y:=Int.emod_nonneg _ (by omega);have an0:(h*4294967296+l)%y<y:=Int.emod_lt_of_pos _ (by omega)
 rw[z6,cP (x:=h) (by omega),cP (x:=h*4294967296) (by omega),cP (x:=l) (by omega),gR,aqY z7,aqL z7,cP (x:=(h*4294967296+l)/y) (by omega),
  h1 (x:=(h*4294967296+l)/y) (by omega),h1 (x:=(h*4294967296+l)%y) (by omega)]
 exact⟨by omega,by omega,ae⟩
theorem YR (a:List Int)(K:J->Prop)(h:Dg.T [.d (.ad .u32 a)] K):M9 a K:=by
 obtain⟨ax,ae⟩:=h;unfold M9;intro b ag;refine⟨fun h=> ?_,fun _=>⟨by omega, ?_⟩⟩
 ·rw[ag h]at ae;exact ae
 ·exact ae
theorem adu (a:List Int)(K:J->Prop)(h:DS.T [.d (.ad .u32 a)] K):Pu a K:=by
 obtain⟨⟨ax,cq⟩,ae⟩:=h;unfold Pu ah;refine⟨fun v=>bK v/\val v=val a/\v.length<=a.length,fun v=>v.length,⟨ax,rfl,aoE _⟩,fun v ⟨aP,he,hle⟩=>⟨fun h=> ?_,fun h=> ?_⟩⟩
 ·simp only[aoD]at h;have e:IntKind.wrap .i64 ((Nat.cast:Nat->Int) v.length-1)=((v.length-1:Nat):Int):=by rw[bR (by omega)];omega
  rw[e,aoB];refine⟨by omega,by omega,fun bc=>⟨by omega,by omega,⟨aP.take _, ?_,by simp;omega⟩,by simp;omega⟩,fun bc=> ?_⟩
  ·simp only[aoD]at bc;rw[Xe bc,he]
  ·simp only[aoC]at bc;rw[<-yh aP (Bf (.inr bc)),he];exact ae
 ·simp only[aoC]at h;have:v=[]:=apl.1 (by omega);rw[<-yh aP (Bf (.inl this)),he];exact ae
theorem adv (a:List Int)(K:J->Prop)(h:DT.T [.d (.ad .u32 a)] K):Pv a K:=by
 obtain⟨⟨ax,av⟩,ae⟩:=h;unfold Pv;refine⟨⟨ax,by omega⟩, ?_,ae⟩;have:=hQ.2 (iD ax);omega
theorem Sx {x y:Int}(_:bK [x,y]):val [x,y]=x.toNat+4294967296*y.toNat:=by simp[val]
theorem XX (u:Int)(K:J->Prop)(h:BL.T [.d (.int .u64 u)] K):MO u K:=by
 obtain⟨hu,ae⟩:=h;unfold MO bX;rw[apg _ (by omega),ke u,h1 (x:=u/4294967296) (by omega)];have ax:bK [u%4294967296,u/4294967296]:= .mk (by omega) (.mk (by omega) .nil);refine⟨⟨ax,by simp⟩, ?_⟩;rw[Sx ax];have:(u%4294967296).toNat+4294967296*(u/4294967296).toNat=u.toNat:=by omega
 rw[this];exact ae
end ab
end
section
open Go Go.al
namespace ab
theorem bC.Tz {a:List Int}(h:bC a):bK a:=h.1
theorem ju {a:List Int}(h:bC a):(aQ (val a)).length<=a.length:=hQ.2 (iD h.1)
theorem aen (a b:List Int)(K:J->Prop)(h:iF.T [.d (.ad .u32 a), .d (.ad .u32 b)] K):Qv a b K:=by
 obtain⟨⟨aR,ag⟩,ae⟩:=h;unfold Qv ah aO;refine⟨fun x y=>bC x/\bC y/\val x+val y=val a+val b/\y.length<=x.length,⟨fun h=>⟨ag,aR,Nat.add_comm _ _, ?_⟩,fun h=>⟨aR,ag,rfl, ?_⟩⟩,fun x y ⟨ai,bp,aP,hle⟩=> ?_⟩
 ·simp only[aoD]at h;omega
 ·simp only[aoC]at h;omega
 have xl:=ai.2;have e:IntKind.wrap .i64 ((Nat.cast:Nat->Int) x.length+1)=((x.length+1:Nat):Int):=by rw[bR (by omega)];omega
 rw[e,aoB]
 refine⟨by omega,by omega,by omega,fun c i o=>bK o/\o.length=x.length+1/\0<=c/\c<=1/\0<=i/\i<=x.length/\dt o i.toNat+4294967296^i.toNat*c.toNat=dt x i.toNat+dt y i.toNat/\∀j,i.toNat<=j->o.getD j 0=0,
  fun c i o=>x.length-i.toNat,⟨bK.nm _,by simp,by omega,by omega,by omega,by omega,by simp[iC],fun j _=>by simp[aoA,ap1];split<;>rfl⟩, ?_⟩
 rintro c i o ⟨aF,gf,xy,j0,rT,kp,lI,bq⟩;refine⟨fun h=> ?_,fun h=> ?_⟩
 ·simp only[aoD]at h
  obtain⟨n,rfl⟩:∃n:Nat,i=n:=⟨i.toNat,by omega⟩
  simp only[aoB]at lI bq⊢;refine⟨by omega,by omega,fun e=>e=y.getD n 0,⟨fun aa=>⟨by omega,by simpa using aa,trivial,rfl⟩,fun aa=>⟨trivial, ?_⟩⟩, ?_⟩
  ·simp only[aoC]at aa;simp[aoA,ape (show y.length<=n by omega)]
  ·rintro e rfl;have nD:=ai.1 n;have z6:=bp.1 n;refine⟨⟨nD,z6,xy,j0⟩,by omega,by omega, ?_⟩;have aL:IntKind.wrap .i64 ((n:Int)+1)=((n+1:Nat):Int):=by rw[bR (by omega)];omega
   rw[aL];refine⟨⟨aF.set _ (by omega),by simpa using gf,by omega,by omega,by omega,by omega, ?_,fun j aI=> ?_⟩, ?_⟩
   ·rw[aoB,gr,gr,gr,rf _ _ _ _ (aoE _),eu,aoy ⟨rfl,by omega⟩];have b3:((x.getD n 0+y.getD n 0+c)%4294967296).toNat+4294967296*((x.getD n 0+y.getD n 0+c)/4294967296).toNat=(x.getD n 0).toNat+(y.getD n 0).toNat+c.toNat:=by omega
    rw[ao2];generalize ((x.getD n 0+y.getD n 0+c)%4294967296).toNat=p at b3⊢;generalize ((x.getD n 0+y.getD n 0+c)/4294967296).toNat=q at b3⊢;generalize 4294967296^n=w at lI⊢;have cX:w*(p+4294967296*q)=w*((x.getD n 0).toNat+(y.getD n 0).toNat+c.toNat):=by rw[b3]
    simp only[aoO]at cX⊢;rw[apa];omega
   ·rw[eu,aox (by simp at aI;omega)];exact bq j (by simp at aI;omega)
   ·simp;omega
 ·simp only[aoC]at h;obtain rfl:i=x.length:=by omega
  simp only[aoB]at lI bq⊢;have ags:bK (o.set x.length c):=aF.set _ (by omega);refine⟨by omega,by omega,⟨ags,by simp[gf];omega⟩, ?_⟩
  have:val (o.set x.length c)=val a+val b:=by
   rw[<-ht (o.set x.length c) (i:=x.length+1) (by simp[gf]),gr,rf _ _ _ _ (aoE _),eu,aoy ⟨rfl,by omega⟩,lI,ht x (aoE _),ht y hle,aP]
  rw[this];exact ae
end ab
end
section
open Go Go.al
namespace ab
theorem YS (a b:List Int)(K:J->Prop)(h:DU.T [.d (.ad .u32 a), .d (.ad .u32 b)] K):M_ a b K:=by
 obtain⟨⟨aR,ag⟩,ae⟩:=h;unfold M_ ah aO;refine⟨fun h=> ?_,fun h=> ?_⟩
 ·have dg:a≠b:=fun e=>by subst e;simp at h
  rw[ap5 dg]at ae;exact ae
 ·have hlen:a.length=b.length:=by
   have:((Nat.cast:Nat->Int) a.length)=b.length:=by simpa using h
   omega
  refine⟨fun i=>0<=i/\i<=a.length/\∀j,j<i.toNat->a.getD j 0=b.getD j 0,fun i=>a.length-i.toNat,⟨by omega,by omega,fun j aI=>by simp at aI⟩,fun i ⟨bc,U,aI⟩=>⟨fun aa=> ?_,fun aa=> ?_⟩⟩
  ·simp only[aoD]at aa;refine⟨by omega,by omega,by omega,by omega,fun az=> ?_,fun az=> ?_⟩
   ·have dg:a≠b:=fun e=>by subst e;simp at az
    rw[ap5 dg]at ae;exact ae
   ·have az:a.getD i.toNat 0=b.getD i.toNat 0:=by simpa using az
    rw[bR (by omega)];refine⟨⟨by omega,by omega,fun j hB=> ?_⟩,by simp only;omega⟩
    by_cases e:j=i.toNat
    ·rw[e];exact az
    ·exact aI j (by omega)
  ·simp only[aoC]at aa
   have e:a=b:=by
    apply aqF hlen;intro j kq nA;have:=aI j (by omega);simpa[aoA,kq,nA]using this
   rw[ap_ e]at ae;exact ae
end ab
end
section
open Go Go.al
namespace ab
def ew (a:List Int)(i:Nat):Nat:=val (a.drop i)
theorem yY (a:List Int):ew a 0=val a:=by simp[ew]
theorem oZ (a:List Int){i:Nat}(h:a.length<=i):ew a i=0:=by simp[ew,List.drop_of_length_le h,val]
theorem n2 (a:List Int)(i:Nat):ew a i=(a.getD i 0).toNat+4294967296*ew a (i+1):=by
 unfold ew
 by_cases h:i<a.length
 ·rw[apU h,val];simp[aoA,h]
 ·rw[List.drop_of_length_le (by omega),List.drop_of_length_le (by omega)];simp[val,aoA,h]
theorem Il (a:List Int)(i j:Nat)(v:Int)(h:j<i):ew (a.set j v) i=ew a i:=by
 unfold ew;rw[List.drop_set_of_lt h]
theorem mn (a:List Int)(i:Nat):val a=dt a i+4294967296^i*ew a i:=by
 by_cases h:i<=a.length
 ·have:=NH (a.take i) (a.drop i);rw[List.take_append_drop,ao3,aqW h]at this;exact this
 ·rw[ht a (by omega),oZ a (by omega)];simp
theorem NJ {D bD x z w:Nat}(W:Nat)(jM:W=4294967296)(dH:bD<D)(ai:x<W)(hw:w=z*D+bD):
 (bD*W+x)/D<W/\(bD*W+x)%D<D/\x+W*w=((bD*W+x)/D+W*z)*D+(bD*W+x)%D:=by
 have oF:0<D:=by omega
 have U:(bD+1)*W<=D*W:=aoP _ (by omega);refine⟨aqm (by rw[aoT]at U;omega),aph _ oF, ?_⟩;have Fu:=aqe (bD*W+x) D;generalize (bD*W+x)/D=q at Fu⊢;generalize (bD*W+x)%D=m at Fu⊢;subst hw;have b3:(q+W*z)*D=D*q+W*(z*D):=by rw[aoT,ao9 q D,apa]
 rw[b3,aoO,ao9 W bD];generalize W*(z*D)=u;generalize bD*W=v at Fu⊢;generalize D*q=t at Fu⊢;omega
theorem abQ (a:List Int)(d:Int)(K:J->Prop)(h:Dh.T [.d (.ad .u32 a), .d (.int .u32 d)] K):Oy a d K:=by
 obtain⟨⟨aR,a8,th⟩,ae⟩:=h;have hb:=aR.2;unfold L at a8
 obtain⟨D,rfl⟩:∃D:Nat,d=D:=⟨d.toNat,by omega⟩
 simp only[aoB]at ae;unfold Oy ah aO;rw[aoB];refine⟨by omega,by omega,by omega,fun r i o=>bK o/\o.length=a.length/\0<=r/\r<D/\-1<=i/\i<a.length/\ew a (i+1).toNat=ew o (i+1).toNat*D+r.toNat,fun r i o=>(i+1).toNat,⟨bK.nm _,by simp,by omega,by omega, ?_⟩, ?_⟩
 ·rw[bR (by omega)];refine⟨by omega,by omega, ?_⟩;rw[oZ a (by omega),oZ _ (by simp)];simp
 rintro r i o ⟨aF,gf,zJ,fJ,rT,kp,aP⟩;refine⟨fun h=> ?_,fun h=> ?_⟩
 ·simp only[aoD]at h;have vg:=aR.1 i.toNat
  obtain⟨n,rfl⟩:∃n:Nat,i=n:=⟨i.toNat,by omega⟩
  simp only[aoB]at vg⊢;rw[bR (by omega)]
  obtain⟨bD,rfl⟩:∃bD:Nat,r=bD:=⟨r.toNat,by omega⟩
  obtain⟨x,ai⟩:∃x:Nat,a.getD n 0=x:=⟨(a.getD n 0).toNat,by omega⟩
  rw[ai]at vg⊢;have aA:((bD:Int)*4294967296+x)/D=(((bD*4294967296+x)/D:Nat):Int):=by rw[aqr,aqT,apK];rfl
  have aL:((bD:Int)*4294967296+x)%D=(((bD*4294967296+x)%D:Nat):Int):=by rw[aqM,aqT,apK];rfl
  rw[aA,aL];rw[show((n:Int)+1).toNat=n+1 by omega]at aP;have cN:=NJ (z:=ew o (n+1)) 4294967296 rfl (show bD<D by omega) (show x<4294967296 by omega) (by simpa using aP);obtain⟨a_,hm,he⟩:=cN
  have hy:ew (o.set n (((bD*4294967296+x)/D:Nat):Int)) n=(bD*4294967296+x)/D+4294967296*ew o (n+1):=by
   rw[n2 _ n,Il _ _ _ _ (by omega),eu,aoy ⟨rfl,by omega⟩,aoB]
  have nE:ew a n=x+4294967296*ew a (n+1):=by rw[n2 a n,ai,aoB]
  rw[<-nE,<-hy]at he;generalize (bD*4294967296+x)/D=q at a_ he hy⊢;generalize (bD*4294967296+x)%D=m at hm he⊢;refine⟨by omega,by omega,⟨⟨by omega,by omega⟩,⟨by omega,by omega⟩,⟨by omega,by omega⟩,by omega⟩,by omega,by omega,⟨aF.set _ ⟨by omega,by omega⟩,by simpa using gf,by omega,by omega,by omega,by omega, ?_⟩,by show(((n:Int)-1)+1).toNat<((n:Int)+1).toNat;omega⟩;rw[show((n:Int)-1+1).toNat=n by omega,aoB];exact he
 ·simp only[aoC]at h;obtain rfl:i=-1:=by omega
  simp only[show((-1:Int)+1).toNat=0 from rfl,yY]at aP;refine⟨⟨aF,by omega⟩, ?_⟩
  have U:val a/D=val o:=by
   rw[aP,ao9,Nat.mul_add_div (by omega),aqf (by omega)];omega
  have aa:((val a%D:Nat):Int)=r:=by
   rw[aP,ao9,aqC,apv (by omega)];omega
  rw[U,aa]at ae;exact ae
end ab
end
section
open Go Go.al
namespace ab
theorem abR {x y o c:Int}(ai:L x)(bp:L y)(aF:L o)(aC:L c):
 let dh:=(x*y%4294967296+o+0)%4294967296
 let U:=IntKind.wrap .u32 (x*y/4294967296+(x*y%4294967296+o+0)/4294967296)
 let l2:=(dh+c+0)%4294967296
 let aa:=IntKind.wrap .u32 (U+(dh+c+0)/4294967296)
 L (x*y%4294967296)/\L dh/\L l2/\L aa/\l2+4294967296*aa=x*y+o+c:=by
 unfold L at*;have bc:0<=x*y:=Int.mul_nonneg ai.1 bp.1;have U:x*y<=4294967295*4294967295:=Int.mul_le_mul (by omega) (by omega) bp.1 (by omega);generalize x*y=p at bc U⊢;intro dh tc l2 aa;have aA:tc=p/4294967296+(p%4294967296+o+0)/4294967296:=h1 (by omega)
 have aL:aa=p/4294967296+(p%4294967296+o+0)/4294967296+(dh+c+0)/4294967296:=by
  show IntKind.wrap .u32 (tc+(dh+c+0)/4294967296)=_;rw[aA];exact h1 (by omega)
 rw[aL];omega
theorem l_ (a:List Int)(j:Nat)(v:Int)(h:j<a.length):val (a.set j v)+4294967296^j*(a.getD j 0).toNat=val a+4294967296^j*v.toNat:=by
 rw[mn (a.set j v) (j+1),mn a (j+1),gr,gr,rf _ _ _ _ (aoE _),Il _ _ _ _ (by omega),eu,aoy ⟨rfl,h⟩];omega
theorem aeo (a b:List Int)(K:J->Prop)(h:EF.T [.d (.ad .u32 a), .d (.ad .u32 b)] K):Qw a b K:=by
 obtain⟨⟨aR,ag⟩,ae⟩:=h;have hb:=ju aR;have k2:=ju ag;have kW:=aR.2;have ep:=ag.2;unfold Qw ah bX;refine⟨⟨aR.1,by omega⟩,⟨ag.1,by omega⟩, ?_⟩;have dE:=gq (val a);have ey:=gq (val b);have nE:=ef (val a);have m8:=ef (val b);rw[<-nE,<-m8]at ae;generalize aQ (val a)=A at*;generalize aQ (val b)=B at*;have hG:IntKind.wrap .i64 ((Nat.cast:Nat->Int) A.length+(Nat.cast:Nat->Int) B.length)=((A.length+B.length:Nat):Int):=by rw[bR (by omega)];omega
 rw[hG,aoB]
 refine⟨by omega,by omega,by omega,fun i o=>bK o/\o.length=A.length+B.length/\0<=i/\i<=A.length/\val o=dt A i.toNat*val B/\∀j,i.toNat+B.length<=j->o.getD j 0=0,
  fun i o=>A.length-i.toNat,⟨bK.nm _,by simp,by omega,by omega,by simp[iC,yg],fun j _=>by simp[aoA,ap1];split<;>rfl⟩, ?_⟩
 rintro i o ⟨aF,gf,rT,kp,aP,bq⟩;refine⟨fun h=> ?_,fun h=> ?_⟩
 ·simp only[aoD]at h
  obtain⟨n,rfl⟩:∃n:Nat,i=n:=⟨i.toNat,by omega⟩
  simp only[aoB]at aP bq⊢;have av:n<A.length:=by omega
  refine⟨by omega,by omega,fun c k p=>bK p/\p.length=A.length+B.length/\L c/\0<=k/\k<=B.length/\val p+4294967296^(n+k.toNat)*c.toNat=val o+4294967296^n*((A.getD n 0).toNat*dt B k.toNat)/\
   ∀j,n+B.length<=j->p.getD j 0=0,fun c k p=>B.length-k.toNat,⟨aF,gf,by unfold L;omega,by omega,by omega,by simp[iC],bq⟩, ?_⟩
  rintro c k p ⟨aE,ir,aC,tp,iN,ay,JE⟩;refine⟨fun aa=> ?_,fun aa=> ?_⟩
  ·simp only[aoD]at aa
   obtain⟨q,rfl⟩:∃q:Nat,k=q:=⟨k.toNat,by omega⟩
   simp only[aoB]at ay⊢;have aA:IntKind.wrap .i64 ((n:Int)+(q:Int))=((n+q:Nat):Int):=by rw[bR (by omega)];omega
   have aL:IntKind.wrap .i64 ((q:Int)+1)=((q+1:Nat):Int):=by rw[bR (by omega)];omega
   rw[aA,aL];simp only[aoB];have ai:=dE n;have bp:=ey q;have hT:=aE (n+q);obtain⟨fT,fZ,hV,jG,jH⟩:=abR (x:=A.getD n 0) (y:=B.getD q 0) (o:=p.getD (n+q) 0) (c:=c) ai bp hT aC;refine⟨by omega,by omega,⟨ai,bp⟩,by omega,by omega,⟨fT,hT,by omega,by omega⟩,⟨fZ,aC,by omega,by omega⟩,by omega,by omega, ?_⟩;generalize ((A.getD n 0*B.getD q 0%4294967296+p.getD (n+q) 0+0)%4294967296+c+0)%4294967296=lo at hV jH⊢
   generalize IntKind.u32.wrap (IntKind.u32.wrap (A.getD n 0*B.getD q 0/4294967296+(A.getD n 0*B.getD q 0%4294967296+p.getD (n+q) 0+0)/4294967296)+
    ((A.getD n 0*B.getD q 0%4294967296+p.getD (n+q) 0+0)%4294967296+c+0)/4294967296)=hi at jG jH⊢
   refine⟨⟨aE.set _ hV,by simpa using ir,jG,by omega,by omega, ?_,fun j aI=> ?_⟩,by omega⟩
   ·have hy:=l_ p (n+q) lo (by omega);unfold L at aC hV jG
    have oH:lo.toNat+4294967296*hi.toNat=(A.getD n 0).toNat*(B.getD q 0).toNat+(p.getD (n+q) 0).toNat+c.toNat:=by
     obtain⟨x,hk⟩:∃x:Nat,A.getD n 0=x:=⟨(A.getD n 0).toNat,by omega⟩
     obtain⟨y,nF⟩:∃y:Nat,B.getD q 0=y:=⟨(B.getD q 0).toNat,by omega⟩
     rw[hk,nF,<-apK]at jH;rw[hk,nF,aoB,aoB];generalize x*y=z at jH⊢;omega
    have cX:=apb (4294967296^(n+q)*·) oH;simp only[aoO]at cX;have hn:4294967296^(n+(q+1))*hi.toNat=4294967296^(n+q)*(4294967296*hi.toNat):=by rw[<-apy,ao2,apa]
    have j6:4294967296^n*((A.getD n 0).toNat*dt B (q+1))=4294967296^n*((A.getD n 0).toNat*dt B q)+4294967296^(n+q)*((A.getD n 0).toNat*(B.getD q 0).toNat):=by
     rw[gr,aoO,aoO,api,apC (A.getD n 0).toNat,apa]
    rw[hn,j6];omega
   ·rw[eu,aox (by omega)];exact JE j aI
  ·simp only[aoC]at aa;obtain rfl:k=B.length:=by omega
   simp only[aoB]at ay;have vd:=aC;unfold L at vd;have aA:IntKind.wrap .i64 ((n:Int)+(Nat.cast:Nat->Int) B.length)=((n+B.length:Nat):Int):=by rw[bR (by omega)];omega
   have aL:IntKind.wrap .i64 ((n:Int)+1)=((n+1:Nat):Int):=by rw[bR (by omega)];omega
   rw[aA,aL];simp only[aoB];have hy:=l_ p (n+B.length) c (by omega);rw[JE _ (aoE _)]at hy;refine⟨by omega,by omega,⟨aE.set _ vd,by simpa using ir,by omega,by omega, ?_,fun j aI=> ?_⟩,by omega⟩
   ·rw[gr,aoT,<-aP,apa];rw[ht B (aoE _)]at ay;simp at hy;omega
   ·rw[eu,aox (by omega)];exact JE j (by omega)
 ·simp only[aoC]at h;obtain rfl:i=A.length:=by omega
  refine⟨⟨aF,by omega⟩, ?_⟩;rw[aP,aoB,ht A (aoE _)];exact ae
end ab
end
section
open Go Go.al
namespace ab
theorem Dw {a b:Nat}(h:a<b):cmp a b=-1:=by unfold cmp;rw[aoy h]
theorem Dx {a b:Nat}(h:b<a):cmp a b=1:=by unfold cmp;rw[aox (by omega),aox (by omega)]
theorem cmp_eq (a:Nat):cmp a a=0:=by unfold cmp;rw[aox (by omega),aoy rfl]
theorem Dy {a b:Nat}(h:(aQ a).length<(aQ b).length):a<b:=by
 have U:a<4294967296^(aQ a).length:=hQ.1 (aoE _)
 have aa:¬b<4294967296^(aQ a).length:=fun ag=>by
  have:=hQ.2 ag;omega
 omega
theorem CN {a b:List Int}(n:Nat)(aR:bK a)(U:ew a (n+1)=ew b (n+1))(aa:(a.getD n 0).toNat<(b.getD n 0).toNat):val a<val b:=by
 have aA:=mn a n;have aL:=mn b n;have az:=rp aR n;rw[n2 a n]at aA;rw[n2 b n,<-U]at aL;generalize (a.getD n 0).toNat=x at*;generalize (b.getD n 0).toNat=y at*;generalize ew a (n+1)=v at*;generalize 4294967296^n=w at*
 have aW:w*(x+4294967296*v)+w<=w*(y+4294967296*v):=by
  have:=apc w (show x+4294967296*v+1<=y+4294967296*v by omega);rw[aoO w (x+4294967296*v) 1,ao6]at this;exact this
 omega
theorem aep (a b:List Int)(K:J->Prop)(h:EE.T [.d (.ad .u32 a), .d (.ad .u32 b)] K):Qu a b K:=by
 obtain⟨⟨aR,ag⟩,ae⟩:=h;have hb:=ju aR;have k2:=ju ag;have kW:=aR.2;have ep:=ag.2;unfold Qu ah aO;refine⟨⟨aR.1,by omega⟩,⟨ag.1,by omega⟩,fun h=>⟨fun U=> ?_,fun U=> ?_⟩,fun h=> ?_⟩
 ·simp only[aoD]at U;rw[Dw (Dy (by omega))]at ae;exact ae
 ·have aa:¬((Nat.cast:Nat->Int) (aQ (val a)).length=(Nat.cast:Nat->Int) (aQ (val b)).length):=by simpa using h
  simp only[aoC]at U;rw[Dx (Dy (by omega))]at ae;exact ae
 ·have aa:(Nat.cast:Nat->Int) (aQ (val a)).length=(Nat.cast:Nat->Int) (aQ (val b)).length:=by simpa using h
  have dE:=gq (val a);have ey:=gq (val b);have nE:=ef (val a);have m8:=ef (val b);rw[<-nE,<-m8]at ae;generalize aQ (val a)=A at*;generalize aQ (val b)=B at*;refine⟨fun i=>-1<=i/\i<A.length/\ew A (i+1).toNat=ew B (i+1).toNat,fun i=>(i+1).toNat, ?_, ?_⟩
  ·rw[bR (by omega)];refine⟨by omega,by omega, ?_⟩;rw[oZ A (by omega),oZ B (by omega)]
  rintro i ⟨az,aW,bA⟩;refine⟨fun bZ=> ?_,fun bZ=> ?_⟩
  ·simp only[aoD]at bZ
   obtain⟨n,rfl⟩:∃n:Nat,i=n:=⟨i.toNat,by omega⟩
   rw[show((n:Int)+1).toNat=n+1 by omega]at bA;simp only[aoB];have ai:=dE n;have bp:=ey n;refine⟨by omega,by omega,by omega,by omega,fun fo=> ?_,fun fo=>⟨by omega,by omega,by omega,by omega,fun dc=> ?_,fun dc=> ?_⟩⟩
   ·simp only[aoD]at fo;rw[Dw (CN n dE bA (by omega))]at ae;exact ae
   ·simp only[aoD]at dc;rw[Dx (CN n ey bA.symm (by omega))]at ae;exact ae
   ·simp only[aoC]at fo dc;rw[bR (by omega)];refine⟨⟨by omega,by omega, ?_⟩,by show(((n:Int)-1)+1).toNat<((n:Int)+1).toNat;omega⟩;rw[show((n:Int)-1+1).toNat=n by omega,n2 A n,n2 B n,bA,show A.getD n 0=B.getD n 0 by omega]
  ·simp only[aoC]at bZ;obtain rfl:i=-1:=by omega
   simp only[show((-1:Int)+1).toNat=0 from rfl,yY]at bA;rw[bA,cmp_eq]at ae;exact ae
theorem Oz (x y:Int):cL .or .u64 x y=cL .or .u64 y x:=by
 unfold cL;simp only[BitVec.or_comm]
theorem aap {x:Int}(h:L x):cL .or .u64 0 x=x:=by
 have:=zb (h:=0) (l:=x) ⟨by decide,by decide⟩ h;simpa using this
theorem aaq (a:List Int)(K:J->Prop)(h:Cz.T [.d (.ad .u32 a)] K):NI a K:=by
 obtain⟨⟨aR,ax⟩,ae⟩:=h;unfold NI ah aT;refine⟨fun v i=>0<=i/\i<=a.length/\v=dt a i.toNat,fun v i=>a.length-i.toNat,⟨by omega,by omega,by simp[iC]⟩, ?_⟩;rintro v i ⟨U,aa,az⟩;refine⟨fun aW=> ?_,fun aW=> ?_⟩
 ·simp only[aoD]at aW;have bA:i=0\/i=1:=by omega
  have ai:=aR i.toNat;have kZ:=aR 0;rcases bA with rfl|rfl
  ·simp only[show Int.toNat 0=0 from rfl]at*;have aA:IntKind.wrap .i64 (32*0)=0:=bR (by omega);have aL:IntKind.wrap .i64 (0+1)=1:=bR (by omega);rw[aA,aL];simp only[show Int.toNat 0=0 from rfl,show min 0 64=0 from rfl,Int.pow_zero,Int.mul_one];rw[cP (x:=a.getD 0 0) (by omega),cP (x:=a.getD 0 0) (by omega),az,iC];have b3:cL .or .u64 (((0:Nat):Int)) (a.getD 0 0)=a.getD 0 0:=aap ai;rw[b3];refine⟨by omega,by omega,by omega,⟨by omega,by omega, ?_⟩, ?_⟩
   ·show a.getD 0 0=((dt a 1:Nat):Int);rw[gr,iC,aqg,apM,ao8];omega
   ·show a.length-Int.toNat 1<a.length-Int.toNat 0;simp only[show Int.toNat 1=1 from rfl,show Int.toNat 0=0 from rfl];omega
  ·simp only[show Int.toNat 1=1 from rfl]at*;have aA:IntKind.wrap .i64 (32*1)=32:=bR (by omega);have aL:IntKind.wrap .i64 (1+1)=2:=bR (by omega);rw[aA,aL];simp only[show Int.toNat 32=32 from rfl,show min 32 64=32 from rfl,show(2:Int)^32=4294967296 from rfl];rw[cP (x:=a.getD 1 0) (by omega),cP (x:=a.getD 1 0*4294967296) (by omega),Oz];have aP:dt a 1=(a.getD 0 0).toNat:=by rw[gr,iC];simp
   have b3:cL .or .u64 (a.getD 1 0*4294967296) v=a.getD 1 0*4294967296+v:=zb ai ⟨by omega,by rw[az,aP];omega⟩;rw[b3];refine⟨by omega,by omega,by omega,⟨by omega,by omega, ?_⟩, ?_⟩
   ·show a.getD 1 0*4294967296+v=((dt a 2:Nat):Int);rw[gr,aP,az,aP,Nat.pow_one];omega
   ·show a.length-Int.toNat 2<a.length-Int.toNat 1;simp only[show Int.toNat 2=2 from rfl,show Int.toNat 1=1 from rfl];omega
 ·simp only[aoC]at aW;obtain rfl:i=a.length:=by omega
  rw[az,aoB,ht a (aoE _)];exact ae
theorem zs (x:Int)(h:L x):(BitVec.ofInt 32 x).msb=decide (2147483648<=x):=by
 rw[BitVec.msb_eq_decide,BitVec.toNat_ofInt];unfold L at h
 have e:(x%((2^32:Nat):Int)).toNat=x.toNat:=by
  rw[aqX h.1 (by have:((2^32:Nat):Int)=4294967296:=rfl
                 omega)]
 rw[e];have aL:(2^(32-1):Nat)=2147483648:=rfl;rw[aL,aqs];omega
theorem qg (B:BitVec 32):L (B.toNat:Int)/\BitVec.ofInt 32 (B.toNat:Int)=B:=by
 refine⟨⟨by omega, ?_⟩, ?_⟩
 ·have:=B.isLt;have aL:(2^32:Nat)=4294967296:=rfl;rw[aL]at this;omega
 ·rw[aqt,BitVec.ofNat_toNat,BitVec.setWidth_eq]
theorem R7 (x y:Int):cL .and .u32 x y=((BitVec.ofInt 32 x&&&BitVec.ofInt 32 y).toNat:Int):=h1 (qg _).1
theorem Sy (x y:Int):cL .or .u32 x y=((BitVec.ofInt 32 x|||BitVec.ofInt 32 y).toNat:Int):=h1 (qg _).1
theorem Iy (x y:Int):cL .xor .u32 x y=((BitVec.ofInt 32 x^^^BitVec.ofInt 32 y).toNat:Int):=h1 (qg _).1
theorem ae2 (B:BitVec 32):((B.toNat:Int)).fdiv 2147483648=if B.msb then 1 else 0:=by
 have h:=(qg B).1;have aa:=zs _ h;rw[(qg B).2]at aa;unfold L at h;rw[apg _ (by omega),aa]
 by_cases az:2147483648<=(B.toNat:Int)
 ·rw[ap_ az,aoy rfl];omega
 ·rw[ap5 az,aox (by simp)];omega
theorem Xm (x y c:Int)(K:J->Prop)(h:De.T [.d (.int .u32 x), .d (.int .u32 y), .d (.int .u32 c)] K):Mn x y c K:=by
 obtain⟨⟨ai,bp,U,aa⟩,ae⟩:=h;unfold Mn bX
 have a8:IntKind.wrap .u32 (IntKind.wrap .u32 (x-y)-c)=(x-y-c)%4294967296:=by
  rw[ke,ke,Int.emod_sub_emod]
 rw[a8];have oF:L ((x-y-c)%4294967296):=by unfold L;omega
 have ag:((cL .or .u32 (cL .and .u32 (cL .xor .u32 4294967295 x) y) (cL .and .u32 (cL .xor .u32 4294967295 (cL .xor .u32 x y)) ((x-y-c)%4294967296))).fdiv 2147483648)=if x-y-c<0 then 1 else 0:=by
  rw[Sy,R7,R7,Iy,Iy x y,Iy,(qg _).2,(qg _).2,(qg _).2,(qg _).2,(qg _).2,ae2];rw[BitVec.msb_or,BitVec.msb_and,BitVec.msb_and,BitVec.msb_xor,BitVec.msb_xor,BitVec.msb_xor,zs x ai,zs y bp,zs _ oF,zs 4294967295 ⟨by decide,by decide⟩];unfold L at ai bp
  by_cases a1:2147483648<=x<;>by_cases a2:2147483648<=y<;>by_cases a3:2147483648<=(x-y-c)%4294967296<;>simp[a1,a2,a3]<;>omega
 rw[ag];exact ae
theorem aeq (a b:List Int)(K:J->Prop)(h:EG.T [.d (.ad .u32 a), .d (.ad .u32 b)] K):Qx a b K:=by
 obtain⟨⟨aR,ag⟩,ae⟩:=h;have hb:=ju aR;have k2:=ju ag;have kW:=aR.2;have ep:=ag.2;unfold Qx ah aO
 have pq:cmp (val a) (val b)<0↔val a<val b:=by
  unfold cmp;split
  ·simp[*]
  ·split<;>simp[*]
 refine⟨⟨aR,ag⟩,fun h=> ?_,fun h=>⟨⟨aR.1,by omega⟩,⟨ag.1,by omega⟩, ?_⟩⟩
 ·simp only[aoD]at h;rw[aoy (pq.1 h),aoy (pq.1 h)]at ae;exact ae
 ·simp only[aoC]at h;have ja:¬val a<val b:=fun ai=>h (pq.2 ai);rw[aox ja,aox ja]at ae
  have JF:(aQ (val b)).length<=(aQ (val a)).length:=by
   rw[hQ];have:=hQ.1 (aoE (aQ (val a)).length);omega
  have dE:=gq (val a);have ey:=gq (val b);have nE:=ef (val a);have m8:=ef (val b);rw[<-nE,<-m8]at ae ja;generalize aQ (val a)=A at*;generalize aQ (val b)=B at*;rw[aoB]
  refine⟨by omega,by omega,by omega,fun c i o=>bK o/\o.length=A.length/\0<=c/\c<=1/\0<=i/\i<=A.length/\dt o i.toNat+dt B i.toNat=dt A i.toNat+4294967296^i.toNat*c.toNat,
   fun c i o=>A.length-i.toNat,⟨bK.nm _,by simp,by omega,by omega,by omega,by omega,by simp[iC]⟩, ?_⟩
  rintro c i o ⟨aF,gf,xy,j0,rT,kp,lI⟩;refine⟨fun h=> ?_,fun h=> ?_⟩
  ·simp only[aoD]at h
   obtain⟨n,rfl⟩:∃n:Nat,i=n:=⟨i.toNat,by omega⟩
   simp only[aoB]at lI⊢;refine⟨by omega,by omega,fun e=>e=B.getD n 0,⟨fun aa=> ?_,fun aa=>⟨trivial, ?_⟩⟩, ?_⟩
   ·simp only[aoD]at aa;exact⟨by omega,aa,trivial,rfl⟩
   ·simp only[aoC]at aa;simp[aoA,ape (show B.length<=n by omega)]
   ·rintro e rfl;have nD:=dE n;have z6:=ey n;refine⟨⟨nD,z6,xy,j0⟩,by omega,by omega, ?_⟩;have aL:IntKind.wrap .i64 ((n:Int)+1)=((n+1:Nat):Int):=by rw[bR (by omega)];omega
    rw[aL];refine⟨⟨aF.set _ (by omega),by simpa using gf,by split<;>omega,by split<;>omega,by omega,by omega, ?_⟩,by simp;omega⟩;rw[aoB,gr,gr,gr,rf _ _ _ _ (aoE _),eu,aoy ⟨rfl,by omega⟩]
    have b3:((A.getD n 0-B.getD n 0-c)%4294967296).toNat+(B.getD n 0).toNat+c.toNat=(A.getD n 0).toNat+4294967296*(if A.getD n 0-B.getD n 0-c<0 then(1:Int)else 0).toNat:=by
     split<;>omega
    rw[ao2];generalize ((A.getD n 0-B.getD n 0-c)%4294967296).toNat=p at b3⊢;generalize (if A.getD n 0-B.getD n 0-c<0 then(1:Int)else 0).toNat=q at b3⊢;generalize 4294967296^n=w at lI⊢;have cX:w*(p+(B.getD n 0).toNat+c.toNat)=w*((A.getD n 0).toNat+4294967296*q):=by rw[b3]
    simp only[aoO]at cX⊢;rw[apa];omega
  ·simp only[aoC]at h;obtain rfl:i=A.length:=by omega
   simp only[aoB]at lI;refine⟨⟨aF,by omega⟩, ?_⟩;rw[ht A (aoE _),ht B JF,ht o (by omega)]at lI;have bG:=iD aF;rw[gf]at bG
   have aC:c.toNat=0:=by
    rcases ap6 c.toNat with bc|bc
    ·exact bc
    ·have:c.toNat=1:=by omega
     rw[this]at lI;omega
   rw[aC]at lI;have:val o=val A-val B:=by omega
   rw[this];exact ae
end ab
end
section
open Go Go.al
namespace ab
theorem Pw {t f g r p lv s l0 iO:Nat}(bh:g=f/t)(an:r=f%t)(au:0<t)(qu:l0<p)(vi:iO<4294967296):
 l0+p*(iO+4294967296*f)<(g+1)*(lv+p*(s+4294967296*t))/\t*g+r=f:=by
 have U:t*g+r=f:=by subst bh an;exact aqe f t
 refine⟨?_,U⟩
 have aa:f+1<=t*(g+1):=by
  have:=aph f au;rw[aoO,ao6];omega
 have az:p*(iO+4294967296*f)+p<=p*(4294967296*(t*(g+1))):=by
  have:=apc p (show iO+4294967296*f+1<=4294967296*(t*(g+1)) by omega);rw[aoO p _ 1,ao6]at this;exact this
 have aW:(g+1)*(lv+p*(s+4294967296*t))=(g+1)*lv+p*((g+1)*s)+p*(4294967296*(t*(g+1))):=by
  rw[aoO,apC (g+1) p,aoO (g+1) s,aoO p,apC (g+1) 4294967296,ao9 (g+1) t,apy]
 rw[aW];omega
theorem Px {t f g r p lv s l0 iO:Nat}(U:t*g+r=f)(qu:l0<p)(aC:r*4294967296+iO<g*s):
 l0+p*(iO+4294967296*f)<g*(lv+p*(s+4294967296*t)):=by
 have aa:iO+4294967296*f+1<=g*s+4294967296*(g*t):=by
  rw[ao9 g t];omega
 have az:=apc p aa;rw[aoO p _ 1,ao6]at az
 have aW:g*(lv+p*(s+4294967296*t))=g*lv+p*(g*s+4294967296*(g*t)):=by
  rw[aoO,apC g p,aoO g s,apC g 4294967296]
 rw[aW];omega
theorem wj {t f g r p lv s l0 iO:Nat}(U:t*g+r=f)(au:0<t)(rU:lv<p)(bh:g<4294967296)(aC:g*s<=r*4294967296+iO):
 g*(lv+p*(s+4294967296*t))<=l0+p*(iO+4294967296*f)+(lv+p*(s+4294967296*t)):=by
 cases g with
 |zero=>omega
 |succ g=>
  have aa:g*(s+4294967296*t+1)<=iO+4294967296*f:=by
   have aA:g*(s+4294967296*t+1)+s+4294967296*t=(g+1)*s+4294967296*(t*(g+1))+g:=by
    rw[aoO g _ 1,aoO g s,ao6,aoT g 1 s,apM,aoO t g 1,ao6,apC g 4294967296,ao9 g t];omega
   omega
  have az:=apc p aa
  have aW:g*(lv+p*(s+4294967296*t))<=p*(g*(s+4294967296*t+1)):=by
   rw[apC p g];refine apc g ?_;rw[aoO p _ 1,ao6];omega
  rw[aoT g 1,apM];omega
theorem OA {g d c b u:Nat}(bh:g<4294967296)(a8:d<4294967296)(aC:c<4294967296)(ag:b<=1)(hu:u<4294967296):
 c+g*d<18446744073709551616/\∃lo T st B:Nat,(c+g*d)%4294967296=lo/\(c+g*d)/4294967296=T/\lo<4294967296/\T<4294967296/\((u:Int)-(lo:Int)-(b:Int))%4294967296=(st:Int)/\st<4294967296/\
  (if(u:Int)-(lo:Int)-(b:Int)<0 then(1:Int)else 0)=(B:Int)/\B<=1/\st+g*d+(c+b)=u+4294967296*(T+B):=by
 have U:g*d<=4294967295*4294967295:=ap7 (by omega) (by omega);generalize g*d=m at U⊢;refine⟨by omega,(c+m)%4294967296,(c+m)/4294967296,(((u:Int)-((c+m)%4294967296:Nat)-b)%4294967296).toNat,(if(u:Int)-((c+m)%4294967296:Nat)-b<0 then 1 else 0),rfl,rfl,by omega,by omega,by omega,by omega,by split<;>rfl,by split<;>omega,by split<;>omega⟩
theorem wk (n:Nat):∀k,(kh n k).length=k
 |0=>rfl
 |k+1=>by simp[kh,wk _ k]
theorem yt (k:Nat):∀n,bK (kh n k):=by
 induction k with
 |zero=>intro n;exact .nil
 |succ k bF=>
  intro n;have:n%4294967296<4294967296:=aph _ (by decide);exact .mk ⟨by omega,by omega⟩ (bF _)
theorem yu (k:Nat):∀n,n<4294967296^k->val (kh n k)=n:=by
 induction k with
 |zero=>intro n h;simp at h;subst h;rfl
 |succ k bF=>
  intro n h
  have aa:n/4294967296<4294967296^k:=by
   rw[ao2]at h;exact aqm (by rw[ao9];exact h)
  simp only[kh,val,bF _ aa,aoB];omega
theorem HV (k:Nat):∀{a:List Int},bK a->a.length=k->kh (val a) k=a:=by
 induction k with
 |zero=>intro a _ h;rw[apl.1 h];rfl
 |succ k bF=>
  intro a aR h
  cases a with
  |nil=>cases h
  |cons x r=>
   obtain⟨⟨U,aa⟩,an⟩:=aR.cons;have aA:val (x::r)%4294967296=x.toNat:=by rw[val];omega
   have aL:val (x::r)/4294967296=val r:=by rw[val];omega
   rw[kh,aA,aL,bF an (by simpa using h),Int.toNat_of_nonneg U]
theorem Dz {a:List Int}(h:bK a){m:Nat}(bq:∀p,m<=p->a.getD p 0=0):val a<4294967296^m:=by
 rw[mn a m]
 have aa:ew a m=0:=by
  unfold ew
  have:∀l:List Int,(∀p,l.getD p 0=0)->val l=0:=fun l=>by
   induction l with
   |nil=>intro _;rfl
   |cons x r bF=>
    intro ax;have bc:=ax 0;have U:=bF fun p=>by have:=ax (p+1);simpa using this
    simp at bc;rw[val,U,bc];rfl
  refine this _ fun p=> ?_;have:=bq (m+p) (by omega);simpa[aoA]using this
 rw[aa];have:=rp h m;omega
theorem Qy {a:List Int}(h:bK a){m:Nat}(aP:val a<4294967296^m)(p:Nat)(aE:m<=p):a.getD p 0=0:=by
 have U:=mn a p;have aa:=n2 a p;have az:=h p;have aW:4294967296^m<=4294967296^p:=apf (by decide) aE
 cases ai:(a.getD p 0).toNat with
 |zero=>omega
 |succ k=>
  rw[aa,ai]at U;have:4294967296^p*1<=4294967296^p*(k+1+4294967296*ew a (p+1)):=apc _ (by omega);omega
end ab
end
section
open Go Go.al
namespace ab
def Mo:List Int->(af->J->Prop)->Prop:=
 fun l K=>∃(aK:Int->Int->List Int->Prop),∃(m:Int->Int->List Int->Nat),aK 0 (ah (↑l.length-1)) l/\∀(v2 v3:Int) (aq:List Int),aK v2 v3 aq->(decide (v2<v3)=true->0<=v3/\v3<↑aq.length/\0<=v2/\v2<↑aq.length/\0<=v2/\v2<↑aq.length/\0<=v3/\v3<↑(aq.set v2.toNat (aq.getD v3.toNat 0)).length/\aK (ah (v2+1)) (ah (v3-1)) ((aq.set v2.toNat (aq.getD v3.toNat 0)).set v3.toNat (aq.getD v2.toNat 0))/\m (ah (v2+1)) (ah (v3-1)) ((aq.set v2.toNat (aq.getD v3.toNat 0)).set v3.toNat (aq.getD v2.toNat 0))<m v2 v3 aq)/\(decide (v2<v3)=false->K (af.ad .u8 aq) (J.tup []))
def NK:List Int->(J->Prop)->Prop:=
 fun a K=>(bK a/\a.length<=(1000000000:Nat))/\∃(aK:List Int->List Int->Prop),∃(m:List Int->List Int->Nat),aK (aQ (val a)) []/\∀(v0 aq:List Int),aK v0 aq->(decide ((0:Int)<↑v0.length)=true->(bC v0/\L (1000000000:Int)/\(0:Int)<(1000000000:Int))/\∃(fk:Int->Int->List Int->Prop),∃(fh:Int->Int->List Int->Nat),fk ↑(val v0%(1000000000:Nat)) (0:Int) aq/\∀(v4 bW:Int) (bJ:List Int),fk v4 bW bJ->(decide (bW<(9:Int))=true->(decide (↑(aQ (val v0/(1000000000:Nat))).length=(0:Int))=true->(decide (v4=(0:Int))=true->aK (aQ (val v0/(1000000000:Nat))) bJ/\m (aQ (val v0/(1000000000:Nat))) bJ<m v0 aq)/\(decide (v4=(0:Int))=false->(↑bJ.length+↑[IntKind.u8.wrap (bX ((48:Int)+v4.tmod (10:Int)))].length)*(1:Int)<=(70368744177664:Int)/\fk (bX (v4.tdiv (10:Int))) (ah (bW+(1:Int))) (bJ++[IntKind.u8.wrap (bX ((48:Int)+v4.tmod (10:Int)))])/\fh (bX (v4.tdiv (10:Int))) (ah (bW+(1:Int))) (bJ++[IntKind.u8.wrap (bX ((48:Int)+v4.tmod (10:Int)))])<fh v4 bW bJ))/\(decide (↑(aQ (val v0/(1000000000:Nat))).length=(0:Int))=false->(↑bJ.length+↑[IntKind.u8.wrap (bX ((48:Int)+v4.tmod (10:Int)))].length)*(1:Int)<=(70368744177664:Int)/\fk (bX (v4.tdiv (10:Int))) (ah (bW+(1:Int))) (bJ++[IntKind.u8.wrap (bX ((48:Int)+v4.tmod (10:Int)))])/\fh (bX (v4.tdiv (10:Int))) (ah (bW+(1:Int))) (bJ++[IntKind.u8.wrap (bX ((48:Int)+v4.tmod (10:Int)))])<fh v4 bW bJ))/\(decide (bW<(9:Int))=false->aK (aQ (val v0/(1000000000:Nat))) bJ/\m (aQ (val v0/(1000000000:Nat))) bJ<m v0 aq))/\(decide ((0:Int)<↑v0.length)=false->(decide (↑aq.length=(0:Int))=true->K (J.d (R.str [(48:Int)])))/\(decide (↑aq.length=(0:Int))=false->(0:Nat)<aq.length/\aq.length<=(1000000000000:Nat)/\(∀(x:Int),x∈aq.reverse->(0:Int)<=x/\x<(256:Int))/\K (J.d (R.str aq.reverse))))
end ab
end
section
open Go Go.al
namespace ab
theorem z8 {x:Int}(h:0<=x/\x<256):IntKind.wrap .u8 x=x:=by
 unfold IntKind.wrap;simp[IntKind.signed,IntKind.bits];omega
theorem abS {a b:List Int}(ax:a.length=b.length)(h:∀i,i<a.length->a.getD i 0=b.getD i 0):a=b:=by
 apply aqF ax;intro j kq nA;have:=h j kq;simpa[aoA,kq,nA]using this
theorem abT (l:List Int)(i:Nat)(h:i<l.length):l.reverse.getD i 0=l.getD (l.length-1-i) 0:=by
 simp only[aoA];rw[List.getElem?_reverse h]
theorem Xn (l:List Int)(K:af->J->Prop)(h:B1.T (.vec 0) (.ad .u8 l) [] K):Mo l K:=by
 obtain⟨ax,ae⟩:=h;unfold Mo ah
 refine⟨fun i j o=>o.length=l.length/\0<=i/\i+j=l.length-1/\i<=j+1/\
  ∀p:Nat,p<l.length->o.getD p 0=if(p:Int)<i\/j<(p:Int)then l.getD (l.length-1-p) 0 else l.getD p 0,fun i j o=>(j+1-i).toNat,⟨rfl,by omega, ?_, ?_, ?_⟩, ?_⟩
 ·rw[bR (by omega)];omega
 ·rw[bR (by omega)];omega
 ·intro p aE;rw[bR (by omega),aox (by omega)]
 rintro i j o ⟨U,aa,az,aW,bA⟩;refine⟨fun h=> ?_,fun h=> ?_⟩
 ·simp only[aoD]at h;rw[bR (by omega),bR (by omega)];simp only[aoI];refine⟨by omega,by omega,by omega,by omega,by omega,by omega,by omega,by omega,⟨by omega,by omega,by omega,by omega,fun p aE=> ?_⟩,by show(j-1+1-(i+1)).toNat<(j+1-i).toNat;omega⟩;rw[eu,eu];simp only[aoI];have hi:=bA i.toNat (by omega);have aI:=bA j.toNat (by omega);rw[aox (by omega)]at hi aI;have ajl:=bA p aE
  by_cases aA:p=j.toNat
  ·rw[aoy ⟨aA.symm,by omega⟩,aoy (by omega),hi,aA]
   congr 1;omega
  ·rw[aox (fun h=>aA h.1.symm)]
   by_cases aL:p=i.toNat
   ·rw[aoy ⟨aL.symm,by omega⟩,aoy (by omega),aI,aL]
    congr 1;omega
   ·rw[aox (fun h=>aL h.1.symm),ajl]
    by_cases b3:(p:Int)<i\/j<(p:Int)
    ·rw[aoy b3,aoy (by omega)]
    ·rw[aox b3,aox (by omega)]
 ·simp only[aoC]at h
  have:o=l.reverse:=by
   refine abS (by simpa using U) fun p aE=> ?_;rw[abT l p (by omega),bA p (by omega)]
   by_cases b3:(p:Int)<i\/j<(p:Int)
   ·rw[aoy b3]
   ·rw[aox b3]
    congr 1;omega
  rw[this];exact ae
theorem yZ {n:Nat}(h:(aQ n).length=0):n=0:=qR.1 (apl.1 h)
theorem aar (a:List Int)(K:J->Prop)(h:CB.T [.d (.ad .u32 a)] K):NK a K:=by
 obtain⟨aR,ae⟩:=h;have hb:=ju aR;have kW:=aR.2;have anO:=Qt aR.1;unfold NK ah bX;generalize dE:val a=A at*;refine⟨⟨aR.1,by omega⟩,fun v o=>∃V,v=aQ V/\V<=A/\ji A=o++ji V,fun v o=>val v,⟨A,rfl,aoE _,rfl⟩, ?_⟩;rintro v o ⟨V,rfl,jN,a8⟩
 have hlen:∀{o:List Int} {n:Nat},ji A=o++ji n->o.length<=1000000000:=fun{o n} h=>by
  have:=apb List.length h;rw[ao0]at this;omega
 have hx:∀{o:List Int} {n:Nat},ji A=o++ji n->∀x∈o,48<=x/\x<58:=fun{o n} h x ai=>by
  exact abK (n:=A) (by rw[h];simp[ai])
 refine⟨fun h=> ?_,fun h=> ?_⟩
 ·simp only[aoD]at h
  have Fv:V≠0:=by
   rintro rfl;rw[kD]at h;simp at h
  have JG:(aQ V).length<=100000000:=by
   have:(aQ V).length<=a.length:=by
    rw[hQ];have:=iD aR.1;omega
   omega
  rw[ef];refine⟨⟨⟨gq _,JG⟩,by unfold L;omega,by omega⟩,fun r i o=>0<=i/\i<=9/\0<=r/\r.toNat<10^(9-i.toNat)/\ji A=o++ji (V/1000000000*10^(9-i.toNat)+r.toNat),fun r i o=>9-i.toNat,⟨by omega,by omega,by omega, ?_, ?_⟩, ?_⟩
  ·rw[aoB];exact aph _ (by decide)
  ·rw[aoB,a8]
   congr 2
   have:=aqe V 1000000000;rw[ao9]at this;exact this.symm
  rintro r i cc ⟨U,aa,az,aW,bA⟩;have iP:V/1000000000<V:=aqI (by omega) (by decide);generalize V/1000000000=Q at*
  have step:¬(Q=0/\r=0)->i<9->((Nat.cast:Nat->Int) (List.length cc)+(Nat.cast:Nat->Int) (List.length [IntKind.wrap IntKind.u8 (IntKind.wrap IntKind.u32 ((48:Int)+Int.tmod r (10:Int)))]))*(1:Int)<=(70368744177664:Int)/\
   (0<=IntKind.wrap IntKind.i64 (i+1)/\IntKind.wrap IntKind.i64 (i+1)<=9/\0<=IntKind.wrap IntKind.u32 (Int.tdiv r 10)/\(IntKind.wrap IntKind.u32 (Int.tdiv r 10)).toNat<10^(9-(IntKind.wrap IntKind.i64 (i+1)).toNat)/\
     ji A=cc++[IntKind.wrap IntKind.u8 (IntKind.wrap IntKind.u32 ((48:Int)+Int.tmod r (10:Int)))]++ji (Q*10^(9-(IntKind.wrap IntKind.i64 (i+1)).toNat)+(IntKind.wrap IntKind.u32 (Int.tdiv r 10)).toNat))/\
   9-(IntKind.wrap IntKind.i64 (i+1)).toNat<9-i.toNat:=fun dg hi=>by
   have gf:=hlen bA
   obtain⟨n,rfl⟩:∃n:Nat,i=n:=⟨i.toNat,by omega⟩
   obtain⟨bD,rfl⟩:∃bD:Nat,r=bD:=⟨r.toNat,by omega⟩
   have aA:IntKind.wrap .i64 ((n:Int)+1)=((n+1:Nat):Int):=by rw[bR (by omega)];omega
   rw[aA];simp only[aoB]at*;have aE:10^(9-n)=10*10^(9-(n+1)):=by rw[show 9-n=(9-(n+1))+1 by omega,ao2,ao9]
   rw[aE]at aW bA;have hle:10^(9-(n+1))<=10^9:=apf (by decide) (by omega);generalize 10^(9-(n+1))=w at*;have anP:w<=1000000000:=hle;rw[aqL (by omega),aqY (by omega),h1 (x:=48+(bD:Int)%10) (by omega),z8 (by omega),h1 (x:=(bD:Int)/10) (by omega)];refine⟨by simp;omega,⟨by omega,by omega,by omega,by omega, ?_⟩,by omega⟩;rw[bA,aqk]
   congr 1
   have ajm:Q*(10*w)+bD≠0:=fun bq=>dg ⟨by
    rcases ap6 Q with bc|bc
    ·exact bc
    ·have:0<w:=by omega
     have:0<Q*(10*w):=Nat.mul_pos bc (by omega)
     omega,by omega⟩
   rw[B0 ajm];have ajn:Q*(10*w)=10*(Q*w):=apC _ _ _;rw[ajn];generalize Q*w=z;have a1:((48+(10*z+bD)%10:Nat):Int)=48+(bD:Int)%10:=by omega
   have a2:(10*z+bD)/10=z+((bD:Int)/10).toNat:=by omega
   rw[a1,a2];rfl
  refine⟨fun h=>⟨fun bZ=>⟨fun fo=> ?_,fun fo=> ?_⟩,fun bZ=> ?_⟩,fun h=> ?_⟩
  ·simp only[aoD]at bZ fo;have ajo:Q=0:=yZ (by omega);subst ajo fo;refine⟨⟨0,rfl,by omega, ?_⟩, ?_⟩
   ·simpa using bA
   ·simp only[ef];exact iP
  ·simp only[aoD]at h;simp only[aoC]at fo;exact step (fun ai=>fo ai.2) h
  ·simp only[aoD]at h;simp only[aoC]at bZ;refine step (fun ai=>bZ ?_) h;rw[ai.1,kD];rfl
  ·simp only[aoC]at h;obtain rfl:i=9:=by omega
   simp only[show Int.toNat 9=9 from rfl,Nat.sub_self,aqg,ao6]at aW bA;refine⟨⟨Q,rfl,by omega, ?_⟩, ?_⟩
   ·rw[bA,show r.toNat=0 by omega];rfl
   ·simp only[ef];exact iP
 ·simp only[aoC]at h;have Fv:V=0:=yZ (by omega);subst Fv;rw[ub,aqa]at a8;have gf:=hlen (o:=o) (n:=0) (by rw[ub,aqa];exact a8);have hm:=hx (o:=o) (n:=0) (by rw[ub,aqa];exact a8);refine⟨fun h=> ?_,fun h=>⟨?_,by omega,fun x ai=> ?_, ?_⟩⟩
  ·simp only[aoD]at h;have:o=[]:=apl.1 (by omega);rw[this,Pt]at a8;rw[a8]at ae;exact ae
  ·simp only[aoC]at h;omega
  ·have:=hm x (List.mem_reverse.1 ai);omega
  ·simp only[aoC]at h
   have pg:A≠0:=by
    rintro rfl;rw[ub]at a8;subst a8;simp at h
   unfold dec at ae;rw[aox pg,a8]at ae;exact ae
theorem EV {x:Int}(h:0<=x/\x<4294967296):bC [x]:=⟨.mk h .nil,by simp⟩
end ab
namespace ab
end ab
end
section
open Go Go.al
namespace ab
def Mp:Int->(J->Prop)->Prop:=
 fun x K=>∃(bm:Int->Int->Prop),((decide (65536<=x)=true->bm (x.fdiv 65536) 16)/\(decide (65536<=x)=false->bm x 0))/\∀(v0 v2:Int),bm v0 v2->(decide (256<=v0)=true->0<=IntKind.u8.wrap (v0.fdiv 256)/\IntKind.u8.wrap (v0.fdiv 256)<256/\K (J.d (R.int .i64 (ah (ah (v2+8)+ah ((have y:=have y:=have y:=have y:=have y:=have y:=[8,8,8,8];8::8::8::8::y;have y:=8::8::8::8::y;8::8::8::8::y;have y:=have y:=8::8::8::8::y;8::8::8::8::y;have y:=8::8::8::8::y;8::8::8::8::y;have y:=have y:=have y:=8::8::8::8::y;8::8::8::8::y;have y:=8::8::8::8::y;8::8::8::8::y;have y:=have y:=8::8::8::8::y;8::8::8::8::y;have y:=8::8::8::8::y;8::8::8::8::y;have y:=have y:=have y:=have y:=8::8::8::8::y;8::8::8::8::y;have y:=8::8::8::8::y;8::8::8::8::y;have y:=have y:=8::8::8::8::y;8::8::8::8::y;have y:=8::8::8::8::y;8::8::8::8::y;have y:=have y:=have y:=8::8::8::8::y;8::8::8::8::y;have y:=8::8::8::8::y;8::8::8::8::y;have y:=have y:=8::8::8::8::y;8::8::8::8::y;have y:=8::8::8::8::y;8::8::8::8::y;have y:=have y:=have y:=have y:=have y:=7::7::7::7::y;7::7::7::7::y;have y:=7::7::7::7::y;7::7::7::7::y;have y:=have y:=7::7::7::7::y;7::7::7::7::y;have y:=7::7::7::7::y;7::7::7::7::y;have y:=have y:=have y:=7::7::7::7::y;7::7::7::7::y;have y:=7::7::7::7::y;7::7::7::7::y;have y:=have y:=7::7::7::7::y;7::7::7::7::y;have y:=7::7::7::7::y;7::7::7::7::y;have y:=have y:=have y:=have y:=6::6::6::6::y;6::6::6::6::y;have y:=6::6::6::6::y;6::6::6::6::y;have y:=have y:=6::6::6::6::y;6::6::6::6::y;have y:=6::6::6::6::y;6::6::6::6::y;have y:=have y:=have y:=5::5::5::5::y;5::5::5::5::y;have y:=5::5::5::5::y;5::5::5::5::y;have y:=have y:=4::4::4::4::y;4::4::4::4::y;have y:=3::3::3::3::y;0::1::2::2::y).getD (IntKind.u8.wrap (v0.fdiv 256)).toNat 0))))))/\(decide (256<=v0)=false->0<=IntKind.u8.wrap v0/\IntKind.u8.wrap v0<256/\K (J.d (R.int .i64 (ah (v2+ah ((have y:=have y:=have y:=have y:=have y:=have y:=[8,8,8,8];8::8::8::8::y;have y:=8::8::8::8::y;8::8::8::8::y;have y:=have y:=8::8::8::8::y;8::8::8::8::y;have y:=8::8::8::8::y;8::8::8::8::y;have y:=have y:=have y:=8::8::8::8::y;8::8::8::8::y;have y:=8::8::8::8::y;8::8::8::8::y;have y:=have y:=8::8::8::8::y;8::8::8::8::y;have y:=8::8::8::8::y;8::8::8::8::y;have y:=have y:=have y:=have y:=8::8::8::8::y;8::8::8::8::y;have y:=8::8::8::8::y;8::8::8::8::y;have y:=have y:=8::8::8::8::y;8::8::8::8::y;have y:=8::8::8::8::y;8::8::8::8::y;have y:=have y:=have y:=8::8::8::8::y;8::8::8::8::y;have y:=8::8::8::8::y;8::8::8::8::y;have y:=have y:=8::8::8::8::y;8::8::8::8::y;have y:=8::8::8::8::y;8::8::8::8::y;have y:=have y:=have y:=have y:=have y:=7::7::7::7::y;7::7::7::7::y;have y:=7::7::7::7::y;7::7::7::7::y;have y:=have y:=7::7::7::7::y;7::7::7::7::y;have y:=7::7::7::7::y;7::7::7::7::y;have y:=have y:=have y:=7::7::7::7::y;7::7::7::7::y;have y:=7::7::7::7::y;7::7::7::7::y;have y:=have y:=7::7::7::7::y;7::7::7::7::y;have y:=7::7::7::7::y;7::7::7::7::y;have y:=have y:=have y:=have y:=6::6::6::6::y;6::6::6::6::y;have y:=6::6::6::6::y;6::6::6::6::y;have y:=have y:=6::6::6::6::y;6::6::6::6::y;have y:=6::6::6::6::y;6::6::6::6::y;have y:=have y:=have y:=5::5::5::5::y;5::5::5::5::y;have y:=5::5::5::5::y;5::5::5::5::y;have y:=have y:=4::4::4::4::y;4::4::4::4::y;have y:=3::3::3::3::y;0::1::2::2::y).getD (IntKind.u8.wrap v0).toNat 0))))))
def Lo:Int->(J->Prop)->Prop:=
 fun x K=>L x/\K (J.d (R.int .i64 (ah (32-↑(c4 x.toNat)))))
def OB:List Int->Int->(af->Prop)->Prop:=
 fun a k K=>0<=ah (↑a.length+1)/\ah (↑a.length+1)<=ah (↑a.length+1)/\ah (↑a.length+1)*4<=281474976710656/\∃(aK:Int->List Int->Prop),∃(m:Int->List Int->Nat),aK 0 (List.replicate (ah (↑a.length+1)).toNat 0)/\∀(bW:Int) (aq:List Int),aK bW aq->(decide (bW<↑a.length)=true->0<=bW/\bW<↑a.length/\0<=k/\0<=bW/\bW<↑aq.length/\0<=bW/\bW<↑aq.length/\0<=ah (bW+1)/\ah (bW+1)<↑(aq.set bW.toNat (cL BinOp.or .u32 (aq.getD bW.toNat 0) (bX (aT (aT (a.getD bW.toNat 0)*2^min k.toNat 64))))).length/\aK (ah (bW+1)) ((aq.set bW.toNat (cL BinOp.or .u32 (aq.getD bW.toNat 0) (bX (aT (aT (a.getD bW.toNat 0)*2^min k.toNat 64))))).set (ah (bW+1)).toNat (bX ((aT (aT (a.getD bW.toNat 0)*2^min k.toNat 64)).fdiv 4294967296)))/\m (ah (bW+1)) ((aq.set bW.toNat (cL BinOp.or .u32 (aq.getD bW.toNat 0) (bX (aT (aT (a.getD bW.toNat 0)*2^min k.toNat 64))))).set (ah (bW+1)).toNat (bX ((aT (aT (a.getD bW.toNat 0)*2^min k.toNat 64)).fdiv 4294967296)))<m bW aq)/\(decide (bW<↑a.length)=false->K (af.ad .u32 aq))
end ab
end
section
open Go Go.al
namespace ab
def tab:List Int:=[0,1,2,2,3,3,3,3,4,4,4,4,4,4,4,4,5,5,5,5,5,5,5,5,5,5,5,5,5,5,5,5,6,6,6,6,6,6,6,6,6,6,6,6,6,6,6,6,6,6,6,6,6,6,6,6,6,6,6,6,6,6,6,6,7,7,7,7,7,7,7,7,7,7,7,7,7,7,7,7,7,7,7,7,7,7,7,7,7,7,7,7,7,7,7,7,7,7,7,7,7,7,7,7,7,7,7,7,7,7,7,7,7,7,7,7,7,7,7,7,7,7,7,7,7,7,7,7,8,8,8,8,8,8,8,8,8,8,8,8,8,8,8,8,8,8,8,8,8,8,8,8,8,8,8,8,8,8,8,8,8,8,8,8,8,8,8,8,8,8,8,8,8,8,8,8,8,8,8,8,8,8,8,8,8,8,8,8,8,8,8,8,8,8,8,8,8,8,8,8,8,8,8,8,8,8,8,8,8,8,8,8,8,8,8,8,8,8,8,8,8,8,8,8,8,8,8,8,8,8,8,8,8,8,8,8,8,8,8,8,8,8,8,8,8,8,8,8,8,8,8,8,8,8,8,8]
theorem Qz (i:Nat)(h:i<256):tab.getD i 0=c4 i:=by
 have U:((List.range 256).all fun i=>decide (tab.getD i 0=(c4 i:Int)))=true:=by decide+kernel
 rw[aoR]at U;simpa using U i (by simpa using h)
theorem adw {n m:Nat}(U:2^m<=n)(aa:n<2^(m+1)):c4 n=m+1:=by
 have bc:n≠0:=by have:=apw m;omega
 unfold c4;rw[aox bc,(Nat.log2_eq_iff bc).2 ⟨U,aa⟩]
theorem vU {n:Nat}(h:n≠0):2^(c4 n-1)<=n/\n<2^c4 n/\0<c4 n:=by
 unfold c4;rw[aox h];exact⟨Nat.log2_self_le h,Nat.lt_log2_self,by omega⟩
theorem yv {n k:Nat}(h:2^k<=n):c4 n=c4 (n/2^k)+k:=by
 have aE:=apw k
 have bc:n/2^k≠0:=by
  have:=Nat.div_pos h aE;omega
 obtain⟨cZ,di,jd⟩:=vU bc
 have aA:2^(c4 (n/2^k)-1+k)<=n:=by
  rw[api];exact(Nat.le_div_iff_mul_le aE).1 cZ
 have aL:n<2^(c4 (n/2^k)-1+k+1):=by
  rw[show c4 (n/2^k)-1+k+1=c4 (n/2^k)+k by omega,api];exact(Nat.div_lt_iff_lt_mul aE).1 di
 rw[adw aA aL];omega
theorem wE {n k:Nat}(h:n<2^k):c4 n<=k:=by
 by_cases bc:n=0
 ·subst bc;simp[c4]
 ·obtain⟨cZ,di,jd⟩:=vU bc;have:=ap4 cZ h;have:=(Nat.pow_lt_pow_iff_right (by decide:1<2)).1 this;omega
theorem Xo (x:Int)(K:J->Prop)(h:Di.T [.d (.int .u32 x)] K):Mp x K:=by
 obtain⟨ai,ae⟩:=h;unfold L at ai
 obtain⟨n,rfl⟩:∃n:Nat,x=n:=⟨x.toNat,by omega⟩
 rw[aoB]at ae;unfold Mp ah;refine⟨fun v s=>∃m k:Nat,v=m/\s=k/\m<65536/\k<=16/\c4 n=c4 m+k,⟨fun h=> ?_,fun h=> ?_⟩, ?_⟩
 ·simp only[aoD]at h;have:=yv (n:=n) (k:=16) (by omega);refine⟨n/65536,16, ?_,rfl,by omega,by omega,this⟩;rw[apg _ (by omega)];omega
 ·simp only[aoC]at h;exact⟨n,0,rfl,rfl,by omega,by omega,rfl⟩
 rintro v s ⟨m,k,rfl,rfl,hm,anQ,he⟩
 have fin:∀(q c:Nat),q<256->c<=24->c4 n=c4 q+c->K (.d (.int .i64 (IntKind.wrap .i64 ((c:Int)+IntKind.wrap .i64 (tab.getD q 0))))):=fun q c a_ aC e=>by
  have ag:=wE (n:=q) (k:=8) (by omega);rw[Qz q a_,bR (x:=(c4 q:Int)) (by omega),bR (by omega)];rw[show(c:Int)+(c4 q:Int)=((c4 n:Nat):Int) by omega];exact ae
 refine⟨fun h=> ?_,fun h=> ?_⟩
 ·simp only[aoD]at h
  have a8:IntKind.wrap .u8 (Int.fdiv (m:Int) 256)=((m/256:Nat):Int):=by
   rw[apg _ (by omega),z8 (by omega)];omega
  rw[a8,bR (x:=(k:Int)+8) (by omega),aoB];have:=yv (n:=m) (k:=8) (by omega);exact⟨by omega,by omega,fin (m/256) (k+8) (by omega) (by omega) (by rw[he,this];show c4 (m/256)+8+k=_;omega)⟩
 ·simp only[aoC]at h;rw[z8 (x:=(m:Int)) (by omega),aoB];exact⟨by omega,by omega,fin m k (by omega) (by omega) he⟩
theorem Vu (x:Int)(K:J->Prop)(h:B2.T [.d (.int .u32 x)] K):Lo x K:=by
 obtain⟨ai,ae⟩:=h;unfold Lo ah;have hk:=ai;unfold L at hk;have:=wE (n:=x.toNat) (k:=32) (by omega);rw[bR (by omega)];exact⟨ai,ae⟩
theorem ae3 (p q s:Nat)(a_:q<2^s)(h:p*2^s+q<4294967296):cL .or .u32 (q:Int) ((p*2^s:Nat):Int)=((p*2^s+q:Nat):Int):=by
 rw[Sy,BitVec.toNat_or,aqt,aqt,aqN,aqN];have aL:(2^32:Nat)=4294967296:=rfl;rw[aL,apv (by omega),apv (by omega),Nat.or_comm,<-Nat.shiftLeft_eq,<-Nat.shiftLeft_add_eq_or_of_lt a_]
theorem YT {d c k:Nat}(ae:k<32)(a8:d<4294967296)(aC:c<2^k):
 d*2^k<18446744073709551616/\d*2^k/4294967296<2^k/\cL .or .u32 (c:Int) ((d*2^k%4294967296:Nat):Int)=((d*2^k%4294967296+c:Nat):Int)/\d*2^k%4294967296+c<4294967296:=by
 have U:d*2^k<4294967296*2^k:=aqO a8 (apw k);have aa:2^k<=2^31:=apf (by decide) (by omega);have az:(2:Nat)^31=2147483648:=rfl
 obtain⟨j,aI⟩:∃j,4294967296=2^j*2^k:=⟨32-k,by rw[<-api,show 32-k+k=32 by omega]⟩
 have aW:d*2^k%4294967296=d%2^j*2^k:=by rw[aI,Nat.mul_mod_mul_right]
 have bA:d%2^j*2^k+2^k<=4294967296:=by
  have:=aph d (apw j);have:=aoP (2^k) (show d%2^j+1<=2^j by omega);rw[aoT,apM,<-aI]at this;exact this
 refine⟨by omega, ?_, ?_,by rw[aW];omega⟩
 ·exact aqm (by omega)
 ·rw[aW];exact ae3 _ c k aC (by omega)
theorem aas {tI tJ vo w P d x y c:Nat}(v1:tI+w*c=vo+w*(x+c))(v2:tJ=tI+w*P*y)(a8:P*y+x=d):tJ=vo+w*d:=by
 subst v2 a8;simp only[aoO]at v1⊢;rw[apa];generalize w*(P*y)=A;omega
theorem abU (a:List Int)(k:Int)(K:af->Prop)(h:Dj.T [.d (.ad .u32 a), .d (.int .u64 k)] K):OB a k K:=by
 obtain⟨⟨aR,tp,iN⟩,ae⟩:=h;have hb:=aR.2
 obtain⟨s,rfl⟩:∃n:Nat,k=n:=⟨k.toNat,by omega⟩
 rw[aoB]at ae;unfold OB ah aT bX;have hG:IntKind.wrap .i64 ((Nat.cast:Nat->Int) a.length+1)=((a.length+1:Nat):Int):=by rw[bR (by omega)];omega
 rw[hG];simp only[aoB,show min s 64=s by omega]
 refine⟨by omega,by omega,by omega,fun i o=>bK o/\o.length=a.length+1/\0<=i/\i<=a.length/\val o=dt a i.toNat*2^s/\(o.getD i.toNat 0).toNat<2^s/\∀p,i.toNat<p->o.getD p 0=0,
  fun i o=>a.length-i.toNat,⟨bK.nm _,by simp,by omega,by omega,by simp[iC,yg], ?_,fun p _=> ?_⟩, ?_⟩
 ·have:(List.replicate (a.length+1) (0:Int)).getD (Int.toNat 0) 0=0:=by simp
  rw[this];exact apw s
 ·simp[aoA,ap1];split<;>rfl
 rintro i o ⟨aF,gf,rT,kp,aP,aC,bq⟩;refine⟨fun h=> ?_,fun h=> ?_⟩
 ·simp only[aoD]at h
  obtain⟨n,rfl⟩:∃n:Nat,i=n:=⟨i.toNat,by omega⟩
  have aA:IntKind.wrap .i64 ((n:Int)+1)=((n+1:Nat):Int):=by rw[bR (by omega)];omega
  rw[aA];simp only[aoB,aoI]at*;have a8:=aR.1 n;have ajp:=aF n
  obtain⟨d,iI⟩:∃d:Nat,a.getD n 0=d:=⟨(a.getD n 0).toNat,by omega⟩
  obtain⟨c,vd⟩:∃d:Nat,o.getD n 0=d:=⟨(o.getD n 0).toNat,by omega⟩
  rw[iI]at a8⊢;rw[vd]at ajp aC⊢;rw[aoB]at aC;obtain⟨s1,s2,k7,mD⟩:=YT (d:=d) (c:=c) (k:=s) (by omega) (by omega) aC;have je:(2:Int)^s=((2^s:Nat):Int):=by simp
  have w1:IntKind.wrap .u64 (IntKind.wrap .u64 (d:Int)*(2:Int)^s)=((d*2^s:Nat):Int):=by
   rw[cP (x:=(d:Int)) (by omega),je,<-apK,cP (by omega)]
  have db:IntKind.wrap .u32 ((d*2^s:Nat):Int)=((d*2^s%4294967296:Nat):Int):=by rw[ke];omega
  have Fw:2^s<=2^31:=apf (by decide) (by omega);have Sz:(2:Nat)^31=2147483648:=rfl
  have bX:IntKind.wrap .u32 (Int.fdiv ((d*2^s:Nat):Int) 4294967296)=((d*2^s/4294967296:Nat):Int):=by
   rw[apg _ (by omega),h1 (by omega)];omega
  rw[w1,db,bX,k7]
  obtain⟨x,y,ai,bp,hdiv⟩:∃x y,d*2^s%4294967296=x/\d*2^s/4294967296=y/\4294967296*y+x=d*2^s:=⟨_,_,rfl,rfl,aqe _ _⟩
  rw[ai,bp];rw[bp]at s2;rw[ai]at mD
  have nF:y<4294967296:=by
   rw[Sz]at Fw;have:=aoV s2 Fw;omega
  have hA:(0:Int)<=((x+c:Nat):Int)/\((x+c:Nat):Int)<4294967296:=⟨apx _,by omega⟩;have ep:(0:Int)<=(y:Int)/\(y:Int)<4294967296:=⟨apx _,by omega⟩;have hm:a.length-(n+1)<a.length-n:=by omega
  have Fx:n+1<o.length:=by omega
  have Fy:n<o.length:=by omega
  have R8:n+1<(o.set n ((x+c:Nat):Int)).length:=by rw[aoI];exact Fx
  have nn:(0:Int)<=(n:Int)/\(n:Int)<(a.length:Int)/\(0:Int)<=(s:Int)/\(0:Int)<=(n:Int)/\(n:Int)<(o.length:Int)/\(0:Int)<=(n:Int)/\(n:Int)<(o.length:Int)/\(0:Int)<=((n+1:Nat):Int)/\((n+1:Nat):Int)<(o.length:Int):=by omega
  have Rp:(0:Int)<=((n+1:Nat):Int)/\((n+1:Nat):Int)<=(a.length:Int):=by omega
  obtain⟨g1,g2,g3,g4,g5,g6,g7,g8,g9⟩:=nn;have v1:=l_ o n ((x+c:Nat):Int) Fy;have v2:=l_ (o.set n ((x+c:Nat):Int)) (n+1) (y:Int) R8;have JH:=bq (n+1) (Nat.lt_succ_self n);rw[eu,aox (fun h=>absurd h.1 (Nat.ne_of_lt (Nat.lt_succ_self n))),JH,show Int.toNat 0=0 from rfl,ao4,aoW,aoB]at v2;rw[vd,aoB,aoB]at v1;refine⟨g1,g2,g3,g4,g5,g6,g7,g8,g9,⟨(aF.set _ hA).set _ ep,gf,Rp.1,Rp.2, ?_, ?_,fun p aE=> ?_⟩,hm⟩
  ·rw[ao2]at v2;rw[gr,iI,aoB,aoT,<-aP,apa];exact aas v1 v2 hdiv
  ·rw[eu,aoy ⟨rfl,R8⟩,aoB];exact s2
  ·clear v1 v2 s1 s2 k7 mD Fw Sz w1 db bX aP hdiv ai bp;rw[eu,aox (by omega),eu,aox (by omega)];exact bq p (by omega)
 ·simp only[aoC]at h;obtain rfl:i=a.length:=by omega
  rw[aoB,ht a (aoE _)]at aP;rw[<-aP,<-gf,HV _ aF rfl]at ae;exact ae
end ab
end
section
open Go Go.al
namespace ab
def Py:List Int->List Int->(J->Prop)->Prop:=
 fun(a b:List Int) (K:J->Prop)=>(0:Int)<=ah (aO b-(1:Int))/\ah (aO b-(1:Int))<aO b/\ab.L (List.getD b (Int.toNat (ah (aO b-(1:Int)))) (0:Int))/\∀(x:Int),x=(32:Int)-(Nat.cast:Nat->Int) (ab.c4 (Int.toNat (List.getD b (Int.toNat (ah (aO b-(1:Int)))) (0:Int))))->(ab.bC a/\(0:Int)<=aT x/\aT x<(32:Int))/\∀(aV:List Int),aV=ab.kh (ab.val a*(2:Nat)^Int.toNat (aT x)) (List.length a+(1:Nat))->(ab.bC b/\(0:Int)<=aT x/\aT x<(32:Int))/\∀(aS:List Int),aS=ab.kh (ab.val b*(2:Nat)^Int.toNat (aT x)) (List.length b+(1:Nat))->(ab.bK aS/\List.length aS<=(1000000000:Nat))/\∀(bo:List Int),bo=ab.aQ (ab.val aS)->(0:Int)<=ah (aO bo-(1:Int))/\ah (aO bo-(1:Int))<aO bo/\(0:Int)<=ah (aO bo-(2:Int))/\ah (aO bo-(2:Int))<aO bo/\(0:Int)<=ah (aO aV-aO bo)/\ah (aO aV-aO bo)<=ah (aO aV-aO bo)/\ah (aO aV-aO bo)*(4:Int)<=(281474976710656:Int)/\∃(aK:Int->List Int->List Int->Prop),∃(m:Int->List Int->List Int->Nat),((true,af.ad IntKind.u32 aS)=(true,af.ad IntKind.u32 aS)/\aK (ah (aO (List.replicate (Int.toNat (ah (aO aV-aO bo))) (0:Int))-(1:Int))) aV (List.replicate (Int.toNat (ah (aO aV-aO bo))) (0:Int)))/\∀(v12:Int) (aq bl:List Int),aK v12 aq bl->(decide ((0:Int)<=v12)=true->(0:Int)<=ah (v12+aO bo)/\ah (v12+aO bo)<aO aq/\(0:Int)<=ah (ah (v12+aO bo)-(1:Int))/\ah (ah (v12+aO bo)-(1:Int))<aO aq/\¬aT (List.getD bo (Int.toNat (ah (aO bo-(1:Int)))) (0:Int))=(0:Int)/\¬aT (List.getD bo (Int.toNat (ah (aO bo-(1:Int)))) (0:Int))=(0:Int)/\∃(bm:Int->Prop),(∃(aK:Int->Int->Prop),∃(m:Int->Int->Nat),((false,af.ad IntKind.u32 aq)=(false,af.ad IntKind.u32 aq)/\(true,af.ad IntKind.u32 aS)=(true,af.ad IntKind.u32 aS)/\(false,af.ad IntKind.u32 bl)=(false,af.ad IntKind.u32 bl)/\aK (aT (Int.tdiv (cL BinOp.or IntKind.u64 (aT (aT (List.getD aq (Int.toNat (ah (v12+aO bo))) (0:Int))*(4294967296:Int))) (aT (List.getD aq (Int.toNat (ah (ah (v12+aO bo)-(1:Int)))) (0:Int)))) (aT (List.getD bo (Int.toNat (ah (aO bo-(1:Int)))) (0:Int))))) (Int.tmod (cL BinOp.or IntKind.u64 (aT (aT (List.getD aq (Int.toNat (ah (v12+aO bo))) (0:Int))*(4294967296:Int))) (aT (List.getD aq (Int.toNat (ah (ah (v12+aO bo)-(1:Int)))) (0:Int)))) (aT (List.getD bo (Int.toNat (ah (aO bo-(1:Int)))) (0:Int)))))/\∀(cV bW:Int),aK cV bW->((!decide (Int.fdiv cV (4294967296:Int)=(0:Int)))=true->((!decide (Int.fdiv (aT (bW+aT (List.getD bo (Int.toNat (ah (aO bo-(1:Int)))) (0:Int)))) (4294967296:Int)=(0:Int)))=true->(false,af.ad IntKind.u32 aq)=(false,af.ad IntKind.u32 aq)/\(true,af.ad IntKind.u32 aS)=(true,af.ad IntKind.u32 aS)/\(false,af.ad IntKind.u32 bl)=(false,af.ad IntKind.u32 bl)/\bm (aT (cV-(1:Int))))/\((!decide (Int.fdiv (aT (bW+aT (List.getD bo (Int.toNat (ah (aO bo-(1:Int)))) (0:Int)))) (4294967296:Int)=(0:Int)))=false->(false,af.ad IntKind.u32 aq)=(false,af.ad IntKind.u32 aq)/\(true,af.ad IntKind.u32 aS)=(true,af.ad IntKind.u32 aS)/\(false,af.ad IntKind.u32 bl)=(false,af.ad IntKind.u32 bl)/\aK (aT (cV-(1:Int))) (aT (bW+aT (List.getD bo (Int.toNat (ah (aO bo-(1:Int)))) (0:Int))))/\m (aT (cV-(1:Int))) (aT (bW+aT (List.getD bo (Int.toNat (ah (aO bo-(1:Int)))) (0:Int))))<m cV bW))/\((!decide (Int.fdiv cV (4294967296:Int)=(0:Int)))=false->(0:Int)<=ah (ah (v12+aO bo)-(2:Int))/\ah (ah (v12+aO bo)-(2:Int))<aO aq/\(decide (cL BinOp.or IntKind.u64 (aT (bW*(4294967296:Int))) (aT (List.getD aq (Int.toNat (ah (ah (v12+aO bo)-(2:Int)))) (0:Int)))<aT (cV*aT (List.getD bo (Int.toNat (ah (aO bo-(2:Int)))) (0:Int))))=true->((!decide (Int.fdiv (aT (bW+aT (List.getD bo (Int.toNat (ah (aO bo-(1:Int)))) (0:Int)))) (4294967296:Int)=(0:Int)))=true->(false,af.ad IntKind.u32 aq)=(false,af.ad IntKind.u32 aq)/\(true,af.ad IntKind.u32 aS)=(true,af.ad IntKind.u32 aS)/\(false,af.ad IntKind.u32 bl)=(false,af.ad IntKind.u32 bl)/\bm (aT (cV-(1:Int))))/\((!decide (Int.fdiv (aT (bW+aT (List.getD bo (Int.toNat (ah (aO bo-(1:Int)))) (0:Int)))) (4294967296:Int)=(0:Int)))=false->(false,af.ad IntKind.u32 aq)=(false,af.ad IntKind.u32 aq)/\(true,af.ad IntKind.u32 aS)=(true,af.ad IntKind.u32 aS)/\(false,af.ad IntKind.u32 bl)=(false,af.ad IntKind.u32 bl)/\aK (aT (cV-(1:Int))) (aT (bW+aT (List.getD bo (Int.toNat (ah (aO bo-(1:Int)))) (0:Int))))/\m (aT (cV-(1:Int))) (aT (bW+aT (List.getD bo (Int.toNat (ah (aO bo-(1:Int)))) (0:Int))))<m cV bW))/\(decide (cL BinOp.or IntKind.u64 (aT (bW*(4294967296:Int))) (aT (List.getD aq (Int.toNat (ah (ah (v12+aO bo)-(2:Int)))) (0:Int)))<aT (cV*aT (List.getD bo (Int.toNat (ah (aO bo-(2:Int)))) (0:Int))))=false->(false,af.ad IntKind.u32 aq)=(false,af.ad IntKind.u32 aq)/\(true,af.ad IntKind.u32 aS)=(true,af.ad IntKind.u32 aS)/\(false,af.ad IntKind.u32 bl)=(false,af.ad IntKind.u32 bl)/\bm cV)))/\∀(cV:Int),bm cV->∃(fk:Int->Int->Int->List Int->List Int->Prop),∃(fh:Int->Int->Int->List Int->List Int->Nat),((true,af.ad IntKind.u32 aS)=(true,af.ad IntKind.u32 aS)/\fk (0:Int) (0:Int) (0:Int) aq bl)/\∀(m9 fD il:Int) (bJ xb:List Int),fk m9 fD il bJ xb->(decide (il<aO bo)=true->(0:Int)<=il/\il<aO bo/\(0:Int)<=ah (v12+il)/\ah (v12+il)<aO bJ/\(0:Int)<=ah (v12+il)/\ah (v12+il)<aO bJ/\(true,af.ad IntKind.u32 aS)=(true,af.ad IntKind.u32 aS)/\fk (Int.fdiv (aT (aT (aT (List.getD bJ (Int.toNat (ah (v12+il))) (0:Int))-cL BinOp.and IntKind.u64 (aT (fD+aT (cV*aT (List.getD bo (Int.toNat il) (0:Int))))) (4294967295:Int))-m9)) (9223372036854775808:Int)) (Int.fdiv (aT (fD+aT (cV*aT (List.getD bo (Int.toNat il) (0:Int))))) (4294967296:Int)) (ah (il+(1:Int))) (List.set bJ (Int.toNat (ah (v12+il))) (bX (aT (aT (aT (List.getD bJ (Int.toNat (ah (v12+il))) (0:Int))-cL BinOp.and IntKind.u64 (aT (fD+aT (cV*aT (List.getD bo (Int.toNat il) (0:Int))))) (4294967295:Int))-m9)))) xb/\fh (Int.fdiv (aT (aT (aT (List.getD bJ (Int.toNat (ah (v12+il))) (0:Int))-cL BinOp.and IntKind.u64 (aT (fD+aT (cV*aT (List.getD bo (Int.toNat il) (0:Int))))) (4294967295:Int))-m9)) (9223372036854775808:Int)) (Int.fdiv (aT (fD+aT (cV*aT (List.getD bo (Int.toNat il) (0:Int))))) (4294967296:Int)) (ah (il+(1:Int))) (List.set bJ (Int.toNat (ah (v12+il))) (bX (aT (aT (aT (List.getD bJ (Int.toNat (ah (v12+il))) (0:Int))-cL BinOp.and IntKind.u64 (aT (fD+aT (cV*aT (List.getD bo (Int.toNat il) (0:Int))))) (4294967295:Int))-m9)))) xb<fh m9 fD il bJ xb)/\(decide (il<aO bo)=false->(0:Int)<=ah (v12+aO bo)/\ah (v12+aO bo)<aO bJ/\(0:Int)<=ah (v12+aO bo)/\ah (v12+aO bo)<aO bJ/\∃(bm:Int->List Int->List Int->Prop),(((!decide (Int.fdiv (aT (aT (aT (List.getD bJ (Int.toNat (ah (v12+aO bo))) (0:Int))-fD)-m9)) (9223372036854775808:Int)=(0:Int)))=true->∃(aK:Int->Int->List Int->List Int->Prop),∃(m:Int->Int->List Int->List Int->Nat),((true,af.ad IntKind.u32 aS)=(true,af.ad IntKind.u32 aS)/\aK (0:Int) (0:Int) (List.set bJ (Int.toNat (ah (v12+aO bo))) (bX (aT (aT (aT (List.getD bJ (Int.toNat (ah (v12+aO bo))) (0:Int))-fD)-m9)))) xb)/\∀(fD i_:Int) (aq bl:List Int),aK fD i_ aq bl->(decide (i_<aO bo)=true->(0:Int)<=i_/\i_<aO bo/\(0:Int)<=ah (v12+i_)/\ah (v12+i_)<aO aq/\(0:Int)<=ah (v12+i_)/\ah (v12+i_)<aO aq/\(true,af.ad IntKind.u32 aS)=(true,af.ad IntKind.u32 aS)/\aK (Int.fdiv (aT (fD+aT (aT (List.getD aq (Int.toNat (ah (v12+i_))) (0:Int))+aT (List.getD bo (Int.toNat i_) (0:Int))))) (4294967296:Int)) (ah (i_+(1:Int))) (List.set aq (Int.toNat (ah (v12+i_))) (bX (aT (fD+aT (aT (List.getD aq (Int.toNat (ah (v12+i_))) (0:Int))+aT (List.getD bo (Int.toNat i_) (0:Int))))))) bl/\m (Int.fdiv (aT (fD+aT (aT (List.getD aq (Int.toNat (ah (v12+i_))) (0:Int))+aT (List.getD bo (Int.toNat i_) (0:Int))))) (4294967296:Int)) (ah (i_+(1:Int))) (List.set aq (Int.toNat (ah (v12+i_))) (bX (aT (fD+aT (aT (List.getD aq (Int.toNat (ah (v12+i_))) (0:Int))+aT (List.getD bo (Int.toNat i_) (0:Int))))))) bl<m fD i_ aq bl)/\(decide (i_<aO bo)=false->(0:Int)<=ah (v12+aO bo)/\ah (v12+aO bo)<aO aq/\(0:Int)<=ah (v12+aO bo)/\ah (v12+aO bo)<aO aq/\(true,af.ad IntKind.u32 aS)=(true,af.ad IntKind.u32 aS)/\bm (aT (cV-(1:Int))) (List.set aq (Int.toNat (ah (v12+aO bo))) (bX (List.getD aq (Int.toNat (ah (v12+aO bo))) (0:Int)+bX fD))) bl))/\((!decide (Int.fdiv (aT (aT (aT (List.getD bJ (Int.toNat (ah (v12+aO bo))) (0:Int))-fD)-m9)) (9223372036854775808:Int)=(0:Int)))=false->(true,af.ad IntKind.u32 aS)=(true,af.ad IntKind.u32 aS)/\bm cV (List.set bJ (Int.toNat (ah (v12+aO bo))) (bX (aT (aT (aT (List.getD bJ (Int.toNat (ah (v12+aO bo))) (0:Int))-fD)-m9)))) xb))/\∀(cV:Int) (d_ EW:List Int),bm cV d_ EW->(0:Int)<=v12/\v12<aO EW/\(true,af.ad IntKind.u32 aS)=(true,af.ad IntKind.u32 aS)/\aK (ah (v12-(1:Int))) d_ (List.set EW (Int.toNat v12) (bX cV))/\m (ah (v12-(1:Int))) d_ (List.set EW (Int.toNat v12) (bX cV))<m v12 aq bl))/\(decide ((0:Int)<=v12)=false->(0:Int)<=aO bo/\aO bo<=aO bo/\aO bo*(4:Int)<=(281474976710656:Int)/\∃(aK:Int->List Int->List Int->List Int->Prop),∃(m:Int->List Int->List Int->List Int->Nat),((true,af.ad IntKind.u32 aS)=(true,af.ad IntKind.u32 aS)/\aK (0:Int) aq bl (List.replicate (Int.toNat (aO bo)) (0:Int)))/\∀(ki:Int) (aq bl cO:List Int),aK ki aq bl cO->(decide (ki<aO bo)=true->(0:Int)<=ah (ki+(1:Int))/\ah (ki+(1:Int))<aO aq/\(0:Int)<=ki/\ki<aO aq/\(0:Int)<=aT x/\(0:Int)<=ki/\ki<aO cO/\(true,af.ad IntKind.u32 aS)=(true,af.ad IntKind.u32 aS)/\aK (ah (ki+(1:Int))) aq bl (List.set cO (Int.toNat ki) (bX (Int.fdiv (cL BinOp.or IntKind.u64 (aT (aT (List.getD aq (Int.toNat (ah (ki+(1:Int)))) (0:Int))*(4294967296:Int))) (aT (List.getD aq (Int.toNat ki) (0:Int)))) ((2:Int)^min (Int.toNat (aT x)) (64:Nat)))))/\m (ah (ki+(1:Int))) aq bl (List.set cO (Int.toNat ki) (bX (Int.fdiv (cL BinOp.or IntKind.u64 (aT (aT (List.getD aq (Int.toNat (ah (ki+(1:Int)))) (0:Int))*(4294967296:Int))) (aT (List.getD aq (Int.toNat ki) (0:Int)))) ((2:Int)^min (Int.toNat (aT x)) (64:Nat)))))<m ki aq bl cO)/\(decide (ki<aO bo)=false->(ab.bK bl/\List.length bl<=(1000000000:Nat))/\∀(x:List Int),x=ab.aQ (ab.val bl)->(ab.bK cO/\List.length cO<=(1000000000:Nat))/\∀(cp:List Int),cp=ab.aQ (ab.val cO)->K (J.tup [J.d (R.ad IntKind.u32 x),J.d (R.ad IntKind.u32 cp)])))
end ab
end
section
open Go Go.al
namespace ab
def lm (a:List Int)(i:Nat):Nat:=(a.getD i 0).toNat
theorem ik {a:List Int}(h:bK a)(i:Nat):a.getD i 0=(lm a i:Int):=by
 have:=h i;unfold lm;omega
theorem fO {a:List Int}(h:bK a)(i:Nat):lm a i<4294967296:=by
 have:=h i;unfold lm;omega
theorem mo (a:List Int)(i:Nat):ew a i=lm a i+4294967296*ew a (i+1):=n2 a i
theorem HE {a:List Int}(h:bK a)(i m:Nat):∃l,ew a i=l+4294967296^m*ew a (i+m)/\l<4294967296^m:=by
 refine⟨dt (a.drop i) m, ?_,rp (h.drop i) m⟩;have:=mn (a.drop i) m;unfold ew at this⊢;rw[List.drop_drop]at this;exact this
theorem Im {a:List Int}(h:bK a)(i:Nat):val a/4294967296^i=ew a i:=by
 rw[mn a i,Nat.add_mul_div_left _ _ (Nat.pow_pos (by decide)),aqf (rp h i),ao8]
theorem HF {a:List Int}{i V:Nat}(aP:val a<4294967296^i*V):ew a i<V:=by
 have:=mn a i;refine apX (a:=4294967296^i) ?_;omega
theorem xs {u l b:Int}(hu:0<=u/\u<4294967296)(ax:0<=l/\l<4294967296)(ag:0<=b/\b<=1):
 Int.fdiv (IntKind.wrap .u64 (IntKind.wrap .u64 (IntKind.wrap .u64 u-l)-b)) 9223372036854775808=(if u-l-b<0 then 1 else 0)/\
 IntKind.wrap .u32 (IntKind.wrap .u64 (IntKind.wrap .u64 (IntKind.wrap .u64 u-l)-b))=(u-l-b)%4294967296:=by
 rw[Ix u,Ix,Ix,ke,apg _ (by omega)];refine⟨?_,by omega⟩;split<;>omega
theorem Rq {p:Nat}(aE:p<18446744073709551616):cL .and .u64 (p:Int) 4294967295=((p%4294967296:Nat):Int):=by
 have aA:((BitVec.ofInt 64 (p:Int))&&&(BitVec.ofInt 64 4294967295)).toNat=p%4294967296:=by
  have:(4294967295:Int)=((2^32-1:Nat):Int):=rfl;rw[this,BitVec.toNat_and,aqt,aqt,aqN,aqN,apv (by omega),apv (by omega),Nat.and_two_pow_sub_one_eq_mod]
 show IntKind.wrap .u64 _=_;have aL:((BitVec.ofInt (IntKind.u64).bits (p:Int))&&&(BitVec.ofInt (IntKind.u64).bits 4294967295)).toNat=p%4294967296:=aA;have:p%4294967296<4294967296:=aph _ (by decide);rw[aL,cP (by omega)]
theorem Iz {h l:Nat}(b6:h<4294967296)(ax:l<4294967296):cL .or .u64 (IntKind.wrap .u64 (IntKind.wrap .u64 (h:Int)*4294967296)) (IntKind.wrap .u64 (l:Int))=((h*4294967296+l:Nat):Int):=by
 rw[cP (x:=(h:Int)) (by omega),cP (x:=(h:Int)*4294967296) (by omega),cP (x:=(l:Int)) (by omega),zb ⟨by omega,by omega⟩ ⟨by omega,by omega⟩];omega
theorem MP {ib kz A k:Nat}(ae:k<32):(kz*4294967296+ib)/2^k%4294967296=(ib+4294967296*(kz+4294967296*A))/2^k%4294967296:=by
 have aE:=apw k
 have U:ib+4294967296*(kz+4294967296*A)=kz*4294967296+ib+2^k*(4294967296*(2^(32-k)*A)):=by
  have e:2^k*(4294967296*(2^(32-k)*A))=4294967296*(4294967296*A):=by
   have aL:2^k*2^(32-k)=4294967296:=by rw[<-api,show k+(32-k)=32 by omega]
   rw[apC,<-apa (2^k),aL]
  rw[e];omega
 rw[U,Nat.add_mul_div_left _ _ aE,Nat.add_mul_mod_self_left]
theorem Pz {b:List Int}(ag:bK b)(av:Norm b)(aa:2<=b.length):
 0<lm b (b.length-1)/\c4 (lm b (b.length-1))<=32/\0<c4 (lm b (b.length-1))/\
 val b*2^(32-c4 (lm b (b.length-1)))<4294967296^b.length/\2147483648*4294967296^(b.length-1)<=val b*2^(32-c4 (lm b (b.length-1))):=by
 have tj:lm b (b.length-1)≠0:=fun bc=>by
  apply av;have az:=ag (b.length-1);unfold lm at bc;have aW:b.getD (b.length-1) 0=0:=by omega
  rw[List.getLast?_eq_getElem?];rw[aoA,aoM (by omega)]at aW;rw[aoM (by omega)];exact apb some aW
 have bG:=fO ag (b.length-1);have ajq:=wE (n:=lm b (b.length-1)) (k:=32) (by omega);obtain⟨cZ,di,jd⟩:=vU tj;have aP:=mn b (b.length-1);have nB:=rp ag (b.length-1);rw[mo,show b.length-1+1=b.length by omega,oZ b (aoE _),ao4,aoW]at aP;refine⟨by omega,ajq,jd, ?_, ?_⟩
 ·have bA:val b<4294967296^(b.length-1)*2^c4 (lm b (b.length-1)):=by
   have:=apc (4294967296^(b.length-1)) (show lm b (b.length-1)+1<=2^c4 (lm b (b.length-1)) by omega);rw[aoO,ao6]at this;omega
  have bZ:=aqO bA (apw (32-c4 (lm b (b.length-1))));rw[apa,<-api,show c4 (lm b (b.length-1))+(32-c4 (lm b (b.length-1)))=32 by omega]at bZ
  have fo:4294967296^b.length=4294967296^(b.length-1)*2^32:=by
   have:b.length=b.length-1+1:=by omega
   rw[this,ao2];rfl
  rw[fo];exact bZ
 ·have bA:4294967296^(b.length-1)*2^(c4 (lm b (b.length-1))-1)<=val b:=by
   have:=apc (4294967296^(b.length-1)) cZ;omega
  have bZ:=aoP (2^(32-c4 (lm b (b.length-1)))) bA;rw[apa,<-api,show c4 (lm b (b.length-1))-1+(32-c4 (lm b (b.length-1)))=31 by omega]at bZ;rw[ao9 2147483648];exact bZ
structure aml (u v:List Int)(n j V F t s iO D:Nat)(p lv l0:Nat):Prop where
 jN:V=lv+p*(s+4294967296*t)
 oF:D=l0+p*(iO+4294967296*F)
 rU:lv<p
 qu:l0<p
 au:0<t
 s_:t<4294967296
 ay:s<4294967296
 vi:iO<4294967296
 xB:D<4294967296*V
 nM:F<t*4294967296+4294967296
theorem QA {u v:List Int}{n j V:Nat}(hu:bK u)(aP:bK v)(nG:v.length=n)(av:2<=n)(jN:val v=V)(pr:2147483648*4294967296^(n-1)<=V)(bG:val u<4294967296^(j+1)*V):
 ∃p lv l0,aml u v n j V (lm u (j+n)*4294967296+lm u (j+n-1)) (lm v (n-1)) (lm v (n-2)) (lm u (j+n-2)) (ew u j) p lv l0:=by
 obtain⟨lv,aA,aL⟩:=HE aP 0 (n-2);obtain⟨l0,f1,f2⟩:=HE hu j (n-2);have an1:=HF bG;have JG:V<4294967296^n:=by rw[<-jN,<-nG];exact iD aP
 rw[yY,jN,ao8,mo,show n-2+1=n-1 by omega,mo,show n-1+1=n by omega,oZ v (by omega),ao4,aoW]at aA
 have bq:ew u (j+n+1)=0:=by
  have U:val u<4294967296^(j+n+1)*1:=by
   rw[ao6,show j+n+1=j+1+n by omega,api];exact aoV bG (apc _ (Nat.le_of_lt JG))
  have:=HF U;omega
 have g1:ew u (j+(n-2))=lm u (j+n-2)+4294967296*(lm u (j+n)*4294967296+lm u (j+n-1)):=by
  rw[mo u (j+(n-2)),show j+(n-2)+1=j+n-1 by omega,mo u (j+n-1),show j+n-1+1=j+n by omega,mo u (j+n),bq,show j+(n-2)=j+n-2 by omega];omega
 have xB:ew u j<4294967296*V:=by
  have:=mo u j;have:=fO hu j;omega
 have ajr:0<lm v (n-1):=by
  rcases ap6 (lm v (n-1))with bc|bc
  ·exfalso;rw[bc]at aA;have ay:=fO aP (n-2)
   have az:4294967296^(n-2)*(lm v (n-2)+4294967296*0)+4294967296^(n-2)<=4294967296^(n-2)*4294967296:=by
    have:=apc (4294967296^(n-2)) (show lm v (n-2)+4294967296*0+1<=4294967296 by omega);rw[aoO _ _ 1,ao6]at this;exact this
   rw[<-ao2,show(n-2).succ=n-1 by omega]at az;have:1*4294967296^(n-1)<=2147483648*4294967296^(n-1):=aoP _ (by decide);omega
  ·exact bc
 refine⟨4294967296^(n-2),lv,l0,aA,by rw[f1,g1],aL,f2,ajr,fO aP _,fO aP _,fO hu _,xB, ?_⟩;have aW:ew u (j+1)=ew u (j+1):=rfl;obtain⟨dh,a6,bj⟩:=HE hu (j+1) (n-1);rw[show j+1+(n-1)=j+n by omega,mo u (j+n),bq,ao4,aoW (lm u (j+n))]at a6
 have an2:V<4294967296^(n-1)*(lm v (n-1)+1):=by
  have b3:V+4294967296^(n-2)*1<=4294967296^(n-2)*(4294967296*(lm v (n-1)+1))+lv:=by
   have:=apc (4294967296^(n-2)) (show lm v (n-2)+4294967296*lm v (n-1)+1<=4294967296*(lm v (n-1)+1) by have:=fO aP (n-2);omega);rw[aoO _ _ 1]at this;omega
  have cX:4294967296^(n-1)*(lm v (n-1)+1)=4294967296^(n-2)*(4294967296*(lm v (n-1)+1)):=by
   rw[show n-1=n-2+1 by omega,ao2,apa]
  rw[cX];omega
 have bA:lm u (j+n)<lm v (n-1)+1:=by
  refine apX (a:=4294967296^(n-1)) ?_;omega
 have:=fO hu (j+n-1);have:lm u (j+n)*4294967296<=lm v (n-1)*4294967296:=aoP _ (by omega);omega
theorem Io {h l:Nat}(b6:h<4294967296)(ax:l<4294967296):cL .or .u64 (IntKind.wrap .u64 ((h:Int)*4294967296)) (IntKind.wrap .u64 (l:Int))=((h*4294967296+l:Nat):Int):=by
 rw[cP (x:=(h:Int)*4294967296) (by omega),cP (x:=(l:Int)) (by omega),zb ⟨by omega,by omega⟩ ⟨by omega,by omega⟩];omega
theorem QB {tJ tI gm w A fl st UH C B S:Nat}(a1:tJ+w*fl=tI+w*st)(a2:tI+A=gm+w*(C+B))(a3:st+UH+(C+B)=fl+4294967296*S):tJ+(A+w*UH)=gm+w*(4294967296*S):=by
 have h:=apb (w*·) a3;simp only[aoO]at h a2⊢;omega
theorem QC {UI UJ v2 w A fl st d C T:Nat}(a1:UJ+w*fl=UI+w*st)(a2:UI+w*C=v2+A)(a3:st+4294967296*T=C+fl+d):UJ+w*(4294967296*T)=v2+(A+w*d):=by
 have h:=apb (w*·) a3;simp only[aoO]at h;omega
theorem adx {v1 v2 gm w y C B G V dz l D:Nat}(e:v1+dz*(G*V)=gm+w*(C+B))(ay:v2+w*y=v1+w*(y-C-B))(bp:C+B<=y)(oo:gm=l+dz*D)(ax:l<dz)(rV:D<(G+1)*V):
 v2+dz*(G*V)=gm/\v2<dz*V:=by
 have U:w*y=w*(y-C-B)+w*(C+B):=by rw[<-aoO];congr 1;omega
 have aa:v2+dz*(G*V)=gm:=by omega
 refine⟨aa, ?_⟩;have az:=apc dz (show D+1<=(G+1)*V from rV);rw[aoT,apM,aoO,aoO,ao6]at az;omega
theorem ady {v1 v2 gm w y C B G V dz l D:Nat}(e:v1+dz*(G*V)=gm+w*(C+B))(ay:v2+w*y=v1+w*(y+4294967296-C-B))(_:y<C+B)(l1:C+B<=4294967296)(aa:v2<w*4294967296)(oo:gm=l+dz*D)(z_:G*V<=D+V):
 v2+dz*(G*V)=gm+w*4294967296/\1<=G/\gm<dz*(G*V)/\dz*((G-1)*V)<=gm/\dz*(G*V)=dz*((G-1)*V)+dz*V:=by
 have U:w*(y+4294967296-C-B)+w*(C+B)=w*y+w*4294967296:=by rw[<-aoO,<-aoO];congr 1;omega
 have az:v2+dz*(G*V)=gm+w*4294967296:=by omega
 have ia:1<=G:=by
  rcases ap6 G with bc|bc
  ·rw[bc,apT,ao4]at az;omega
  ·exact bc
 have aW:G*V=(G-1)*V+V:=by rw[<-Nat.succ_mul];congr 1;omega
 have bA:dz*(G*V)=dz*((G-1)*V)+dz*V:=by rw[aW,aoO]
 refine⟨az,ia,by omega, ?_,bA⟩;have bZ:(G-1)*V<=D:=by omega
 have:=apc dz bZ;omega
theorem abV {v2 v3 v4 gm w y C G V dz low:Nat}(az:v2+dz*(G*V)=gm+w*4294967296)(bA:dz*(G*V)=dz*((G-1)*V)+dz*V)(bZ:dz*((G-1)*V)<=gm)(fo:gm<dz*(G*V))
 (aR:v3+w*C=v2+dz*V) (I0:v3=low+w*y) (ax:low<w) (bp:y<4294967296) (l1:C<=1) (ay:v4+w*y=v3):
 y+C=4294967296/\v4+dz*((G-1)*V)=gm/\v4<dz*V:=by
 have dc:v3+w*C+dz*((G-1)*V)=gm+w*4294967296:=by omega
 have ky:y+C=4294967296:=by
  refine Nat.le_antisymm (by omega) (Nat.le_of_not_lt fun bG=> ?_);have:=apc w (show y+C+1<=4294967296 by omega);rw[aoO,aoO,ao6]at this;omega
 have Fh:w*y+w*C=w*4294967296:=by rw[<-aoO,ky]
 refine⟨ky,by omega,by omega⟩
end ab
end
section
open Go Go.al
namespace ab
structure ajs (u cY:List Int)(j n V Q:Nat):Prop where
 Tz:bK cY
 len:cY.length=u.length
 ajt:Q<4294967296
 eq:val cY+4294967296^j*(Q*V)=val u
 lt:val cY<4294967296^j*V
set_option maxHeartbeats 1000000 in
theorem adz (a b:List Int)(K:J->Prop)(h:DV.T [.d (.ad .u32 a), .d (.ad .u32 b)] K):Py a b K:=by
 obtain⟨⟨aR,ag,xz,tg,ep,hle⟩,ae⟩:=h;have hb:=aR.2;have k2:=ag.2;obtain⟨e9,hM,xR,ni,oI⟩:=Pz ag.1 tg ep;unfold Py ah aT bX aO;have aA:IntKind.wrap .i64 ((Nat.cast:Nat->Int) b.length-1)=((b.length-1:Nat):Int):=by rw[bR (by omega)];omega
 rw[aA,aoB,ik ag.1,aoB];have JI:=fO ag.1 (b.length-1);refine⟨by omega,by omega,⟨by omega,by omega⟩, ?_⟩;rintro x rfl
 obtain⟨k,tp⟩:∃k,32-c4 (lm b (b.length-1))=k:=⟨_,rfl⟩
 rw[tp]at ni oI;have EX:k<32:=by omega
 have aL:IntKind.wrap .u64 (32-(c4 (lm b (b.length-1)):Int))=(k:Int):=by rw[cP (by omega)];omega
 rw[aL];simp only[aoB]
 have JJ:2^k<=2147483648:=by
  have:=apf (show 0<2 by decide) (show k<=31 by omega);exact this
 have IA:4294967296^(b.length-1)<=val b:=by
  have U:=mn b (b.length-1);rw[mo]at U;have aa:=apc (4294967296^(b.length-1)) (show 1<=lm b (b.length-1)+4294967296*ew b (b.length-1+1) by omega);omega
 have hlen:b.length<=a.length:=by
  have U:=iD aR.1;have aa:4294967296^(b.length-1)<4294967296^a.length:=by omega
  have:=(Nat.pow_lt_pow_iff_right (by decide:1<4294967296)).1 aa;omega
 refine⟨⟨aR,by omega,by omega⟩, ?_⟩;rintro ib tq;refine⟨⟨ag,by omega,by omega⟩, ?_⟩;rintro v0 jb
 have xc:val v0=val b*2^k:=by
  rw[jb];refine yu _ _ (aoV ni (apf (by decide) (by omega)))
 have s3:val ib=val a*2^k:=by
  rw[tq];refine yu _ _ ?_;rw[ao2];exact Nat.mul_lt_mul'' (iD aR.1) (by omega)
 have I1:bK ib:=tq▸yt _ _;have EY:bK v0:=jb▸yt _ _;have SA:ib.length=a.length+1:=by rw[tq,wk]
 have SB:v0.length=b.length+1:=by rw[jb,wk]
 refine⟨⟨EY,by omega⟩, ?_⟩;rintro v aP;have pv:val v=val b*2^k:=by rw[aP,ef,xc]
 have oq:bK v:=aP▸gq _
 have nG:v.length=b.length:=by
  rw[aP,xc];refine Nat.le_antisymm (hQ.2 ni) ?_;refine Nat.le_of_not_lt fun ai=> ?_;have U:=hQ.1 (show(aQ (val b*2^k)).length<=b.length-1 by omega);have aa:1*4294967296^(b.length-1)<=2147483648*4294967296^(b.length-1):=aoP _ (by decide);omega
 have jZ:val a/val b=val ib/val v:=by rw[s3,pv,Nat.mul_div_mul_right _ _ (apw k)]
 have h5:(val a%val b)*2^k=val ib%val v:=by rw[s3,pv,Nat.mul_mod_mul_right]
 have anB:0<val b:=aoV (Nat.pow_pos (by decide)) IA;have pr:2147483648*4294967296^(b.length-1)<=val v:=by rw[pv];exact oI
 have tr:val v<4294967296^b.length:=by rw[pv];exact ni
 have AN:val ib<4294967296^(a.length+1-b.length)*val v:=by
  rw[s3];have U:val a*2^k<4294967296^a.length*2147483648:=aoV (aqO (iD aR.1) (apw k)) (apc _ JJ);have aa:=apc (4294967296^(a.length+1-b.length)) pr;rw[apC,<-api,show a.length+1-b.length+(b.length-1)=a.length by omega,ao9 2147483648]at aa;exact aoV U aa
 rw[nG,SA];clear aP tq jb pv s3 xc ni oI IA hle aL aA tp e9 hM xR JI EY SB
 obtain⟨m,hm⟩:∃m,a.length+1-b.length=m:=⟨_,rfl⟩
 obtain⟨n,av⟩:∃n,b.length=n:=⟨_,rfl⟩
 have aju:1<=m:=by omega
 rw[hm]at AN;rw[av]at pr tr nG ep hlen⊢;have cX:IntKind.wrap .i64 ((n:Int)-1)=((n-1:Nat):Int):=by rw[bR (by omega)];omega
 have hn:IntKind.wrap .i64 ((n:Int)-2)=((n-2:Nat):Int):=by rw[bR (by omega)];omega
 have j6:IntKind.wrap .i64 (((a.length+1:Nat):Int)-(n:Int))=(m:Int):=by rw[bR (by omega)];omega
 rw[cX,hn,j6];simp only[aoB,aql]
 refine⟨by omega,by omega,by omega,by omega,by omega,by omega,by omega,fun j u q=>-1<=j/\j<m/\bK u/\u.length=m+n/\bK q/\q.length=m/\val ib=val q*val v+val u/\val u<4294967296^(j+1).toNat*val v/\∀p:Nat,(p:Int)<=j->q.getD p 0=0,
  fun j u q=>(j+1).toNat,⟨by first|rfl|trivial, ?_⟩, ?_⟩
 ·rw[bR (by omega)];refine⟨by omega,by omega,I1,by omega,bK.nm _,by simp,by rw[yg,apT,ao8], ?_,fun p _=>by simp[aoA,ap1];split<;>rfl⟩;rw[show((m:Int)-1+1).toNat=m by omega];exact AN
 rintro j u q ⟨xi,kq,hu,nx,a_,u6,heq,bG,Aa⟩;refine⟨fun aI=> ?_,fun aI=> ?_⟩
 ·simp only[aoD]at aI
  obtain⟨j,rfl⟩:∃i:Nat,j=i:=⟨j.toNat,by omega⟩
  rw[show((j:Int)+1).toNat=j+1 by omega]at bG;have mE:IntKind.wrap .i64 ((j:Int)+(n:Int))=((j+n:Nat):Int):=by rw[bR (by omega)];omega
  have lZ:IntKind.wrap .i64 (((j+n:Nat):Int)-1)=((j+n-1:Nat):Int):=by rw[bR (by omega)];omega
  have qz:IntKind.wrap .i64 (((j+n:Nat):Int)-2)=((j+n-2:Nat):Int):=by rw[bR (by omega)];omega
  rw[mE,lZ,qz];simp only[aoB];obtain⟨p,lv,l0,a8⟩:=QA (j:=j) hu oq nG ep rfl pr bG;simp only[ik hu,ik oq,Iz (fO hu (j+n)) (fO hu (j+n-1))];have Fz:IntKind.wrap .u64 ((lm v (n-1):Nat):Int)=((lm v (n-1):Nat):Int):=cP (by have:=a8.s_;omega);have FA:IntKind.wrap .u64 ((lm v (n-2):Nat):Int)=((lm v (n-2):Nat):Int):=cP (by have:=a8.ay;omega);simp only[Fz,FA]
  obtain⟨F,Ab⟩:∃F,lm u (j+n)*4294967296+lm u (j+n-1)=F:=⟨_,rfl⟩
  rw[Ab]at a8;simp only[Ab]
  have oF:∃D,ew u j=D:=⟨_,rfl⟩
  obtain⟨D,Ac⟩:=oF;rw[Ac]at a8
  obtain⟨t,rW⟩:∃t,lm v (n-1)=t:=⟨_,rfl⟩
  obtain⟨s,qv⟩:∃s,lm v (n-2)=s:=⟨_,rfl⟩
  obtain⟨iO,zt⟩:∃s,lm u (j+n-2)=s:=⟨_,rfl⟩
  rw[rW,qv,zt]at a8;rw[rW]at Fz;rw[qv]at FA;simp only[rW,qv,zt];obtain⟨jN,pw,rU,qu,au,s_,ay,vi,xB,nM⟩:=a8;have Kn:Int.tdiv (F:Int) (t:Int)=((F/t:Nat):Int):=by rw[aqY (by omega),aqr]
  have Ko:Int.tmod (F:Int) (t:Int)=((F%t:Nat):Int):=by rw[aqL (by omega),aqM]
  simp only[Kn,Ko];have ajv:F<18446744073709551616:=by omega
  have JK:F/t<=F:=aqZ _ _;have ajw:F%t<t:=aph _ au
  have AO:∀r6:Nat,r6<=F->IntKind.wrap .u64 (r6:Int)=(r6:Int):=fun r6 h=>cP (by omega)
  simp only[AO _ JK];refine⟨by omega,by omega,by omega,by omega,by omega,by omega,fun g=>∃G:Nat,g=G/\G<4294967296/\D<(G+1)*val v/\G*val v<=D+val v, ?_, ?_⟩
  ·refine⟨fun g r=>∃G bD:Nat,g=G/\r=bD/\t*G+bD=F/\bD<4294967296/\D<(G+1)*val v,fun g r=>g.toNat,⟨by first|rfl|trivial,by first|rfl|trivial,by first|rfl|trivial,F/t,F%t,rfl,rfl,aqe F t,by omega, ?_⟩, ?_⟩
   ·rw[pw,jN];exact(Pw (lv:=lv) (s:=s) rfl rfl au qu vi).1
   rintro g r ⟨G,bD,rfl,rfl,Ad,dH,rV⟩
   have ajx:G<=F:=by
    have:1*G<=t*G:=aoP _ au;omega
   have JL:IntKind.wrap .u64 ((bD:Int)+(t:Int))=((bD+t:Nat):Int):=by rw[cP (by omega)];omega
   have ajy:((bD+t:Nat):Int).fdiv 4294967296=((bD+t:Nat):Int)/4294967296:=apg _ (by omega);have ajz:(G:Int).fdiv 4294967296=(G:Int)/4294967296:=apg _ (by omega);simp only[JL,ajy,ajz];refine⟨fun ia=> ?_,fun ia=>⟨by omega,by omega, ?_⟩⟩
   ·have tt:¬((G:Int)/4294967296=0):=by simpa using ia
    have jW:D<G*val v:=aoV xB (aoP _ (by omega))
    have JM:1<=G:=by
     rcases ap6 G with bc|bc
     ·rw[bc,apT]at jW;omega
     ·exact bc
    have pF:IntKind.wrap .u64 ((G:Int)-1)=((G-1:Nat):Int):=by rw[cP (by omega)];omega
    have o8:t*(G-1)+(bD+t)=F:=by
     have:t*G=t*(G-1)+t:=by rw[<-Nat.mul_succ];congr 1;omega
     omega
    have o9:D<(G-1+1)*val v:=by rw[show G-1+1=G by omega];exact jW
    simp only[pF];refine⟨fun an=>⟨by first|rfl|trivial,by first|rfl|trivial,by first|rfl|trivial,G-1,rfl, ?_,o9, ?_⟩,fun an=>⟨by first|rfl|trivial,by first|rfl|trivial,by first|rfl|trivial,⟨G-1,bD+t,rfl,rfl,o8, ?_,o9⟩, ?_⟩⟩
    ·have vj:¬(((bD+t:Nat):Int)/4294967296=0):=by simpa using an
     refine apX (a:=t) ?_;omega
    ·have vj:¬(((bD+t:Nat):Int)/4294967296=0):=by simpa using an
     have lS:G-1<4294967296:=by
      refine apX (a:=t) ?_;omega
     have j0:(G-1)*s<=(bD+t)*4294967296+iO:=by
      have U:(G-1)*s<=4294967296*4294967296:=ap7 (by omega) (by omega);have aa:4294967296*4294967296<=(bD+t)*4294967296:=aoP _ (by omega);omega
     rw[pw,jN];exact wj o8 au rU lS j0
    ·have vj:((bD+t:Nat):Int)/4294967296=0:=by simpa using an
     omega
    ·show((G-1:Nat):Int).toNat<(G:Int).toNat;omega
   ·have tt:(G:Int)/4294967296=0:=by simpa using ia
    have Kp:IntKind.wrap .u64 ((G:Int)*(s:Int))=((G*s:Nat):Int):=by
     have:G*s<=4294967295*4294967295:=ap7 (by omega) (by omega);rw[<-apK,cP ⟨apx _,by omega⟩]
    have Kq:=Io (h:=bD) (l:=iO) dH vi;simp only[Kp,Kq];refine⟨fun aC=> ?_,fun aC=>⟨by first|rfl|trivial,by first|rfl|trivial,by first|rfl|trivial,G,rfl,by omega,rV, ?_⟩⟩
    ·simp only[aoD,ap8]at aC;have jW:D<G*val v:=by rw[pw,jN];exact Px Ad qu aC
     have JM:1<=G:=by
      rcases ap6 G with bc|bc
      ·rw[bc,apT]at jW;omega
      ·exact bc
     have pF:IntKind.wrap .u64 ((G:Int)-1)=((G-1:Nat):Int):=by rw[cP (by omega)];omega
     have o8:t*(G-1)+(bD+t)=F:=by
      have:t*G=t*(G-1)+t:=by rw[<-Nat.mul_succ];congr 1;omega
      omega
     have o9:D<(G-1+1)*val v:=by rw[show G-1+1=G by omega];exact jW
     simp only[pF];refine⟨fun an=>⟨by first|rfl|trivial,by first|rfl|trivial,by first|rfl|trivial,G-1,rfl, ?_,o9, ?_⟩,fun an=>⟨by first|rfl|trivial,by first|rfl|trivial,by first|rfl|trivial,⟨G-1,bD+t,rfl,rfl,o8, ?_,o9⟩, ?_⟩⟩
     ·have vj:¬(((bD+t:Nat):Int)/4294967296=0):=by simpa using an
      refine apX (a:=t) ?_;omega
     ·have vj:¬(((bD+t:Nat):Int)/4294967296=0):=by simpa using an
      have lS:G-1<4294967296:=by
       refine apX (a:=t) ?_;omega
      have j0:(G-1)*s<=(bD+t)*4294967296+iO:=by
       have U:(G-1)*s<=4294967296*4294967296:=ap7 (by omega) (by omega);have aa:4294967296*4294967296<=(bD+t)*4294967296:=aoP _ (by omega);omega
      rw[pw,jN];exact wj o8 au rU lS j0
     ·have vj:((bD+t:Nat):Int)/4294967296=0:=by simpa using an
      omega
     ·show((G-1:Nat):Int).toNat<(G:Int).toNat;omega
    ·simp only[aoC,ap8]at aC;rw[pw,jN];exact wj Ad au rU (by omega) (by omega)
  ·rintro g ⟨G,rfl,tt,rV,z_⟩
   have oo:∃l,val u=l+4294967296^j*D/\l<4294967296^j:=⟨dt u j,by rw[<-Ac];exact mn u j,rp hu j⟩
   obtain⟨l,oo,ax⟩:=oo
   have bq:∀p,j+n<p->u.getD p 0=0:=fun p aE=>by
    refine Qy hu (m:=j+n+1) ?_ p (by omega);rw[show j+n+1=j+1+n by omega,api];exact aoV bG (apc _ (Nat.le_of_lt tr))
   refine⟨fun AP c i cY nH=>nH=q/\bK cY/\cY.length=m+n/\∃C B i0:Nat,AP=B/\c=C/\i=i0/\i0<=n/\B<=1/\C<4294967296/\val cY+4294967296^j*(G*dt v i0)=val u+4294967296^(j+i0)*(C+B)/\∀p,j+n<p->cY.getD p 0=0,
    fun _ _ i _ _=>n-i.toNat,⟨by first|rfl|trivial,rfl,hu,nx,0,0,0,rfl,rfl,rfl,by omega,by omega,by omega,by rw[iC,ao4,ao4,ao4],bq⟩, ?_⟩
   rintro AP c i cY nH ⟨rfl,jn,uZ,C,B,i,rfl,rfl,rfl,ff,ey,l1,jy,dr⟩;refine⟨fun h=> ?_,fun h=> ?_⟩
   ·simp only[aoD]at h;have Kr:IntKind.wrap .i64 ((j:Int)+(i:Int))=((j+i:Nat):Int):=by rw[bR (by omega)];omega
    have Ae:IntKind.wrap .i64 ((i:Int)+1)=((i+1:Nat):Int):=by rw[bR (by omega)];omega
    simp only[Kr,Ae,aoB,ik jn];have po:=fO oq i;have zu:=fO jn (j+i)
    obtain⟨d,kt⟩:∃d,lm v i=d:=⟨_,rfl⟩
    obtain⟨fl,mz⟩:∃d,lm cY (j+i)=d:=⟨_,rfl⟩
    rw[kt]at po;rw[mz]at zu;simp only[kt,mz];obtain⟨t1,lo,tK,st,ng,I2,FB,hJ,t2,cN,zn,tu,ot,t4⟩:=OA (g:=G) (d:=d) (c:=C) (b:=B) (u:=fl) tt po l1 ey zu;have ajA:G*d<=4294967295*4294967295:=ap7 (by omega) (by omega);have w1:IntKind.wrap .u64 (d:Int)=(d:Int):=cP (by omega);have db:IntKind.wrap .u64 ((G:Int)*(d:Int))=((G*d:Nat):Int):=by rw[<-apK,cP ⟨apx _,by omega⟩]
    have bX:IntKind.wrap .u64 ((C:Int)+((G*d:Nat):Int))=((C+G*d:Nat):Int):=by rw[<-aqT,cP ⟨apx _,by omega⟩]
    have j_:=Rq t1;rw[I2]at j_;have xS:((C+G*d:Nat):Int).fdiv 4294967296=(((C+G*d)/4294967296:Nat):Int):=by rw[apg _ (by omega),aqr];rfl
    obtain⟨cH,cz⟩:=xs (u:=(fl:Int)) (l:=(lo:Int)) (b:=(B:Int)) (by omega) (by omega) (by omega);rw[tu]at cH;rw[cN]at cz;rw[FB]at xS;simp only[w1,db,bX,j_,xS,cH,cz];have ks:=l_ cY (j+i) (st:Int) (by omega);rw[show(cY.getD (j+i) 0).toNat=fl from mz,aoB]at ks;have nB:dt v (i+1)=dt v i+4294967296^i*d:=by rw[gr,show(v.getD i 0).toNat=d from kt]
    have kj:=QB ks jy t4;refine⟨by omega,by omega,by omega,by omega,by omega,by omega,by first|rfl|trivial,⟨by first|rfl|trivial,jn.set _ ⟨by omega,by omega⟩,by rw[aoI];exact uZ,tK,ng,i+1,rfl,rfl,rfl,by omega,ot,t2, ?_,fun p aE=> ?_⟩,by show n-((i+1:Nat):Int).toNat<n-(i:Int).toNat;omega⟩
    ·have pk:4294967296^j*(G*dt v (i+1))=4294967296^j*(G*dt v i)+4294967296^(j+i)*(G*d):=by
      rw[nB,aoO,aoO,api,apC G,apa]
     have vk:4294967296^(j+(i+1))*(tK+ng)=4294967296^(j+i)*(4294967296*(tK+ng)):=by
      rw[<-apy,ao2,apa]
     rw[pk,vk];exact kj
    ·rw[eu,aox (by omega)];exact dr p aE
   ·simp only[aoC]at h;obtain rfl:i=n:=by omega
    rw[ht v (by omega)]at jy;have bp:=fO jn (j+i);simp only[ik jn]
    obtain⟨y,JN⟩:∃y,lm cY (j+i)=y:=⟨_,rfl⟩
    rw[JN]at bp;simp only[JN];obtain⟨cH,cz⟩:=xs (u:=(y:Int)) (l:=(C:Int)) (b:=(B:Int)) (by omega) (by omega) (by omega);simp only[cH,cz];have ks:=l_ cY (j+i) (((y:Int)-(C:Int)-(B:Int))%4294967296) (by omega);rw[show(cY.getD (j+i) 0).toNat=y from JN]at ks;refine⟨by omega,by omega,by omega,by omega,fun g JO FC=>∃Q:Nat,g=Q/\FC=nH/\ajs u JO j i (val v) Q,⟨fun ai=> ?_,fun ai=> ?_⟩, ?_⟩
    ·have JP:y<C+B:=by
      by_cases aC:(y:Int)-C-B<0
      ·omega
      ·rw[aox aC]at ai;simp at ai
     rw[show(((y:Int)-(C:Int)-(B:Int))%4294967296)=((y+4294967296-C-B:Nat):Int) by omega]at ks;simp only[show(((y:Int)-(C:Int)-(B:Int))%4294967296)=((y+4294967296-C-B:Nat):Int) by omega];rw[aoB]at ks;have I3:bK (cY.set (j+i) ((y+4294967296-C-B:Nat):Int)):=jn.set _ ⟨by omega,by omega⟩;have SC:(cY.set (j+i) ((y+4294967296-C-B:Nat):Int)).length=m+i:=by rw[aoI];exact uZ
     have m7:∀p,j+i<p->(cY.set (j+i) ((y+4294967296-C-B:Nat):Int)).getD p 0=0:=fun p aE=>by
      rw[eu,aox (by omega)];exact dr p aE
     obtain⟨lb,pa⟩:∃lb,cY.set (j+i) ((y+4294967296-C-B:Nat):Int)=lb:=⟨_,rfl⟩
     rw[pa]at ks I3 SC m7;simp only[pa];have mx:val lb<4294967296^(j+i)*4294967296:=by rw[<-ao2];exact Dz I3 (m:=j+i+1) fun p aE=>m7 p (by omega)
     obtain⟨g3,g1,g7,g6,g5⟩:=ady jy ks JP (by omega) mx oo z_;have pF:IntKind.wrap .u64 ((G:Int)-1)=((G-1:Nat):Int):=by rw[cP (by omega)];omega
     simp only[pF]
     refine⟨fun c i3 ej cS=>cS=nH/\bK ej/\ej.length=m+i/\∃hp i0:Nat,c=hp/\i3=i0/\i0<=i/\hp<=1/\val ej+4294967296^(j+i0)*hp=val lb+4294967296^j*dt v i0/\∀p,j+i<p->ej.getD p 0=0,fun _ i3 _ _=>i-i3.toNat,
      ⟨by first|rfl|trivial,by first|rfl|trivial,I3,SC,0,0,rfl,rfl,by omega,by omega,by rw[iC,ao4,ao4],m7⟩, ?_⟩
     rintro c i3 ej cS ⟨rfl,m_,zv,hp,i3,rfl,rfl,ajB,TA,uN,Af⟩;refine⟨fun az=> ?_,fun az=> ?_⟩
     ·simp only[aoD]at az;have tG:IntKind.wrap .i64 ((j:Int)+(i3:Int))=((j+i3:Nat):Int):=by rw[bR (by omega)];omega
      have JQ:IntKind.wrap .i64 ((i3:Int)+1)=((i3+1:Nat):Int):=by rw[bR (by omega)];omega
      simp only[tG,JQ,aoB,ik m_];have po:=fO oq i3;have zu:=fO m_ (j+i3)
      obtain⟨d,kt⟩:∃d,lm v i3=d:=⟨_,rfl⟩
      obtain⟨fl,mz⟩:∃d,lm ej (j+i3)=d:=⟨_,rfl⟩
      rw[kt]at po;rw[mz]at zu;simp only[kt,mz]
      have w1:IntKind.wrap .u64 (hp+IntKind.wrap .u64 (IntKind.wrap .u64 (fl:Int)+IntKind.wrap .u64 (d:Int)))=((hp+(fl+d):Nat):Int):=by
       rw[cP (x:=(d:Int)) (by omega),cP (x:=(fl:Int)) (by omega),cP (x:=(fl:Int)+(d:Int)) (by omega),cP (by omega)];omega
      have db:((hp+(fl+d):Nat):Int).fdiv 4294967296=(((hp+(fl+d))/4294967296:Nat):Int):=by rw[apg _ (by omega),aqr];rfl
      have bX:IntKind.wrap .u32 ((hp+(fl+d):Nat):Int)=(((hp+(fl+d))%4294967296:Nat):Int):=by rw[ke];omega
      simp only[w1,db,bX];have cN:(hp+(fl+d))%4294967296<4294967296:=aph _ (by decide);have zw:=l_ ej (j+i3) (((hp+(fl+d))%4294967296:Nat):Int) (by omega);rw[show(ej.getD (j+i3) 0).toNat=fl from mz,aoB]at zw;have nB:dt v (i3+1)=dt v i3+4294967296^i3*d:=by rw[gr,show(v.getD i3 0).toNat=d from kt]
      have kj:=QC (T:=(hp+(fl+d))/4294967296) (d:=d) zw uN (by omega);refine⟨by omega,by omega,by omega,by omega,by omega,by omega,by first|rfl|trivial,⟨by first|rfl|trivial,m_.set _ ⟨by omega,by omega⟩,by rw[aoI];exact zv,(hp+(fl+d))/4294967296,i3+1,rfl,rfl,by omega,by omega, ?_,fun p aE=> ?_⟩,by show i-((i3+1:Nat):Int).toNat<i-(i3:Int).toNat;omega⟩
      ·have pk:4294967296^j*dt v (i3+1)=4294967296^j*dt v i3+4294967296^(j+i3)*d:=by
        rw[nB,aoO,api,apa]
       have vk:4294967296^(j+(i3+1))*((hp+(fl+d))/4294967296)=4294967296^(j+i3)*(4294967296*((hp+(fl+d))/4294967296)):=by
        rw[<-apy,ao2,apa]
       rw[pk,vk];exact kj
      ·rw[eu,aox (by omega)];exact Af p aE
     ·simp only[aoC]at az;obtain rfl:i3=i:=by omega
      rw[ht v (by omega)]at uN;have TB:=fO m_ (j+i3);simp only[ik m_]
      obtain⟨FU,EZ⟩:∃y,lm ej (j+i3)=y:=⟨_,rfl⟩
      rw[EZ]at TB;simp only[EZ];have I0:=mn ej (j+i3)
      have kn:ew ej (j+i3+1)=0:=by
       have:=HF (a:=ej) (i:=j+i3+1) (V:=1) (by rw[ao6];exact Dz m_ fun p aE=>Af p (by omega));omega
      rw[mo,kn,ao4,aoW,EZ]at I0;have SD:=l_ ej (j+i3) 0 (by omega);rw[show(ej.getD (j+i3) 0).toNat=FU from EZ,show Int.toNat 0=0 from rfl,ao4,aoW]at SD;obtain⟨a6,bj,bH⟩:=abV g3 g5 g6 g7 uN I0 (rp m_ _) TB TA SD
      have w1:IntKind.wrap .u32 ((FU:Int)+IntKind.wrap .u32 (hp:Int))=0:=by
       rw[h1 (x:=(hp:Int)) (by omega),ke];omega
      simp only[w1];exact⟨by omega,by omega,by omega,by omega,by first|rfl|trivial,G-1,rfl,by first|rfl|trivial,m_.set _ (by omega),by rw[aoI,zv,nx],by omega,bj,bH⟩
    ·have JP:C+B<=y:=by
      by_cases aC:(y:Int)-C-B<0
      ·rw[aoy aC]at ai;simp at ai
      ·omega
     rw[show(((y:Int)-(C:Int)-(B:Int))%4294967296)=((y-C-B:Nat):Int) by omega]at ks⊢;rw[aoB]at ks;obtain⟨f1,f2⟩:=adx jy ks JP oo ax rV;exact⟨by first|rfl|trivial,G,rfl,rfl,jn.set _ ⟨by omega,by omega⟩,by rw[aoI,uZ,nx],tt,f1,f2⟩
    ·rintro g JO FC ⟨Q,rfl,rfl,Ag⟩;have iP:=Ag.ajt;have amm:IntKind.wrap .u32 (Q:Int)=(Q:Int):=h1 (by omega);have dz:IntKind.wrap .i64 ((j:Int)-1)=(j:Int)-1:=bR (by omega);rw[amm,dz];have xC:=Aa j (by omega);have Ah:=l_ FC j (Q:Int) (by omega);rw[xC,show Int.toNat 0=0 from rfl,ao4,aoW,aoB]at Ah
     have agt:val ib=(val FC+4294967296^j*Q)*val v+val JO:=by
      rw[heq,<-Ag.eq,aoT,apa];omega
     refine⟨by omega,by omega,by first|rfl|trivial,⟨by omega,by omega,Ag.Tz,by rw[Ag.len];exact nx,a_.set _ ⟨by omega,by omega⟩,by rw[aoI];exact u6,by rw[Ah];exact agt, ?_,fun p aE=> ?_⟩, ?_⟩
     ·rw[show((j:Int)-1+1).toNat=j by omega];exact Ag.lt
     ·rw[eu,aox (by omega)];exact Aa p (by omega)
     ·show((j:Int)-1+1).toNat<((j:Int)+1).toNat;omega
 ·simp only[aoC]at aI;obtain rfl:j=-1:=by omega
  rw[show((-1:Int)+1).toNat=0 from rfl,aqg,apM]at bG
  have zW:val ib/val v=val q:=by
   rw[heq,ao9,Nat.mul_add_div (by omega),aqf bG,aoW]
  have xj:val ib%val v=val u:=by
   rw[heq,ao9,aqC,apv bG]
  have dH:val u/2^k=val a%val b:=by rw[<-xj,<-h5,Nat.mul_div_cancel _ (apw k)]
  refine⟨by omega,by omega,by omega,fun i cY nH r=>cY=u/\nH=q/\bK r/\r.length=n/\∃i0:Nat,i=i0/\i0<=n/\dt r i0=val u/2^k%4294967296^i0,fun i _ _ _=>n-i.toNat,⟨by first|rfl|trivial,rfl,rfl,bK.nm _,by simp,0,rfl,by omega,by rw[iC,aqg,Nat.mod_one]⟩, ?_⟩;rintro i cY nH r ⟨rfl,rfl,an,zL,i,rfl,ff,JR⟩;refine⟨fun h=> ?_,fun h=> ?_⟩
  ·simp only[aoD]at h;have Ae:IntKind.wrap .i64 ((i:Int)+1)=((i+1:Nat):Int):=by rw[bR (by omega)];omega
   simp only[Ae,aoB,ik hu,Iz (fO hu (i+1)) (fO hu i),show min k 64=k by omega];have je:(2:Int)^k=((2^k:Nat):Int):=by simp
   have w1:Int.fdiv ((lm cY (i+1)*4294967296+lm cY i:Nat):Int) ((2:Int)^k)=(((lm cY (i+1)*4294967296+lm cY i)/2^k:Nat):Int):=by
    rw[je,apg _ (apx _),aqr]
   have db:IntKind.wrap .u32 (((lm cY (i+1)*4294967296+lm cY i)/2^k:Nat):Int)=(((lm cY (i+1)*4294967296+lm cY i)/2^k%4294967296:Nat):Int):=by
    rw[ke,aqM];rfl
   simp only[w1,db]
   have IB:(lm cY (i+1)*4294967296+lm cY i)/2^k%4294967296=val cY/2^k/4294967296^i%4294967296:=by
    rw[MP (A:=ew cY (i+2)) EX,<-mo,<-mo,<-Im hu i,Nat.div_div_eq_div_mul,Nat.div_div_eq_div_mul,ao9]
   rw[IB];have ic:val cY/2^k/4294967296^i%4294967296<4294967296:=aph _ (by decide);refine⟨by omega,by omega,by omega,by omega,by omega,by omega,by omega,by first|rfl|trivial,⟨by first|rfl|trivial,by first|rfl|trivial,an.set _ ⟨apx _,by omega⟩,by rw[aoI];exact zL,i+1,rfl,by omega, ?_⟩,by show n-((i+1:Nat):Int).toNat<n-(i:Int).toNat;omega⟩;rw[gr,rf _ _ _ _ (aoE _),eu,aoy ⟨rfl,by omega⟩,aoB,JR,ao2,Nat.mod_mul]
  ·simp only[aoC]at h;obtain rfl:i=n:=by omega
   rw[ht r (by omega),apv (ap4 (aqZ _ _) (Nat.lt_trans bG tr)),dH]at JR;refine⟨⟨a_,by omega⟩, ?_⟩;rintro x rfl;refine⟨⟨an,by omega⟩, ?_⟩;rintro hq rfl;rw[JR,<-zW,<-jZ];exact ae
end ab
end
section
open Go Go.al
namespace ab
def NL:List Int->List Int->(J->Prop)->Prop:=
 fun a b K=>(bK a/\a.length<=(1000000000:Nat))/\(bK b/\b.length<=(1000000000:Nat))/\(decide (↑(aQ (val b)).length=(0:Int))=true->K (J.tup [J.d (R.ad .u32 []),J.d (R.ad .u32 []),J.d (R.int .i64 (3:Int))]))/\(decide (↑(aQ (val b)).length=(0:Int))=false->(bC (aQ (val a))/\bC (aQ (val b)))/\(decide (cmp (val (aQ (val a))) (val (aQ (val b)))<(0:Int))=true->(aQ (val a)).length<=(100000000:Nat)/\K (J.tup [J.d (R.ad .u32 []),J.d (R.ad .u32 (aQ (val a))),J.d (R.int .i64 (0:Int))]))/\(decide (cmp (val (aQ (val a))) (val (aQ (val b)))<(0:Int))=false->(decide (↑(aQ (val b)).length=(1:Int))=true->(0:Int)<=(0:Int)/\(0:Int)<↑(aQ (val b)).length/\(bC (aQ (val a))/\L ((aQ (val b)).getD (0:Nat) (0:Int))/\(0:Int)<(aQ (val b)).getD (0:Nat) (0:Int))/\((0:Int)<=aT ↑(val (aQ (val a))%((aQ (val b)).getD (0:Nat) (0:Int)).toNat)/\aT ↑(val (aQ (val a))%((aQ (val b)).getD (0:Nat) (0:Int)).toNat)<(18446744073709551616:Int))/\K (J.tup [J.d (R.ad .u32 (aQ (val (aQ (val a))/((aQ (val b)).getD (0:Nat) (0:Int)).toNat))),J.d (R.ad .u32 (aQ (aT ↑(val (aQ (val a))%((aQ (val b)).getD (0:Nat) (0:Int)).toNat)).toNat)),J.d (R.int .i64 (0:Int))]))/\(decide (↑(aQ (val b)).length=(1:Int))=false->(bC (aQ (val a))/\bC (aQ (val b))/\Norm (aQ (val a))/\Norm (aQ (val b))/\(2:Nat)<=(aQ (val b)).length/\val (aQ (val b))<=val (aQ (val a)))/\K (J.tup [J.d (R.ad .u32 (aQ (val (aQ (val a))/val (aQ (val b))))),J.d (R.ad .u32 (aQ (val (aQ (val a))%val (aQ (val b))))),J.d (R.int .i64 (0:Int))]))))
end ab
end
section
open Go Go.al
namespace ab
theorem aat (a b:List Int)(K:J->Prop)(h:CA.T [.d (.ad .u32 a), .d (.ad .u32 b)] K):NL a b K:=by
 obtain⟨⟨aR,ag⟩,ae⟩:=h;have hb:=ju aR;have k2:=ju ag;have kW:=aR.2;have ep:=ag.2;unfold NL aT;simp only[ef];refine⟨⟨aR.1,by omega⟩,⟨ag.1,by omega⟩,fun h=> ?_,fun h=> ?_⟩
 ·simp only[aoD]at h;have bc:val b=0:=yZ (by omega);simp only[bc,ao_]at ae;exact ae
 ·simp only[aoC]at h;have bc:val b≠0:=fun e=>h (by rw[e,kD];rfl);simp only[aox bc]at ae;refine⟨⟨⟨gq _,by omega⟩,⟨gq _,by omega⟩⟩,fun U=>⟨by omega, ?_⟩,fun U=>⟨fun aa=> ?_,fun aa=> ?_⟩⟩
  ·simp only[aoD]at U
   have bG:val a<val b:=by
    unfold cmp at U;split at U
    ·assumption
    ·split at U<;>omega
   rw[aqf bG,apv bG,kD]at ae;exact ae
  ·simp only[aoD]at aa
   have ey:((aQ (val b)).getD 0 0).toNat=val b:=by
    have:=ht (aQ (val b)) (i:=1) (by omega);rw[gr,iC,ef]at this;simpa using this
   have JS:=gq (val b) 0;rw[ey];have hm:val a%val b<val b:=aph _ (by omega);rw[cP (by omega),aoB];exact⟨by omega,by omega,⟨⟨gq _,by omega⟩,JS,by omega⟩,⟨by omega,by omega⟩,ae⟩
  ·simp only[aoC]at U aa
   have ja:val b<=val a:=by
    unfold cmp at U;split at U
    ·exact absurd (by decide) U
    ·omega
   exact⟨⟨⟨gq _,by omega⟩,⟨gq _,by omega⟩,G3 _,G3 _,by omega,ja⟩,ae⟩
end ab
end
section
open Go Go.al
namespace ab
def l3 (n k:Nat):Prop:=n<4294967296^k
theorem l3.of {a:List Int}(h:bK a){k:Nat}(ae:a.length<=k):l3 (val a) k:=aoV (iD h) (apf (by decide) ae)
theorem l3.cI {n k:Nat}(h:l3 n k)(ae:k<=100000000):bC (aQ n):=⟨gq n,aoS (hQ.2 h) ae⟩
theorem l3.len {n k:Nat}(h:l3 n k){j:Nat}(ae:k<=j):(aQ n).length<=j:=aoS (hQ.2 h) ae
theorem l3.add {x y j k:Nat}(h:l3 x j)(aa:l3 y k):l3 (x+y) (j+k+1):=by
 unfold l3 at*;have az:4294967296^j<=4294967296^(j+k):=apf (by decide) (by omega);have aW:4294967296^k<=4294967296^(j+k):=apf (by decide) (by omega);rw[ao2];omega
theorem l3.mul {x y j k:Nat}(h:l3 x j)(aa:l3 y k):l3 (x*y) (j+k):=by
 unfold l3 at*;rw[api];exact Nat.mul_lt_mul'' h aa
theorem ae4 (p k:Nat)(aE:p<9223372036854775808)(ae:2^k<=4611686018427387904):cL .and .i64 (p:Int) ((2^k-1:Nat):Int)=((p%2^k:Nat):Int):=by
 have aA:((BitVec.ofInt 64 (p:Int))&&&(BitVec.ofInt 64 ((2^k-1:Nat):Int))).toNat=p%2^k:=by
  rw[BitVec.toNat_and,aqt,aqt,aqN,aqN,apv (by omega),apv (by omega),Nat.and_two_pow_sub_one_eq_mod]
 show IntKind.wrap .i64 _=_;have aL:((BitVec.ofInt (IntKind.i64).bits (p:Int))&&&(BitVec.ofInt (IntKind.i64).bits ((2^k-1:Nat):Int))).toNat=p%2^k:=aA;have:p%2^k<2^k:=aph _ (apw k);rw[aL,bR (by omega)]
end ab
namespace ab
theorem ae5 {n:Int}(h:(Lit.int .u8 n).wf=true):0<=n/\n<256:=by
 have h:=aes h;have aA:IntKind.u8.min=0:=by decide
 have aL:IntKind.u8.max=255:=by decide
 omega
end ab
end
section
open Go Go.al
namespace ab
def QD:List Int->List Int->(J->Prop)->Prop:=
 fun a b K=>bC a/\∀x,x=aQ (val a)->bC b/\∀aV,aV=aQ (val b)->∃(aK:List Int->List Int->Prop),∃(m:List Int->List Int->Nat),aK x aV/\∀(v0 v1:List Int),aK v0 v1->(decide ((2:Int)<↑v0.length)=true->(decide (↑v1.length=(0:Int))=true->K (J.d (R.ad .u32 v0)))/\(decide (↑v1.length=(0:Int))=false->(bC v0/\bC v1)/\∀x,(x=if val v1=(0:Nat)then[]else aQ (val v0/val v1))->∀x,(x=if val v1=(0:Nat)then[]else aQ (val v0%val v1))->∀aS,(aS=if val v1=(0:Nat)then(3:Int)else(0:Int))->aK v1 x/\m v1 x<m v0 v1))/\(decide ((2:Int)<↑v0.length)=false->(decide ((2:Int)<↑v1.length)=true->(decide (↑v1.length=(0:Int))=true->K (J.d (R.ad .u32 v0)))/\(decide (↑v1.length=(0:Int))=false->(bC v0/\bC v1)/\∀x,(x=if val v1=(0:Nat)then[]else aQ (val v0/val v1))->∀x,(x=if val v1=(0:Nat)then[]else aQ (val v0%val v1))->∀aS,(aS=if val v1=(0:Nat)then(3:Int)else(0:Int))->aK v1 x/\m v1 x<m v0 v1))/\(decide ((2:Int)<↑v1.length)=false->(bK v0/\v0.length<=(2:Nat))/\∀x,x=↑(val v0)->(bK v1/\v1.length<=(2:Nat))/\∀aS,aS=↑(val v1)->∃(aK:Int->Int->Prop),∃(m:Int->Int->Nat),aK x aS/\∀(bn v9:Int),aK bn v9->((!decide (v9=(0:Int)))=true->¬v9=(0:Int)/\aK v9 (bn.tmod v9)/\m v9 (bn.tmod v9)<m bn v9)/\((!decide (v9=(0:Int)))=false->((0:Int)<=bn/\bn<(18446744073709551616:Int))/\∀x,x=aQ bn.toNat->K (J.d (R.ad .u32 x)))))
def Na:List Int->(af->Prop)->Prop:=
 fun a K=>∃(aK:Int->Prop),∃(m:Int->Nat),aK ↑a.length/\∀(v3:Int),aK v3->(decide ((0:Int)<v3)=true->(0:Int)<=ah (v3-(1:Int))/\ah (v3-(1:Int))<↑a.length/\(decide (a.getD (ah (v3-(1:Int))).toNat (0:Int)=(0:Int))=true->aK (ah (v3-(1:Int)))/\m (ah (v3-(1:Int)))<m v3)/\(decide (a.getD (ah (v3-(1:Int))).toNat (0:Int)=(0:Int))=false->(0:Int)<=v3/\v3<=↑a.length/\↑(List.take v3.toNat a).length*(4:Int)<=(70368744177664:Int)/\K (af.ad .u32 (List.take v3.toNat a))))/\(decide ((0:Int)<v3)=false->(0:Int)<=v3/\v3<=↑a.length/\↑(List.take v3.toNat a).length*(4:Int)<=(70368744177664:Int)/\K (af.ad .u32 (List.take v3.toNat a)))
def NM:List Int->List Int->(J->Prop)->Prop:=
 fun(a b:List Int) (K:J->Prop)=>ab.bC a/\ab.bC b/\((!decide (aO (ab.aQ (ab.val a))=aO (ab.aQ (ab.val b))))=true->(decide (aO (ab.aQ (ab.val a))<aO (ab.aQ (ab.val b)))=true->K (J.d (R.int IntKind.i64 (-1:Int))))/\(decide (aO (ab.aQ (ab.val a))<aO (ab.aQ (ab.val b)))=false->K (J.d (R.int IntKind.i64 (1:Int)))))/\((!decide (aO (ab.aQ (ab.val a))=aO (ab.aQ (ab.val b))))=false->∃(aK:Int->Prop),∃(m:Int->Nat),((false,af.ad IntKind.u32 (ab.aQ (ab.val a)))=(false,af.ad IntKind.u32 (ab.aQ (ab.val a)))/\(false,af.ad IntKind.u32 (ab.aQ (ab.val b)))=(false,af.ad IntKind.u32 (ab.aQ (ab.val b)))/\aK (ah (aO (ab.aQ (ab.val a))-(1:Int))))/\∀(v5:Int),aK v5->(decide ((0:Int)<=v5)=true->(0:Int)<=v5/\v5<aO (ab.aQ (ab.val a))/\(0:Int)<=v5/\v5<aO (ab.aQ (ab.val b))/\(decide (List.getD (ab.aQ (ab.val a)) (Int.toNat v5) (0:Int)<List.getD (ab.aQ (ab.val b)) (Int.toNat v5) (0:Int))=true->K (J.d (R.int IntKind.i64 (-1:Int))))/\(decide (List.getD (ab.aQ (ab.val a)) (Int.toNat v5) (0:Int)<List.getD (ab.aQ (ab.val b)) (Int.toNat v5) (0:Int))=false->(0:Int)<=v5/\v5<aO (ab.aQ (ab.val a))/\(0:Int)<=v5/\v5<aO (ab.aQ (ab.val b))/\(decide (List.getD (ab.aQ (ab.val b)) (Int.toNat v5) (0:Int)<List.getD (ab.aQ (ab.val a)) (Int.toNat v5) (0:Int))=true->K (J.d (R.int IntKind.i64 (1:Int))))/\(decide (List.getD (ab.aQ (ab.val b)) (Int.toNat v5) (0:Int)<List.getD (ab.aQ (ab.val a)) (Int.toNat v5) (0:Int))=false->(false,af.ad IntKind.u32 (ab.aQ (ab.val a)))=(false,af.ad IntKind.u32 (ab.aQ (ab.val a)))/\(false,af.ad IntKind.u32 (ab.aQ (ab.val b)))=(false,af.ad IntKind.u32 (ab.aQ (ab.val b)))/\aK (ah (v5-(1:Int)))/\m (ah (v5-(1:Int)))<m v5)))/\(decide ((0:Int)<=v5)=false->K (J.d (R.int IntKind.i64 (0:Int)))))
def MQ:List Int->Int->(J->Prop)->Prop:=
 fun(a:List Int) (d:Int) (K:J->Prop)=>(0:Int)<=aO a/\aO a<=aO a/\aO a*(4:Int)<=(281474976710656:Int)/\∃(aK:Int->Int->List Int->Prop),∃(m:Int->Int->List Int->Nat),aK (0:Int) (ah (aO a-(1:Int))) (List.replicate (Int.toNat (aO a)) (0:Int))/\∀(cU bn:Int) (aq:List Int),aK cU bn aq->(decide ((0:Int)<=bn)=true->(0:Int)<=bn/\bn<aO a/\¬aT d=(0:Int)/\(0:Int)<=bn/\bn<aO aq/\¬aT d=(0:Int)/\aK (Int.tmod (cL BinOp.or IntKind.u64 (aT (cU*(4294967296:Int))) (aT (List.getD a (Int.toNat bn) (0:Int)))) (aT d)) (ah (bn-(1:Int))) (List.set aq (Int.toNat bn) (bX (aT (Int.tdiv (cL BinOp.or IntKind.u64 (aT (cU*(4294967296:Int))) (aT (List.getD a (Int.toNat bn) (0:Int)))) (aT d)))))/\m (Int.tmod (cL BinOp.or IntKind.u64 (aT (cU*(4294967296:Int))) (aT (List.getD a (Int.toNat bn) (0:Int)))) (aT d)) (ah (bn-(1:Int))) (List.set aq (Int.toNat bn) (bX (aT (Int.tdiv (cL BinOp.or IntKind.u64 (aT (cU*(4294967296:Int))) (aT (List.getD a (Int.toNat bn) (0:Int)))) (aT d)))))<m cU bn aq)/\(decide ((0:Int)<=bn)=false->ab.bC aq/\K (J.tup [J.d (R.ad IntKind.u32 (ab.aQ (ab.val aq))),J.d (R.int IntKind.u32 (bX cU))]))
end ab
end
section
open Go Go.al
namespace ab
theorem Cb {A B:Nat}:Nat.gcd B (A%B)=Nat.gcd A B:=by
 rw[Nat.gcd_comm A B,Nat.gcd_rec B A,Nat.gcd_comm]
theorem aet (a b:List Int)(K:J->Prop)(h:EH.T [.d (.ad .u32 a), .d (.ad .u32 b)] K):QD a b K:=by
 obtain⟨⟨aR,ag⟩,ae⟩:=h;unfold QD
 obtain⟨G,ia⟩:∃G,Nat.gcd (val a) (val b)=G:=⟨_,rfl⟩
 rw[ia]at ae;refine⟨aR, ?_⟩;rintro x rfl;refine⟨ag, ?_⟩;rintro y rfl;have hb:=ju aR;have k2:=ju ag;have kW:=aR.2;have ep:=ag.2;refine⟨fun u v=>∃A B:Nat,u=aQ A/\v=aQ B/\Nat.gcd A B=G/\(aQ A).length<=100000000/\(aQ B).length<=100000000,fun u v=>val v,⟨val a,val b,rfl,rfl,ia,by omega,by omega⟩, ?_⟩;rintro u v ⟨A,B,rfl,rfl,rX,dE,ey⟩;have UK:bC (aQ A):=⟨gq _,dE⟩;have UL:bC (aQ B):=⟨gq _,ey⟩;simp only[ef]
 have zero:∀{n:Nat},decide ((Nat.cast:Nat->Int) (aQ n).length=0)=true->n=0:=fun h=>by
  simp only[aoD]at h;exact yZ (by omega)
 have UM:∀{n:Nat},decide ((Nat.cast:Nat->Int) (aQ n).length=0)=false->n≠0:=fun h e=>by
  subst e;rw[kD]at h;simp at h
 have stop:B=0->K (.d (.ad .u32 (aQ A))):=fun h=>by
  subst h;rw[Nat.gcd_zero_right]at rX;rw[rX];exact ae
 have bG:B≠0->A%B<B:=fun h=>aph _ (by omega)
 have hlen:B≠0->(aQ (A%B)).length<=100000000:=fun h=>by
  refine aoS (hQ.2 ?_) ey;exact Nat.lt_trans (bG h) (hQ.1 (aoE _))
 refine⟨fun _=>⟨fun h=>stop (zero h),fun h=>⟨⟨UK,UL⟩, ?_⟩⟩,fun U=>⟨fun _=>⟨fun h=>stop (zero h),fun h=>⟨⟨UK,UL⟩, ?_⟩⟩,fun aa=> ?_⟩⟩
 ·have px:=UM h;rintro q rfl r rfl e rfl;rw[aox px];exact⟨⟨B,A%B,rfl,rfl,by rw[Cb];exact rX,ey,hlen px⟩,by rw[ef];exact bG px⟩
 ·have px:=UM h;rintro q rfl r rfl e rfl;rw[aox px];exact⟨⟨B,A%B,rfl,rfl,by rw[Cb];exact rX,ey,hlen px⟩,by rw[ef];exact bG px⟩
 ·simp only[aoC]at U aa;have lW:(4294967296:Nat)^2=18446744073709551616:=by decide
  have ph:A<18446744073709551616:=by rw[<-lW];exact hQ.1 (by omega)
  have tu:B<18446744073709551616:=by rw[<-lW];exact hQ.1 (by omega)
  refine⟨⟨gq _,by omega⟩, ?_⟩;rintro x rfl;refine⟨⟨gq _,by omega⟩, ?_⟩;rintro y rfl;refine⟨fun x y=>∃p q:Nat,x=p/\y=q/\p<18446744073709551616/\q<18446744073709551616/\Nat.gcd p q=G,fun x y=>y.toNat,⟨A,B,rfl,rfl,ph,tu,rX⟩, ?_⟩;rintro x y ⟨p,q,rfl,rfl,aE,a_,bh⟩;refine⟨fun h=> ?_,fun h=> ?_⟩
  ·have Fj:¬((q:Int)=0):=by simpa using h
   have au:Int.tmod (p:Int) (q:Int)=((p%q:Nat):Int):=by rw[aqL (by omega),aqM]
   have hm:p%q<q:=aph _ (by omega);rw[au];refine⟨Fj,⟨q,p%q,rfl,rfl,a_,by omega,by rw[Cb];exact bh⟩, ?_⟩;show((p%q:Nat):Int).toNat<(q:Int).toNat;rw[aoB,aoB];exact hm
  ·have Fj:((q:Int)=0):=by simpa using h
   obtain rfl:q=0:=by omega
   rw[Nat.gcd_zero_right]at bh;refine⟨⟨by omega,by omega⟩, ?_⟩;rintro r rfl;rw[aoB,bh];exact ae
theorem aax {a:List Int}{k:Nat}(ae:0<k)(_:k<=a.length)(h:a.getD (k-1) 0=0):val (a.take (k-1))=val (a.take k):=by
 have:=gr a (k-1);rw[show k-1+1=k by omega,h]at this;unfold dt at this;rw[this];simp
theorem YU (a:List Int)(K:af->Prop)(h:B3.T [.d (.ad .u32 a)] K):Na a K:=by
 obtain⟨aR,ae⟩:=h;have hb:=aR.2;unfold Na ah;refine⟨fun i=>∃k:Nat,i=k/\k<=a.length/\val (a.take k)=val a,fun i=>i.toNat,⟨a.length,rfl,aoE _,by rw[apG]⟩, ?_⟩;rintro i ⟨k,rfl,ta,aP⟩
 have pd:∀j,j<k->(a.take k).getD j 0=a.getD j 0:=fun j aI=>by simp[aoA,aI]
 refine⟨fun h=> ?_,fun h=> ?_⟩
 ·simp only[aoD]at h;have e:IntKind.wrap .i64 ((k:Int)-1)=((k-1:Nat):Int):=by rw[bR (by omega)];omega
  rw[e];simp only[aoB];refine⟨by omega,by omega,fun bc=> ?_,fun bc=>⟨by omega,by omega, ?_, ?_⟩⟩
  ·simp only[aoD]at bc;exact⟨⟨k-1,rfl,by omega,by rw[aax (by omega) ta bc,aP]⟩,by show((k-1:Nat):Int).toNat<(k:Int).toNat;omega⟩
  ·rw[ao3];omega
  ·simp only[aoC]at bc;rw[<-yh (aR.1.take k) (Bf (.inr ?_)),aP]
   ·exact ae
   ·rw[ao3,aqW ta,pd _ (by omega)];exact bc
 ·simp only[aoC]at h;obtain rfl:k=0:=by omega
  simp only[aoB];refine⟨by omega,by omega,by rw[ao3];omega, ?_⟩;rw[<-yh (aR.1.take 0) (Bf (.inl (by simp))),aP];exact ae
theorem XY (a:List Int)(d:Int)(K:J->Prop)(h:BM.T [.d (.ad .u32 a), .d (.int .u32 d)] K):MQ a d K:=by
 obtain⟨⟨aR,a8,th⟩,ae⟩:=h;have hb:=aR.2;unfold L at a8
 obtain⟨D,rfl⟩:∃D:Nat,d=D:=⟨d.toNat,by omega⟩
 simp only[aoB]at ae;unfold MQ ah aT bX aO;rw[aoB];have amn:IntKind.wrap .u64 (D:Int)=D:=cP (by omega);simp only[amn];refine⟨by omega,by omega,by omega,fun r i o=>bK o/\o.length=a.length/\0<=r/\r<D/\-1<=i/\i<a.length/\ew a (i+1).toNat=ew o (i+1).toNat*D+r.toNat,fun r i o=>(i+1).toNat,⟨bK.nm _,by simp,by omega,by omega, ?_⟩, ?_⟩
 ·rw[bR (by omega)];refine⟨by omega,by omega, ?_⟩;rw[oZ a (by omega),oZ _ (by simp)];simp
 rintro r i o ⟨aF,gf,zJ,fJ,rT,kp,aP⟩;refine⟨fun h=> ?_,fun h=> ?_⟩
 ·simp only[aoD]at h
  obtain⟨n,rfl⟩:∃n:Nat,i=n:=⟨i.toNat,by omega⟩
  simp only[aoB,ik aR.1];rw[bR (by omega)]
  obtain⟨bD,rfl⟩:∃bD:Nat,r=bD:=⟨r.toNat,by omega⟩
  have ai:=fO aR.1 n;have FD:(a.getD n 0).toNat=lm a n:=rfl
  obtain⟨x,hk⟩:∃x,lm a n=x:=⟨_,rfl⟩
  rw[hk]at ai FD;simp only[hk,Io (h:=bD) (l:=x) (by omega) ai];have aA:Int.tdiv ((bD*4294967296+x:Nat):Int) (D:Int)=(((bD*4294967296+x)/D:Nat):Int):=by rw[aqY (apx _),aqr]
  have aL:Int.tmod ((bD*4294967296+x:Nat):Int) (D:Int)=(((bD*4294967296+x)%D:Nat):Int):=by rw[aqL (apx _),aqM]
  rw[show((n:Int)+1).toNat=n+1 by omega]at aP;have cN:=NJ (z:=ew o (n+1)) 4294967296 rfl (show bD<D by omega) ai (by simpa using aP);obtain⟨a_,hm,he⟩:=cN;have nE:ew a n=x+4294967296*ew a (n+1):=by rw[n2 a n,FD]
  rw[<-nE]at he;simp only[aA,aL];generalize (bD*4294967296+x)/D=q at a_ he⊢;generalize (bD*4294967296+x)%D=m at hm he⊢;have w1:IntKind.wrap .u32 (IntKind.wrap .u64 (q:Int))=(q:Int):=by rw[cP (by omega),h1 (by omega)]
  simp only[w1]
  have hy:ew (o.set n (q:Int)) n=q+4294967296*ew o (n+1):=by
   rw[n2 _ n,Il _ _ _ _ (by omega),eu,aoy ⟨rfl,by omega⟩,aoB]
  rw[<-hy]at he;refine⟨by omega,by omega,by omega,by omega,by omega,by omega,⟨aF.set _ ⟨by omega,by omega⟩,by simpa using gf,by omega,by omega,by omega,by omega, ?_⟩,by show(((n:Int)-1)+1).toNat<((n:Int)+1).toNat;omega⟩;rw[show((n:Int)-1+1).toNat=n by omega,aoB];exact he
 ·simp only[aoC]at h;obtain rfl:i=-1:=by omega
  simp only[show((-1:Int)+1).toNat=0 from rfl,yY]at aP;refine⟨⟨aF,by omega⟩, ?_⟩
  have U:val a/D=val o:=by
   rw[aP,ao9,Nat.mul_add_div (by omega),aqf (by omega)];omega
  have aa:((val a%D:Nat):Int)=r:=by
   rw[aP,ao9,aqC,apv (by omega)];omega
  rw[U,aa]at ae;rw[h1 (by omega)];exact ae
theorem aay (a b:List Int)(K:J->Prop)(h:CC.T [.d (.ad .u32 a), .d (.ad .u32 b)] K):NM a b K:=by
 obtain⟨⟨aR,ag⟩,ae⟩:=h;have hb:=ju aR;have k2:=ju ag;have kW:=aR.2;have ep:=ag.2;unfold NM ah aO;refine⟨aR,ag,fun h=>⟨fun U=> ?_,fun U=> ?_⟩,fun h=> ?_⟩
 ·simp only[aoD]at U;rw[Dw (Dy (by omega))]at ae;exact ae
 ·have aa:¬((Nat.cast:Nat->Int) (aQ (val a)).length=(Nat.cast:Nat->Int) (aQ (val b)).length):=by simpa using h
  simp only[aoC]at U;rw[Dx (Dy (by omega))]at ae;exact ae
 ·have aa:(Nat.cast:Nat->Int) (aQ (val a)).length=(Nat.cast:Nat->Int) (aQ (val b)).length:=by simpa using h
  have dE:=gq (val a);have ey:=gq (val b);have nE:=ef (val a);have m8:=ef (val b);rw[<-nE,<-m8]at ae;generalize aQ (val a)=A at*;generalize aQ (val b)=B at*;refine⟨fun i=>-1<=i/\i<A.length/\ew A (i+1).toNat=ew B (i+1).toNat,fun i=>(i+1).toNat,⟨by first|rfl|trivial,by first|rfl|trivial, ?_⟩, ?_⟩
  ·rw[bR (by omega)];refine⟨by omega,by omega, ?_⟩;rw[oZ A (by omega),oZ B (by omega)]
  rintro i ⟨az,aW,bA⟩;refine⟨fun bZ=> ?_,fun bZ=> ?_⟩
  ·simp only[aoD]at bZ
   obtain⟨n,rfl⟩:∃n:Nat,i=n:=⟨i.toNat,by omega⟩
   rw[show((n:Int)+1).toNat=n+1 by omega]at bA;simp only[aoB];have ai:=dE n;have bp:=ey n;refine⟨by omega,by omega,by omega,by omega,fun fo=> ?_,fun fo=>⟨by omega,by omega,by omega,by omega,fun dc=> ?_,fun dc=> ?_⟩⟩
   ·simp only[aoD]at fo;rw[Dw (CN n dE bA (by omega))]at ae;exact ae
   ·simp only[aoD]at dc;rw[Dx (CN n ey bA.symm (by omega))]at ae;exact ae
   ·simp only[aoC]at fo dc;rw[bR (by omega)];refine⟨by first|rfl|trivial,by first|rfl|trivial,⟨by omega,by omega, ?_⟩,by show(((n:Int)-1)+1).toNat<((n:Int)+1).toNat;omega⟩;rw[show((n:Int)-1+1).toNat=n by omega,n2 A n,n2 B n,bA,show A.getD n 0=B.getD n 0 by omega]
  ·simp only[aoC]at bZ;obtain rfl:i=-1:=by omega
   simp only[show((-1:Int)+1).toNat=0 from rfl,yY]at bA;rw[bA,cmp_eq]at ae;exact ae
end ab
end
section
open Go Go.al
namespace ab
end ab
end
section
open Go Go.al
namespace ab
def NN:List Int->List Int->(J->Prop)->Prop:=
 fun(a b:List Int) (K:J->Prop)=>(0:Int)<=ah ((if aO a<aO b then aO b else aO a)+(1:Int))/\ah ((if aO a<aO b then aO b else aO a)+(1:Int))<=ah ((if aO a<aO b then aO b else aO a)+(1:Int))/\ah ((if aO a<aO b then aO b else aO a)+(1:Int))*(4:Int)<=(281474976710656:Int)/\∃(aK:Int->Int->List Int->Prop),∃(m:Int->Int->List Int->Nat),aK (0:Int) (0:Int) (List.replicate (Int.toNat (ah ((if aO a<aO b then aO b else aO a)+(1:Int)))) (0:Int))/\∀(v6 cU:Int) (aq:List Int),aK v6 cU aq->(decide (cU<aO aq)=true->∃(bm:Int->Prop),((decide (cU<aO a)=true->(0:Int)<=cU/\cU<aO a/\(false,af.ad IntKind.u32 aq)=(false,af.ad IntKind.u32 aq)/\bm (aT (v6+aT (List.getD a (Int.toNat cU) (0:Int)))))/\(decide (cU<aO a)=false->(false,af.ad IntKind.u32 aq)=(false,af.ad IntKind.u32 aq)/\bm v6))/\∀(I4:Int),bm I4->∃(bm:Int->Prop),((decide (cU<aO b)=true->(0:Int)<=cU/\cU<aO b/\(false,af.ad IntKind.u32 aq)=(false,af.ad IntKind.u32 aq)/\bm (aT (I4+aT (List.getD b (Int.toNat cU) (0:Int)))))/\(decide (cU<aO b)=false->(false,af.ad IntKind.u32 aq)=(false,af.ad IntKind.u32 aq)/\bm I4))/\∀(zx:Int),bm zx->(0:Int)<=cU/\cU<aO aq/\aK (Int.fdiv zx (4294967296:Int)) (ah (cU+(1:Int))) (List.set aq (Int.toNat cU) (bX zx))/\m (Int.fdiv zx (4294967296:Int)) (ah (cU+(1:Int))) (List.set aq (Int.toNat cU) (bX zx))<m v6 cU aq)/\(decide (cU<aO aq)=false->ab.bC aq/\K (J.d (R.ad IntKind.u32 (ab.aQ (ab.val aq)))))
def NO:List Int->List Int->(J->Prop)->Prop:=
 fun a b K=>0<=ah (ah (↑a.length+↑b.length)+1)/\ah (ah (↑a.length+↑b.length)+1)<=ah (ah (↑a.length+↑b.length)+1)/\ah (ah (↑a.length+↑b.length)+1)*4<=281474976710656/\∃(aK:Int->List Int->Prop),∃(m:Int->List Int->Nat),aK 0 (List.replicate (ah (ah (↑a.length+↑b.length)+1)).toNat 0)/\∀(v6:Int) (aq:List Int),aK v6 aq->(decide (v6<↑a.length)=true->∃(fk:Int->Int->List Int->Prop),∃(fh:Int->Int->List Int->Nat),fk 0 0 aq/\∀(cU bn:Int) (bJ:List Int),fk cU bn bJ->(decide (bn<↑b.length)=true->0<=v6/\v6<↑a.length/\0<=bn/\bn<↑b.length/\0<=ah (v6+bn)/\ah (v6+bn)<↑bJ.length/\0<=ah (v6+bn)/\ah (v6+bn)<↑bJ.length/\fk ((aT (aT (aT (aT (a.getD v6.toNat 0)*aT (b.getD bn.toNat 0))+aT (bJ.getD (ah (v6+bn)).toNat 0))+cU)).fdiv 4294967296) (ah (bn+1)) (bJ.set (ah (v6+bn)).toNat (bX (aT (aT (aT (aT (a.getD v6.toNat 0)*aT (b.getD bn.toNat 0))+aT (bJ.getD (ah (v6+bn)).toNat 0))+cU))))/\fh ((aT (aT (aT (aT (a.getD v6.toNat 0)*aT (b.getD bn.toNat 0))+aT (bJ.getD (ah (v6+bn)).toNat 0))+cU)).fdiv 4294967296) (ah (bn+1)) (bJ.set (ah (v6+bn)).toNat (bX (aT (aT (aT (aT (a.getD v6.toNat 0)*aT (b.getD bn.toNat 0))+aT (bJ.getD (ah (v6+bn)).toNat 0))+cU))))<fh cU bn bJ)/\(decide (bn<↑b.length)=false->∃(JT:Int->Int->List Int->Prop),∃(TD:Int->Int->List Int->Nat),JT cU (ah (v6+↑b.length)) bJ/\∀(cU v10:Int) (d_:List Int),JT cU v10 d_->(decide (0<cU)=true->0<=v10/\v10<↑d_.length/\0<=v10/\v10<↑d_.length/\JT ((aT (aT (d_.getD v10.toNat 0)+cU)).fdiv 4294967296) (ah (v10+1)) (d_.set v10.toNat (bX (aT (aT (d_.getD v10.toNat 0)+cU))))/\TD ((aT (aT (d_.getD v10.toNat 0)+cU)).fdiv 4294967296) (ah (v10+1)) (d_.set v10.toNat (bX (aT (aT (d_.getD v10.toNat 0)+cU))))<TD cU v10 d_)/\(decide (0<cU)=false->aK (ah (v6+1)) d_/\m (ah (v6+1)) d_<m v6 aq)))/\(decide (v6<↑a.length)=false->bC aq/\K (J.d (R.ad .u32 (aQ (val aq)))))
def NP:List Int->List Int->(J->Prop)->Prop:=
 fun a b K=>(bC a/\bC b)/\(decide (cmp (val a) (val b)<0)=true->K (J.tup [J.d (R.ad .u32 []),J.d (R.int .i64 1)]))/\(decide (cmp (val a) (val b)<0)=false->bC a/\bC b/\∃(aK:Int->Int->List Int->List Int->Prop),∃(m:Int->Int->List Int->List Int->Nat),aK 0 0 (aQ (val a)) (aQ (val b))/\∀(cU bn:Int) (aq bz:List Int),aK cU bn aq bz->(decide (bn<↑aq.length)=true->∃(bm:Int->Prop),((decide (bn<↑bz.length)=true->0<=bn/\bn<↑bz.length/\(false,af.ad .u32 aq)=(false,af.ad .u32 aq)/\(false,af.ad .u32 bz)=(false,af.ad .u32 bz)/\bm (aT (cU+aT (bz.getD bn.toNat 0))))/\(decide (bn<↑bz.length)=false->(false,af.ad .u32 aq)=(false,af.ad .u32 aq)/\(false,af.ad .u32 bz)=(false,af.ad .u32 bz)/\bm cU))/\∀(v9:Int),bm v9->0<=bn/\bn<↑aq.length/\(decide (aT (aq.getD bn.toNat 0)<v9)=true->0<=bn/\bn<↑aq.length/\aK 1 (ah (bn+1)) (aq.set bn.toNat (bX (aT (aT (aT (aq.getD bn.toNat 0)+4294967296)-v9)))) bz/\m 1 (ah (bn+1)) (aq.set bn.toNat (bX (aT (aT (aT (aq.getD bn.toNat 0)+4294967296)-v9)))) bz<m cU bn aq bz)/\(decide (aT (aq.getD bn.toNat 0)<v9)=false->0<=bn/\bn<↑aq.length/\aK 0 (ah (bn+1)) (aq.set bn.toNat (bX (aT (aT (aq.getD bn.toNat 0)-v9)))) bz/\m 0 (ah (bn+1)) (aq.set bn.toNat (bX (aT (aT (aq.getD bn.toNat 0)-v9)))) bz<m cU bn aq bz))/\(decide (bn<↑aq.length)=false->bC aq/\K (J.tup [J.d (R.ad .u32 (aQ (val aq))),J.d (R.int .i64 0)])))
def MR:List Int->Int->(af->Prop)->Prop:=
 fun(a:List Int) (k:Int) (K:af->Prop)=>(0:Int)<=ah (aO a+(1:Int))/\ah (aO a+(1:Int))<=ah (aO a+(1:Int))/\ah (aO a+(1:Int))*(4:Int)<=(281474976710656:Int)/\∃(aK:Int->Int->List Int->Prop),∃(m:Int->Int->List Int->Nat),aK (0:Int) (0:Int) (List.replicate (Int.toNat (ah (aO a+(1:Int)))) (0:Int))/\∀(v6 cU:Int) (aq:List Int),aK v6 cU aq->(decide (cU<aO a)=true->(0:Int)<=cU/\cU<aO a/\(0:Int)<=aT k/\(0:Int)<=cU/\cU<aO aq/\aK (Int.fdiv (cL BinOp.or IntKind.u64 (aT (aT (List.getD a (Int.toNat cU) (0:Int))*(2:Int)^min (Int.toNat (aT k)) (64:Nat))) v6) (4294967296:Int)) (ah (cU+(1:Int))) (List.set aq (Int.toNat cU) (bX (cL BinOp.or IntKind.u64 (aT (aT (List.getD a (Int.toNat cU) (0:Int))*(2:Int)^min (Int.toNat (aT k)) (64:Nat))) v6)))/\m (Int.fdiv (cL BinOp.or IntKind.u64 (aT (aT (List.getD a (Int.toNat cU) (0:Int))*(2:Int)^min (Int.toNat (aT k)) (64:Nat))) v6) (4294967296:Int)) (ah (cU+(1:Int))) (List.set aq (Int.toNat cU) (bX (cL BinOp.or IntKind.u64 (aT (aT (List.getD a (Int.toNat cU) (0:Int))*(2:Int)^min (Int.toNat (aT k)) (64:Nat))) v6)))<m v6 cU aq)/\(decide (cU<aO a)=false->(0:Int)<=aO a/\aO a<aO aq/\K (af.ad IntKind.u32 (List.set aq (Int.toNat (aO a)) (bX v6))))
def L3:List Int->Int->(J->Prop)->Prop:=
 fun(a:List Int) (k:Int) (K:J->Prop)=>(0:Int)<=aO a/\aO a<=aO a/\aO a*(4:Int)<=(281474976710656:Int)/\∃(aK:Int->List Int->Prop),∃(m:Int->List Int->Nat),aK (0:Int) (List.replicate (Int.toNat (aO a)) (0:Int))/\∀(v6:Int) (aq:List Int),aK v6 aq->(decide (v6<aO a)=true->(0:Int)<=v6/\v6<aO a/\∃(bm:Int->Prop),((decide (ah (v6+(1:Int))<aO a)=true->(0:Int)<=ah (v6+(1:Int))/\ah (v6+(1:Int))<aO a/\(false,af.ad IntKind.u32 aq)=(false,af.ad IntKind.u32 aq)/\bm (cL BinOp.or IntKind.u64 (aT (List.getD a (Int.toNat v6) (0:Int))) (aT (aT (List.getD a (Int.toNat (ah (v6+(1:Int)))) (0:Int))*(4294967296:Int)))))/\(decide (ah (v6+(1:Int))<aO a)=false->(false,af.ad IntKind.u32 aq)=(false,af.ad IntKind.u32 aq)/\bm (aT (List.getD a (Int.toNat v6) (0:Int)))))/\∀(cU:Int),bm cU->(0:Int)<=aT k/\(0:Int)<=v6/\v6<aO aq/\aK (ah (v6+(1:Int))) (List.set aq (Int.toNat v6) (bX (Int.fdiv cU ((2:Int)^min (Int.toNat (aT k)) (64:Nat)))))/\m (ah (v6+(1:Int))) (List.set aq (Int.toNat v6) (bX (Int.fdiv cU ((2:Int)^min (Int.toNat (aT k)) (64:Nat)))))<m v6 aq)/\(decide (v6<aO a)=false->ab.bC aq/\K (J.d (R.ad IntKind.u32 (ab.aQ (ab.val aq)))))
def L4:Int->(J->Prop)->Prop:=
 fun n K=>(decide (n<0)=true->K (J.tup [J.d (R.ad .u32 []),J.d (R.int .i64 1)]))/\(decide (n<0)=false->bC [bX (cL BinOp.and .i64 n 4294967295),bX (n.fdiv 4294967296)]/\K (J.tup [J.d (R.ad .u32 (aQ (val [bX (cL BinOp.and .i64 n 4294967295),bX (n.fdiv 4294967296)]))),J.d (R.int .i64 0)]))
end ab
end
section
open Go Go.al
namespace ab
theorem yw {b:List Int}{n:Nat}(h:b.length<=n):b.getD n 0=0:=by
 simp[aoA,ape h]
theorem abW {Ks V UN UO w x y C T st:Nat}(U:V+w*C=UN+UO)(aa:st+4294967296*T=C+x+y)(az:Ks=V+w*st):Ks+w*(4294967296*T)=(UN+w*x)+(UO+w*y):=by
 have h:=apb (w*·) aa;simp only[aoO]at h;omega
theorem aaz (a b:List Int)(K:J->Prop)(h:CD.T [.d (.ad .u32 a), .d (.ad .u32 b)] K):NN a b K:=by
 obtain⟨⟨aR,ag,hb,k2⟩,ae⟩:=h;unfold NN ah aT bX aO
 obtain⟨M,hW,ajC,ajD,an3⟩:∃M:Nat,IntKind.wrap .i64 ((if(Nat.cast:Nat->Int) a.length<(Nat.cast:Nat->Int) b.length then(Nat.cast:Nat->Int) b.length else(Nat.cast:Nat->Int) a.length)+1)=(M:Int)/\a.length<M/\b.length<M/\M<=90000001:=by
  split
  ·exact⟨b.length+1,by rw[bR (by omega)];omega,by omega,by omega,by omega⟩
  ·exact⟨a.length+1,by rw[bR (by omega)];omega,by omega,by omega,by omega⟩
 rw[hW];simp only[aoB];refine⟨by omega,by omega,by omega,fun c i o=>bK o/\o.length=M/\∃C i0:Nat,c=C/\i=i0/\i0<=M/\C<=1/\dt o i0+4294967296^i0*C=dt a i0+dt b i0,fun c i o=>M-i.toNat,⟨bK.nm _,by simp,0,0,rfl,rfl,by omega,by omega,by simp[iC]⟩, ?_⟩;rintro c i o ⟨aF,gf,C,n,rfl,rfl,av,l1,ay⟩;rw[gf];refine⟨fun h=> ?_,fun h=> ?_⟩
 ·simp only[aoD]at h;simp only[aoB,ik aR,ik ag];have ai:=fO aR n;have bp:=fO ag n;refine⟨fun v=>v=((C+lm a n:Nat):Int),⟨fun U=> ?_,fun U=> ?_⟩, ?_⟩
  ·simp only[aoD]at U;refine⟨by omega,U,by first|rfl|trivial, ?_⟩;rw[cP (x:=(lm a n:Int)) (by omega),cP (by omega)];omega
  ·simp only[aoC]at U;refine⟨by first|rfl|trivial, ?_⟩;have:lm a n=0:=by unfold lm;rw[yw (by omega)];rfl
   rw[this];rfl
  rintro v rfl;refine⟨fun v=>v=((C+lm a n+lm b n:Nat):Int),⟨fun U=> ?_,fun U=> ?_⟩, ?_⟩
  ·simp only[aoD]at U;refine⟨by omega,U,by first|rfl|trivial, ?_⟩;rw[cP (x:=(lm b n:Int)) (by omega),cP (by omega)];omega
  ·simp only[aoC]at U;refine⟨by first|rfl|trivial, ?_⟩;have:lm b n=0:=by unfold lm;rw[yw (by omega)];rfl
   rw[this];rfl
  rintro v rfl;have aA:IntKind.wrap .i64 ((n:Int)+1)=((n+1:Nat):Int):=by rw[bR (by omega)];omega
  have aL:IntKind.wrap .u32 ((C+lm a n+lm b n:Nat):Int)=(((C+lm a n+lm b n)%4294967296:Nat):Int):=by rw[ke];omega
  have b3:Int.fdiv ((C+lm a n+lm b n:Nat):Int) 4294967296=(((C+lm a n+lm b n)/4294967296:Nat):Int):=by rw[apg _ (by omega)];omega
  simp only[aA,aL,b3];refine⟨by omega,by omega,⟨aF.set _ ⟨by omega,by omega⟩,by rw[aoI];exact gf,_,n+1,rfl,rfl,by omega,by omega, ?_⟩,by show M-((n+1:Nat):Int).toNat<M-(n:Int).toNat;omega⟩
  have hw:dt (o.set n (((C+lm a n+lm b n)%4294967296:Nat):Int)) (n+1)=dt o n+4294967296^n*((C+lm a n+lm b n)%4294967296):=by
   rw[gr,rf _ _ _ _ (aoE _),eu,aoy ⟨rfl,by omega⟩,aoB]
  have aU:=abW (x:=lm a n) (y:=lm b n) (T:=(C+lm a n+lm b n)/4294967296) ay (by omega) hw;rw[ao2,apa,gr a,gr b];exact aU
 ·simp only[aoC]at h;obtain rfl:n=M:=by omega
  refine⟨⟨aF,by omega⟩, ?_⟩;rw[ht a (by omega),ht b (by omega),ht o (by omega)]at ay;have U:=iD aR;have aa:=iD ag
  have Ai:C=0:=by
   rcases ap6 C with bc|bc
   ·exact bc
   ·exfalso;have az:4294967296^a.length*4294967296<=4294967296^n:=by rw[<-ao2];exact apf (by decide) ajC
    have aW:4294967296^b.length*4294967296<=4294967296^n:=by rw[<-ao2];exact apf (by decide) ajD
    have bA:=apc (4294967296^n) bc;omega
  rw[Ai,ao4,aoW]at ay;rw[ay];exact ae
theorem QE {tI tJ vo w fl st X C T A:Nat}(a1:tJ+w*fl=tI+w*st)(a2:tI+w*C=vo+A)(a3:st+4294967296*T=X+fl+C):tJ+w*(4294967296*T)=vo+(A+w*X):=by
 have h:=apb (w*·) a3;simp only[aoO]at h;omega
theorem QF {x y:Nat}(ai:x<4294967296)(bp:y<4294967296):x*y<=18446744065119617025:=by
 have:x*y<=4294967295*4294967295:=ap7 (by omega) (by omega);omega
theorem aaA (a b:List Int)(K:J->Prop)(h:CE.T [.d (.ad .u32 a), .d (.ad .u32 b)] K):NO a b K:=by
 obtain⟨⟨aR,ag,hb,k2⟩,ae⟩:=h;unfold NO ah aT bX
 have hG:IntKind.wrap .i64 (IntKind.wrap .i64 ((Nat.cast:Nat->Int) a.length+(Nat.cast:Nat->Int) b.length)+1)=((a.length+b.length+1:Nat):Int):=by
  rw[bR (x:=(Nat.cast:Nat->Int) a.length+(Nat.cast:Nat->Int) b.length) (by omega),bR (by omega)];omega
 rw[hG];simp only[aoB];refine⟨by omega,by omega,by omega,fun i o=>bK o/\o.length=a.length+b.length+1/\∃n:Nat,i=n/\n<=a.length/\val o=dt a n*val b,fun i o=>a.length-i.toNat,⟨bK.nm _,by simp,0,rfl,by omega,by rw[yg,iC,apT]⟩, ?_⟩;rintro i o ⟨aF,gf,n,rfl,av,aP⟩;refine⟨fun h=> ?_,fun h=> ?_⟩
 ·simp only[aoD]at h;simp only[aoB,ik aR,ik ag]
  refine⟨fun c k p=>bK p/\p.length=a.length+b.length+1/\∃C q:Nat,c=C/\k=q/\q<=b.length/\C<4294967296/\val p+4294967296^(n+q)*C=val o+4294967296^n*(lm a n*dt b q),fun c k p=>b.length-k.toNat,
   ⟨aF,gf,0,0,rfl,rfl,by omega,by omega,by rw[iC,ao4,ao4,ao4]⟩, ?_⟩
  rintro c k p ⟨aE,ir,C,q,rfl,rfl,a_,l1,ay⟩;refine⟨fun aa=> ?_,fun aa=> ?_⟩
  ·simp only[aoD]at aa;have aA:IntKind.wrap .i64 ((n:Int)+(q:Int))=((n+q:Nat):Int):=by rw[bR (by omega)];omega
   have aL:IntKind.wrap .i64 ((q:Int)+1)=((q+1:Nat):Int):=by rw[bR (by omega)];omega
   simp only[aA,aL,aoB,ik aE];have ai:=fO aR n;have bp:=fO ag q;have hT:=fO aE (n+q);have Ft:=QF ai bp;have rI:(p.getD (n+q) 0).toNat=lm p (n+q):=rfl;have TE:(b.getD q 0).toNat=lm b q:=rfl
   obtain⟨x,hk⟩:∃x,lm a n=x:=⟨_,rfl⟩
   obtain⟨y,nF⟩:∃x,lm b q=x:=⟨_,rfl⟩
   obtain⟨z,dr⟩:∃x,lm p (n+q)=x:=⟨_,rfl⟩
   rw[hk]at ay ai Ft;rw[nF]at bp Ft TE;rw[dr]at hT rI;simp only[hk,nF,dr]
   have w1:IntKind.wrap .u64 (IntKind.wrap .u64 (IntKind.wrap .u64 (IntKind.wrap .u64 (x:Int)*IntKind.wrap .u64 (y:Int))+IntKind.wrap .u64 (z:Int))+(C:Int))=((x*y+z+C:Nat):Int):=by
    rw[cP (x:=(x:Int)) (by omega),cP (x:=(y:Int)) (by omega),cP (x:=(z:Int)) (by omega),<-apK];generalize x*y=UP at Ft⊢;rw[cP (x:=(UP:Int)) (by omega),cP (x:=(UP:Int)+(z:Int)) (by omega),cP (by omega)];omega
   simp only[w1]
   obtain⟨S,h7⟩:∃S,x*y+z+C=S:=⟨_,rfl⟩
   simp only[h7];have db:IntKind.wrap .u32 (S:Int)=((S%4294967296:Nat):Int):=by rw[ke];omega
   have bX:Int.fdiv (S:Int) 4294967296=((S/4294967296:Nat):Int):=by rw[apg _ (by omega)];omega
   simp only[db,bX];have TF:S<18446744073709551616:=by omega
   have hy:=l_ p (n+q) ((S%4294967296:Nat):Int) (by omega);rw[rI,aoB]at hy;have aU:=QE (X:=x*y) (T:=S/4294967296) hy ay (by omega);refine⟨by omega,by omega,by omega,by omega,by omega,by omega,by omega,by omega,⟨aE.set _ ⟨by omega,by omega⟩,by rw[aoI];exact ir,_,q+1,rfl,rfl,by omega,by omega, ?_⟩,by show b.length-((q+1:Nat):Int).toNat<b.length-(q:Int).toNat;omega⟩;have hn:4294967296^(n+(q+1))*(S/4294967296)=4294967296^(n+q)*(4294967296*(S/4294967296)):=by rw[<-apy,ao2,apa]
   have j6:4294967296^n*(x*dt b (q+1))=4294967296^n*(x*dt b q)+4294967296^(n+q)*(x*y):=by
    rw[gr,TE,aoO,aoO,api,apC x,apa]
   rw[hn,j6];exact aU
  ·simp only[aoC]at aa;obtain rfl:q=b.length:=by omega
   have aA:IntKind.wrap .i64 ((n:Int)+(Nat.cast:Nat->Int) b.length)=((n+b.length:Nat):Int):=by rw[bR (by omega)];omega
   rw[aA];rw[ht b (aoE _)]at ay
   have agu:val o+4294967296^n*(lm a n*val b)=dt a (n+1)*val b:=by
    rw[aP,gr,aoT,apa];rfl
   have hbound:dt a (n+1)*val b<4294967296^(a.length+b.length+1):=by
    have U:=rp aR (n+1);have aa:=iD ag;have az:=Nat.mul_lt_mul'' U aa;rw[<-api]at az;exact aoV az (apf (by decide) (by omega))
   rw[agu]at ay
   refine⟨fun c k p=>bK p/\p.length=a.length+b.length+1/\∃C q:Nat,c=C/\k=q/\q<=a.length+b.length+1/\C<4294967296/\val p+4294967296^q*C=dt a (n+1)*val b,fun c k p=>a.length+b.length+1-k.toNat,
    ⟨aE,ir,C,n+b.length,rfl,rfl,by omega,l1,ay⟩, ?_⟩
   rintro c k p ⟨aE,ir,C,q,rfl,rfl,a_,l1,ay⟩;refine⟨fun az=> ?_,fun az=> ?_⟩
   ·simp only[aoD]at az
    have u6:q<a.length+b.length+1:=by
     rcases aqp q (a.length+b.length+1)with aW|aW
     ·exact aW
     ·exfalso;have bA:4294967296^(a.length+b.length+1)<=4294967296^q:=apf (by decide) aW;have bZ:=apc (4294967296^q) (show 1<=C by omega);omega
    have aL:IntKind.wrap .i64 ((q:Int)+1)=((q+1:Nat):Int):=by rw[bR (by omega)];omega
    simp only[aL,aoB,ik aE];have hT:=fO aE q;have rI:(p.getD q 0).toNat=lm p q:=rfl
    obtain⟨z,dr⟩:∃x,lm p q=x:=⟨_,rfl⟩
    rw[dr]at hT rI;simp only[dr];have w1:IntKind.wrap .u64 (IntKind.wrap .u64 (z:Int)+(C:Int))=((z+C:Nat):Int):=by rw[cP (x:=(z:Int)) (by omega),cP (by omega)];omega
    simp only[w1]
    obtain⟨S,h7⟩:∃S,z+C=S:=⟨_,rfl⟩
    simp only[h7];have db:IntKind.wrap .u32 (S:Int)=((S%4294967296:Nat):Int):=by rw[ke];omega
    have bX:Int.fdiv (S:Int) 4294967296=((S/4294967296:Nat):Int):=by rw[apg _ (by omega)];omega
    simp only[db,bX];have hy:=l_ p q ((S%4294967296:Nat):Int) (by omega);rw[rI,aoB]at hy;have aU:=QE (X:=0) (A:=dt a (n+1)*val b) (vo:=0) (C:=C) (T:=S/4294967296) hy (by rw[ao8];exact ay) (by omega);rw[ao4,aoW,ao8]at aU;refine⟨by omega,by omega,by omega,by omega,⟨aE.set _ ⟨by omega,by omega⟩,by rw[aoI];exact ir,_,q+1,rfl,rfl,by omega,by omega, ?_⟩,by show a.length+b.length+1-((q+1:Nat):Int).toNat<a.length+b.length+1-(q:Int).toNat;omega⟩;have hn:4294967296^(q+1)*(S/4294967296)=4294967296^q*(4294967296*(S/4294967296)):=by rw[ao2,apa]
    rw[hn];exact aU
   ·simp only[aoC]at az;obtain rfl:C=0:=by omega
    have b3:IntKind.wrap .i64 ((n:Int)+1)=((n+1:Nat):Int):=by rw[bR (by omega)];omega
    rw[b3];refine⟨⟨aE,ir,n+1,rfl,by omega,by omega⟩,by show a.length-((n+1:Nat):Int).toNat<a.length-(n:Int).toNat;omega⟩
 ·simp only[aoC]at h;obtain rfl:n=a.length:=by omega
  refine⟨⟨aF,by omega⟩, ?_⟩;rw[aP,ht a (aoE _)];exact ae
end ab
end
section
open Go Go.al
namespace ab
end ab
end
section
namespace ab
open Go Go.al Go.Sort
def dW (l:List Row)(i j:Nat):List Row:=(l.set i (l.getD j [])).set j (l.getD i [])
theorem wF (l:List Row)(j:Nat):l.toArray[j]! =l.getD j []:=by
 simp[aoA];cases h:l[j]? <;>simp[h];rfl
theorem kK (l:List Row)(i j:Nat):swp l.toArray i j=(dW l i j).toArray:=by
 unfold swp dW;rw[wF,wF];simp
theorem sJ (l:List Row)(i j:Nat):(dW l i j).length=l.length:=by simp[dW]
theorem c7.get {l:List Row}(h:c7 l){i:Nat}(hi:i<l.length):eP (l.getD i []):=by
 rw[aoA,aoM hi];exact h _ (apF hi)
theorem eP.len {r:Row}(h:eP r):r.length=11:=by
 obtain⟨_,_,_,_,_,_,_,_,_,_,_,rfl⟩:=h;rfl
theorem c7.len {l:List Row}(h:c7 l){i:Nat}(hi:i<l.length):(l.getD i []).length=11:=(h.get hi).len
theorem c7.set {l:List Row}(h:c7 l){i:Nat}{r:Row}(an:eP r):c7 (l.set i r):=fun x ai=>by
 rcases ap9 ai with ai|rfl
 ·exact h x ai
 ·exact an
theorem c7.dW {l:List Row}(h:c7 l){i j:Nat}(hi:i<l.length)(aI:j<l.length):c7 (dW l i j):=(h.set (h.get aI)).set (h.get hi)
theorem mg (l:List Row)(i j:Nat):bk l.toArray[i]! l.toArray[j]! =decide (gH (l.getD i []) (l.getD j [])<0):=by
 rw[wF,wF];rfl
theorem abX {A j:Nat}{l:List Row}(U:A<j+1)(aa:gH (l.getD (j+1) []) (l.getD j [])<0):insInner bk A (j+1) l.toArray=insInner bk A j (dW l (j+1) j).toArray:=by
 rw[insInner,mg,ap_ aa,<-kK];simp;omega
theorem PA {A j:Nat}{l:List Row}(h:j<=A\/¬gH (l.getD j []) (l.getD (j-1) [])<0):insInner bk A j l.toArray=l.toArray:=by
 cases j with
 |zero=>rfl
 |succ j=>
  rw[insInner,mg];rcases h with h|h
  ·rw[aox];simp;omega
  ·rw[aox];simp at h;simp[h]
theorem KK (l:List Row)(a b:Int)(K:af->J->Prop)(h:fP l a b/\K (.ar 11 (insertionSort bk l.toArray a.toNat b.toNat).toList) (.tup [])):KG l a b K:=by
 obtain⟨⟨ax,aR,jD,ag,av⟩,ae⟩:=h;obtain⟨A,rfl⟩:=aoG aR;obtain⟨B,rfl⟩:=aoG (apY aR jD);simp only[aoB]at ae;unfold KG ah List.aG;rw[bR (x:=(A:Int)+1) (by omega)];refine⟨fun v o=>(A:Int)+1<=v/\v<=B+1/\c7 o/\o.length=l.length/\insOuter bk A B v.toNat o.toArray=insertionSort bk l.toArray A B,fun v _=>(B+1-v:Int).toNat,⟨by omega,by omega,ax,rfl,rfl⟩, ?_⟩;rintro v o ⟨U,aa,az,aW,bA⟩;obtain⟨V,rfl⟩:=aoG (a:=v) (by omega);refine⟨fun h=> ?_,fun h=> ?_⟩
 ·have h:=aoJ h;refine⟨fun j cc=>(A:Int)<=j/\j<=V/\c7 cc/\cc.length=l.length/\insInner bk A j.toNat cc.toArray=insInner bk A V o.toArray,fun j _=>j.toNat,⟨by omega,by omega,az,aW,rfl⟩, ?_⟩;rintro j cc ⟨g1,g2,g3,g4,g5⟩;obtain⟨bm,rfl⟩:=aoG (a:=j) (by omega)
  have fin:insInner bk A bm cc.toArray=cc.toArray->(A:Int)+1<=IntKind.wrap .i64 ((V:Int)+1)/\IntKind.wrap .i64 ((V:Int)+1)<=B+1/\c7 cc/\cc.length=l.length/\insOuter bk A B (IntKind.wrap .i64 ((V:Int)+1)).toNat cc.toArray=insertionSort bk l.toArray A B:=fun e=>by
   rw[bR (x:=(V:Int)+1) (by omega)];refine⟨by omega,by omega,g3,g4, ?_⟩;rw[show((V:Int)+1).toNat=V+1 by omega,<-bA,aoB]
   conv=>rhs;rw[insOuter]
   rw[aoy (by omega),<-g5,aoB,e]
  have dec:(B+1-IntKind.wrap .i64 ((V:Int)+1):Int).toNat<(B+1-(V:Int)).toNat:=by rw[bR (x:=(V:Int)+1) (by omega)];omega
  refine⟨fun aI=> ?_,fun aI=> ?_⟩
  ·have aI:=aoJ aI;rw[bR (x:=(bm:Int)-1) (by omega)]
   obtain⟨fS,rfl⟩:∃fS,bm=fS+1:=⟨bm-1,by omega⟩
   rw[show((fS+1:Nat):Int)-1=(fS:Int) by omega];simp only[aoB,aoI]at g5⊢;have cZ:fS+1<cc.length:=by omega
   have di:fS<cc.length:=by omega
   refine⟨by omega,by omega,g3.len cZ,by omega,by omega,g3.len di,⟨g3.get cZ,g3.get di⟩, ?_⟩;rintro _ rfl;refine⟨fun aC=> ?_,fun aC=> ?_⟩
   ·have aC:=aoJ aC;refine⟨by omega,by omega,g3.len di,by omega,by omega,g3.len cZ,by omega,by omega,by omega,by omega,⟨by omega,by omega,g3.dW cZ di,g4, ?_⟩,by omega⟩;rw[<-g5,abX (by omega) aC];rfl
   ·have aC:=aoN aC;exact⟨fin (PA (.inr aC)),dec⟩
  ·have aI:=aoN aI;exact⟨fin (PA (.inl (by omega))),dec⟩
 ·have h:=aoN h;rw[<-bA,insOuter,aox (by rw[aoB];omega)]at ae;exact ae
def Child (hi f r:Nat)(l:List Row)(c:Nat):Prop:=
 (c=2*r+2/\2*r+2<hi/\gH (l.getD (f+(2*r+1)) []) (l.getD (f+(2*r+1)+1) [])<0)\/
 (c=2*r+1/\2*r+1<hi/\¬(2*r+2<hi/\gH (l.getD (f+(2*r+1)) []) (l.getD (f+(2*r+1)+1) [])<0))
theorem Hh {hi f r:Nat}{d:Array Row}(h:hi<=2*r+1):siftDown bk hi f r d=d:=by
 rw[siftDown,dif_pos h]
theorem OC {hi f r c:Nat}{l:List Row}(aC:Child hi f r l c)(h:¬gH (l.getD (f+r) []) (l.getD (f+c) [])<0):siftDown bk hi f r l.toArray=l.toArray:=by
 rcases aC with⟨rfl,U,aa⟩|⟨rfl,U,aa⟩
 ·rw[siftDown,dif_neg (by omega),mg,mg,mg,aoy (by simp;exact⟨U,aa⟩),aoy (by simp at h;simp[h])]
 ·rw[siftDown,dif_neg (by omega),mg,mg,mg,aox (by simpa using aa),aoy (by simp at h;simp[h])]
theorem QG {hi f r c:Nat}{l:List Row}(aC:Child hi f r l c)(h:gH (l.getD (f+r) []) (l.getD (f+c) [])<0):siftDown bk hi f r l.toArray=siftDown bk hi f c (dW l (f+r) (f+c)).toArray:=by
 rcases aC with⟨rfl,U,aa⟩|⟨rfl,U,aa⟩
 ·rw[siftDown,dif_neg (by omega),mg,mg,mg,aoy (by simp;exact⟨U,aa⟩),aox (by simpa using h),dif_pos U,kK]
 ·rw[siftDown,dif_neg (by omega),mg,mg,mg,aox (by simpa using aa),aox (by simpa using h),kK]
theorem K0 (l:List Row)(lo hi f:Int)(K:af->J->Prop)(h:(c7 l/\0<=lo/\lo<=(l.length:Int)/\0<=hi/\0<=f/\f+hi<=(l.length:Int)/\l.length<1000000000000000)/\K (.ar 11 (siftDown bk hi.toNat f.toNat lo.toNat l.toArray).toList) (.tup [])):KV l lo hi f K:=by
 obtain⟨⟨ax,bc,U,aa,az,aW,av⟩,ae⟩:=h;obtain⟨bD,rfl⟩:=aoG bc;obtain⟨H,rfl⟩:=aoG aa;obtain⟨F,rfl⟩:=aoG az;simp only[aoB]at ae;unfold KV ah;refine⟨fun v o=>0<=v/\v<=(l.length:Int)/\c7 o/\o.length=l.length/\siftDown bk H F v.toNat o.toArray=siftDown bk H F bD l.toArray,fun v _=>(H-v:Int).toNat,⟨by omega,by omega,ax,rfl,rfl⟩, ?_⟩;rintro v o ⟨g1,g2,g3,g4,g5⟩;obtain⟨V,rfl⟩:=aoG g1;simp only[aoB]at g5;have w1:IntKind.wrap .i64 ((2:Int)*(V:Int))=((2*V:Nat):Int):=by rw[bR (by omega)];omega
 have db:IntKind.wrap .i64 (((2*V:Nat):Int)+1)=((2*V+1:Nat):Int):=by rw[bR (by omega)];omega
 have bX:IntKind.wrap .i64 (((2*V+1:Nat):Int)+1)=((2*V+2:Nat):Int):=by rw[bR (by omega)];omega
 have j_:IntKind.wrap .i64 ((F:Int)+((2*V+1:Nat):Int))=((F+(2*V+1):Nat):Int):=by rw[bR (by omega)];omega
 have xS:IntKind.wrap .i64 (((F+(2*V+1):Nat):Int)+1)=((F+(2*V+1)+1:Nat):Int):=by rw[bR (by omega)];omega
 have ah:IntKind.wrap .i64 ((F:Int)+(V:Int))=((F+V:Nat):Int):=by rw[bR (by omega)];omega
 simp only[w1,db,bX,j_,xS,ah,aoB];refine⟨fun h=> ?_,fun h=> ?_⟩
 ·have h:=aoJ h;rw[<-g5,Hh (by omega)]at ae;exact ae
 ·have h:=aoN h;have cb:F+V<o.length:=by omega
  refine⟨fun c bz=>bz=o/\0<=c/\Child H F V o c.toNat,⟨fun aa=> ?_,fun aa=> ?_⟩, ?_⟩
  ·have aa:=aoJ aa;have cZ:F+(2*V+1)<o.length:=by omega
   have di:F+(2*V+1)+1<o.length:=by omega
   refine⟨by omega,by omega,g3.len cZ,by omega,by omega,g3.len di,⟨g3.get cZ,g3.get di⟩, ?_⟩;rintro _ rfl;refine⟨fun az=> ?_,fun az=> ?_⟩
   ·have az:=aoJ az;exact⟨rfl,by omega, .inl ⟨by omega,by omega,az⟩⟩
   ·have az:=aoN az;exact⟨rfl,by omega, .inr ⟨by omega,by omega,fun h=>az h.2⟩⟩
  ·have aa:=aoN aa;exact⟨rfl,by omega, .inr ⟨by omega,by omega,fun h=>aa (by omega)⟩⟩
  ·rintro c bz ⟨rfl,UQ,aC⟩;obtain⟨C,rfl⟩:=aoG UQ;simp only[aoB]at aC;have l1:C<H/\V<C:=by rcases aC with⟨rfl,_,_⟩|⟨rfl,_,_⟩<;>omega
   have aT:IntKind.wrap .i64 ((F:Int)+(C:Int))=((F+C:Nat):Int):=by rw[bR (by omega)];omega
   simp only[aT,aoB,aoI];have jd:F+C<bz.length:=by omega
   refine⟨by omega,by omega,g3.len cb,by omega,by omega,g3.len jd,⟨g3.get cb,g3.get jd⟩, ?_⟩;rintro _ rfl;refine⟨fun az=> ?_,fun az=> ?_⟩
   ·have az:¬(gH (bz.getD (F+V) []) (bz.getD (F+C) [])<0):=by simpa using az
    rw[<-g5,OC aC az]at ae;exact ae
   ·have az:gH (bz.getD (F+V) []) (bz.getD (F+C) [])<0:=by simpa using az
    refine⟨by omega,by omega,g3.len jd,by omega,by omega,g3.len cb,by omega,by omega,by omega,by omega,⟨by omega,by omega,g3.dW cb jd,g4, ?_⟩,by omega⟩;rw[<-g5,QG aC az];rfl
theorem abY {d:Array Row}{n i j:Nat}(h:d.size=n/\c7 d.toList)(hi:i<n)(aI:j<n):(swp d i j).size=n/\c7 (swp d i j).toList:=by
 obtain⟨l⟩:=d;rw[kK];have U:l.length=n:=by simpa using h.1
 have aa:c7 l:=h.2;exact⟨by simpa[sJ]using U,c7.dW aa (by omega) (by omega)⟩
theorem aaB (hi f n:Nat)(ay:f+hi<=n):∀(m root:Nat) (d:Array Row),hi-root<=m->(d.size=n/\c7 d.toList)->(siftDown bk hi f root d).size=n/\c7 (siftDown bk hi f root d).toList:=by
 intro m
 induction m with
 |zero=>intro root d h a8;rw[Hh (by omega)];exact a8
 |succ m bF=>
  intro root d h a8;obtain⟨l⟩:=d
  by_cases U:hi<=2*root+1
  ·rw[Hh U];exact a8
  ·obtain⟨c,aC⟩:∃c,Child hi f root l c:=by
    by_cases aa:2*root+2<hi/\gH (l.getD (f+(2*root+1)) []) (l.getD (f+(2*root+1)+1) [])<0
    ·exact⟨_, .inl ⟨rfl,aa.1,aa.2⟩⟩
    ·exact⟨_, .inr ⟨rfl,by omega,aa⟩⟩
   have jo:c<hi/\root<c:=by rcases aC with⟨rfl,_,_⟩|⟨rfl,_,_⟩<;>omega
   by_cases az:gH (l.getD (f+root) []) (l.getD (f+c) [])<0
   ·rw[QG aC az,<-kK];exact bF c _ (by omega) (abY a8 (by omega) (by omega))
   ·rw[OC aC az];exact a8
theorem OD {hi f root:Nat}{l:List Row}(ay:f+hi<=l.length)(h:c7 l):(siftDown bk hi f root l.toArray).toList.length=l.length/\c7 (siftDown bk hi f root l.toArray).toList:=by
 have:=aaB hi f l.length ay (hi-root) root l.toArray (aoE _) ⟨by simp,h⟩;exact⟨by simpa using this.1,this.2⟩
theorem K1 (l:List Row)(a b:Int)(K:af->J->Prop)(h:(fP l a b/\a<b)/\K (.ar 11 (heapSort bk l.toArray a.toNat b.toNat).toList) (.tup [])):KW l a b K:=by
 obtain⟨⟨⟨ax,aR,jD,ag,av⟩,bG⟩,ae⟩:=h;obtain⟨A,rfl⟩:=aoG aR;obtain⟨B,rfl⟩:=aoG (apY aR jD)
 obtain⟨H,rfl⟩:∃H,B=A+H:=⟨B-A,by omega⟩
 simp only[aoB]at ae;unfold KW ah List.aG;have w1:IntKind.wrap .i64 (((A+H:Nat):Int)-(A:Int))=(H:Int):=by rw[bR (by omega)];omega
 have db:IntKind.wrap .i64 ((H:Int)-1)=(H:Int)-1:=bR (by omega)
 have bX:IntKind.wrap .i64 (Int.tdiv ((H:Int)-1) 2)=(((H-1)/2:Nat):Int):=by
  have:(H:Int)-1=((H-1:Nat):Int):=by omega
  have aL:Int.tdiv ((H-1:Nat):Int) 2=(((H-1)/2:Nat):Int):=(Int.ofNat_tdiv (H-1) 2).symm;rw[this,aL,bR (by omega)]
 simp only[w1,db,bX,aoB];refine⟨fun o=>c7 o/\o.length=l.length/\heapPop bk A H o.toArray=heapSort bk l.toArray A (A+H),⟨fun v o=>-1<=v/\v<=H/\c7 o/\o.length=l.length/\heapBuild bk H A (v+1).toNat o.toArray=heapBuild bk H A ((H-1)/2+1) l.toArray,fun v _=>(v+1).toNat,⟨by omega,by omega,ax,rfl, ?_⟩, ?_⟩, ?_⟩
 ·rw[show((((H-1)/2:Nat):Int)+1).toNat=(H-1)/2+1 by omega]
 ·rintro v o ⟨g1,g2,g3,g4,g5⟩;refine⟨fun h=> ?_,fun h=> ?_⟩
  ·have h:=aoJ h;obtain⟨V,rfl⟩:=aoG h;rw[bR (x:=(V:Int)-1) (by omega)];obtain⟨a6,bj⟩:=OD (hi:=H) (f:=A) (root:=V) (l:=o) (by omega) g3;refine⟨by omega,⟨g3,by omega,by omega,by omega,by omega,by omega,by omega⟩,⟨by omega,by omega,bj,by rw[<-g4];exact a6, ?_⟩, ?_⟩
   ·rw[<-g5,show((V:Int)+1).toNat=V+1 by omega,show((V:Int)-1+1).toNat=V by omega]
    rfl
   ·show((V:Int)-1+1).toNat<((V:Int)+1).toNat;omega
  ·have h:=aoN h;refine⟨g3,g4, ?_⟩;unfold heapSort;rw[show A+H-A=H by omega,<-g5,show(v+1).toNat=0 by omega];rfl
 ·rintro o ⟨g1,g2,g3⟩;refine⟨fun v cc=>-1<=v/\v<H/\c7 cc/\cc.length=l.length/\heapPop bk A (v+1).toNat cc.toArray=heapSort bk l.toArray A (A+H),fun v _=>(v+1).toNat,⟨by omega,by omega,g1,g2,by rw[show((H:Int)-1+1).toNat=H by omega];exact g3⟩, ?_⟩;rintro v cc ⟨q1,cE,cS,gx,dV⟩;refine⟨fun h=> ?_,fun h=> ?_⟩
  ·have h:=aoJ h;obtain⟨V,rfl⟩:=aoG h;have j_:IntKind.wrap .i64 ((A:Int)+(V:Int))=((A+V:Nat):Int):=by rw[bR (by omega)];omega
   have cZ:A<cc.length:=by omega
   have di:A+V<cc.length:=by omega
   have h9:=cS.dW cZ di;have gT:(dW cc A (A+V)).length=l.length:=by rw[sJ];exact gx
   obtain⟨a6,bj⟩:=OD (hi:=V) (f:=A) (root:=0) (l:=dW cc A (A+V)) (by omega) h9;simp only[j_,aoB];rw[bR (x:=(V:Int)-1) (by omega),show(cc.set A (cc.getD (A+V) [])).set (A+V) (cc.getD A [])=dW cc A (A+V)from rfl];refine⟨by omega,by omega,cS.len di,by omega,by omega,cS.len cZ,by omega,by omega,by omega,by simp;omega,by omega,⟨h9,by omega,by omega,by omega,by omega,by omega,by omega⟩,⟨by omega,by omega,bj,by rw[<-gT];exact a6, ?_⟩, ?_⟩
   ·rw[<-dV,show((V:Int)+1).toNat=V+1 by omega,show((V:Int)-1+1).toNat=V by omega,heapPop,kK]
   ·show((V:Int)-1+1).toNat<((V:Int)+1).toNat;omega
  ·have h:=aoN h;rw[<-dV,show(v+1).toNat=0 by omega]at ae;exact ae
theorem abZ {i j:Nat}{o:List Row}(h:i<j):reverseLoop i j o.toArray=reverseLoop (i+1) (j-1) (dW o i j).toArray:=by
 rw[reverseLoop,aoy h,kK]
theorem ab0 {i j:Nat}{d:Array Row}(h:¬i<j):reverseLoop i j d=d:=by rw[reverseLoop,aox h]
theorem KN (l:List Row)(a b:Int)(K:af->J->Prop)(h:fP l a b/\K (.ar 11 (reverseRange l.toArray a.toNat b.toNat).toList) (.tup [])):KJ l a b K:=by
 obtain⟨⟨ax,aR,jD,ag,av⟩,ae⟩:=h;obtain⟨A,rfl⟩:=aoG aR;obtain⟨B,rfl⟩:=aoG (apY aR jD);simp only[aoB]at ae;unfold KJ ah List.aG;rw[bR (x:=(B:Int)-1) (by omega)];refine⟨fun i j o=>0<=i/\i<=(l.length:Int)/\-1<=j/\j<(l.length:Int)/\c7 o/\o.length=l.length/\(if i<j then reverseLoop i.toNat j.toNat o.toArray else o.toArray)=reverseRange l.toArray A B,fun i j _=>(j-i).toNat,⟨by omega,by omega,by omega,by omega,ax,rfl, ?_⟩, ?_⟩
 ·unfold reverseRange;split
  ·rw[show((B:Int)-1).toNat=B-1 by omega,aoB]
  ·rw[reverseLoop,aox (by omega)]
 ·rintro i j o ⟨g1,g2,g3,g4,g5,g6,g7⟩;refine⟨fun h=> ?_,fun h=> ?_⟩
  ·have h:=aoJ h;obtain⟨aK,rfl⟩:=aoG g1;obtain⟨bm,rfl⟩:=aoG (a:=j) (by omega);rw[bR (x:=(aK:Int)+1) (by omega),bR (x:=(bm:Int)-1) (by omega)];simp only[aoB,aoI]at g7⊢;have cZ:aK<o.length:=by omega
   have di:bm<o.length:=by omega
   rw[show(o.set aK (o.getD bm [])).set bm (o.getD aK [])=dW o aK bm from rfl];refine⟨by omega,by omega,g5.len di,by omega,by omega,g5.len cZ,by omega,by omega,by omega,by omega,⟨by omega,by omega,by omega,by omega,g5.dW cZ di,g6, ?_⟩,by omega⟩;rw[<-g7,aoy h,abZ (i:=aK) (j:=bm) (o:=o) (by omega),show((aK:Int)+1).toNat=aK+1 by omega,show((bm:Int)-1).toNat=bm-1 by omega];split
   ·rfl
   ·rw[ab0 (by omega)]
  ·have h:=aoN h;rw[<-g7,aox h]at ae;exact ae
end ab
end
section
namespace ab
open Go Go.al Go.Sort
theorem HW {p:Row->Bool}{d:Array Row}{j i:Nat}(h:i<=j)(aE:p d[i]! =true):scanUp p d j i=scanUp p d j (i+1):=by
 rw[scanUp,aoy (by simp[h,aE])]
theorem wG {p:Row->Bool}{d:Array Row}{j i:Nat}(h:j<i\/p d[i]! =false):scanUp p d j i=i:=by
 rw[scanUp,aox];rcases h with h|h
 ·simp;omega
 ·simp[h]
theorem HX {p:Row->Bool}{d:Array Row}{i j:Nat}(h:i<=j+1)(aE:p d[j+1]! =true):scanDown p d i (j+1)=scanDown p d i j:=by
 rw[scanDown,aoy (by simp[h,aE])]
theorem wH {p:Row->Bool}{d:Array Row}{i j:Nat}(hi:1<=i)(h:j<i\/p d[j]! =false):scanDown p d i j=j:=by
 cases j with
 |zero=>rfl
 |succ j=>
  rw[scanDown,aox];rcases h with h|h
  ·simp;omega
  ·simp[h]
theorem jz (o:List Row)(i a:Nat):bk o.toArray[i]! o.toArray[a]! =decide (gH (o.getD i []) (o.getD a [])<0):=mg o i a
theorem YV {l:List Row}{A B Q aK bm:Nat}(U:scanUp (fun x=>bk x (dW l A Q).toArray[A]!) (dW l A Q).toArray (B-1) (A+1)=aK)(aa:scanDown (fun x=> !bk x (dW l A Q).toArray[A]!) (dW l A Q).toArray aK (B-1)=bm)(h:aK>bm):
 partition bk l.toArray A B Q=(bm,true,(dW (dW l A Q) bm A).toArray):=by
 unfold partition;simp only[kK,U,aa,aoy h]
theorem aaC {l:List Row}{A B Q aK bm:Nat}(U:scanUp (fun x=>bk x (dW l A Q).toArray[A]!) (dW l A Q).toArray (B-1) (A+1)=aK)(aa:scanDown (fun x=> !bk x (dW l A Q).toArray[A]!) (dW l A Q).toArray aK (B-1)=bm)(h:¬aK>bm):
 partition bk l.toArray A B Q=((partLoop bk A (aK+1) (bm-1) (dW (dW l A Q) aK bm).toArray).1,false,swp (partLoop bk A (aK+1) (bm-1) (dW (dW l A Q) aK bm).toArray).2 (partLoop bk A (aK+1) (bm-1) (dW (dW l A Q) aK bm).toArray).1 A):=by
 unfold partition;simp only[kK,U,aa,aox h]
theorem YW {a i j i2 eS:Nat}{d:Array Row}(U:scanUp (fun x=>bk x d[a]!) d j i=i2)(aa:scanDown (fun x=> !bk x d[a]!) d i2 j=eS)(h:i2>eS):partLoop bk a i j d=(eS,d):=by
 rw[partLoop];simp only[U,aa,aoy h]
theorem ab1 {a i j i2 eS:Nat}{l:List Row}(U:scanUp (fun x=>bk x l.toArray[a]!) l.toArray j i=i2)(aa:scanDown (fun x=> !bk x l.toArray[a]!) l.toArray i2 j=eS)(h:¬i2>eS)(g:eS-1+1-(i2+1)<j+1-i):
 partLoop bk a i j l.toArray=partLoop bk a (i2+1) (eS-1) (dW l i2 eS).toArray:=by
 rw[partLoop];simp only[U,aa,aox h,dif_pos g,kK]
theorem KX (l:List Row)(a b p:Int)(K:af->J->Prop)(h:(fP l a b/\a<=p/\p<b)/\K (.ar 11 (partition bk l.toArray a.toNat b.toNat p.toNat).2.2.toList) (.tup [.d (.int .i64 (partition bk l.toArray a.toNat b.toNat p.toNat).1), .d (.bool (partition bk l.toArray a.toNat b.toNat p.toNat).2.1)])):KT l a b p K:=by
 obtain⟨⟨⟨ax,aR,jD,ag,av⟩,JU,rJ⟩,ae⟩:=h;obtain⟨A,rfl⟩:=aoG aR;obtain⟨B,rfl⟩:=aoG (apY aR jD);obtain⟨Q,rfl⟩:=aoG (apY aR JU);simp only[aoB]at ae;unfold KT ah aO List.aG;have vE:A<l.length:=by omega
 have AQ:Q<l.length:=by omega
 rw[bR (x:=(A:Int)+1) (by omega),bR (x:=(B:Int)-1) (by omega)];simp only[aoB,aoI];rw[show(l.set A (l.getD Q [])).set Q (l.getD A [])=dW l A Q from rfl];have gb:=ax.dW vE AQ;have e9:(dW l A Q).length=l.length:=sJ _ _ _;have aC:= @YV l A B Q;have aE:= @aaC l A B Q;generalize dW l A Q=dh at gb e9 aC aE;refine⟨by omega,by omega,ax.len AQ,by omega,by omega,ax.len vE,by omega,by omega,by omega,by omega, ?_⟩;refine⟨fun i o=>o=dh/\(A:Int)+1<=i/\i<=B/\scanUp (fun x=>bk x dh.toArray[A]!) dh.toArray (B-1) (A+1)=i.toNat,⟨fun i o=>o=dh/\(A:Int)+1<=i/\i<=B/\scanUp (fun x=>bk x dh.toArray[A]!) dh.toArray (B-1) (A+1)=scanUp (fun x=>bk x dh.toArray[A]!) dh.toArray (B-1) i.toNat,fun i _=>(B-i:Int).toNat,⟨rfl,by omega,by omega, ?_⟩, ?_⟩, ?_⟩
 ·rw[show((A:Int)+1).toNat=A+1 by omega]
 ·rintro i o ⟨rfl,g1,g2,g3⟩;obtain⟨aK,rfl⟩:=aoG (a:=i) (by omega);simp only[aoB]at g3⊢;refine⟨fun h=> ?_,fun h=> ?_⟩
  ·have h:=aoJ h;have cZ:aK<o.length:=by omega
   have di:A<o.length:=by omega
   rw[bR (x:=(aK:Int)+1) (by omega)];refine⟨by omega,by omega,gb.len cZ,by omega,by omega,gb.len di,⟨gb.get cZ,gb.get di⟩, ?_⟩;rintro _ rfl;refine⟨fun aa=>⟨⟨trivial,by omega,by omega, ?_⟩,by omega⟩,fun aa=>⟨trivial,by omega,by omega, ?_⟩⟩
   ·rw[g3,HW (by omega) (by rw[jz];exact aa),show((aK:Int)+1).toNat=aK+1 by omega]
   ·rw[g3,wG (.inr (by rw[jz];exact aa))]
  ·have h:=aoN h;exact⟨trivial,by omega,by omega,by rw[g3,wG (.inl (by omega))]⟩
 rintro i o ⟨rfl,g1,g2,g3⟩;obtain⟨aK,rfl⟩:=aoG (a:=i) (by omega);simp only[aoB]at g3⊢;refine⟨fun j cc=>cc=o/\(A:Int)<=j/\j<B/\scanDown (fun x=> !bk x o.toArray[A]!) o.toArray aK (B-1)=j.toNat,⟨fun j cc=>cc=o/\(A:Int)<=j/\j<B/\scanDown (fun x=> !bk x o.toArray[A]!) o.toArray aK (B-1)=scanDown (fun x=> !bk x o.toArray[A]!) o.toArray aK j.toNat,fun j _=>j.toNat,⟨rfl,by omega,by omega, ?_⟩, ?_⟩, ?_⟩
 ·rw[show((B:Int)-1).toNat=B-1 by omega]
 ·rintro j cc ⟨rfl,a6,bj,bH⟩;obtain⟨bm,rfl⟩:=aoG (a:=j) (by omega);simp only[aoB]at bH⊢;refine⟨fun h=> ?_,fun h=> ?_⟩
  ·have h:=aoJ h;have cZ:bm<cc.length:=by omega
   have di:A<cc.length:=by omega
   rw[bR (x:=(bm:Int)-1) (by omega)]
   obtain⟨fS,rfl⟩:∃fS,bm=fS+1:=⟨bm-1,by omega⟩
   refine⟨by omega,by omega,gb.len cZ,by omega,by omega,gb.len di,⟨gb.get cZ,gb.get di⟩, ?_⟩;rintro _ rfl;refine⟨fun aa=>⟨⟨trivial,by omega,by omega, ?_⟩,by omega⟩,fun aa=>⟨trivial,by omega,by omega, ?_⟩⟩
   ·rw[bH,HX (by omega) (by rw[jz];exact aa),show(((fS+1:Nat):Int)-1).toNat=fS by omega]
   ·rw[bH,wH (by omega) (.inr (by rw[jz];exact aa))]
  ·have h:=aoN h;exact⟨trivial,by omega,by omega,by rw[bH,wH (by omega) (.inl (by omega))]⟩
 rintro j cc ⟨rfl,a6,bj,bH⟩;obtain⟨bm,rfl⟩:=aoG (a:=j) (by omega);simp only[aoB]at bH⊢;have TG:A<cc.length:=by omega
 have xT:bm<cc.length:=by omega
 refine⟨fun h=> ?_,fun h=> ?_⟩
 ·have h:=aoJ h;rw[aC g3 bH (by omega)]at ae;exact⟨by omega,by omega,gb.len TG,by omega,by omega,gb.len xT,by omega,by omega,by omega,by omega,ae⟩
 ·have h:=aoN h;rw[aE g3 bH (by omega)]at ae;have Kt:aK<cc.length:=by omega
  rw[bR (x:=(aK:Int)+1) (by omega),bR (x:=(bm:Int)-1) (by omega),show(cc.set aK (cc.getD bm [])).set bm (cc.getD aK [])=dW cc aK bm from rfl];have jm:=gb.dW Kt xT;have hM:(dW cc aK bm).length=l.length:=by rw[sJ];exact e9
  clear aC aE g3 bH;generalize dW cc aK bm=l2 at jm hM ae;refine⟨by omega,by omega,gb.len xT,by omega,by omega,gb.len Kt,by omega,by omega,by omega,by omega, ?_⟩;clear gb TG xT Kt e9;generalize dH:partLoop bk A (aK+1) (bm-1) l2.toArray=bD at ae;refine⟨fun j o=>(A:Int)<=j/\j<B/\c7 o/\o.length=l.length/\bD=(j.toNat,o.toArray),⟨fun i j o=>(A:Int)+1<=i/\i<=j+2/\(A:Int)<=j/\j<B/\c7 o/\o.length=l.length/\partLoop bk A i.toNat j.toNat o.toArray=bD,fun i j _=>(j+2-i:Int).toNat,⟨by omega,by omega,by omega,by omega,jm,hM, ?_⟩, ?_⟩, ?_⟩
  ·rw[show((aK:Int)+1).toNat=aK+1 by omega,show((bm:Int)-1).toNat=bm-1 by omega];exact dH
  ·rintro i j o ⟨q1,cE,cS,gx,dV,h9,gT⟩;obtain⟨pG,rfl⟩:=aoG (a:=i) (by omega);obtain⟨hX,rfl⟩:=aoG (a:=j) (by omega);simp only[aoB]at gT⊢;have di:A<o.length:=by omega
   refine⟨fun i2 bl=>bl=o/\(pG:Int)<=i2/\i2<=(hX:Int)+2/\scanUp (fun x=>bk x o.toArray[A]!) o.toArray hX pG=i2.toNat,⟨fun i2 bl=>bl=o/\(pG:Int)<=i2/\i2<=(hX:Int)+2/\scanUp (fun x=>bk x o.toArray[A]!) o.toArray hX pG=scanUp (fun x=>bk x o.toArray[A]!) o.toArray hX i2.toNat,fun i2 _=>((hX:Int)+2-i2).toNat,⟨rfl,by omega,by omega,by rw[aoB]⟩, ?_⟩, ?_⟩
   ·rintro i2 bl ⟨rfl,kz,lb,ej⟩;obtain⟨c9,rfl⟩:=aoG (a:=i2) (by omega);simp only[aoB]at ej⊢;refine⟨fun h=> ?_,fun h=> ?_⟩
    ·have h:=aoJ h;have cZ:c9<bl.length:=by omega
     rw[bR (x:=(c9:Int)+1) (by omega)];refine⟨by omega,by omega,dV.len cZ,by omega,by omega,dV.len di,⟨dV.get cZ,dV.get di⟩, ?_⟩;rintro _ rfl;refine⟨fun aa=>⟨⟨trivial,by omega,by omega, ?_⟩,by omega⟩,fun aa=>⟨trivial,by omega,by omega, ?_⟩⟩
     ·rw[ej,HW (by omega) (by rw[jz];exact aa),show((c9:Int)+1).toNat=c9+1 by omega]
     ·rw[ej,wG (.inr (by rw[jz];exact aa))]
    ·have h:=aoN h;exact⟨trivial,by omega,by omega,by rw[ej,wG (.inl (by omega))]⟩
   rintro i2 bl ⟨rfl,kz,lb,ej⟩;obtain⟨c9,rfl⟩:=aoG (a:=i2) (by omega);simp only[aoB]at ej⊢;refine⟨fun eS cO=>cO=bl/\(A:Int)<=eS/\eS<=hX/\scanDown (fun x=> !bk x bl.toArray[A]!) bl.toArray c9 hX=eS.toNat,⟨fun eS cO=>cO=bl/\(A:Int)<=eS/\eS<=hX/\scanDown (fun x=> !bk x bl.toArray[A]!) bl.toArray c9 hX=scanDown (fun x=> !bk x bl.toArray[A]!) bl.toArray c9 eS.toNat,fun eS _=>eS.toNat,⟨rfl,by omega,by omega,by rw[aoB]⟩, ?_⟩, ?_⟩
   ·rintro eS cO ⟨rfl,a6,bj,bH⟩;obtain⟨hO,rfl⟩:=aoG (a:=eS) (by omega);simp only[aoB]at bH⊢;refine⟨fun h=> ?_,fun h=> ?_⟩
    ·have h:=aoJ h;have cZ:hO<cO.length:=by omega
     rw[bR (x:=(hO:Int)-1) (by omega)]
     obtain⟨fS,rfl⟩:∃fS,hO=fS+1:=⟨hO-1,by omega⟩
     refine⟨by omega,by omega,dV.len cZ,by omega,by omega,dV.len di,⟨dV.get cZ,dV.get di⟩, ?_⟩;rintro _ rfl;refine⟨fun aa=>⟨⟨trivial,by omega,by omega, ?_⟩,by omega⟩,fun aa=>⟨trivial,by omega,by omega, ?_⟩⟩
     ·rw[bH,HX (by omega) (by rw[jz];exact aa),show(((fS+1:Nat):Int)-1).toNat=fS by omega]
     ·rw[bH,wH (by omega) (.inr (by rw[jz];exact aa))]
    ·have h:=aoN h;exact⟨trivial,by omega,by omega,by rw[bH,wH (by omega) (.inl (by omega))]⟩
   rintro eS cO ⟨rfl,a6,bj,bH⟩;obtain⟨hO,rfl⟩:=aoG (a:=eS) (by omega);simp only[aoB]at bH⊢;have Aj:hO<cO.length:=by omega
   refine⟨fun h=> ?_,fun h=> ?_⟩
   ·have h:=aoJ h;exact⟨by omega,by omega,dV,h9,by rw[<-gT,YW ej bH (by omega)]⟩
   ·have h:=aoN h;have Ak:c9<cO.length:=by omega
    rw[bR (x:=(c9:Int)+1) (by omega),bR (x:=(hO:Int)-1) (by omega),show(cO.set c9 (cO.getD hO [])).set hO (cO.getD c9 [])=dW cO c9 hO from rfl];refine⟨by omega,by omega,dV.len Aj,by omega,by omega,dV.len Ak,by omega,by omega,by omega,by omega,⟨by omega,by omega,by omega,by omega,dV.dW Ak Aj,by rw[sJ];exact h9, ?_⟩,by show((hO:Int)-1+2-(c9+1)).toNat<((hX:Int)+2-pG).toNat;omega⟩;rw[<-gT,ab1 ej bH (by omega) (by omega),show((c9:Int)+1).toNat=c9+1 by omega,show((hO:Int)-1).toNat=hO-1 by omega]
  ·rintro j o ⟨q1,cE,cS,gx,rfl⟩;obtain⟨hX,rfl⟩:=aoG (a:=j) (by omega);simp only[aoB]at ae⊢;have vE:A<o.length:=by omega
   have xT:hX<o.length:=by omega
   rw[kK]at ae;exact⟨by omega,by omega,cS.len vE,by omega,by omega,cS.len xT,by omega,by omega,by omega,by omega,ae⟩
theorem YX {a i j i2 eS:Nat}{d:Array Row}(U:scanUp (fun x=> !bk d[a]! x) d j i=i2)(aa:scanDown (fun x=>bk d[a]! x) d i2 j=eS)(h:i2>eS):partEqLoop bk a i j d=(i2,d):=by
 rw[partEqLoop];simp only[U,aa,aoy h]
theorem ab2 {a i j i2 eS:Nat}{l:List Row}(U:scanUp (fun x=> !bk l.toArray[a]! x) l.toArray j i=i2)(aa:scanDown (fun x=>bk l.toArray[a]! x) l.toArray i2 j=eS)(h:¬i2>eS)(g:eS-1+1-(i2+1)<j+1-i):
 partEqLoop bk a i j l.toArray=partEqLoop bk a (i2+1) (eS-1) (dW l i2 eS).toArray:=by
 rw[partEqLoop];simp only[U,aa,aox h,dif_pos g,kK]
theorem KH (l:List Row)(a b p:Int)(K:af->J->Prop)(h:(fP l a b/\a<=p/\p<b)/\K (.ar 11 (partitionEqual bk l.toArray a.toNat b.toNat p.toNat).2.toList) (.d (.int .i64 (partitionEqual bk l.toArray a.toNat b.toNat p.toNat).1))):KE l a b p K:=by
 obtain⟨⟨⟨ax,aR,jD,ag,av⟩,JU,rJ⟩,ae⟩:=h;obtain⟨A,rfl⟩:=aoG aR;obtain⟨B,rfl⟩:=aoG (apY aR jD);obtain⟨Q,rfl⟩:=aoG (apY aR JU);simp only[aoB]at ae;unfold KE ah aO List.aG;have vE:A<l.length:=by omega
 have AQ:Q<l.length:=by omega
 rw[bR (x:=(A:Int)+1) (by omega),bR (x:=(B:Int)-1) (by omega)];simp only[aoB,aoI];rw[show(l.set A (l.getD Q [])).set Q (l.getD A [])=dW l A Q from rfl];have gb:=ax.dW vE AQ;have e9:(dW l A Q).length=l.length:=sJ _ _ _;unfold partitionEqual at ae;rw[kK]at ae;generalize dW l A Q=dh at gb e9 ae;refine⟨by omega,by omega,ax.len AQ,by omega,by omega,ax.len vE,by omega,by omega,by omega,by omega, ?_⟩;generalize dH:partEqLoop bk A (A+1) (B-1) dh.toArray=bD at ae;refine⟨fun i o=>bD=(i.toNat,o.toArray)/\0<=i,⟨fun i j o=>(A:Int)+1<=i/\i<=j+2/\(A:Int)<=j/\j<B/\c7 o/\o.length=l.length/\partEqLoop bk A i.toNat j.toNat o.toArray=bD,fun i j _=>(j+2-i:Int).toNat,⟨by omega,by omega,by omega,by omega,gb,e9, ?_⟩, ?_⟩, ?_⟩
 ·rw[show((A:Int)+1).toNat=A+1 by omega,show((B:Int)-1).toNat=B-1 by omega];exact dH
 ·rintro i j o ⟨q1,cE,cS,gx,dV,h9,gT⟩;obtain⟨pG,rfl⟩:=aoG (a:=i) (by omega);obtain⟨hX,rfl⟩:=aoG (a:=j) (by omega);simp only[aoB]at gT⊢;have di:A<o.length:=by omega
  refine⟨fun i2 bl=>bl=o/\(pG:Int)<=i2/\i2<=(hX:Int)+2/\scanUp (fun x=> !bk o.toArray[A]! x) o.toArray hX pG=i2.toNat,⟨fun i2 bl=>bl=o/\(pG:Int)<=i2/\i2<=(hX:Int)+2/\scanUp (fun x=> !bk o.toArray[A]! x) o.toArray hX pG=scanUp (fun x=> !bk o.toArray[A]! x) o.toArray hX i2.toNat,fun i2 _=>((hX:Int)+2-i2).toNat,⟨rfl,by omega,by omega,by rw[aoB]⟩, ?_⟩, ?_⟩
  ·rintro i2 bl ⟨rfl,kz,lb,ej⟩;obtain⟨c9,rfl⟩:=aoG (a:=i2) (by omega);simp only[aoB]at ej⊢;refine⟨fun h=> ?_,fun h=> ?_⟩
   ·have h:=aoJ h;have cZ:c9<bl.length:=by omega
    rw[bR (x:=(c9:Int)+1) (by omega)];refine⟨by omega,by omega,dV.len di,by omega,by omega,dV.len cZ,⟨dV.get di,dV.get cZ⟩, ?_⟩;rintro _ rfl;refine⟨fun aa=>⟨⟨trivial,by omega,by omega, ?_⟩,by omega⟩,fun aa=>⟨trivial,by omega,by omega, ?_⟩⟩
    ·rw[ej,HW (by omega) (by rw[jz];exact aa),show((c9:Int)+1).toNat=c9+1 by omega]
    ·rw[ej,wG (.inr (by rw[jz];exact aa))]
   ·have h:=aoN h;exact⟨trivial,by omega,by omega,by rw[ej,wG (.inl (by omega))]⟩
  rintro i2 bl ⟨rfl,kz,lb,ej⟩;obtain⟨c9,rfl⟩:=aoG (a:=i2) (by omega);simp only[aoB]at ej⊢;refine⟨fun eS cO=>cO=bl/\(A:Int)<=eS/\eS<=hX/\scanDown (fun x=>bk bl.toArray[A]! x) bl.toArray c9 hX=eS.toNat,⟨fun eS cO=>cO=bl/\(A:Int)<=eS/\eS<=hX/\scanDown (fun x=>bk bl.toArray[A]! x) bl.toArray c9 hX=scanDown (fun x=>bk bl.toArray[A]! x) bl.toArray c9 eS.toNat,fun eS _=>eS.toNat,⟨rfl,by omega,by omega,by rw[aoB]⟩, ?_⟩, ?_⟩
  ·rintro eS cO ⟨rfl,a6,bj,bH⟩;obtain⟨hO,rfl⟩:=aoG (a:=eS) (by omega);simp only[aoB]at bH⊢;refine⟨fun h=> ?_,fun h=> ?_⟩
   ·have h:=aoJ h;have cZ:hO<cO.length:=by omega
    rw[bR (x:=(hO:Int)-1) (by omega)]
    obtain⟨fS,rfl⟩:∃fS,hO=fS+1:=⟨hO-1,by omega⟩
    refine⟨by omega,by omega,dV.len di,by omega,by omega,dV.len cZ,⟨dV.get di,dV.get cZ⟩, ?_⟩;rintro _ rfl;refine⟨fun aa=>⟨⟨trivial,by omega,by omega, ?_⟩,by omega⟩,fun aa=>⟨trivial,by omega,by omega, ?_⟩⟩
    ·rw[bH,HX (by omega) (by rw[jz];exact aa),show(((fS+1:Nat):Int)-1).toNat=fS by omega]
    ·rw[bH,wH (by omega) (.inr (by rw[jz];exact aa))]
   ·have h:=aoN h;exact⟨trivial,by omega,by omega,by rw[bH,wH (by omega) (.inl (by omega))]⟩
  rintro eS cO ⟨rfl,a6,bj,bH⟩;obtain⟨hO,rfl⟩:=aoG (a:=eS) (by omega);simp only[aoB]at bH⊢;have Aj:hO<cO.length:=by omega
  refine⟨fun h=> ?_,fun h=> ?_⟩
  ·have h:=aoJ h;exact⟨by rw[<-gT,YX ej bH (by omega)],by omega⟩
  ·have h:=aoN h;have Ak:c9<cO.length:=by omega
   rw[bR (x:=(c9:Int)+1) (by omega),bR (x:=(hO:Int)-1) (by omega),show(cO.set c9 (cO.getD hO [])).set hO (cO.getD c9 [])=dW cO c9 hO from rfl];refine⟨by omega,by omega,dV.len Aj,by omega,by omega,dV.len Ak,by omega,by omega,by omega,by omega,⟨by omega,by omega,by omega,by omega,dV.dW Ak Aj,by rw[sJ];exact h9, ?_⟩,by show((hO:Int)-1+2-(c9+1)).toNat<((hX:Int)+2-pG).toNat;omega⟩;rw[<-gT,ab2 ej bH (by omega) (by omega),show((c9:Int)+1).toNat=c9+1 by omega,show((hO:Int)-1).toNat=hO-1 by omega]
 ·rintro j o ⟨rfl,aI⟩;obtain⟨hX,rfl⟩:=aoG aI;exact ae
end ab
end
section
namespace ab
open Go Go.al Go.Sort
theorem adA {d:Array Row}{b i:Nat}(h:i<b)(aE:bk d[i]! d[i-1]! =false):scanSorted bk d b i=scanSorted bk d b (i+1):=by
 rw[scanSorted,aoy (by simp[h,aE])]
theorem QH {d:Array Row}{b i:Nat}(h:b<=i\/bk d[i]! d[i-1]! =true):scanSorted bk d b i=i:=by
 rw[scanSorted,aox];rcases h with h|h
 ·simp;omega
 ·simp[h]
theorem aeu {a b s i:Nat}{d:Array Row}(h:scanSorted bk d b i=b):partialIns bk a b (s+1) i d=(d,true):=by
 rw[partialIns];simp only[h,ao_]
theorem ab3 {a b s i j:Nat}{d:Array Row}(h:scanSorted bk d b i=j)(aI:j≠b)(ay:b-a<50):partialIns bk a b (s+1) i d=(d,false):=by
 rw[partialIns];simp only[h,aox aI,aoy ay]
theorem ae6 {a b s i j:Nat}{d:Array Row}(h:scanSorted bk d b i=j)(aI:j≠b)(ay:¬b-a<50){d2 d3:Array Row}
 (aa:(if j-a>=2 then shiftDown bk (j-1) (swp d j (j-1))else swp d j (j-1))=d2)
 (az:(if b-j>=2 then shiftUp bk b (j+1) d2 else d2)=d3):partialIns bk a b (s+1) i d=partialIns bk a b s j d3:=by
 rw[partialIns];simp only[h,aox aI,aox ay,aa,az]
theorem QI {j:Nat}{d:Array Row}(h:j=0\/bk d[j]! d[j-1]! =false):shiftDown bk j d=d:=by
 cases j with
 |zero=>rfl
 |succ j=>
  rcases h with h|h
  ·cases h
  ·rw[shiftDown,aoy];simpa using h
theorem ae7 {j:Nat}{l:List Row}(h:bk l.toArray[j+1]! l.toArray[j]! =true):shiftDown bk (j+1) l.toArray=shiftDown bk j (dW l (j+1) j).toArray:=by
 rw[shiftDown,aox (by rw[h];simp),kK]
theorem QJ {b j:Nat}{d:Array Row}(h:b<=j\/bk d[j]! d[j-1]! =false):shiftUp bk b j d=d:=by
 rw[shiftUp];split
 ·rcases h with h|h
  ·omega
  ·rw[aoy];simpa using h
 ·rfl
theorem ae8 {b j:Nat}{l:List Row}(ag:j<b)(h:bk l.toArray[j]! l.toArray[j-1]! =true):shiftUp bk b j l.toArray=shiftUp bk b (j+1) (dW l j (j-1)).toArray:=by
 rw[shiftUp,aoy ag,aox (by rw[h];simp),kK]
theorem KC (l:List Row)(a b:Int)(K:af->J->Prop)(h:(fP l a b/\a<b)/\K (.ar 11 (partialInsertionSort bk l.toArray a.toNat b.toNat).1.toList) (.d (.bool (partialInsertionSort bk l.toArray a.toNat b.toNat).2))):KB l a b K:=by
 obtain⟨⟨⟨ax,aR,-,ag,av⟩,jD⟩,ae⟩:=h;obtain⟨A,rfl⟩:=aoG aR;obtain⟨B,rfl⟩:=aoG (apY aR (Int.le_of_lt jD));simp only[aoB]at ae;unfold partialInsertionSort at ae;unfold KB ah List.aG;rw[bR (x:=(A:Int)+1) (by omega),bR (x:=(B:Int)-A) (by omega)];generalize dH:partialIns bk A B 5 (A+1) l.toArray=bD at ae;refine⟨fun o=>bD=(o.toArray,false),⟨fun i s o=>(A:Int)+1<=i/\i<=B/\0<=s/\s<=5/\c7 o/\o.length=l.length/\partialIns bk A B (5-s:Int).toNat i.toNat o.toArray=bD,fun _ s _=>(5-s:Int).toNat,⟨by omega,by omega,by omega,by omega,ax,rfl, ?_⟩, ?_⟩, ?_⟩
 ·rw[show((A:Int)+1).toNat=A+1 by omega];exact dH
 ·rintro i s o ⟨q1,cE,cS,gx,dV,h9,gT⟩;obtain⟨aK,rfl⟩:=aoG (a:=i) (by omega);obtain⟨S,rfl⟩:=aoG cS;simp only[aoB]at gT⊢;refine⟨fun h=> ?_,fun h=> ?_⟩
  case refine_2=>
   have h:=aoN h;rw[show(5-(S:Int)).toNat=0 by omega]at gT;exact gT.symm
  have h:=aoJ h
  obtain⟨T,bs⟩:∃T,(5-(S:Int)).toNat=T+1:=⟨(5-(S:Int)).toNat-1,by omega⟩
  rw[bs]at gT;rw[bR (x:=(S:Int)+1) (by omega)];refine⟨fun i2 bl=>bl=o/\(aK:Int)<=i2/\i2<=B/\scanSorted bk o.toArray B aK=i2.toNat,⟨fun i2 bl=>bl=o/\(aK:Int)<=i2/\i2<=B/\scanSorted bk o.toArray B aK=scanSorted bk o.toArray B i2.toNat,fun i2 _=>((B:Int)-i2).toNat,⟨rfl,by omega,by omega,by rw[aoB]⟩, ?_⟩, ?_⟩
  ·rintro i2 bl ⟨rfl,kz,lb,ej⟩;obtain⟨c9,rfl⟩:=aoG (a:=i2) (by omega);simp only[aoB]at ej⊢;refine⟨fun h=> ?_,fun h=> ?_⟩
   ·have h:=aoJ h;have cZ:c9<bl.length:=by omega
    have di:c9-1<bl.length:=by omega
    rw[bR (x:=(c9:Int)+1) (by omega),bR (x:=(c9:Int)-1) (by omega),show((c9:Int)-1).toNat=c9-1 by omega];refine⟨by omega,by omega,dV.len cZ,by omega,by omega,dV.len di,⟨dV.get cZ,dV.get di⟩, ?_⟩;rintro _ rfl;refine⟨fun aa=>⟨⟨trivial,by omega,by omega, ?_⟩,by omega⟩,fun aa=>⟨trivial,by omega,by omega, ?_⟩⟩
    ·rw[ej,adA (by omega) (by rw[jz];simpa using aa),show((c9:Int)+1).toNat=c9+1 by omega]
    ·rw[ej,QH (.inr (by rw[jz];simpa using aa))]
   ·have h:=aoN h;exact⟨trivial,by omega,by omega,by rw[ej,QH (.inl (by omega))]⟩
  rintro i2 bl ⟨rfl,kz,lb,ej⟩;obtain⟨c9,rfl⟩:=aoG (a:=i2) (by omega);simp only[aoB]at ej⊢;refine⟨fun h=> ?_,fun h=> ?_⟩
  ·have h:=aoJ h;have h:c9=B:=by omega
   subst h;rw[aeu ej]at gT;rw[<-gT]at ae;exact ae
  have h:=aoN h;have dg:c9≠B:=fun e=>h (by rw[e]);refine⟨fun h=> ?_,fun h=> ?_⟩
  ·have h:=aoJ h;rw[ab3 ej dg (by omega)]at gT;rw[<-gT]at ae;exact ae
  have an4:=aoN h;have cZ:c9<bl.length:=by omega
  have di:c9-1<bl.length:=by omega
  rw[bR (x:=(c9:Int)+1) (by omega),bR (x:=(c9:Int)-1) (by omega),bR (x:=(c9:Int)-A) (by omega),bR (x:=(B:Int)-c9) (by omega),show((c9:Int)-1).toNat=c9-1 by omega];simp only[aoI];rw[show(bl.set c9 (bl.getD (c9-1) [])).set (c9-1) (bl.getD c9 [])=dW bl c9 (c9-1)from rfl];refine⟨by omega,by omega,dV.len di,by omega,by omega,dV.len cZ,by omega,by omega,by omega,by omega, ?_⟩;have gb:=dV.dW cZ di;have e9:(dW bl c9 (c9-1)).length=l.length:=by rw[sJ];exact h9
  have ou:=fun d2 d3=> @ae6 A B T aK c9 bl.toArray ej dg (by omega) d2 d3;rw[kK]at ou;generalize dW bl c9 (c9-1)=dh at gb e9 ou;clear ej cZ di;refine⟨fun o=>c7 o/\o.length=l.length/\(if c9-A>=2 then shiftDown bk (c9-1) dh.toArray else dh.toArray)=o.toArray,⟨fun h=> ?_,fun h=> ?_⟩, ?_⟩
  ·have h:=aoJ h;rw[aoy (show c9-A>=2 by omega)];refine⟨fun j o=>0<=j/\j<c9/\c7 o/\o.length=l.length/\shiftDown bk (c9-1) dh.toArray=shiftDown bk j.toNat o.toArray,fun j _=>j.toNat,⟨by omega,by omega,gb,e9,by rw[show((c9:Int)-1).toNat=c9-1 by omega]⟩, ?_⟩;rintro j o ⟨g1,g2,g3,g4,g5⟩;obtain⟨bm,rfl⟩:=aoG g1;simp only[aoB,aoI]at g5⊢;refine⟨fun h=> ?_,fun h=> ?_⟩
   ·have h:=aoJ h
    obtain⟨fS,rfl⟩:∃fS,bm=fS+1:=⟨bm-1,by omega⟩
    rw[bR (x:=((fS+1:Nat):Int)-1) (by omega),show((fS+1:Nat):Int)-1=(fS:Int) by omega,aoB];have cZ:fS+1<o.length:=by omega
    have di:fS<o.length:=by omega
    refine⟨by omega,by omega,g3.len cZ,by omega,by omega,g3.len di,⟨g3.get cZ,g3.get di⟩, ?_⟩;rintro _ rfl;refine⟨fun aa=>⟨g3,g4, ?_⟩,fun aa=>⟨by omega,by omega,g3.len di,by omega,by omega,g3.len cZ,by omega,by omega,by omega,by omega,⟨by omega,by omega,g3.dW cZ di,by simpa using g4, ?_⟩,by omega⟩⟩
    ·rw[g5,QI (.inr (by rw[jz];simpa using aa))]
    ·rw[g5,ae7 (by rw[jz];simpa using aa)];rfl
   ·have h:=aoN h;exact⟨g3,g4,by rw[g5,QI (.inl (by omega))]⟩
  ·have h:=aoN h;rw[aox (show ¬c9-A>=2 by omega)];exact⟨gb,e9,rfl⟩
  rintro l2 ⟨jm,hM,aL⟩
  replace ou:=fun d3=>ou _ d3 aL
  refine⟨fun h=> ?_,fun h=> ?_⟩
  ·have h:=aoJ h;rw[aoy (show B-c9>=2 by omega)]at ou;refine⟨fun j o=>(c9:Int)+1<=j/\j<=B/\c7 o/\o.length=l.length/\shiftUp bk B (c9+1) l2.toArray=shiftUp bk B j.toNat o.toArray,fun j _=>((B:Int)-j).toNat,⟨by omega,by omega,jm,hM,by rw[show((c9:Int)+1).toNat=c9+1 by omega]⟩, ?_⟩;rintro j o ⟨g1,g2,g3,g4,g5⟩;obtain⟨bm,rfl⟩:=aoG (a:=j) (by omega);simp only[aoB,aoI]at g5⊢
   have fin:shiftUp bk B bm o.toArray=o.toArray->((A:Int)+1<=c9/\(c9:Int)<=B/\(0:Int)<=(S:Int)+1/\(S:Int)+1<=5/\c7 o/\o.length=l.length/\partialIns bk A B (5-((S:Int)+1)).toNat c9 o.toArray=bD)/\(5-((S:Int)+1)).toNat<(5-(S:Int)).toNat:=fun e=>by
    refine⟨⟨by omega,by omega,by omega,by omega,g3,g4, ?_⟩,by omega⟩;rw[<-gT,ou _ (g5.trans e),show(5-((S:Int)+1)).toNat=T by omega]
   refine⟨fun h=> ?_,fun h=> ?_⟩
   ·have h:=aoJ h;have cZ:bm<o.length:=by omega
    have di:bm-1<o.length:=by omega
    rw[bR (x:=(bm:Int)+1) (by omega),bR (x:=(bm:Int)-1) (by omega),show((bm:Int)-1).toNat=bm-1 by omega];refine⟨by omega,by omega,g3.len cZ,by omega,by omega,g3.len di,⟨g3.get cZ,g3.get di⟩, ?_⟩;rintro _ rfl;refine⟨fun aa=>fin (QJ (.inr (by rw[jz];simpa using aa))),fun aa=>⟨by omega,by omega,g3.len di,by omega,by omega,g3.len cZ,by omega,by omega,by omega,by omega,⟨by omega,by omega,g3.dW cZ di,by simpa using g4, ?_⟩,by omega⟩⟩;rw[g5,ae8 (by omega) (by rw[jz];simpa using aa),show((bm:Int)+1).toNat=bm+1 by omega];rfl
   ·have h:=aoN h;exact fin (QJ (.inl (by omega)))
  ·have h:=aoN h;rw[aox (show ¬B-c9>=2 by omega)]at ou;refine⟨⟨by omega,by omega,by omega,by omega,jm,hM, ?_⟩,by omega⟩;rw[<-gT,ou _ rfl,show(5-((S:Int)+1)).toNat=T by omega]
 ·rintro o rfl;exact ae
end ab
end
