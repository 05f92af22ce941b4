/- Helpers for the statements: facts about numbers, fractions and polynomials as lists, and the proofs of the conditions. Condition: none. -/
import Derived.Test.YtmeonjefiioegaaGreatDoorA2
import Derived.Lib.Bytealg
import Derived.Sort.AssemblyPlain
import Derived.Sort.LotD4
section
namespace I
def val:List Int->Nat
 |[]=>0
 |x::r=>x.toNat+4294967296*val r
def aZ (a:List Int):Prop:=∀i,0<=a.getD i 0/\a.getD i 0<4294967296
def ah (n:Nat):List Int:=if h:n=0 then[]else((n%4294967296:Nat):Int)::ah (n/4294967296)
  termination_by n
  decreasing_by exact auq (aur h) (by decide)
def cW (a:List Int)(i:Nat):Nat:=val (a.take i)
theorem aZ.mem {a:List Int}(h:aZ a){x:Int}(af:x∈a):0<=x/\x<4294967296:=by
 obtain⟨i,hi,rfl⟩:=List.mem_iff_getElem.1 af
 have:=h i
 simpa[ass,hi]using this
theorem aZ.of {a:List Int}(h:∀x∈a,0<=x/\x<4294967296):aZ a:=fun i=>by
 by_cases hi:i<a.length
 ·have:=h _ (atw hi)
  simpa[ass,hi]using this
 ·simp[ass,hi]
theorem aZ.nil:aZ []:= .of (by simp)
theorem aZ.cons {x:Int}{r:List Int}(h:aZ (x::r)):(0<=x/\x<4294967296)/\aZ r:=⟨h.mem (by simp), .of fun y a6=>h.mem (by simp[a6])⟩
theorem aZ.mk {x:Int}{r:List Int}(af:0<=x/\x<4294967296)(h:aZ r):aZ (x::r):= .of fun y a6=>by
 rcases asP.1 a6 with rfl|a6
 ·exact af
 ·exact h.mem a6
theorem aZ.take {a:List Int}(h:aZ a)(n:Nat):aZ (a.take n):= .of fun _ af=>h.mem (List.mem_of_mem_take af)
theorem aZ.drop {a:List Int}(h:aZ a)(n:Nat):aZ (a.drop n):= .of fun _ af=>h.mem (List.mem_of_mem_drop af)
theorem aZ.append {a b:List Int}(h:aZ a)(k:aZ b):aZ (a++b):= .of fun x af=>by
 rcases atY.1 af with af|af
 ·exact h.mem af
 ·exact k.mem af
theorem aZ.set {a:List Int}(h:aZ a)(i:Nat){x:Int}(af:0<=x/\x<4294967296):aZ (a.set i x):= .of fun y a6=>by
 rcases auI a6 with a6|rfl
 ·exact h.mem a6
 ·exact af
theorem aZ.mI (n:Nat):aZ (List.replicate n 0):= .of fun x af=>by rw[List.eq_of_mem_replicate af];decide
theorem An (a b:List Int):val (a++b)=val a+4294967296^a.length*val b:=by
 induction a with
 |nil=>simp[val]
 |cons x r bA=>
  simp only[atP,val,bA,atf,asU,asG]
  rw[asT (4294967296^r.length) 4294967296,as4];omega
theorem uE (n:Nat):val (List.replicate n 0)=0:=by
 induction n with
 |zero=>rfl
 |succ n bA=>simp[List.replicate_succ,val,bA]
theorem gN {a:List Int}(h:aZ a):val a<4294967296^a.length:=by
 induction a with
 |nil=>simp[val]
 |cons x r bA=>
  obtain⟨⟨U,aa⟩,ak⟩:=h.cons
  have:=bA ak
  simp only[val,atf,asU]
  have af:x.toNat<4294967296:=by omega
  omega
theorem hr (a:List Int):cW a 0=0:=by simp[cW,val]
theorem fc (a:List Int)(i:Nat):cW a (i+1)=cW a i+4294967296^i*(a.getD i 0).toNat:=by
 unfold cW
 by_cases h:i<a.length
 ·rw[List.take_succ_eq_append_getElem h,An]
  simp only[val,asW,auJ (Nat.le_of_lt h),as3,asN]
  simp[ass,h]
 ·rw[aul (by omega),aul (by omega)]
  simp[ass,h]
theorem gi (a:List Int){i:Nat}(h:a.length<=i):cW a i=val a:=by unfold cW;rw[aul h]
theorem qb (a:List Int)(i j:Nat)(v:Int)(h:i<=j):cW (a.set j v) i=cW a i:=by
 unfold cW;rw[List.take_set_of_le h]
theorem o_ {a:List Int}(h:aZ a)(i:Nat):cW a i<4294967296^i:=by
 unfold cW
 have:=gN (h.take i)
 refine asR this (as9 (by decide) ?_)
 simp;omega
theorem gg:ah 0=[]:=by unfold ah;simp
theorem q_ {n:Nat}(h:n≠0):ah n=((n%4294967296:Nat):Int)::ah (n/4294967296):=by rw[ah];simp[h]
theorem cq (n:Nat):val (ah n)=n:=by
 induction n using Nat.strongRecOn with
 |_ n bA=>
  by_cases h:n=0
  ·subst h;rw[gg];rfl
  ·rw[q_ h,val,bA _ (auq (aur h) (by decide))]
   omega
theorem dN (n:Nat):aZ (ah n):=by
 induction n using Nat.strongRecOn with
 |_ n bA=>
  by_cases h:n=0
  ·subst h;rw[gg];exact .nil
  ·rw[q_ h]
   have:n%4294967296<4294967296:=as6 _ (by decide)
   exact .mk ⟨by omega,by omega⟩ (bA _ (auq (aur h) (by decide)))
theorem EY {a b:Nat}:ah a=ah b↔a=b:=⟨fun h=>by rw[<-cq a,<-cq b,h],fun h=>h▸rfl⟩
theorem nY {n:Nat}:ah n=[]↔n=0:=by
 rw[<-gg,EY]
theorem eH {n k:Nat}:(ah n).length<=k↔n<4294967296^k:=by
 induction k generalizing n with
 |zero=>
  simp only[Nat.le_zero,atc,nY,aua];omega
 |succ k bA=>
  by_cases h:n=0
  ·subst h;rw[gg];simp[Nat.pow_pos]
  ·rw[q_ h,atf,Nat.add_le_add_iff_right,bA,asU]
   exact Nat.div_lt_iff_lt_mul (by decide)
def Norm (a:List Int):Prop:=a.getLast?≠some 0
theorem Ao (n:Nat):Norm (ah n):=by
 induction n using Nat.strongRecOn with
 |_ n bA=>
  by_cases h:n=0
  ·subst h;rw[gg];simp[Norm]
  ·have aq:=bA _ (auq (aur h) (by decide:1<4294967296))
   rw[q_ h]
   unfold Norm at aq⊢
   rw[List.getLast?_cons]
   cases af:(ah (n/4294967296)).getLast? with
   |none=>
    have:ah (n/4294967296)=[]:=by simpa using af
    rw[nY]at this
    have aa:=Nat.mod_add_div n 4294967296
    rw[this]at aa
    simp only[Option.getD_none,ne_eq,asM]
    omega
   |some y=>rw[af]at aq;simpa using aq
theorem uF:∀{a:List Int},aZ a->Norm a->ah (val a)=a
 |[],_,_=>gg
 |x::r,h,ar=>by
  obtain⟨⟨U,aa⟩,ak⟩:=h.cons
  have Zs:Norm r:=by
   unfold Norm at ar⊢
   rw[List.getLast?_cons]at ar
   intro af;rw[af]at ar;simp at ar
  have bA:=uF ak Zs
  have hm:val (x::r)%4294967296=x.toNat:=by
   rw[val,Nat.add_mul_mod_self_left,ati (by omega)]
  have aP:val (x::r)/4294967296=val r:=by
   rw[val,Nat.add_mul_div_left _ _ (by decide),at5 (by omega),as0]
  have cV:val (x::r)≠0:=by
   intro aE
   rw[aE]at hm aP
   simp at hm aP
   have:r=[]:=by rw[<-bA,<-aP];exact gg
   subst this
   unfold Norm at ar
   simp at ar
   omega
  rw[q_ cV,hm,aP,bA,Int.toNat_of_nonneg U]
theorem Tq {a:List Int}(h:a.getD (a.length-1) 0=0):val (a.take (a.length-1))=val a:=by
 by_cases he:a.length=0
 ·have:a=[]:=atc.1 he
  subst this;rfl
 ·have:=fc a (a.length-1)
  rw[h,show a.length-1+1=a.length by omega,gi a (asz _)]at this
  simpa[cW]using this.symm
theorem wH {a:List Int}(h:a=[]\/a.getD (a.length-1) 0≠0):Norm a:=by
 unfold Norm
 rcases h with rfl|h
 ·simp
 ·rw[List.getLast?_eq_getElem?]
  intro af
  apply h
  rw[ass,af];rfl
end I
end
section
namespace I
def hk (n:Nat):List Int:=if h:n=0 then[]else((48+n%10:Nat):Int)::hk (n/10)
  termination_by n
  decreasing_by exact auq (aur h) (by decide)
def dec (n:Nat):List Int:=if n=0 then[48]else(hk n).reverse
theorem ka:hk 0=[]:=by unfold hk;simp
theorem mB {n:Nat}(h:n≠0):hk n=((48+n%10:Nat):Int)::hk (n/10):=by rw[hk];simp[h]
theorem Fq {n:Nat}:hk n=[]↔n=0:=by
 by_cases h:n=0
 ·subst h;simp[ka]
 ·rw[mB h];simp[h]
theorem Wf {n k:Nat}:(hk n).length<=k↔n<10^k:=by
 induction k generalizing n with
 |zero=>
  simp only[Nat.le_zero,atc,Fq,aua];omega
 |succ k bA=>
  by_cases h:n=0
  ·subst h;rw[ka];simp[Nat.pow_pos]
  ·rw[mB h,atf,Nat.add_le_add_iff_right,bA,asU]
   exact Nat.div_lt_iff_lt_mul (by decide)
theorem Fs {n:Nat}{x:Int}(h:x∈hk n):48<=x/\x<58:=by
 induction n using Nat.strongRecOn with
 |_ n bA=>
  by_cases aE:n=0
  ·subst aE;rw[ka]at h;cases h
  ·rw[mB aE,asP]at h
   rcases h with rfl|h
   ·omega
   ·exact bA _ (auq (aur aE) (by decide)) h
theorem Bw {a:List Int}(h:aZ a):(hk (val a)).length<=10*a.length:=by
 rw[Wf]
 refine asR (gN h) ?_
 rw[Nat.pow_mul]
 exact Nat.pow_le_pow_left (by decide) _
def gY (acc:Nat):List Int->Nat
 |[]=>acc
 |x::r=>gY (acc*10+(x-48).toNat) r
def iW (s:List Int):Bool:=decide (s≠[])&&s.all fun x=>decide (48<=x/\x<=57)
def fJ (s:List Int):Int:=if iW s=true then(if 60<s.length then 9 else 0)else 4
def ea (s:List Int):List Int:=if iW s=true/\s.length<=60 then ah (gY 0 s)else[]
end I
end
section
namespace Go.bG
def spec (S:List J->Option (Prop×J)):List J->(J->Prop)->Prop:=fun args K=>match S args with|some (p,r)=>p/\K r|none=>False
theorem ahm (S:List J->Option (Prop×J)):jA (spec S):=by
 refine⟨fun args K K' ab h=> ?_,fun args K h=> ?_⟩
 ·unfold spec at h⊢
  split
  ·rename_i he;rw[he]at h;exact⟨h.1,ab _ h.2⟩
  ·rename_i he;rw[he]at h;exact h
 ·unfold spec at h
  split at h
  ·exact⟨_,h.2⟩
  ·exact h.elim
def eO (S:J->ad->List J->Option (Prop×ad×J)):J->ad->List J->(ad->J->Prop)->Prop:=fun a o args K=>match S a o args with|some (p,bZ,r)=>p/\K bZ r|none=>False
theorem aga (S:J->ad->List J->Option (Prop×ad×J)):jB (eO S):=by
 refine⟨fun a o args K K' ab h=> ?_,fun a o args K h=> ?_⟩
 ·unfold eO at h⊢
  split
  ·rename_i he;rw[he]at h;exact⟨h.1,ab _ _ h.2⟩
  ·rename_i he;rw[he]at h;exact h
 ·unfold eO at h
  split at h
  ·exact⟨_,_,h.2⟩
  ·exact h.elim
end Go.bG
namespace I
open Go Go.bG
def L (x:Int):Prop:=0<=x/\x<4294967296
def aF (a:List Int):Prop:=aZ a/\a.length<=100000000
abbrev fF (x:Int):J:= .d (.int .u32 x)
abbrev D7 (x:Int):J:= .d (.int .i64 x)
def BW.T:=spec fun|[.d (.int .u32 x), .d (.int .u32 y)]=>some (L x/\L y, .tup [.d (.int .u32 (x*y/4294967296)), .d (.int .u32 (x*y%4294967296))])|_=>none
def BX.T:=spec fun|[.d (.int .u32 x), .d (.int .u32 y), .d (.int .u32 c)]=>some (L x/\L y/\0<=c/\c<=1, .tup [.d (.int .u32 ((x+y+c)%4294967296)), .d (.int .u32 ((x+y+c)/4294967296))])|_=>none
def BY.T:=spec fun|[.d (.int .u32 x), .d (.int .u32 y), .d (.int .u32 c)]=>some (L x/\L y/\0<=c/\c<=1, .tup [.d (.int .u32 ((x-y-c)%4294967296)), .d (.int .u32 (if x-y-c<0 then 1 else 0))])|_=>none
def BZ.T:=spec fun|[.d (.int .u32 h), .d (.int .u32 l), .d (.int .u32 y)]=>some (L h/\L l/\L y/\h<y, .tup [.d (.int .u32 ((h*4294967296+l)/y)), .d (.int .u32 ((h*4294967296+l)%y))])|_=>none
def CG.T:=spec fun|[.d (.ints .u32 a)]=>some (aZ a/\a.length<=1000000000, .d (.ints .u32 (ah (val a))))|_=>none
def B0.T:=spec fun|[.d (.ints .u32 a)]=>some (a.length<=100000000, .d (.ints .u32 a))|_=>none
def CH.T:=spec fun|[.d (.ints .u32 a)]=>some (aF a, .d (.ints .u32 (ah (val a))))|_=>none
def Az.T:=spec fun|[.d (.int .u64 u)]=>some (0<=u/\u<18446744073709551616, .d (.ints .u32 (ah u.toNat)))|_=>none
def Bl.T:=spec fun|[.d (.ints .u32 a)]=>some (aZ a/\a.length<=2, .d (.int .u64 (val a)))|_=>none
def cmp (a b:Nat):Int:=if a<b then-1 else if a=b then 0 else 1
def C_.T:=spec fun|[.d (.ints .u32 a), .d (.ints .u32 b)]=>some (aF a/\aF b, .d (.int .i64 (cmp (val a) (val b))))|_=>none
def h5.T:=spec fun|[.d (.ints .u32 a), .d (.ints .u32 b)]=>some (aF a/\aF b, .d (.ints .u32 (ah (val a+val b))))|_=>none
def Da.T:=spec fun|[.d (.ints .u32 a), .d (.ints .u32 b)]=>some (aF a/\aF b, .d (.ints .u32 (ah (val a*val b))))|_=>none
def Db.T:=spec fun|[.d (.ints .u32 a), .d (.ints .u32 b)]=>some (aF a/\aF b, .tup [.d (.ints .u32 (if val a<val b then[]else ah (val a-val b))), .d (.int .i64 (if val a<val b then 1 else 0))])|_=>none
def B1.T:=spec fun|[.d (.ints .u32 a), .d (.int .u32 d)]=>some (aF a/\L d/\0<d, .tup [.d (.ints .u32 (ah (val a/d.toNat))), .d (.int .u32 (val a%d.toNat:Nat))])|_=>none
def Bm.T:=spec fun|[.d (.ints .u32 a), .d (.ints .u32 b)]=>some (aF a/\aF b, .tup [.d (.ints .u32 (if val b=0 then[]else ah (val a/val b))), .d (.ints .u32 (if val b=0 then[]else ah (val a%val b))), .d (.int .i64 (if val b=0 then 3 else 0))])|_=>none
def Dc.T:=spec fun|[.d (.ints .u32 a), .d (.int .i64 n)]=>some (aZ a/\a.length<=1000000, .tup [.d (.ints .u32 (if 0<=n/\n<=64 then ah (val a^n.toNat)else[])), .d (.int .i64 (if 0<=n/\n<=64 then 0 else 1))])|_=>none
def CI.T:=spec fun|[.d (.ints .u32 a), .d (.ints .u32 b)]=>some (a.length<=1000000000/\b.length<=1000000000, .d (.bool (decide (a=b))))|_=>none
def agb.T:=spec fun|[.d (.ints .u32 a), .d (.ints .u32 b)]=>some (aF a/\aF b/\val b<4294967296, .tup [.d (.ints .u32 (if val b=0 then[]else ah (val a/val b))), .d (.ints .u32 (if val b=0 then[]else ah (val a%val b))), .d (.int .i64 (if val b=0 then 3 else 0))])|_=>none
def AQ.T:=eO fun| .vec n, .ints .u8 l,[]=>(match Nat.beq n 0 with|true=>some (l.length<=1000000000000, .ints .u8 l.reverse, .tup [])|false=>none)|_,_,_=>none
def Bn.T:=spec fun|[.d (.ints .u32 a)]=>some (aF a, .d (.str (dec (val a))))|_=>none
def B2.T:=spec fun|[]=>some (True, .d (.bool true))|_=>none
def zN.T:=spec fun|[.d (.ints .u32 a), .d (.int .u8 m), .d (.int .u8 n)]=>some (aZ a/\0<=m/\0<=n, .d (.bool true))|_=>none
def AR.T:=spec fun|[.d (.int .i64 n)]=>some (-9223372036854775808<=n/\n<9223372036854775808, .tup [.d (.ints .u32 (if n<0 then[]else ah n.toNat)), .d (.int .i64 (if n<0 then 1 else 0))])|_=>none
def Dd.T:=spec fun|[.d (.ints .u32 a)]=>some (aF a, .tup [.d (.int .i64 (if val a<9223372036854775808 then val a else 0)), .d (.int .i64 (if val a<9223372036854775808 then 0 else 1))])|_=>none
def B3.T:=spec fun|[.d (.str s)]=>some (s.length<=1000000000000, .tup [.d (.ints .u32 (ea s)), .d (.int .i64 (fJ s))])|_=>none
def AA.T:=spec fun|[.d (.ints .u32 a)]=>some (True, .d (.bool (decide (a.length<=24))))|_=>none
def zU.T:=spec fun|[.d (.ints .u32 a), .d (.ints .u32 b), .d (.ints .u32 c)]=>some (aZ a/\aZ b/\aZ c, .d (.bool true))|_=>none
def zV.T:=spec fun|[.d (.int .i64 m), .d (.int .i64 n)]=>some (-9223372036854775808<=m/\m<9223372036854775808/\-9223372036854775808<=n/\n<9223372036854775808, .d (.bool true))|_=>none
def zO.T:=spec fun|[.d (.ints .u32 a), .d (.int .u8 z)]=>some (aZ a/\0<=z/\z<256, .d (.bool true))|_=>none
def cL (n:Nat):Nat:=if n=0 then 0 else n.log2+1
def jL (n:Nat):Nat->List Int
 |0=>[]
 |k+1=>((n%4294967296:Nat):Int)::jL (n/4294967296) k
def B4.T:=spec fun|[.d (.int .u32 x)]=>some (L x, .d (.int .i64 (cL x.toNat)))|_=>none
def AS.T:=spec fun|[.d (.int .u32 x)]=>some (L x, .d (.int .i64 (32-cL x.toNat)))|_=>none
def B5.T:=lr fun|[.d (.ints .u32 a), .d (.int .u64 k)]=>some (aF a/\0<=k/\k<32, .ints .u32 (jL (val a*2^k.toNat) (a.length+1)))|_=>none
def CJ.T:=spec fun|[.d (.ints .u32 a), .d (.ints .u32 b)]=>some (aF a/\aF b/\Norm a/\Norm b/\2<=b.length/\val b<=val a, .tup [.d (.ints .u32 (ah (val a/val b))), .d (.ints .u32 (ah (val a%val b)))])|_=>none
def De.T:=spec fun|[.d (.ints .u32 a), .d (.ints .u32 b)]=>some (aF a/\aF b, .d (.ints .u32 (ah (Nat.gcd (val a) (val b)))))|_=>none
def zI.T:=spec fun|[.d (.ints .u32 a), .d (.ints .u32 b)]=>some (aZ a/\aZ b, .d (.bool true))|_=>none
def zP.T:=spec fun|[.d (.ints .u32 a), .d (.ints .u32 b), .d (.ints .u32 c)]=>some (aZ a/\aZ b/\aZ c, .d (.bool true))|_=>none
def AT.T:=lr fun|[.d (.ints .u32 a)]=>some (aF a, .ints .u32 (ah (val a)))|_=>none
def Bo.T:=spec fun|[.d (.ints .u32 a), .d (.ints .u32 b)]=>some (aF a/\aF b, .d (.int .i64 (cmp (val a) (val b))))|_=>none
def Bp.T:=spec fun|[.d (.ints .u32 a), .d (.ints .u32 b)]=>some (aZ a/\aZ b/\a.length<=90000000/\b.length<=90000000, .d (.ints .u32 (ah (val a+val b))))|_=>none
def Bq.T:=spec fun|[.d (.ints .u32 a), .d (.ints .u32 b)]=>some (aZ a/\aZ b/\a.length<=40000000/\b.length<=40000000, .d (.ints .u32 (ah (val a*val b))))|_=>none
def Br.T:=spec fun|[.d (.ints .u32 a), .d (.ints .u32 b)]=>some (aF a/\aF b, .tup [.d (.ints .u32 (if val a<val b then[]else ah (val a-val b))), .d (.int .i64 (if val a<val b then 1 else 0))])|_=>none
def AB.T:=spec fun|[.d (.ints .u32 a), .d (.int .u32 d)]=>some (aF a/\L d/\0<d, .tup [.d (.ints .u32 (ah (val a/d.toNat))), .d (.int .u32 (val a%d.toNat:Nat))])|_=>none
def Ap.T:=spec fun|[.d (.ints .u32 a), .d (.ints .u32 b)]=>some (aZ a/\a.length<=90000000/\aZ b/\b.length<=90000000, .tup [.d (.ints .u32 (if val b=0 then[]else ah (val a/val b))), .d (.ints .u32 (if val b=0 then[]else ah (val a%val b))), .d (.int .i64 (if val b=0 then 3 else 0))])|_=>none
def TS.T:=spec fun|[.d (.ints .u32 a), .d (.ints .u32 b)]=>some (aF a/\aF b/\val b<4294967296, .tup [.d (.ints .u32 (if val b=0 then[]else ah (val a/val b))), .d (.ints .u32 (if val b=0 then[]else ah (val a%val b))), .d (.int .i64 (if val b=0 then 3 else 0))])|_=>none
def Bs.T:=spec fun|[.d (.ints .u32 a), .d (.ints .u32 b)]=>some (aZ a/\a.length<=90000000/\aZ b/\b.length<=90000000, .d (.ints .u32 (ah (Nat.gcd (val a) (val b)))))|_=>none
def z8.T:=spec fun|[.d (.int .i64 n)]=>some (-9223372036854775808<=n/\n<9223372036854775808, .tup [.d (.ints .u32 (if n<0 then[]else ah n.toNat)), .d (.int .i64 (if n<0 then 1 else 0))])|_=>none
def Bt.T:=spec fun|[.d (.ints .u32 a)]=>some (aF a, .tup [.d (.int .i64 (if val a<9223372036854775808 then val a else 0)), .d (.int .i64 (if val a<9223372036854775808 then 0 else 1))])|_=>none
def AD.T:=spec fun|[.d (.str s)]=>some (s.length<=1000000000000, .tup [.d (.ints .u32 (ea s)), .d (.int .i64 (fJ s))])|_=>none
def Bu.T:=spec fun|[.d (.ints .u32 a), .d (.int .i64 n)]=>some (aZ a/\a.length<=500000, .tup [.d (.ints .u32 (if 0<=n/\n<=64 then ah (val a^n.toNat)else[])), .d (.int .i64 (if 0<=n/\n<=64 then 0 else 1))])|_=>none
def Aq.T:=spec fun|[.d (.ints .u32 a)]=>some (aF a, .d (.str (dec (val a))))|_=>none
def AE.T:=lr fun|[.d (.ints .u32 a), .d (.int .i64 k)]=>some (aF a/\0<=k/\k<32, .ints .u32 (jL (val a*2^k.toNat) (a.length+1)))|_=>none
def z_.T:=spec fun|[.d (.ints .u32 a), .d (.int .i64 k)]=>some (aF a/\0<=k/\k<32, .d (.ints .u32 (ah (val a/2^k.toNat))))|_=>none
def Ar.T:=spec fun|[.d (.ints .u32 a), .d (.ints .u32 b)]=>some (aZ a/\aZ b/\a.length<=1000000/\b.length<=1000000, .d (.bool true))|_=>none
def AF.T:=eO fun| .vec z, .ints .u32 u,[.d (.ints .u32 v), .d (.int .i64 j)]=>(match Nat.beq z 0 with|true=>some (aF u/\aF v/\2<=v.length/\0<=j/\j.toNat+v.length<u.length/\2147483648*4294967296^(v.length-1)<=val v/\val u<4294967296^(j.toNat+1)*val v, .ints .u32 (jL (val u-4294967296^j.toNat*((val u/4294967296^j.toNat)/val v*val v)) u.length), .d (.int .u32 ((val u/4294967296^j.toNat)/val v:Nat)))|false=>none)|_,_,_=>none
def Aa.T:=spec fun|[.d (.ints .u32 a), .d (.ints .u32 b), .d (.int .i64 n), .d (.str _)]=>some (aZ a/\aZ b/\-9223372036854775808<=n/\n<9223372036854775808, .d (.bool true))|_=>none
end I
end
section
namespace I
open Go Go.bG
def i64 (x:Int):Prop:=-9223372036854775808<=x/\x<9223372036854775808
def dd (l:List Int)(a:Int):Prop:=0<=a/\l.length<=1000/\∀x∈l,i64 x
def tu (l:List Int)(a:Int):Int:=if(l.length:Int)<=a then a else a+1
def pe (l:List Int)(a:Int):Int:=if(l.length:Int)<=a then 0 else l.getD a.toNat 0
def c4 (l:List Int)(a n:Int):Int:=if n<1 then a else tu l a
def fP (l:List Int)(a n:Int):Int:=if n<1 then 0 else pe l a%n
def qj (l:List Int)(a:Int)(m:List Int):Int:=m.getD (fP l a m.length).toNat 0
def pT:List Int:=[0,1,2,3,10,97,65536,2147483648,4294967295,4294967291,123456789,4000000007]
def p4 (l:List Int):Nat->Int->List Int->List Int×Int
 |0,a,out=>(out,a)
 |i+1,a,out=>p4 l i (c4 l a 12) (out++[qj l a pT])
def iq (l:List Int)(a:Int):List Int×Int:=p4 l (fP l a 5).toNat (c4 l a 5) []
abbrev st (l:List Int)(a s:Int):ad:= .cells [.d (.ints .i64 l), .d (.int .i64 a), .d (.int .i64 s)]
def B8.T:=lr fun|[.d (.ints .i64 l)]=>some (True, .cells [.d (.ints .i64 (l.take 1000)), .d (.int .i64 0), .d (.int .i64 0)])|_=>none
def B9.T:=eO fun| .ptr z o, .cells [.d (.ints .i64 l), .d (.int .i64 a), .d (.int .i64 s)],[]=>(match Nat.beq z 0,Nat.beq o 0 with|true,true=>some (dd l a, .cells [.d (.ints .i64 l), .d (.int .i64 (tu l a)), .d (.int .i64 s)], .d (.int .i64 (pe l a)))|_,_=>none)|_,_,_=>none
def Dh.T:=eO fun| .ptr z o, .cells [.d (.ints .i64 l), .d (.int .i64 a), .d (.int .i64 s)],[.d (.int .i64 n)]=>(match Nat.beq z 0,Nat.beq o 0 with|true,true=>some (dd l a/\i64 n, .cells [.d (.ints .i64 l), .d (.int .i64 (c4 l a n)), .d (.int .i64 s)], .d (.int .i64 (fP l a n)))|_,_=>none)|_,_,_=>none
def By.T:=eO fun| .ptr z o, .cells [.d (.ints .i64 l), .d (.int .i64 a), .d (.int .i64 s)],[.d (.ints .i64 m)]=>(match Nat.beq z 0,Nat.beq o 0 with|true,true=>some (dd l a/\0<m.length/\m.length<=1000, .cells [.d (.ints .i64 l), .d (.int .i64 (c4 l a m.length)), .d (.int .i64 s)], .d (.int .i64 (qj l a m)))|_,_=>none)|_,_,_=>none
def AV.T:=eO fun| .ptr z o, .cells [.d (.ints .i64 l), .d (.int .i64 a), .d (.int .i64 s)],[]=>(match Nat.beq z 0,Nat.beq o 0 with|true,true=>some (dd l a, .cells [.d (.ints .i64 l), .d (.int .i64 (iq l a).2), .d (.int .i64 s)], .d (.ints .u32 (iq l a).1))|_,_=>none)|_,_,_=>none
def zT.T:=spec fun|[.d (.ints .i64 l)]=>some (∀x∈l,i64 x, .d (.bool true))|_=>none
end I
end
section
namespace I
open Go Go.bG
def cA (s:Bool)(n:Nat):Int:=if s then-(n:Int)else n
def ag (s:Bool)(a b:List Int):Rat:=mkRat (cA s (val a)) (val b)
def bh (r:Rat):Bool:=decide (r.num<0)
def bm (r:Rat):List Int:=ah r.num.natAbs
def bg (r:Rat):List Int:=ah r.den
def av (k:Nat)(a:List Int):Prop:=aZ a/\a.length<=k
def hc (r:Rat):Bool:=decide (r=0)
def dh (r:Rat):Int:=if r=0 then 0 else if r<0 then-1 else 1
def ff (r:Rat):List Int:=(if bh r then[45]else[])++dec r.num.natAbs++(if r.den=1 then[]else 47::dec r.den)
def gH:List Int->List Int
 |[]=>[]
 |x::r=>if x=47 then[]else x::gH r
def hG:List Int->List Int
 |[]=>[]
 |x::r=>if x=47 then r else hG r
def fy:List Int->Bool
 |[]=>false
 |x::r=>if x=47 then true else fy r
def mb (s:List Int):Bool:=decide (s.getD 0 0=45)
def cU (s:List Int):List Int:=if mb s then s.drop 1 else s
def pE (s:List Int):Int:=fJ (gH (cU s))
def m1 (s:List Int):Int:=if fy (cU s)then fJ (hG (cU s))else 0
def y6 (s:List Int):Nat:=val (ea (gH (cU s)))
def jV (s:List Int):Nat:=if fy (cU s)then val (ea (hG (cU s)))else 1
def dS (s:List Int):Int:=if pE s=4\/m1 s=4 then 4 else if pE s≠0\/m1 s≠0 then 9 else if jV s=0 then 3 else 0
def gU (s:List Int):Rat:=mkRat (cA (mb s) (y6 s)) (jV s)
def er (c:Bool)(r:Rat):Bool:=if c then bh r else false
def ej (c:Bool)(r:Rat):List Int:=if c then bm r else[]
def ek (c:Bool)(r:Rat):List Int:=if c then bg r else[]
def Dq.T:=spec fun|[.agg [.d (.bool s), .d (.ints .u32 a), .d (.ints .u32 b)]]=>some (True, .agg [.d (.bool s), .d (.ints .u32 a), .d (.ints .u32 b)])|_=>none
def BG.T:=spec fun|[.d (.bool s), .d (.ints .u32 a), .d (.ints .u32 b)]=>some (aF a/\aF b/\val b≠0, .agg [.d (.bool (bh (ag s a b))), .d (.ints .u32 (bm (ag s a b))), .d (.ints .u32 (bg (ag s a b)))])|_=>none
def BH.T:=spec fun|[.d (.ints .u32 a)]=>some (aF a, .d (.bool (decide (val a=0))))|_=>none
def xj.T:=spec fun|[.agg [.d (.bool s), .d (.ints .u32 a), .d (.ints .u32 b)]]=>some (aF a/\aF b, .agg [.d (.bool (bh (ag s a b))), .d (.ints .u32 (bm (ag s a b))), .d (.ints .u32 (bg (ag s a b)))])|_=>none
def Dr.T:=spec fun|[.d (.ints .u32 a)]=>some (True, .d (.bool (decide (a=[1]))))|_=>none
def Au.T:=spec fun|[.d (.int .i64 n)]=>some (i64 n, .tup [.d (.bool (decide (n<0))), .d (.ints .u32 (ah n.natAbs))])|_=>none
def td.T:=spec fun|[.d (.int .i64 n)]=>some (i64 n, .agg [.d (.bool (bh (n:Rat))), .d (.ints .u32 (bm (n:Rat))), .d (.ints .u32 (bg (n:Rat)))])|_=>none
def xL.T:=spec fun|[.d (.int .i64 n), .d (.int .i64 d)]=>some (i64 n/\i64 d, .tup [.agg [.d (.bool (er (!decide (d=0)) (Rat.divInt n d))), .d (.ints .u32 (ej (!decide (d=0)) (Rat.divInt n d))), .d (.ints .u32 (ek (!decide (d=0)) (Rat.divInt n d)))], .d (.int .i64 (if d=0 then 3 else 0))])|_=>none
def Cp.T:=spec fun|[.d (.bool s), .d (.ints .u32 a), .d (.ints .u32 b)]=>some (aF a/\aF b, .tup [.agg [.d (.bool (er (!decide (val b=0)) (ag s a b))), .d (.ints .u32 (ej (!decide (val b=0)) (ag s a b))), .d (.ints .u32 (ek (!decide (val b=0)) (ag s a b)))], .d (.int .i64 (if val b=0 then 3 else 0))])|_=>none
def A9.T:=spec fun|[.d (.bool s), .d (.ints .u32 a), .d (.bool t), .d (.ints .u32 b), .d (.ints .u32 d)]=>some (av 50000000 a/\av 50000000 b/\aF d/\val d≠0, .agg [.d (.bool (bh (mkRat (cA s (val a)+cA t (val b)) (val d)))), .d (.ints .u32 (bm (mkRat (cA s (val a)+cA t (val b)) (val d)))), .d (.ints .u32 (bg (mkRat (cA s (val a)+cA t (val b)) (val d))))])|_=>none
def xM.T:=spec fun|[.agg [.d (.bool s), .d (.ints .u32 a), .d (.ints .u32 b)], .agg [.d (.bool t), .d (.ints .u32 c), .d (.ints .u32 d)]]=>some (av 1000000 a/\av 1000000 b/\av 1000000 c/\av 1000000 d, .agg [.d (.bool (bh (ag s a b+ag t c d))), .d (.ints .u32 (bm (ag s a b+ag t c d))), .d (.ints .u32 (bg (ag s a b+ag t c d)))])|_=>none
def xN.T:=spec fun|[.agg [.d (.bool s), .d (.ints .u32 a), .d (.ints .u32 b)]]=>some (av 1000000 a/\av 1000000 b, .agg [.d (.bool (bh (-ag s a b))), .d (.ints .u32 (bm (-ag s a b))), .d (.ints .u32 (bg (-ag s a b)))])|_=>none
def xO.T:=spec fun|[.agg [.d (.bool s), .d (.ints .u32 a), .d (.ints .u32 b)], .agg [.d (.bool t), .d (.ints .u32 c), .d (.ints .u32 d)]]=>some (av 1000000 a/\av 1000000 b/\av 1000000 c/\av 1000000 d, .agg [.d (.bool (bh (ag s a b-ag t c d))), .d (.ints .u32 (bm (ag s a b-ag t c d))), .d (.ints .u32 (bg (ag s a b-ag t c d)))])|_=>none
def xP.T:=spec fun|[.agg [.d (.bool s), .d (.ints .u32 a), .d (.ints .u32 b)], .agg [.d (.bool t), .d (.ints .u32 c), .d (.ints .u32 d)]]=>some (av 1000000 a/\av 1000000 b/\av 1000000 c/\av 1000000 d, .agg [.d (.bool (bh (ag s a b*ag t c d))), .d (.ints .u32 (bm (ag s a b*ag t c d))), .d (.ints .u32 (bg (ag s a b*ag t c d)))])|_=>none
def xQ.T:=spec fun|[.agg [.d (.bool s), .d (.ints .u32 a), .d (.ints .u32 b)], .agg [.d (.bool t), .d (.ints .u32 c), .d (.ints .u32 d)]]=>some (av 1000000 a/\av 1000000 b/\av 1000000 c/\av 1000000 d, .tup [.agg [.d (.bool (er (!hc (ag t c d)) (ag s a b/ag t c d))), .d (.ints .u32 (ej (!hc (ag t c d)) (ag s a b/ag t c d))), .d (.ints .u32 (ek (!hc (ag t c d)) (ag s a b/ag t c d)))], .d (.int .i64 (if hc (ag t c d)=true then 3 else 0))])|_=>none
def va.T:=spec fun|[.agg [.d (.bool s), .d (.ints .u32 a), .d (.ints .u32 b)]]=>some (aF a/\aF b, .d (.int .i64 (dh (ag s a b))))|_=>none
def xR.T:=spec fun|[.agg [.d (.bool s), .d (.ints .u32 a), .d (.ints .u32 b)], .agg [.d (.bool t), .d (.ints .u32 c), .d (.ints .u32 d)]]=>some (av 1000000 a/\av 1000000 b/\av 1000000 c/\av 1000000 d, .d (.int .i64 (dh (ag s a b-ag t c d))))|_=>none
def sT.T:=spec fun|[.agg [.d (.bool s), .d (.ints .u32 a), .d (.ints .u32 b)], .agg [.d (.bool t), .d (.ints .u32 c), .d (.ints .u32 d)]]=>some (av 1000000 a/\av 1000000 b/\av 1000000 c/\av 1000000 d, .d (.bool (decide (ag s a b=ag t c d))))|_=>none
def xS.T:=spec fun|[.agg [.d (.bool s), .d (.ints .u32 a), .d (.ints .u32 b)], .d (.int .i64 n)]=>some (av 10000 a/\av 10000 b, .tup [.agg [.d (.bool (er (decide (0<=n/\n<=64)) (ag s a b^n.toNat))), .d (.ints .u32 (ej (decide (0<=n/\n<=64)) (ag s a b^n.toNat))), .d (.ints .u32 (ek (decide (0<=n/\n<=64)) (ag s a b^n.toNat)))], .d (.int .i64 (if 0<=n/\n<=64 then 0 else 1))])|_=>none
def uY.T:=spec fun|[.d (.str s)]=>some (s.length<=1000000, .tup [.agg [.d (.bool (er (decide (dS s=0)) (gU s))), .d (.ints .u32 (ej (decide (dS s=0)) (gU s))), .d (.ints .u32 (ek (decide (dS s=0)) (gU s)))], .d (.int .i64 (dS s))])|_=>none
def xa.T:=spec fun|[.agg [.d (.bool s), .d (.ints .u32 a), .d (.ints .u32 b)]]=>some (av 1000000 a/\av 1000000 b, .d (.str (ff (ag s a b))))|_=>none
def aeT.T:=spec fun|[.d (.str s), .d (.str p)]=>some (p=[45]/\s.length<=1000000000000, .tup [.d (.str (cU s)), .d (.bool (mb s))])|_=>none
def aiX.T:=spec fun|[.d (.str s), .d (.str p)]=>some (p=[47]/\s.length<=1000000000000, .tup [.d (.str (gH s)), .d (.str (if fy s then hG s else[])), .d (.bool (fy s))])|_=>none
def Cq.T:=spec fun|[.agg [.d (.bool s), .d (.ints .u32 a), .d (.ints .u32 b)], .agg [.d (.bool t), .d (.ints .u32 c), .d (.ints .u32 d)]]=>some (a.length<=1000000000/\b.length<=1000000000/\c.length<=1000000000/\d.length<=1000000000, .d (.bool (decide (s=t/\a=c/\b=d))))|_=>none
def BI.T:=spec fun|[.agg [.d (.bool s), .d (.ints .u32 a), .d (.ints .u32 b)], .d (.int .i64 n)]=>some (av 10000 a/\av 10000 b/\n<=64, .agg [.d (.bool (bh (ag s a b^n.toNat))), .d (.ints .u32 (bm (ag s a b^n.toNat))), .d (.ints .u32 (bg (ag s a b^n.toNat)))])|_=>none
end I
end
section
namespace Go.bG
def idx (c:Int):List Int->Int
 |[]=>-1
 |x::r=>if x=c then 0 else if idx c r=-1 then-1 else idx c r+1
def vq.T:=spec fun|[.d (.str s), .d (.int .u8 c)]=>some (0<=c/\c<256, .d (.int .i64 (idx c s)))|_=>none
end Go.bG
end
section
namespace I
open Go Go.bG
abbrev rg (r:Rat):J:= .agg [.d (.bool (bh r)), .d (.ints .u32 (bm r)), .d (.ints .u32 (bg r))]
abbrev cJ (s:Bool)(a b:List Int):J:= .agg [.d (.bool s), .d (.ints .u32 a), .d (.ints .u32 b)]
def l2 (s p:List Int):Bool:=decide (p.length<=s.length/\s.take p.length=p)
def Av.T:=spec fun|[.d (.str s), .d (.str p)]=>some (s.length<=1000000000000/\p.length<=1000000000000, .d (.bool (l2 s p)))|_=>none
def wK.T:=spec fun|[.d (.str s), .d (.str p)]=>some (s.length<=1000000000000/\p.length<=1000000000000, .tup [.d (.str (if l2 s p then s.drop p.length else s)), .d (.bool (l2 s p))])|_=>none
def BJ.T:=spec fun|[.d (.str s), .d (.str p)]=>some (p.length=1/\0<=p.getD 0 0/\p.getD 0 0<256/\s.length<=1000000000000, .d (.int .i64 (idx (p.getD 0 0) s)))|_=>none
def xT.T:=spec fun|[.d (.str s), .d (.str p)]=>some (p.length=1/\0<=p.getD 0 0/\p.getD 0 0<256/\s.length<=1000000000000, .tup [.d (.str (if idx (p.getD 0 0) s<0 then s else s.take (idx (p.getD 0 0) s).toNat)), .d (.str (if idx (p.getD 0 0) s<0 then[]else s.drop ((idx (p.getD 0 0) s).toNat+1))), .d (.bool (!decide (idx (p.getD 0 0) s<0)))])|_=>none
def BK.T:=spec fun|[.d (.bool s), .d (.ints .u32 a), .d (.ints .u32 b)]=>some (av 90000000 a/\av 90000000 b/\val b≠0, .agg [.d (.bool (bh (ag s a b))), .d (.ints .u32 (bm (ag s a b))), .d (.ints .u32 (bg (ag s a b)))])|_=>none
def A_.T:=spec fun|[.agg [.d (.bool s), .d (.ints .u32 a), .d (.ints .u32 b)]]=>some (av 90000000 a/\av 90000000 b, .agg [.d (.bool (bh (ag s a b))), .d (.ints .u32 (bm (ag s a b))), .d (.ints .u32 (bg (ag s a b)))])|_=>none
def Cr.T:=spec fun|[.d (.bool s), .d (.ints .u32 a), .d (.ints .u32 b)]=>some (av 90000000 a/\av 90000000 b, .tup [.agg [.d (.bool (er (!decide (val b=0)) (ag s a b))), .d (.ints .u32 (ej (!decide (val b=0)) (ag s a b))), .d (.ints .u32 (ek (!decide (val b=0)) (ag s a b)))], .d (.int .i64 (if val b=0 then 3 else 0))])|_=>none
def Cs.T:=spec fun|[.agg [.d (.bool s), .d (.ints .u32 a), .d (.ints .u32 b)]]=>some (av 90000000 a/\av 90000000 b, .d (.int .i64 (dh (ag s a b))))|_=>none
def kj (l:List Int)(a lo hi:Int):Int:=lo+fP l a (hi-lo+1)
def Hc (l:List Int)(a:Int):Int:=kj l a (-6) 6
def Hd (l:List Int)(a:Int):Int:=kj l (c4 l a 13) 1 5
def jv (l:List Int)(a:Int):Rat:=Rat.divInt (Hc l a) (Hd l a)
def tv (l:List Int)(a:Int):Int:=c4 l (c4 l a 13) 5
def o5 (l:List Int)(a:Int):Int:=fP l a 4
def hh (l:List Int)(a:Int):Bool:=
 if o5 l a=0 then bh (jv l (c4 l a 4))else if o5 l a=1 then decide (fP l (c4 l a 4) 2=0)else decide (fP l (c4 l (c4 l a 4) 6) 2=0)
def iG (l:List Int)(a:Int):List Int:=
 if o5 l a=0 then bm (jv l (c4 l a 4))else if o5 l a=1 then(iq l (c4 l (c4 l a 4) 2)).1 else
  [kj l (c4 l a 4) 1 6*fP l (c4 l (c4 l (c4 l a 4) 6) 2) 9,0]
def iH (l:List Int)(a:Int):List Int:=
 if o5 l a=0 then bg (jv l (c4 l a 4))else if o5 l a=1 then(iq l (iq l (c4 l (c4 l a 4) 2)).2).1 else
  [kj l (c4 l a 4) 1 6*fP l (c4 l (c4 l (c4 l (c4 l a 4) 6) 2) 9) 6]
def kk (l:List Int)(a:Int):Int:=
 if o5 l a=0 then tv l (c4 l a 4)else if o5 l a=1 then(iq l (iq l (c4 l (c4 l a 4) 2)).2).2 else
  c4 l (c4 l (c4 l (c4 l (c4 l a 4) 6) 2) 9) 6
def Ba.T:=eO fun| .ptr z o, .cells [.d (.ints .i64 l), .d (.int .i64 a), .d (.int .i64 s)],[.d (.int .i64 lo), .d (.int .i64 hi)]=>(match Nat.beq z 0,Nat.beq o 0 with|true,true=>some (dd l a/\-1000000000<=lo/\lo<=hi/\hi<=1000000000, .cells [.d (.ints .i64 l), .d (.int .i64 (c4 l a (hi-lo+1))), .d (.int .i64 s)], .d (.int .i64 (kj l a lo hi)))|_,_=>none)|_,_,_=>none
def Ct.T:=eO fun| .ptr z o, .cells [.d (.ints .i64 l), .d (.int .i64 a), .d (.int .i64 s)],[]=>(match Nat.beq z 0,Nat.beq o 0 with|true,true=>some (dd l a, .cells [.d (.ints .i64 l), .d (.int .i64 (tv l a)), .d (.int .i64 s)],rg (jv l a))|_,_=>none)|_,_,_=>none
def Bb.T:=eO fun| .ptr z o, .cells [.d (.ints .i64 l), .d (.int .i64 a), .d (.int .i64 s)],[]=>(match Nat.beq z 0,Nat.beq o 0 with|true,true=>some (dd l a, .cells [.d (.ints .i64 l), .d (.int .i64 (kk l a)), .d (.int .i64 s)],cJ (hh l a) (iG l a) (iH l a))|_,_=>none)|_,_,_=>none
def Aw.T:=spec fun|[.d (.ints .u32 a)]=>some (aF a, .d (.bool (decide (a=ah (val a)))))|_=>none
def Bc.T:=spec fun|[.agg [.d (.bool zq), .d (.ints .u32 a), .d (.ints .u32 b)]]=>some (True, .d (.bool (decide (a.length<=12/\b.length<=12))))|_=>none
def Bd.T:=spec fun|[]=>some (True, .d (.bool true))|_=>none
def AJ.T:=spec fun|[.agg [.d (.bool zq), .d (.ints .u32 a), .d (.ints .u32 b)], .agg [.d (.bool Sy), .d (.ints .u32 c), .d (.ints .u32 d)]]=>some (av 100000 a/\av 100000 b/\av 100000 c/\av 100000 d, .d (.bool true))|_=>none
def zJ.T:=spec fun|[.agg [.d (.bool zq), .d (.ints .u32 a), .d (.ints .u32 b)], .agg [.d (.bool Sy), .d (.ints .u32 c), .d (.ints .u32 d)]]=>some (aZ a/\aZ b/\aZ c/\aZ d, .d (.bool true))|_=>none
def wG.T:=spec fun|[.d (.ints .i64 l)]=>some (∀x∈l,i64 x, .d (.bool true))|_=>none
def Be.T:=lr fun|[.d (.ints .u32 a), .d (.ints .u32 b)]=>some (aZ a/\aZ b/\a.length<=40000000/\b.length<=40000000, .ints .u32 (ah (val a*val b)))|_=>none
def zH.T:=spec fun|[.d (.ints .i64 l), .d (.int .u32 k), .d (.int .u8 z)]=>some ((∀x∈l,i64 x)/\L k/\0<=z/\z<256, .d (.bool true))|_=>none
def zQ.T:=spec fun|[.agg [.d (.bool zq), .d (.ints .u32 a), .d (.ints .u32 b)]]=>some (aZ a/\aZ b, .d (.bool true))|_=>none
def zW.T:=spec fun|[.agg [.d (.bool zq), .d (.ints .u32 a), .d (.ints .u32 b)], .agg [.d (.bool Sy), .d (.ints .u32 c), .d (.ints .u32 d)], .d (.int .i64 x), .d (.int .i64 y), .d (.int .i64 n), .d (.str ajN)]=>some (aZ a/\aZ b/\aZ c/\aZ d/\i64 x/\i64 y/\i64 n, .d (.bool true))|_=>none
def zR.T:=spec fun|[.d (.ints .i64 l), .d (.str t), .d (.int .i64 n)]=>some ((∀x∈l,i64 x)/\(∀x∈t,0<=x/\x<256)/\i64 n, .d (.bool true))|_=>none
end I
end
section
namespace I
open Go Go.bG
abbrev Row:=List R
abbrev Rows:=List (List R)
def dZ (r:Row):Prop:=∃(pK gD ha jE lT j4 pJ ud:Int) (s:Bool) (a b:List Int),
 r=[.int .i64 pK, .int .i64 gD, .int .i64 ha, .int .i64 jE, .int .i64 lT, .int .i64 j4, .int .i64 pJ, .int .i64 ud, .bool s, .ints .u32 a, .ints .u32 b]
def cQ (l:Rows):Prop:=∀r∈l,dZ r
def dY (r:Row):List Int:=(r.take 8).map R.toInt
def dR:List Int->List Int->Int
 |a::x,b::y=>if a<b then-1 else if b<a then 1 else dR x y
 |[],[]=>0
 |[],_=>-1
 |_,[]=>1
def fX (a b:Row):Int:=-dR (dY a) (dY b)
def aX (a b:Row):Bool:=decide (fX a b<0)
structure dn where
 g:Nat
 desc:Bool
def dn.is (q:dn)(g:Nat)(c:List J):Bool:=
 match Nat.beq g q.g,q.desc,c with
 |true,true,[.agg [.bt]]=>true
 |true,false,[.agg [.d (.int .i64 8)]]=>true
 |_,_,_=>false
def pf.T (q:dn):=spec fun
 |[.agg [.d c], .rw m a, .rw n b]=>(match Nat.beq m 11,Nat.beq n 11,q.desc,c with
  |true,true,true, .bool true=>some (dZ a/\dZ b, .d (.int .i64 (fX a b)))
  |true,true,false, .int .i64 8=>some (dZ a/\dZ b, .d (.int .i64 (fX a b)))
  |_,_,_,_=>none)
 |_=>none
def fe (l:Rows)(a b:Int):Prop:=cQ l/\0<=a/\a<=b/\b<=(l.length:Int)/\l.length<1000000000000000
def G9.T (q:dn):=eO fun
 | .vec z, .rows aj l,[.d (.int .i64 a), .d (.int .i64 b), .cls g c]=>(match Nat.beq z 0,Nat.beq aj 11,q.is g c with
  |true,true,true=>some (fe l a b, .rows 11 (Go.Sort.insertionSort aX l.toArray a.toNat b.toNat).toList, .tup [])
  |_,_,_=>none)
 |_,_,_=>none
def GQ.T (q:dn):=eO fun
 | .vec z, .rows aj l,[.d (.int .i64 lo), .d (.int .i64 hi), .d (.int .i64 f), .cls g c]=>(match Nat.beq z 0,Nat.beq aj 11,q.is g c with
  |true,true,true=>some (cQ l/\0<=lo/\lo<=(l.length:Int)/\0<=hi/\0<=f/\f+hi<=(l.length:Int)/\l.length<1000000000000000, .rows 11 (Go.Sort.siftDown aX hi.toNat f.toNat lo.toNat l.toArray).toList, .tup [])
  |_,_,_=>none)
 |_,_,_=>none
def GR.T (q:dn):=eO fun
 | .vec z, .rows aj l,[.d (.int .i64 a), .d (.int .i64 b), .cls g c]=>(match Nat.beq z 0,Nat.beq aj 11,q.is g c with
  |true,true,true=>some (fe l a b/\a<b, .rows 11 (Go.Sort.heapSort aX l.toArray a.toNat b.toNat).toList, .tup [])
  |_,_,_=>none)
 |_,_,_=>none
def GS.T (q:dn):=eO fun
 | .vec z, .rows aj l,[.d (.int .i64 a), .d (.int .i64 b), .d (.int .i64 p), .cls g c]=>(match Nat.beq z 0,Nat.beq aj 11,q.is g c with
  |true,true,true=>some (fe l a b/\a<=p/\p<b, .rows 11 (Go.Sort.partition aX l.toArray a.toNat b.toNat p.toNat).2.2.toList, .tup [.d (.int .i64 (Go.Sort.partition aX l.toArray a.toNat b.toNat p.toNat).1), .d (.bool (Go.Sort.partition aX l.toArray a.toNat b.toNat p.toNat).2.1)])
  |_,_,_=>none)
 |_,_,_=>none
def F2.T (q:dn):=eO fun
 | .vec z, .rows aj l,[.d (.int .i64 a), .d (.int .i64 b), .d (.int .i64 p), .cls g c]=>(match Nat.beq z 0,Nat.beq aj 11,q.is g c with
  |true,true,true=>some (fe l a b/\a<=p/\p<b, .rows 11 (Go.Sort.partitionEqual aX l.toArray a.toNat b.toNat p.toNat).2.toList, .d (.int .i64 (Go.Sort.partitionEqual aX l.toArray a.toNat b.toNat p.toNat).1))
  |_,_,_=>none)
 |_,_,_=>none
def Fw.T (q:dn):=eO fun
 | .vec z, .rows aj l,[.d (.int .i64 a), .d (.int .i64 b), .cls g c]=>(match Nat.beq z 0,Nat.beq aj 11,q.is g c with
  |true,true,true=>some (fe l a b/\a<b, .rows 11 (Go.Sort.partialInsertionSort aX l.toArray a.toNat b.toNat).1.toList, .d (.bool (Go.Sort.partialInsertionSort aX l.toArray a.toNat b.toNat).2))
  |_,_,_=>none)
 |_,_,_=>none
def G_.T (q:dn):=eO fun
 | .vec z, .rows aj l,[.d (.int .i64 a), .d (.int .i64 b), .cls g c]=>(match Nat.beq z 0,Nat.beq aj 11,q.is g c with
  |true,true,true=>some (fe l a b, .rows 11 (Go.Sort.reverseRange l.toArray a.toNat b.toNat).toList, .tup [])
  |_,_,_=>none)
 |_,_,_=>none
def xq.T:=spec fun|[.d (.int .u64 x)]=>some (0<=x/\x<18446744073709551616, .d (.int .i64 (cL x.toNat)))|_=>none
def Dk.T:=spec fun|[.d (.int .i64 x)]=>some (0<=x/\x<4611686018427387904, .d (.int .u64 (2^cL x.toNat:Nat)))|_=>none
def Dl.T:=kL (ι:=Int) fun
 | .ptr z o, .cells [.d (.int .u64 x)],[]=>(match Nat.beq z 0,Nat.beq o 0 with
  |true,true=>some (0<=x/\x<18446744073709551616,fun y=>0<=y/\y<18446744073709551616,fun y=> .cells [.d (.int .u64 y)],fun y=> .d (.int .u64 y))
  |_,_=>none)
 |_,_,_=>none
def GU.T (q:dn):=eO fun
 | .ptr z o, .cells [.d (.int .i64 s)],[.d (.rows aj l), .d (.int .i64 a), .d (.int .i64 b), .cls g c]=>(match Nat.beq z 0,Nat.beq o 0,Nat.beq aj 11,q.is g c with
  |true,true,true,true=>some (cQ l/\0<=a/\a<(l.length:Int)/\0<=b/\b<(l.length:Int)/\0<=s/\s<1000, .cells [.d (.int .i64 (Go.Sort.order2 aX l.toArray a.toNat b.toNat s.toNat).2.2)], .tup [.d (.int .i64 (Go.Sort.order2 aX l.toArray a.toNat b.toNat s.toNat).1), .d (.int .i64 (Go.Sort.order2 aX l.toArray a.toNat b.toNat s.toNat).2.1)])
  |_,_,_,_=>none)
 |_,_,_=>none
def Ha.T (q:dn):=eO fun
 | .ptr z o, .cells [.d (.int .i64 s)],[.d (.rows aj l), .d (.int .i64 a), .d (.int .i64 b), .d (.int .i64 e), .cls g c]=>(match Nat.beq z 0,Nat.beq o 0,Nat.beq aj 11,q.is g c with
  |true,true,true,true=>some (cQ l/\(0<=a/\a<(l.length:Int))/\(0<=b/\b<(l.length:Int))/\(0<=e/\e<(l.length:Int))/\0<=s/\s<900, .cells [.d (.int .i64 (Go.Sort.median aX l.toArray a.toNat b.toNat e.toNat s.toNat).2)], .d (.int .i64 (Go.Sort.median aX l.toArray a.toNat b.toNat e.toNat s.toNat).1))
  |_,_,_,_=>none)
 |_,_,_=>none
def F3.T (q:dn):=eO fun
 | .ptr z o, .cells [.d (.int .i64 s)],[.d (.rows aj l), .d (.int .i64 a), .cls g c]=>(match Nat.beq z 0,Nat.beq o 0,Nat.beq aj 11,q.is g c with
  |true,true,true,true=>some (cQ l/\0<a/\a+1<(l.length:Int)/\l.length<1000000000000000/\0<=s/\s<900, .cells [.d (.int .i64 (Go.Sort.medianAdjacent aX l.toArray a.toNat s.toNat).2)], .d (.int .i64 (Go.Sort.medianAdjacent aX l.toArray a.toNat s.toNat).1))
  |_,_,_,_=>none)
 |_,_,_=>none
def Gx.T (q:dn):=spec fun
 |[.d (.rows aj l), .d (.int .i64 a), .d (.int .i64 b), .cls g c]=>(match Nat.beq aj 11,q.is g c with
  |true,true=>some (fe l a b/\a<b, .tup [.d (.int .i64 (Go.Sort.choosePivot aX l.toArray a.toNat b.toNat).1), .d (.int .i64 (Go.Sort.hintCode (Go.Sort.choosePivot aX l.toArray a.toNat b.toNat).2))])
  |_,_=>none)
 |_=>none
def CL (l:Rows)(a b:Int)(c2:Rows):Prop:=cQ c2/\Go.Sort.PermIn a.toNat b.toNat l.toArray c2.toArray
def kQ (l:Rows)(a b:Int)(c2:Rows):Prop:=CL l a b c2/\Go.Sort.SortedIn aX a.toNat b.toNat c2.toArray
def B_.T (q:dn):=kL (ι:=Rows) fun
 | .vec z, .rows aj l,[.d (.int .i64 a), .d (.int .i64 b), .cls g c]=>(match Nat.beq z 0,Nat.beq aj 11,q.is g c with
  |true,true,true=>some (fe l a b,CL l a b,fun c2=> .rows 11 c2,fun _=> .tup [])
  |_,_,_=>none)
 |_,_,_=>none
def qv.T (q:dn)(n:Nat):=kL (ι:=Rows) fun
 | .vec z, .rows aj l,[.d (.int .i64 a), .d (.int .i64 b), .d (.int .i64 m), .cls g c]=>(match Nat.beq z 0,Nat.beq aj 11,q.is g c with
  |true,true,true=>some (fe l a b/\b-a<n/\(0<=m/\m<=64)/\Go.Sort.Below aX a.toNat b.toNat l.toArray,kQ l a b,fun c2=> .rows 11 c2,fun _=> .tup [])
  |_,_,_=>none)
 |_,_,_=>none
def vc.T (q:dn):=kL (ι:=Rows) fun
 | .vec z, .rows aj l,[.d (.int .i64 a), .d (.int .i64 b), .d (.int .i64 m), .cls g c]=>(match Nat.beq z 0,Nat.beq aj 11,q.is g c with
  |true,true,true=>some (fe l a b/\(0<=m/\m<=64)/\Go.Sort.Below aX a.toNat b.toNat l.toArray,kQ l a b,fun c2=> .rows 11 c2,fun _=> .tup [])
  |_,_,_=>none)
 |_,_,_=>none
def CM.T (q:dn):=kL (ι:=Rows) fun
 | .vec z, .rows aj l,[.cls g c]=>(match Nat.beq z 0,Nat.beq aj 11,q.is g c with
  |true,true,true=>some (cQ l/\l.length<1000000000000000,kQ l 0 l.length,fun c2=> .rows 11 c2,fun _=> .tup [])
  |_,_,_=>none)
 |_,_,_=>none
end I
end
section
namespace I
open Go Go.bG
def dG (m:List Int):Row:=m.map (R.int .i64)
def Dm (r:Row):Prop:=∃m:List Int,r=dG m/\m.length=8/\∀x∈m,-4000000000000000000<=x/\x<=4000000000000000000
def pD (r:Row):List Int:=r.map R.toInt
def fx:List Int->List Int->List Int
 |a::x,b::y=>(a+b)::fx x y
 |_,_=>[]
def CN.T:=spec fun|[.d (.int .i64 a), .d (.int .i64 b)]=>some (True, .d (.int .i64 (if a<b then-1 else if b<a then 1 else 0)))|_=>none
def Ca.T:=spec fun|[.d (.int .i64 ajL)]=>some (True, .d (.bool false))|_=>none
def AW.T:=spec fun|[.d (.ints .i64 a), .d (.ints .i64 b)]=>some (a.length<1000000000/\b.length<1000000000, .d (.int .i64 (dR a b)))|_=>none
def kU:Int->List Int->Int
 |a,[]=>a
 |a,x::l=>kU (if x>a then x else a) l
def Dn.T:=spec fun|[.d (.ints .i64 a)]=>some (0<a.length/\a.length<1000000000, .d (.int .i64 (kU (a.getD 0 0) (a.drop 1))))|_=>none
def Cb.T:=spec fun
 |[.rw m a, .rw n b]=>(match Nat.beq m 8,Nat.beq n 8 with
  |true,true=>some (Dm a/\Dm b, .rw 8 (dG (fx (pD a) (pD b))))
  |_,_=>none)
 |_=>none
def Cc.T:=lr fun|[.d (.rows aj l)]=>(match Nat.beq aj 11 with|true=>some (l.length<100000000000, .rows 11 l)|false=>none)|_=>none
def DQ (r:Row):Rat:=ag (r.getD 8 .undef).toBool (r.getD 9 .undef).b6 (r.getD 10 .undef).b6
def fp (k:Nat)(r:Row):Prop:=∃(m:List Int) (s:Bool) (a b:List Int),r=dG m++[.bool s, .ints .u32 a, .ints .u32 b]/\m.length=8/\(∀x∈m,-4000000000000000000<=x/\x<=4000000000000000000)/\av k a/\av k b
def jm (r:Row):Bool:=decide (dh (DQ r)=0)
def Cd.T:=spec fun|[.rw n r]=>(match Nat.beq n 11 with|true=>some (fp 1000000 r, .d (.bool (jm r)))|false=>none)|_=>none
def oh:Rows->Int->Int
 |[],_=>-1
 |r::l,i=>if jm r then i else oh l (i+1)
def xh.T (g:Nat):=spec fun|[.d (.rows aj l), .fn f]=>(match Nat.beq aj 11,Nat.beq f g with|true,true=>some ((∀r∈l,fp 1000000 r)/\l.length<100000000000, .d (.int .i64 (oh l 0)))|_,_=>none)|_=>none
def xG.T (g:Nat):=vd fun| .rows aj l,[.fn f]=>(match Nat.beq aj 11,Nat.beq f g with|true,true=>some ((∀r∈l,fp 1000000 r)/\l.length<100000000000, .rows 11 (l.filter fun r=> !jm r))|_,_=>none)|_,_=>none
abbrev bu:=List Int×Rat
def bs (r:Row):bu:=(dY r,DQ r)
def fL (t:bu):Row:=dG t.1++[.bool (bh t.2), .ints .u32 (bm t.2), .ints .u32 (bg t.2)]
def bP (p:List bu):Rows:=p.map fL
def cG:List bu->List Int->Rat
 |[],_=>0
 |t::p,m=>(if t.1=m then t.2 else 0)+cG p m
def ins (t:bu):List bu->List bu
 |[]=>if t.2=0 then[]else[t]
 |u::p=>if t.1=u.1 then(if u.2+t.2=0 then p else(u.1,u.2+t.2)::p)else if dR t.1 u.1=1 then(if t.2=0 then u::p else t::u::p)else u::ins t p
def nrm:List bu->List bu
 |[]=>[]
 |t::p=>ins t (nrm p)
def aok (m:List Int):Rows->Nat
 |[]=>0
 |r::l=>(if dY r=m then 1 else 0)+aok m l
def iY (l:Rows):Prop:=∃k c:Nat,1<=k/\(∀r∈l,fp k r)/\(∀m,aok m l<=c)/\c*(2*k+2)<=900000/\k<=900000/\l.length<=1000000000
def sK.T:=spec fun|[.d (.rows aj l)]=>(match Nat.beq aj 11 with|true=>some (iY l, .d (.rows 11 (bP (nrm (l.map bs)))))|false=>none)|_=>none
end I
end
section
open Go Go.bG
namespace I
def Ju:List Int->List Int->(J->Prop)->Prop:=
 fun(a b:List Int) (K:J->Prop)=>∃(aD:Int->Prop),∃(m:Int->Nat),aD (0:Int)/\∀(v11:Int),aD v11->(decide (v11<(Nat.cast:Nat->Int) (List.length a))=true->(0:Int)<=v11/\v11<(Nat.cast:Nat
 ->Int) (List.length a)/\(decide ((Nat.cast:Nat->Int) (List.length b)<=v11)=true->K (J.d (R.int IntKind.i64 (1:Int))))/\(decide ((Nat.cast:Nat->Int) (List.length b)<=v11)=false->(0:Int)<=v11
 /\v11<(Nat.cast:Nat->Int) (List.length b)/\True/\∀(x:Int),(x=if List.getD a (Int.toNat v11) (0:Int)<List.getD b (Int.toNat v11) (0:Int)then(-1:Int)else if List.getD b (Int.toNat v11) (0:Int)<List.getD a (Int.toNat v11) (0:Int)then(1:Int)else(0:Int))
 ->((!decide (x=(0:Int)))=true->K (J.d (R.int IntKind.i64 x)))/\((!decide (x=(0:Int)))=false->aD (IntKind.wrap IntKind.i64 (v11+(1:Int)))/\m (IntKind.wrap IntKind.i64 (v11+(1:Int)))<m v11)))
 /\(decide (v11<(Nat.cast:Nat->Int) (List.length a))=false->(decide ((Nat.cast:Nat->Int) (List.length a)<(Nat.cast:Nat->Int) (List.length b))=true->K (J.d (R.int IntKind.i64 (-1:Int))))
 /\(decide ((Nat.cast:Nat->Int) (List.length a)<(Nat.cast:Nat->Int) (List.length b))=false->K (J.d (R.int IntKind.i64 (0:Int)))))
def JR:Int->Int->(J->Prop)->Prop:=
 fun a b K=>True/\∀x,x=false->True/\∀au,au=false->(x=true->(au=true->K (J.d (R.int .i64 0)))/\(au=false->K (J.d (R.int .i64 (-1)))))/\(x=false->(au=true->K (J.d (R.int .i64 1)))
 /\(au=false->(decide (a<b)=true->K (J.d (R.int .i64 (-1))))/\(decide (a<b)=false->(decide (b<a)=true->K (J.d (R.int .i64 1)))/\(decide (b<a)=false->K (J.d (R.int .i64 0))))))
def J3:Int->(J->Prop)->Prop:=
 fun a K=>K (J.d (R.bool !decide (a=a)))
def Jq:I.Row->I.Row->(J->Prop)->Prop:=
 fun a b K=>List.length a=(11:Nat)/\(∀(x:R),x∈List.take (8:Nat) a->x.isInt .i64)/\(0:Int)<=(8:Int)/\(8:Int)<=(8:Int)/\List.length b=(11:Nat)/\(∀(x:R),x∈List.take (8:Nat) b
 ->x.isInt .i64)/\(0:Int)<=(8:Int)/\(8:Int)<=(8:Int)/\((List.take (8:Nat) (List.map R.toInt (List.take (8:Nat) a))).length<(1000000000:Nat)/\(List.take (8:Nat) (List.map R.toInt (List.take (8:Nat) b))).length<(1000000000:Nat))
 /\∀x,x=dR (List.take (8:Nat) (List.map R.toInt (List.take (8:Nat) a))) (List.take (8:Nat) (List.map R.toInt (List.take (8:Nat) b)))->K (J.d (R.int .i64 (IntKind.i64.wrap ((0:Int)-x))))
def Jf:I.Row->I.Row->(J->Prop)->Prop:=
 fun a b K=>List.length a=11/\(∀(x:R),x∈List.take 8 a->x.isInt .i64)/\List.length b=11/\(∀(x:R),x∈List.take 8 b->x.isInt .i64)/\((List.map R.toInt (List.take 8 a)).length<1000000000
 /\(List.map R.toInt (List.take 8 b)).length<1000000000)/\∀x,x=dR (List.map R.toInt (List.take 8 a)) (List.map R.toInt (List.take 8 b))->(true=true->K (J.d (R.int .i64 (IntKind.i64.wrap (0-x)))))
 /\(true=false->K (J.d (R.int .i64 x)))
def JS:List Int->(J->Prop)->Prop:=
 fun a K=>∃(a8:Prop),((decide (↑a.length<(1:Int))=true->False)/\(decide (↑a.length<(1:Int))=false->a8))/\(a8->(0:Int)<=(0:Int)/\(0:Int)<↑a.length/\∃(aD:Int->Int->Prop),∃(m:Int
 ->Int->Nat),aD (a.getD (0:Nat) (0:Int)) (1:Int)/\∀(v3 v4:Int),aD v3 v4->(decide (v4<↑a.length)=true->(0:Int)<=v4/\v4<↑a.length/\aD (if v3<a.getD v4.toNat (0:Int)then a.getD v4.toNat (0:Int)else v3) (IntKind.i64.wrap (v4+(1:Int)))
 /\m (if v3<a.getD v4.toNat (0:Int)then a.getD v4.toNat (0:Int)else v3) (IntKind.i64.wrap (v4+(1:Int)))<m v3 v4)/\(decide (v4<↑a.length)=false->K (J.d (R.int .i64 v3))))
def Kf:I.Row->I.Row->(J->Prop)->Prop:=
 fun a b K=>∃(aD:Int->List (List R)->List (List R)->List (List R)->Prop),∃(m:Int->List (List R)->List (List R)->List (List R)->Nat),aD 0 [a] [b] [[R.int .i64 0,R.int .i64 0,R.int .i64 0,R.int .i64 0,R.int .i64 0,R.int .i64 0,R.int .i64 0,R.int .i64 0]]
 /\∀(v6:Int) (ai bn ba:List (List R)),aD v6 ai bn ba->(decide (v6<8)=true->0<=v6/\v6<8/\((ai.getD 0 []).getD v6.toNat R.undef).isInt .i64/\0<=v6/\v6<8/\((bn.getD 0 []).getD v6.toNat R.undef).isInt .i64
 /\0<=v6/\v6<8/\aD (IntKind.i64.wrap (v6+1)) (ai.set 0 ((ai.getD 0 []).set v6.toNat (R.int .i64 (IntKind.i64.wrap (((ai.getD 0 []).getD v6.toNat R.undef).toInt+((bn.getD 0 []).getD v6.toNat R.undef).toInt))))) bn ba
 /\m (IntKind.i64.wrap (v6+1)) (ai.set 0 ((ai.getD 0 []).set v6.toNat (R.int .i64 (IntKind.i64.wrap (((ai.getD 0 []).getD v6.toNat R.undef).toInt+((bn.getD 0 []).getD v6.toNat R.undef).toInt))))) bn ba<m v6 ai bn ba)
 /\(decide (v6<8)=false->(ai.getD 0 []).length=8/\((ba.set 0 (ai.getD 0 [])).getD 0 []).length=8/\K (J.rw 8 ((ba.set 0 (ai.getD 0 [])).getD 0 [])))
def JT:I.Row->(J->Prop)->Prop:=
 fun r K=>(List.getD r 8 R.undef).isBool/\(List.getD r 9 R.undef).eM .u32/\(List.getD r 10 R.undef).eM .u32/\(aF (List.getD r 9 R.undef).b6/\aF (List.getD r 10 R.undef).b6)
 /\∀x,x=dh (ag (List.getD r 8 R.undef).toBool (List.getD r 9 R.undef).b6 (List.getD r 10 R.undef).b6)->K (J.d (R.bool (decide (x=0))))
def Jg:I.Rows->(J->Prop)->Prop:=
 fun l K=>∃(aD:Int->Prop),∃(m:Int->Nat),aD 0/\∀(aV:Int),aD aV->(decide (aV<↑(List.length l))=true->0<=aV/\aV<↑(List.length l)/\(List.getD l aV.toNat []).length=11/\fp 1000000 (List.getD l aV.toNat [])
 /\∀x,x=jm (List.getD l aV.toNat [])->(x=true->K (J.d (R.int .i64 aV)))/\(x=false->aD (IntKind.i64.wrap (aV+1))/\m (IntKind.i64.wrap (aV+1))<m aV))/\(decide (aV<↑(List.length l))=false
 ->K (J.d (R.int .i64 (-1))))
def Jd:I.Rows->(ad->Prop)->Prop:=
 fun l K=>((∀(r:List R),r∈l->fp 1000000 r)/\List.length l<100000000000)/\∀x,x=oh l 0->(decide (x=-1)=true->K (ad.rows 11 l))/\(decide (x=-1)=false->∃(aD:Int->Int->List (List R)
 ->Prop),∃(m:Int->Int->List (List R)->Nat),aD x (IntKind.i64.wrap (x+1)) l/\∀(v5 v6:Int) (ai:List (List R)),aD v5 v6 ai->(decide (v6<↑ai.length)=true->0<=v6/\v6<↑ai.length/\(ai.getD v6.toNat []).length=11
 /\(ai.getD v6.toNat []).length=11/\fp 1000000 (ai.getD v6.toNat [])/\∀x,x=jm (ai.getD v6.toNat [])->((!x)=true->(ai.getD v6.toNat []).length=11/\0<=v5/\v5<↑ai.length/\aD (IntKind.i64.wrap (v5+1)) (IntKind.i64.wrap (v6+1)) (ai.set v5.toNat (ai.getD v6.toNat []))
 /\m (IntKind.i64.wrap (v5+1)) (IntKind.i64.wrap (v6+1)) (ai.set v5.toNat (ai.getD v6.toNat []))<m v5 v6 ai)/\((!x)=false->aD v5 (IntKind.i64.wrap (v6+1)) ai/\m v5 (IntKind.i64.wrap (v6+1)) ai<m v5 v6 ai))
 /\(decide (v6<↑ai.length)=false->0<=v5/\v5<↑ai.length/\0<=v5/\v5<=↑(List.take v5.toNat ai++List.replicate (ai.length-v5.toNat) [R.int .i64 0,R.int .i64 0,R.int .i64 0,R.int .i64 0,R.int .i64 0,R.int .i64 0,R.int .i64 0,R.int .i64 0,R.bool false,R.ints .u32 [],R.ints .u32 []]).length
 /\K (ad.rows 11 (List.take v5.toNat (List.take v5.toNat ai++List.replicate (ai.length-v5.toNat) [R.int .i64 0,R.int .i64 0,R.int .i64 0,R.int .i64 0,R.int .i64 0,R.int .i64 0,R.int .i64 0,R.int .i64 0,R.bool false,R.ints .u32 [],R.ints .u32 []])))))
def Jo:I.Rows->(ad->Prop)->Prop:=
 fun l K=>∀b,(b=true->l=[])->(b=true->K (ad.rows (11:Nat) []))/\(b=false->((0:Int)+↑(List.length l))*(120:Int)<=(70368744177664:Int)/\K (ad.rows (11:Nat) ([]++l)))
def J4:I.Rows->(J->Prop)->Prop:=
 fun l K=>(0:Int)<=(0:Int)/\(0:Int)<=↑(List.length l)/\↑(List.length l)*(120:Int)<=(281474976710656:Int)/\∃(aD:Int->List (List R)->List (List R)->Prop),∃(m:Int->List (List R)
 ->List (List R)->Nat),aD (0:Int) [] (List.replicate (0:Nat) [R.int .i64 (0:Int),R.int .i64 (0:Int),R.int .i64 (0:Int),R.int .i64 (0:Int),R.int .i64 (0:Int),R.int .i64 (0:Int),R.int .i64 (0:Int),R.int .i64 (0:Int),R.bool false,R.ints .u32 [],R.ints .u32 []])
 /\∀(bI:Int) (ai bn:List (List R)),aD bI ai bn->(decide (bI<↑(List.length l))=true->(0:Int)<=bI/\bI<↑(List.length l)/\(List.getD l bI.toNat []).length=(11:Nat)/\(List.getD l bI.toNat []).length=(11:Nat)
 /\jI (List.take (8:Nat) (List.getD l bI.toNat []))/\((cZ (8:Nat) [R.int .i64 (0:Int)] ai (List.map R.toInt (List.take (8:Nat) (List.getD l bI.toNat [])))).getD (0:Nat) R.undef).isInt .i64
 /\(l1 (8:Nat) ai (List.map R.toInt (List.take (8:Nat) (List.getD l bI.toNat [])))=true->(0:Int)<=((cZ (8:Nat) [R.int .i64 (0:Int)] ai (List.map R.toInt (List.take (8:Nat) (List.getD l bI.toNat [])))).getD (0:Nat) R.undef).toInt
 /\((cZ (8:Nat) [R.int .i64 (0:Int)] ai (List.map R.toInt (List.take (8:Nat) (List.getD l bI.toNat [])))).getD (0:Nat) R.undef).toInt<↑bn.length/\((bn.getD ((cZ (8:Nat) [R.int .i64 (0:Int)] ai (List.map R.toInt (List.take (8:Nat) (List.getD l bI.toNat [])))).getD (0:Nat) R.undef).toInt.toNat []).getD (8:Nat) R.undef).isBool
 /\((bn.getD ((cZ (8:Nat) [R.int .i64 (0:Int)] ai (List.map R.toInt (List.take (8:Nat) (List.getD l bI.toNat [])))).getD (0:Nat) R.undef).toInt.toNat []).getD (9:Nat) R.undef).eM .u32
 /\((bn.getD ((cZ (8:Nat) [R.int .i64 (0:Int)] ai (List.map R.toInt (List.take (8:Nat) (List.getD l bI.toNat [])))).getD (0:Nat) R.undef).toInt.toNat []).getD (10:Nat) R.undef).eM .u32
 /\((List.getD l bI.toNat []).getD (8:Nat) R.undef).isBool/\((List.getD l bI.toNat []).getD (9:Nat) R.undef).eM .u32/\((List.getD l bI.toNat []).getD (10:Nat) R.undef).eM .u32/\(av (1000000:Nat) ((bn.getD ((cZ (8:Nat) [R.int .i64 (0:Int)] ai (List.map R.toInt (List.take (8:Nat) (List.getD l bI.toNat [])))).getD (0:Nat) R.undef).toInt.toNat []).getD (9:Nat) R.undef).b6
 /\av (1000000:Nat) ((bn.getD ((cZ (8:Nat) [R.int .i64 (0:Int)] ai (List.map R.toInt (List.take (8:Nat) (List.getD l bI.toNat [])))).getD (0:Nat) R.undef).toInt.toNat []).getD (10:Nat) R.undef).b6
 /\av (1000000:Nat) ((List.getD l bI.toNat []).getD (9:Nat) R.undef).b6/\av (1000000:Nat) ((List.getD l bI.toNat []).getD (10:Nat) R.undef).b6)/\∀x,x=bh (ag ((bn.getD ((cZ (8:Nat) [R.int .i64 (0:Int)] ai (List.map R.toInt (List.take (8:Nat) (List.getD l bI.toNat [])))).getD (0:Nat) R.undef).toInt.toNat []).getD (8:Nat) R.undef).toBool ((bn.getD ((cZ (8:Nat) [R.int .i64 (0:Int)] ai (List.map R.toInt (List.take (8:Nat) (List.getD l bI.toNat [])))).getD (0:Nat) R.undef).toInt.toNat []).getD (9:Nat) R.undef).b6 ((bn.getD ((cZ (8:Nat) [R.int .i64 (0:Int)] ai (List.map R.toInt (List.take (8:Nat) (List.getD l bI.toNat [])))).getD (0:Nat) R.undef).toInt.toNat []).getD (10:Nat) R.undef).b6+ag ((List.getD l bI.toNat []).getD (8:Nat) R.undef).toBool ((List.getD l bI.toNat []).getD (9:Nat) R.undef).b6 ((List.getD l bI.toNat []).getD (10:Nat) R.undef).b6)
 ->∀au,au=bm (ag ((bn.getD ((cZ (8:Nat) [R.int .i64 (0:Int)] ai (List.map R.toInt (List.take (8:Nat) (List.getD l bI.toNat [])))).getD (0:Nat) R.undef).toInt.toNat []).getD (8:Nat) R.undef).toBool ((bn.getD ((cZ (8:Nat) [R.int .i64 (0:Int)] ai (List.map R.toInt (List.take (8:Nat) (List.getD l bI.toNat [])))).getD (0:Nat) R.undef).toInt.toNat []).getD (9:Nat) R.undef).b6 ((bn.getD ((cZ (8:Nat) [R.int .i64 (0:Int)] ai (List.map R.toInt (List.take (8:Nat) (List.getD l bI.toNat [])))).getD (0:Nat) R.undef).toInt.toNat []).getD (10:Nat) R.undef).b6+ag ((List.getD l bI.toNat []).getD (8:Nat) R.undef).toBool ((List.getD l bI.toNat []).getD (9:Nat) R.undef).b6 ((List.getD l bI.toNat []).getD (10:Nat) R.undef).b6)
 ->∀ax,ax=bg (ag ((bn.getD ((cZ (8:Nat) [R.int .i64 (0:Int)] ai (List.map R.toInt (List.take (8:Nat) (List.getD l bI.toNat [])))).getD (0:Nat) R.undef).toInt.toNat []).getD (8:Nat) R.undef).toBool ((bn.getD ((cZ (8:Nat) [R.int .i64 (0:Int)] ai (List.map R.toInt (List.take (8:Nat) (List.getD l bI.toNat [])))).getD (0:Nat) R.undef).toInt.toNat []).getD (9:Nat) R.undef).b6 ((bn.getD ((cZ (8:Nat) [R.int .i64 (0:Int)] ai (List.map R.toInt (List.take (8:Nat) (List.getD l bI.toNat [])))).getD (0:Nat) R.undef).toInt.toNat []).getD (10:Nat) R.undef).b6+ag ((List.getD l bI.toNat []).getD (8:Nat) R.undef).toBool ((List.getD l bI.toNat []).getD (9:Nat) R.undef).b6 ((List.getD l bI.toNat []).getD (10:Nat) R.undef).b6)
 ->(0:Int)<=((cZ (8:Nat) [R.int .i64 (0:Int)] ai (List.map R.toInt (List.take (8:Nat) (List.getD l bI.toNat [])))).getD (0:Nat) R.undef).toInt/\((cZ (8:Nat) [R.int .i64 (0:Int)] ai (List.map R.toInt (List.take (8:Nat) (List.getD l bI.toNat [])))).getD (0:Nat) R.undef).toInt<↑bn.length
 /\aD (IntKind.i64.wrap (bI+(1:Int))) ai (bn.set ((cZ (8:Nat) [R.int .i64 (0:Int)] ai (List.map R.toInt (List.take (8:Nat) (List.getD l bI.toNat [])))).getD (0:Nat) R.undef).toInt.toNat (setRow (bn.getD ((cZ (8:Nat) [R.int .i64 (0:Int)] ai (List.map R.toInt (List.take (8:Nat) (List.getD l bI.toNat [])))).getD (0:Nat) R.undef).toInt.toNat []) (8:Nat) [R.bool x,R.ints .u32 au,R.ints .u32 ax]))
 /\m (IntKind.i64.wrap (bI+(1:Int))) ai (bn.set ((cZ (8:Nat) [R.int .i64 (0:Int)] ai (List.map R.toInt (List.take (8:Nat) (List.getD l bI.toNat [])))).getD (0:Nat) R.undef).toInt.toNat (setRow (bn.getD ((cZ (8:Nat) [R.int .i64 (0:Int)] ai (List.map R.toInt (List.take (8:Nat) (List.getD l bI.toNat [])))).getD (0:Nat) R.undef).toInt.toNat []) (8:Nat) [R.bool x,R.ints .u32 au,R.ints .u32 ax]))<m bI ai bn)
 /\(l1 (8:Nat) ai (List.map R.toInt (List.take (8:Nat) (List.getD l bI.toNat [])))=false->(List.getD l bI.toNat []).length=(11:Nat)/\jI (List.take (8:Nat) (List.getD l bI.toNat []))
 /\(List.getD l bI.toNat []).length=(11:Nat)/\((List.getD l bI.toNat []).getD (8:Nat) R.undef).isBool/\((List.getD l bI.toNat []).getD (9:Nat) R.undef).eM .u32/\((List.getD l bI.toNat []).getD (10:Nat) R.undef).eM .u32
 /\(aF ((List.getD l bI.toNat []).getD (9:Nat) R.undef).b6/\aF ((List.getD l bI.toNat []).getD (10:Nat) R.undef).b6)/\∀x,x=bh (ag ((List.getD l bI.toNat []).getD (8:Nat) R.undef).toBool ((List.getD l bI.toNat []).getD (9:Nat) R.undef).b6 ((List.getD l bI.toNat []).getD (10:Nat) R.undef).b6)
 ->∀au,au=bm (ag ((List.getD l bI.toNat []).getD (8:Nat) R.undef).toBool ((List.getD l bI.toNat []).getD (9:Nat) R.undef).b6 ((List.getD l bI.toNat []).getD (10:Nat) R.undef).b6)
 ->∀ax,ax=bg (ag ((List.getD l bI.toNat []).getD (8:Nat) R.undef).toBool ((List.getD l bI.toNat []).getD (9:Nat) R.undef).b6 ((List.getD l bI.toNat []).getD (10:Nat) R.undef).b6)
 ->(↑bn.length+↑[List.take (8:Nat) (List.getD l bI.toNat [])++[R.bool x,R.ints .u32 au,R.ints .u32 ax]].length)*(120:Int)<=(70368744177664:Int)/\aD (IntKind.i64.wrap (bI+(1:Int))) (lj (8:Nat) (List.take (8:Nat) (List.getD l bI.toNat [])) [R.int .i64 ↑bn.length] ai) (bn++[List.take (8:Nat) (List.getD l bI.toNat [])++[R.bool x,R.ints .u32 au,R.ints .u32 ax]])
 /\m (IntKind.i64.wrap (bI+(1:Int))) (lj (8:Nat) (List.take (8:Nat) (List.getD l bI.toNat [])) [R.int .i64 ↑bn.length] ai) (bn++[List.take (8:Nat) (List.getD l bI.toNat [])++[R.bool x,R.ints .u32 au,R.ints .u32 ax]])<m bI ai bn))
 /\(decide (bI<↑(List.length l))=false->((∀(r:List R),r∈bn->fp (1000000:Nat) r)/\bn.length<(100000000000:Nat))/\∀x,x=List.filter (fun(r:List R)=> !jm r) bn->(cQ x/\x.length<(1000000000000000:Nat))
 /\∀(i:List (List R)),kQ x (0:Int) (↑x.length) i->K (J.d (R.rows (11:Nat) i)))
def JF:I.Rows->(J->Prop)->Prop:=
 fun l K=>∃(aD:Int->List (List R)->List (List R)->Prop),∃(m:Int->List (List R)->List (List R)->Nat),aD 0 [] []/\∀(bI:Int) (ai bn:List (List R)),aD bI ai bn->(decide (bI<↑(List.length l))=true
 ->0<=bI/\bI<↑(List.length l)/\(List.getD l bI.toNat []).length=11/\∃(a8:List (List R)->List (List R)->List (List R)->Prop),((List.getD l bI.toNat []).length=11/\jI (List.take 8 (List.getD l bI.toNat []))
 /\((cZ 8 [R.bool false,R.ints .u32 [],R.ints .u32 []] ai (List.map R.toInt (List.take 8 (List.getD l bI.toNat [])))).getD 0 R.undef).isBool/\((cZ 8 [R.bool false,R.ints .u32 [],R.ints .u32 []] ai (List.map R.toInt (List.take 8 (List.getD l bI.toNat [])))).getD 1 R.undef).eM .u32
 /\((cZ 8 [R.bool false,R.ints .u32 [],R.ints .u32 []] ai (List.map R.toInt (List.take 8 (List.getD l bI.toNat [])))).getD 2 R.undef).eM .u32/\((!l1 8 ai (List.map R.toInt (List.take 8 (List.getD l bI.toNat []))))=true
 ->(List.getD l bI.toNat []).length=11/\((bn.length:Int)+↑[List.take 8 (List.getD l bI.toNat [])].length)*64<=70368744177664/\a8 ai (bn++[List.take 8 (List.getD l bI.toNat [])]) [List.getD l bI.toNat []])
 /\((!l1 8 ai (List.map R.toInt (List.take 8 (List.getD l bI.toNat []))))=false->a8 ai bn [List.getD l bI.toNat []]))/\∀(bq eS ba:List (List R)),a8 bq eS ba->(ba.getD 0 []).length=11
 /\(ba.getD 0 []).length=11/\jI (List.take 8 (ba.getD 0 []))/\((cZ 8 [R.bool false,R.ints .u32 [],R.ints .u32 []] bq (List.map R.toInt (List.take 8 (ba.getD 0 [])))).getD 0 R.undef).isBool
 /\((cZ 8 [R.bool false,R.ints .u32 [],R.ints .u32 []] bq (List.map R.toInt (List.take 8 (ba.getD 0 [])))).getD 1 R.undef).eM .u32/\((cZ 8 [R.bool false,R.ints .u32 [],R.ints .u32 []] bq (List.map R.toInt (List.take 8 (ba.getD 0 [])))).getD 2 R.undef).eM .u32
 /\((ba.getD 0 []).getD 8 R.undef).isBool/\((ba.getD 0 []).getD 9 R.undef).eM .u32/\((ba.getD 0 []).getD 10 R.undef).eM .u32/\(av 1000000 ((cZ 8 [R.bool false,R.ints .u32 [],R.ints .u32 []] bq (List.map R.toInt (List.take 8 (ba.getD 0 [])))).getD 1 R.undef).b6
 /\av 1000000 ((cZ 8 [R.bool false,R.ints .u32 [],R.ints .u32 []] bq (List.map R.toInt (List.take 8 (ba.getD 0 [])))).getD 2 R.undef).b6/\av 1000000 ((ba.getD 0 []).getD 9 R.undef).b6
 /\av 1000000 ((ba.getD 0 []).getD 10 R.undef).b6)/\∀x,x=bh (ag ((cZ 8 [R.bool false,R.ints .u32 [],R.ints .u32 []] bq (List.map R.toInt (List.take 8 (ba.getD 0 [])))).getD 0 R.undef).toBool ((cZ 8 [R.bool false,R.ints .u32 [],R.ints .u32 []] bq (List.map R.toInt (List.take 8 (ba.getD 0 [])))).getD 1 R.undef).b6 ((cZ 8 [R.bool false,R.ints .u32 [],R.ints .u32 []] bq (List.map R.toInt (List.take 8 (ba.getD 0 [])))).getD 2 R.undef).b6+ag ((ba.getD 0 []).getD 8 R.undef).toBool ((ba.getD 0 []).getD 9 R.undef).b6 ((ba.getD 0 []).getD 10 R.undef).b6)
 ->∀au,au=bm (ag ((cZ 8 [R.bool false,R.ints .u32 [],R.ints .u32 []] bq (List.map R.toInt (List.take 8 (ba.getD 0 [])))).getD 0 R.undef).toBool ((cZ 8 [R.bool false,R.ints .u32 [],R.ints .u32 []] bq (List.map R.toInt (List.take 8 (ba.getD 0 [])))).getD 1 R.undef).b6 ((cZ 8 [R.bool false,R.ints .u32 [],R.ints .u32 []] bq (List.map R.toInt (List.take 8 (ba.getD 0 [])))).getD 2 R.undef).b6+ag ((ba.getD 0 []).getD 8 R.undef).toBool ((ba.getD 0 []).getD 9 R.undef).b6 ((ba.getD 0 []).getD 10 R.undef).b6)
 ->∀ax,ax=bg (ag ((cZ 8 [R.bool false,R.ints .u32 [],R.ints .u32 []] bq (List.map R.toInt (List.take 8 (ba.getD 0 [])))).getD 0 R.undef).toBool ((cZ 8 [R.bool false,R.ints .u32 [],R.ints .u32 []] bq (List.map R.toInt (List.take 8 (ba.getD 0 [])))).getD 1 R.undef).b6 ((cZ 8 [R.bool false,R.ints .u32 [],R.ints .u32 []] bq (List.map R.toInt (List.take 8 (ba.getD 0 [])))).getD 2 R.undef).b6+ag ((ba.getD 0 []).getD 8 R.undef).toBool ((ba.getD 0 []).getD 9 R.undef).b6 ((ba.getD 0 []).getD 10 R.undef).b6)
 ->jI (List.take 8 (ba.getD 0 []))/\aD (IntKind.i64.wrap (bI+1)) (lj 8 (List.take 8 (ba.getD 0 [])) [R.bool x,R.ints .u32 au,R.ints .u32 ax] bq) eS/\m (IntKind.i64.wrap (bI+1)) (lj 8 (List.take 8 (ba.getD 0 [])) [R.bool x,R.ints .u32 au,R.ints .u32 ax] bq) eS<m bI ai bn)
 /\(decide (bI<↑(List.length l))=false->∃(aD:Int->List (List R)->List (List R)->List (List R)->Prop),∃(m:Int->List (List R)->List (List R)->List (List R)->Nat),aD 0 ai bn []/\∀(v46:Int) (ai eS ba:List (List R)),aD v46 ai eS ba
 ->(decide (v46<↑bn.length)=true->0<=v46/\v46<↑eS.length/\(eS.getD v46.toNat []).length=8/\(eS.getD v46.toNat []).length=8/\jI (eS.getD v46.toNat [])/\((cZ 8 [R.bool false,R.ints .u32 [],R.ints .u32 []] ai (List.map R.toInt (eS.getD v46.toNat []))).getD 0 R.undef).isBool
 /\((cZ 8 [R.bool false,R.ints .u32 [],R.ints .u32 []] ai (List.map R.toInt (eS.getD v46.toNat []))).getD 1 R.undef).eM .u32/\((cZ 8 [R.bool false,R.ints .u32 [],R.ints .u32 []] ai (List.map R.toInt (eS.getD v46.toNat []))).getD 2 R.undef).eM .u32
 /\(aF ((cZ 8 [R.bool false,R.ints .u32 [],R.ints .u32 []] ai (List.map R.toInt (eS.getD v46.toNat []))).getD 1 R.undef).b6/\aF ((cZ 8 [R.bool false,R.ints .u32 [],R.ints .u32 []] ai (List.map R.toInt (eS.getD v46.toNat []))).getD 2 R.undef).b6)
 /\∀x,x=dh (ag ((cZ 8 [R.bool false,R.ints .u32 [],R.ints .u32 []] ai (List.map R.toInt (eS.getD v46.toNat []))).getD 0 R.undef).toBool ((cZ 8 [R.bool false,R.ints .u32 [],R.ints .u32 []] ai (List.map R.toInt (eS.getD v46.toNat []))).getD 1 R.undef).b6 ((cZ 8 [R.bool false,R.ints .u32 [],R.ints .u32 []] ai (List.map R.toInt (eS.getD v46.toNat []))).getD 2 R.undef).b6)
 ->((!decide (x=0))=true->(eS.getD v46.toNat []).length=8/\(eS.getD v46.toNat []).length=8/\jI (eS.getD v46.toNat [])/\((cZ 8 [R.bool false,R.ints .u32 [],R.ints .u32 []] ai (List.map R.toInt (eS.getD v46.toNat []))).getD 0 R.undef).isBool
 /\((cZ 8 [R.bool false,R.ints .u32 [],R.ints .u32 []] ai (List.map R.toInt (eS.getD v46.toNat []))).getD 1 R.undef).eM .u32/\((cZ 8 [R.bool false,R.ints .u32 [],R.ints .u32 []] ai (List.map R.toInt (eS.getD v46.toNat []))).getD 2 R.undef).eM .u32
 /\((ba.length:Int)+↑[eS.getD v46.toNat []++[R.bool ((cZ 8 [R.bool false,R.ints .u32 [],R.ints .u32 []] ai (List.map R.toInt (eS.getD v46.toNat []))).getD 0 R.undef).toBool,R.ints .u32 ((cZ 8 [R.bool false,R.ints .u32 [],R.ints .u32 []] ai (List.map R.toInt (eS.getD v46.toNat []))).getD 1 R.undef).b6,R.ints .u32 ((cZ 8 [R.bool false,R.ints .u32 [],R.ints .u32 []] ai (List.map R.toInt (eS.getD v46.toNat []))).getD 2 R.undef).b6]].length)*120<=70368744177664
 /\aD (IntKind.i64.wrap (v46+1)) ai eS (ba++[eS.getD v46.toNat []++[R.bool ((cZ 8 [R.bool false,R.ints .u32 [],R.ints .u32 []] ai (List.map R.toInt (eS.getD v46.toNat []))).getD 0 R.undef).toBool,R.ints .u32 ((cZ 8 [R.bool false,R.ints .u32 [],R.ints .u32 []] ai (List.map R.toInt (eS.getD v46.toNat []))).getD 1 R.undef).b6,R.ints .u32 ((cZ 8 [R.bool false,R.ints .u32 [],R.ints .u32 []] ai (List.map R.toInt (eS.getD v46.toNat []))).getD 2 R.undef).b6]])
 /\m (IntKind.i64.wrap (v46+1)) ai eS (ba++[eS.getD v46.toNat []++[R.bool ((cZ 8 [R.bool false,R.ints .u32 [],R.ints .u32 []] ai (List.map R.toInt (eS.getD v46.toNat []))).getD 0 R.undef).toBool,R.ints .u32 ((cZ 8 [R.bool false,R.ints .u32 [],R.ints .u32 []] ai (List.map R.toInt (eS.getD v46.toNat []))).getD 1 R.undef).b6,R.ints .u32 ((cZ 8 [R.bool false,R.ints .u32 [],R.ints .u32 []] ai (List.map R.toInt (eS.getD v46.toNat []))).getD 2 R.undef).b6]])<m v46 ai eS ba)
 /\((!decide (x=0))=false->aD (IntKind.i64.wrap (v46+1)) ai eS ba/\m (IntKind.i64.wrap (v46+1)) ai eS ba<m v46 ai eS ba))/\(decide (v46<↑bn.length)=false->(cQ ba/\ba.length<1000000000000000)
 /\∀(i:List (List R)),kQ ba 0 (↑ba.length) i->K (J.d (R.rows 11 i))))
end I
end
section
open Go Go.bG
namespace I
def KN:Int->(J->Prop)->Prop:=
 fun x K=>∃(a8:Int->Int->Prop),((decide (4294967296<=x)=true->a8 (x.fdiv 4294967296) 32)/\(decide (4294967296<=x)=false->a8 x 0))/\∀(v0 v2:Int),a8 v0 v2->∃(a8:Int->Int->Prop),((decide (65536<=v0)=true
 ->a8 (v0.fdiv 65536) (IntKind.i64.wrap (v2+16)))/\(decide (65536<=v0)=false->a8 v0 v2))/\∀(v0 v2:Int),a8 v0 v2->(decide (256<=v0)=true->0<=IntKind.u8.wrap (v0.fdiv 256)/\IntKind.u8.wrap (v0.fdiv 256)<256
 /\K (J.d (R.int .i64 (IntKind.i64.wrap (IntKind.i64.wrap (v2+8)+IntKind.i64.wrap ((have y:=have y:=have y:=have y:=have y:=have y:=[8,8,8,8];8::8::8::8::y;have y:=8::8::8::8::y;8::8::8::8::y;have y:=have y:=8::8::8::8::y;8::8::8::8::y;have y:=8::8::8::8::y;8::8::8::8::y;have y:=have y:=have y:=8::8::8::8::y;8::8::8::8::y;have y:=8::8::8::8::y;8::8::8::8::y;have y:=have y:=8::8::8::8::y;8::8::8::8::y;have y:=8::8::8::8::y;8::8::8::8::y;have y:=have y:=have y:=have y:=8::8::8::8::y;8::8::8::8::y;have y:=8::8::8::8::y;8::8::8::8::y;have y:=have y:=8::8::8::8::y;8::8::8::8::y;have y:=8::8::8::8::y;8::8::8::8::y;have y:=have y:=have y:=8::8::8::8::y;8::8::8::8::y;have y:=8::8::8::8::y;8::8::8::8::y;have y:=have y:=8::8::8::8::y;8::8::8::8::y;have y:=8::8::8::8::y;8::8::8::8::y;have y:=have y:=have y:=have y:=have y:=7::7::7::7::y;7::7::7::7::y;have y:=7::7::7::7::y;7::7::7::7::y;have y:=have y:=7::7::7::7::y;7::7::7::7::y;have y:=7::7::7::7::y;7::7::7::7::y;have y:=have y:=have y:=7::7::7::7::y;7::7::7::7::y;have y:=7::7::7::7::y;7::7::7::7::y;have y:=have y:=7::7::7::7::y;7::7::7::7::y;have y:=7::7::7::7::y;7::7::7::7::y;have y:=have y:=have y:=have y:=6::6::6::6::y;6::6::6::6::y;have y:=6::6::6::6::y;6::6::6::6::y;have y:=have y:=6::6::6::6::y;6::6::6::6::y;have y:=6::6::6::6::y;6::6::6::6::y;have y:=have y:=have y:=5::5::5::5::y;5::5::5::5::y;have y:=5::5::5::5::y;5::5::5::5::y;have y:=have y:=4::4::4::4::y;4::4::4::4::y;have y:=3::3::3::3::y;0::1::2::2::y).getD (IntKind.u8.wrap (v0.fdiv 256)).toNat 0))))))
 /\(decide (256<=v0)=false->0<=IntKind.u8.wrap v0/\IntKind.u8.wrap v0<256/\K (J.d (R.int .i64 (IntKind.i64.wrap (v2+IntKind.i64.wrap ((have y:=have y:=have y:=have y:=have y:=have y:=[8,8,8,8];8::8::8::8::y;have y:=8::8::8::8::y;8::8::8::8::y;have y:=have y:=8::8::8::8::y;8::8::8::8::y;have y:=8::8::8::8::y;8::8::8::8::y;have y:=have y:=have y:=8::8::8::8::y;8::8::8::8::y;have y:=8::8::8::8::y;8::8::8::8::y;have y:=have y:=8::8::8::8::y;8::8::8::8::y;have y:=8::8::8::8::y;8::8::8::8::y;have y:=have y:=have y:=have y:=8::8::8::8::y;8::8::8::8::y;have y:=8::8::8::8::y;8::8::8::8::y;have y:=have y:=8::8::8::8::y;8::8::8::8::y;have y:=8::8::8::8::y;8::8::8::8::y;have y:=have y:=have y:=8::8::8::8::y;8::8::8::8::y;have y:=8::8::8::8::y;8::8::8::8::y;have y:=have y:=8::8::8::8::y;8::8::8::8::y;have y:=8::8::8::8::y;8::8::8::8::y;have y:=have y:=have y:=have y:=have y:=7::7::7::7::y;7::7::7::7::y;have y:=7::7::7::7::y;7::7::7::7::y;have y:=have y:=7::7::7::7::y;7::7::7::7::y;have y:=7::7::7::7::y;7::7::7::7::y;have y:=have y:=have y:=7::7::7::7::y;7::7::7::7::y;have y:=7::7::7::7::y;7::7::7::7::y;have y:=have y:=7::7::7::7::y;7::7::7::7::y;have y:=7::7::7::7::y;7::7::7::7::y;have y:=have y:=have y:=have y:=6::6::6::6::y;6::6::6::6::y;have y:=6::6::6::6::y;6::6::6::6::y;have y:=have y:=6::6::6::6::y;6::6::6::6::y;have y:=6::6::6::6::y;6::6::6::6::y;have y:=have y:=have y:=5::5::5::5::y;5::5::5::5::y;have y:=5::5::5::5::y;5::5::5::5::y;have y:=have y:=4::4::4::4::y;4::4::4::4::y;have y:=3::3::3::3::y;0::1::2::2::y).getD (IntKind.u8.wrap v0).toNat 0))))))
def TV:Int->(J->Prop)->Prop:=
 fun x K=>(0<=x/\x<18446744073709551616)/\∀au,au=↑(cL x.toNat)->K (J.d (R.int .i64 au))
def JV:Int->(J->Prop)->Prop:=
 fun x K=>((0:Int)<=IntKind.u64.wrap x/\IntKind.u64.wrap x<(18446744073709551616:Int))/\∀au,au=↑(cL (IntKind.u64.wrap x).toNat)->(0:Int)<=au/\K (J.d (R.int .u64 (IntKind.u64.wrap ((1:Int)*(2:Int)^min au.toNat (64:Nat)))))
def SP:Int->(ad->J->Prop)->Prop:=
 fun x K=>K (ad.cells [J.d (R.int .u64 (bk BinOp.xor .u64 (bk BinOp.xor .u64 (bk BinOp.xor .u64 x (IntKind.u64.wrap (x*8192))) ((bk BinOp.xor .u64 x (IntKind.u64.wrap (x*8192))).fdiv 128)) (IntKind.u64.wrap (bk BinOp.xor .u64 (bk BinOp.xor .u64 x (IntKind.u64.wrap (x*8192))) ((bk BinOp.xor .u64 x (IntKind.u64.wrap (x*8192))).fdiv 128)*131072))))]) (J.d (R.int .u64 (bk BinOp.xor .u64 (bk BinOp.xor .u64 (bk BinOp.xor .u64 x (IntKind.u64.wrap (x*8192))) ((bk BinOp.xor .u64 x (IntKind.u64.wrap (x*8192))).fdiv 128)) (IntKind.u64.wrap (bk BinOp.xor .u64 (bk BinOp.xor .u64 x (IntKind.u64.wrap (x*8192))) ((bk BinOp.xor .u64 x (IntKind.u64.wrap (x*8192))).fdiv 128)*131072)))))
def Jm:I.Rows->Int->Int->Int->(ad->J->Prop)->Prop:=
 fun l a b s K=>0<=b/\b<↑(List.length l)/\(List.getD l b.toNat []).length=11/\0<=a/\a<↑(List.length l)/\(List.getD l a.toNat []).length=11/\(dZ (List.getD l b.toNat [])/\dZ (List.getD l a.toNat []))
 /\∀x,x=fX (List.getD l b.toNat []) (List.getD l a.toNat [])->(decide (x<0)=true->K (ad.cells [J.d (R.int .i64 (IntKind.i64.wrap (s+1)))]) (J.tup [J.d (R.int .i64 b),J.d (R.int .i64 a)]))
 /\(decide (x<0)=false->K (ad.cells [J.d (R.int .i64 s)]) (J.tup [J.d (R.int .i64 a),J.d (R.int .i64 b)]))
def Jn:I.Rows->Int->Int->Int->Int->(ad->J->Prop)->Prop:=
 fun(l:I.Rows) (a b e s:Int) (K:ad->J->Prop)=>(I.cQ l/\(0:Int)<=a/\a<(Nat.cast:Nat->Int) (List.length l)/\(0:Int)<=b/\b<(Nat.cast:Nat->Int) (List.length l)/\(0:Int)<=s
 /\s<(1000:Int))/\∀(x:Int),x=(Nat.cast:Nat->Int) («Sort».order2 I.aX {toList:=l} (Int.toNat a) (Int.toNat b) (Int.toNat s)).2.2->∀(au:Int),au=(Nat.cast:Nat->Int) («Sort».order2 I.aX {toList:=l} (Int.toNat a) (Int.toNat b) (Int.toNat s)).1
 ->∀(ax:Int),ax=(Nat.cast:Nat->Int) («Sort».order2 I.aX {toList:=l} (Int.toNat a) (Int.toNat b) (Int.toNat s)).2.1->(I.cQ l/\(0:Int)<=ax/\ax<(Nat.cast:Nat->Int) (List.length l)
 /\(0:Int)<=e/\e<(Nat.cast:Nat->Int) (List.length l)/\(0:Int)<=x/\x<(1000:Int))/\∀(aJ:Int),aJ=(Nat.cast:Nat->Int) («Sort».order2 I.aX {toList:=l} (Int.toNat ax) (Int.toNat e) (Int.toNat x)).2.2
 ->∀(bb:Int),bb=(Nat.cast:Nat->Int) («Sort».order2 I.aX {toList:=l} (Int.toNat ax) (Int.toNat e) (Int.toNat x)).1->∀(bJ:Int),bJ=(Nat.cast:Nat->Int) («Sort».order2 I.aX {toList:=l} (Int.toNat ax) (Int.toNat e) (Int.toNat x)).2.1
 ->(I.cQ l/\(0:Int)<=au/\au<(Nat.cast:Nat->Int) (List.length l)/\(0:Int)<=bb/\bb<(Nat.cast:Nat->Int) (List.length l)/\(0:Int)<=aJ/\aJ<(1000:Int))/\∀(x:Int),x=(Nat.cast:Nat
 ->Int) («Sort».order2 I.aX {toList:=l} (Int.toNat au) (Int.toNat bb) (Int.toNat aJ)).2.2->∀(aY:Int),aY=(Nat.cast:Nat->Int) («Sort».order2 I.aX {toList:=l} (Int.toNat au) (Int.toNat bb) (Int.toNat aJ)).1
 ->∀(aW:Int),aW=(Nat.cast:Nat->Int) («Sort».order2 I.aX {toList:=l} (Int.toNat au) (Int.toNat bb) (Int.toNat aJ)).2.1->K (ad.cells [J.d (R.int IntKind.i64 x)]) (J.d (R.int IntKind.i64 aW))
def I9:I.Rows->Int->Int->(ad->J->Prop)->Prop:=
 fun l a s K=>(cQ l/\(0<=IntKind.i64.wrap (a-1)/\IntKind.i64.wrap (a-1)<↑(List.length l))/\(0<=a/\a<↑(List.length l))/\(0<=IntKind.i64.wrap (a+1)/\IntKind.i64.wrap (a+1)<↑(List.length l))
 /\0<=s/\s<900)/\∀x,x=↑(«Sort».median aX {toList:=l} (IntKind.i64.wrap (a-1)).toNat a.toNat (IntKind.i64.wrap (a+1)).toNat s.toNat).snd->∀au,au=↑(«Sort».median aX {toList:=l} (IntKind.i64.wrap (a-1)).toNat a.toNat (IntKind.i64.wrap (a+1)).toNat s.toNat).fst
 ->K (ad.cells [J.d (R.int .i64 x)]) (J.d (R.int .i64 au))
def Jc:I.Rows->Int->Int->(J->Prop)->Prop:=
 fun l a b K=>∃(a8:Int->Int->Prop),((decide ((8:Int)<=IntKind.i64.wrap (b-a))=true->∃(oA:Int->Int->Int->Int->Prop),((decide ((50:Int)<=IntKind.i64.wrap (b-a))=true->(cQ l
 /\(0:Int)<IntKind.i64.wrap (a+IntKind.i64.wrap (IntKind.i64.wrap ((IntKind.i64.wrap (b-a)).tdiv (4:Int))*(1:Int)))/\IntKind.i64.wrap (a+IntKind.i64.wrap (IntKind.i64.wrap ((IntKind.i64.wrap (b-a)).tdiv (4:Int))*(1:Int)))+(1:Int)<↑(List.length l)
 /\List.length l<(1000000000000000:Nat)/\(0:Int)<=(0:Int)/\(0:Int)<(900:Int))/\∀x,x=↑(«Sort».medianAdjacent aX {toList:=l} (IntKind.i64.wrap (a+IntKind.i64.wrap (IntKind.i64.wrap ((IntKind.i64.wrap (b-a)).tdiv (4:Int))*(1:Int)))).toNat (0:Nat)).snd
 ->∀au,au=↑(«Sort».medianAdjacent aX {toList:=l} (IntKind.i64.wrap (a+IntKind.i64.wrap (IntKind.i64.wrap ((IntKind.i64.wrap (b-a)).tdiv (4:Int))*(1:Int)))).toNat (0:Nat)).fst->(cQ l
 /\(0:Int)<IntKind.i64.wrap (a+IntKind.i64.wrap (IntKind.i64.wrap ((IntKind.i64.wrap (b-a)).tdiv (4:Int))*(2:Int)))/\IntKind.i64.wrap (a+IntKind.i64.wrap (IntKind.i64.wrap ((IntKind.i64.wrap (b-a)).tdiv (4:Int))*(2:Int)))+(1:Int)<↑(List.length l)
 /\List.length l<(1000000000000000:Nat)/\(0:Int)<=x/\x<(900:Int))/\∀ax,ax=↑(«Sort».medianAdjacent aX {toList:=l} (IntKind.i64.wrap (a+IntKind.i64.wrap (IntKind.i64.wrap ((IntKind.i64.wrap (b-a)).tdiv (4:Int))*(2:Int)))).toNat x.toNat).snd
 ->∀aJ,aJ=↑(«Sort».medianAdjacent aX {toList:=l} (IntKind.i64.wrap (a+IntKind.i64.wrap (IntKind.i64.wrap ((IntKind.i64.wrap (b-a)).tdiv (4:Int))*(2:Int)))).toNat x.toNat).fst->(cQ l
 /\(0:Int)<IntKind.i64.wrap (a+IntKind.i64.wrap (IntKind.i64.wrap ((IntKind.i64.wrap (b-a)).tdiv (4:Int))*(3:Int)))/\IntKind.i64.wrap (a+IntKind.i64.wrap (IntKind.i64.wrap ((IntKind.i64.wrap (b-a)).tdiv (4:Int))*(3:Int)))+(1:Int)<↑(List.length l)
 /\List.length l<(1000000000000000:Nat)/\(0:Int)<=ax/\ax<(900:Int))/\∀x,x=↑(«Sort».medianAdjacent aX {toList:=l} (IntKind.i64.wrap (a+IntKind.i64.wrap (IntKind.i64.wrap ((IntKind.i64.wrap (b-a)).tdiv (4:Int))*(3:Int)))).toNat ax.toNat).snd
 ->∀bb,bb=↑(«Sort».medianAdjacent aX {toList:=l} (IntKind.i64.wrap (a+IntKind.i64.wrap (IntKind.i64.wrap ((IntKind.i64.wrap (b-a)).tdiv (4:Int))*(3:Int)))).toNat ax.toNat).fst->oA au aJ bb x)
 /\(decide ((50:Int)<=IntKind.i64.wrap (b-a))=false->oA (IntKind.i64.wrap (a+IntKind.i64.wrap (IntKind.i64.wrap ((IntKind.i64.wrap (b-a)).tdiv (4:Int))*(1:Int)))) (IntKind.i64.wrap (a+IntKind.i64.wrap (IntKind.i64.wrap ((IntKind.i64.wrap (b-a)).tdiv (4:Int))*(2:Int)))) (IntKind.i64.wrap (a+IntKind.i64.wrap (IntKind.i64.wrap ((IntKind.i64.wrap (b-a)).tdiv (4:Int))*(3:Int)))) (0:Int)))
 /\∀(v12 bR cR s:Int),oA v12 bR cR s->(cQ l/\((0:Int)<=v12/\v12<↑(List.length l))/\((0:Int)<=bR/\bR<↑(List.length l))/\((0:Int)<=cR/\cR<↑(List.length l))/\(0:Int)<=s
 /\s<(900:Int))/\∀x,x=↑(«Sort».median aX {toList:=l} v12.toNat bR.toNat cR.toNat s.toNat).snd->∀au,au=↑(«Sort».median aX {toList:=l} v12.toNat bR.toNat cR.toNat s.toNat).fst
 ->a8 au x)/\(decide ((8:Int)<=IntKind.i64.wrap (b-a))=false->a8 (IntKind.i64.wrap (a+IntKind.i64.wrap (IntKind.i64.wrap ((IntKind.i64.wrap (b-a)).tdiv (4:Int))*(2:Int)))) (0:Int)))
 /\∀(bR s:Int),a8 bR s->(decide (s=(0:Int))=true->K (J.tup [J.d (R.int .i64 bR),J.d (R.int .i64 (1:Int))]))/\(decide (s=(0:Int))=false->(decide (s=(12:Int))=true->K (J.tup [J.d (R.int .i64 bR),J.d (R.int .i64 (2:Int))]))
 /\(decide (s=(12:Int))=false->K (J.tup [J.d (R.int .i64 bR),J.d (R.int .i64 (0:Int))])))
def I_:I.Rows->Int->Int->(ad->J->Prop)->Prop:=
 fun l a b K=>(decide ((8:Int)<=IntKind.i64.wrap (b-a))=true->((0:Int)<=IntKind.i64.wrap (b-a)/\IntKind.i64.wrap (b-a)<(4611686018427387904:Int))/\∀x,x=↑((2:Nat)^cL (IntKind.i64.wrap (b-a)).toNat)
 ->∃(aD:Int->List (List R)->Int->Prop),∃(m:Int->List (List R)->Int->Nat),aD (IntKind.i64.wrap (IntKind.i64.wrap (a+IntKind.i64.wrap (IntKind.i64.wrap ((IntKind.i64.wrap (b-a)).tdiv (4:Int))*(2:Int)))-(1:Int))) l (IntKind.u64.wrap (IntKind.i64.wrap (b-a)))
 /\∀(v11:Int) (ai:List (List R)) (r:Int),aD v11 ai r->(decide (v11<=IntKind.i64.wrap (IntKind.i64.wrap (a+IntKind.i64.wrap (IntKind.i64.wrap ((IntKind.i64.wrap (b-a)).tdiv (4:Int))*(2:Int)))+(1:Int)))=true
 ->((0:Int)<=r/\r<(18446744073709551616:Int))/\∀(i:Int),(0:Int)<=i/\i<(18446744073709551616:Int)->∃(a8:Int->List (List R)->Prop),((decide (IntKind.i64.wrap (b-a)<=IntKind.i64.wrap (bk BinOp.and .u64 i (IntKind.u64.wrap (x-(1:Int)))))=true
 ->(false,ad.cells [J.d (R.int .u64 i)])=(false,ad.cells [J.d (R.int .u64 i)])/\a8 (IntKind.i64.wrap (IntKind.i64.wrap (bk BinOp.and .u64 i (IntKind.u64.wrap (x-(1:Int))))-IntKind.i64.wrap (b-a))) ai)
 /\(decide (IntKind.i64.wrap (b-a)<=IntKind.i64.wrap (bk BinOp.and .u64 i (IntKind.u64.wrap (x-(1:Int)))))=false->(false,ad.cells [J.d (R.int .u64 i)])=(false,ad.cells [J.d (R.int .u64 i)])
 /\a8 (IntKind.i64.wrap (bk BinOp.and .u64 i (IntKind.u64.wrap (x-(1:Int))))) ai))/\∀(v12:Int) (bq:List (List R)),a8 v12 bq->(0:Int)<=IntKind.i64.wrap (a+v12)/\IntKind.i64.wrap (a+v12)<↑bq.length
 /\(bq.getD (IntKind.i64.wrap (a+v12)).toNat []).length=(11:Nat)/\(0:Int)<=v11/\v11<↑bq.length/\(bq.getD v11.toNat []).length=(11:Nat)/\(0:Int)<=v11/\v11<↑bq.length/\(0:Int)<=IntKind.i64.wrap (a+v12)
 /\IntKind.i64.wrap (a+v12)<↑(bq.set v11.toNat (bq.getD (IntKind.i64.wrap (a+v12)).toNat [])).length/\aD (IntKind.i64.wrap (v11+(1:Int))) ((bq.set v11.toNat (bq.getD (IntKind.i64.wrap (a+v12)).toNat [])).set (IntKind.i64.wrap (a+v12)).toNat (bq.getD v11.toNat [])) i
 /\m (IntKind.i64.wrap (v11+(1:Int))) ((bq.set v11.toNat (bq.getD (IntKind.i64.wrap (a+v12)).toNat [])).set (IntKind.i64.wrap (a+v12)).toNat (bq.getD v11.toNat [])) i<m v11 ai r)/\(decide (v11<=IntKind.i64.wrap (IntKind.i64.wrap (a+IntKind.i64.wrap (IntKind.i64.wrap ((IntKind.i64.wrap (b-a)).tdiv (4:Int))*(2:Int)))+(1:Int)))=false
 ->K (ad.rows (11:Nat) ai) (J.tup [])))/\(decide ((8:Int)<=IntKind.i64.wrap (b-a))=false->K (ad.rows (11:Nat) l) (J.tup []))
def Jl:Nat->I.Rows->Int->Int->Int->(ad->J->Prop)->Prop:=
 fun n l a b m K=>∃(aD:Int->Int->Int->Bool->Bool->List (List R)->Prop),∃(e_:Int->Int->Int->Bool->Bool->List (List R)->Nat),aD a b m true true l/\∀(v1 v2 v3:Int) (v10 v11:Bool) (ai:List (List R)),aD v1 v2 v3 v10 v11 ai
 ->(decide (IntKind.i64.wrap (v2-v1)<=(12:Int))=true->fe ai v1 v2/\∀x,x=(«Sort».insertionSort aX {toList:=ai} v1.toNat v2.toNat).toList->K (ad.rows (11:Nat) x) (J.tup []))/\(decide (IntKind.i64.wrap (v2-v1)<=(12:Int))=false
 ->(decide (v3=(0:Int))=true->(0:Nat)<ai.length/\(fe ai v1 v2/\v1<v2)/\∀x,x=(«Sort».heapSort aX {toList:=ai} v1.toNat v2.toNat).toList->K (ad.rows (11:Nat) x) (J.tup []))
 /\(decide (v3=(0:Int))=false->∃(a8:Int->List (List R)->Prop),(((!v10)=true->(0:Nat)<ai.length/\fe ai v1 v2/\∀(i:List (List R)),CL ai v1 v2 i->a8 (IntKind.i64.wrap (v3-(1:Int))) i)
 /\((!v10)=false->a8 v3 ai))/\∀(ju:Int) (bq:List (List R)),a8 ju bq->(fe bq v1 v2/\v1<v2)/\∀x,x=↑(«Sort».choosePivot aX {toList:=bq} v1.toNat v2.toNat).fst->∀au,au= «Sort».hintCode («Sort».choosePivot aX {toList:=bq} v1.toNat v2.toNat).snd
 ->∃(a8:Int->Int->List (List R)->Prop),((decide (au=(2:Int))=true->(0:Nat)<bq.length/\fe bq v1 v2/\∀ax,ax=(«Sort».reverseRange {toList:=bq} v1.toNat v2.toNat).toList
 ->a8 (IntKind.i64.wrap (IntKind.i64.wrap (v2-(1:Int))-IntKind.i64.wrap (x-v1))) (1:Int) ax)/\(decide (au=(2:Int))=false->a8 x au bq))/\∀(bR cR:Int) (cT:List (List R)),a8 bR cR cT
 ->∃(a8:List (List R)->Prop),((v10=true->(v11=true->(decide (cR=(1:Int))=true->(0:Nat)<cT.length/\(fe cT v1 v2/\v1<v2)/\∀x,x=(«Sort».partialInsertionSort aX {toList:=cT} v1.toNat v2.toNat).fst.toList
 ->∀ax,ax=(«Sort».partialInsertionSort aX {toList:=cT} v1.toNat v2.toNat).snd->(ax=true->K (ad.rows (11:Nat) x) (J.tup []))/\(ax=false->a8 x))/\(decide (cR=(1:Int))=false
 ->a8 cT))/\(v11=false->a8 cT))/\(v10=false->a8 cT))/\∀(dU:List (List R)),a8 dU->(decide ((0:Int)<v1)=true->(0:Int)<=IntKind.i64.wrap (v1-(1:Int))/\IntKind.i64.wrap (v1-(1:Int))<↑dU.length
 /\(dU.getD (IntKind.i64.wrap (v1-(1:Int))).toNat []).length=(11:Nat)/\(0:Int)<=bR/\bR<↑dU.length/\(dU.getD bR.toNat []).length=(11:Nat)/\(dZ (dU.getD (IntKind.i64.wrap (v1-(1:Int))).toNat [])
 /\dZ (dU.getD bR.toNat []))/\∀x,x=fX (dU.getD (IntKind.i64.wrap (v1-(1:Int))).toNat []) (dU.getD bR.toNat [])->((!decide (x<(0:Int)))=true->(0:Nat)<dU.length/\(fe dU v1 v2
 /\v1<=bR/\bR<v2)/\∀x,x=(«Sort».partitionEqual aX {toList:=dU} v1.toNat v2.toNat bR.toNat).snd.toList->∀ax,ax=↑(«Sort».partitionEqual aX {toList:=dU} v1.toNat v2.toNat bR.toNat).fst
 ->aD ax v2 ju v10 v11 x/\e_ ax v2 ju v10 v11 x<e_ v1 v2 v3 v10 v11 ai)/\((!decide (x<(0:Int)))=false->(0:Nat)<dU.length/\(fe dU v1 v2/\v1<=bR/\bR<v2)/\∀x,x=(«Sort».partition aX {toList:=dU} v1.toNat v2.toNat bR.toNat).snd.snd.toList
 ->∀ax,ax=↑(«Sort».partition aX {toList:=dU} v1.toNat v2.toNat bR.toNat).fst->∀aJ,aJ=(«Sort».partition aX {toList:=dU} v1.toNat v2.toNat bR.toNat).snd.fst->(decide (IntKind.i64.wrap (ax-v1)<IntKind.i64.wrap (v2-ax))=true
 ->(fe x v1 ax/\ax-v1<↑n/\((0:Int)<=ju/\ju<=(64:Int))/\ «Sort».Below aX v1.toNat ax.toNat {toList:=x})/\∀(i:List (List R)),kQ x v1 ax i->aD (IntKind.i64.wrap (ax+(1:Int))) v2 ju (decide (IntKind.i64.wrap ((IntKind.i64.wrap (v2-v1)).tdiv (8:Int))<=IntKind.i64.wrap (ax-v1))) aJ i
 /\e_ (IntKind.i64.wrap (ax+(1:Int))) v2 ju (decide (IntKind.i64.wrap ((IntKind.i64.wrap (v2-v1)).tdiv (8:Int))<=IntKind.i64.wrap (ax-v1))) aJ i<e_ v1 v2 v3 v10 v11 ai)/\(decide (IntKind.i64.wrap (ax-v1)<IntKind.i64.wrap (v2-ax))=false
 ->(fe x (IntKind.i64.wrap (ax+(1:Int))) v2/\v2-IntKind.i64.wrap (ax+(1:Int))<↑n/\((0:Int)<=ju/\ju<=(64:Int))/\ «Sort».Below aX (IntKind.i64.wrap (ax+(1:Int))).toNat v2.toNat {toList:=x})
 /\∀(i:List (List R)),kQ x (IntKind.i64.wrap (ax+(1:Int))) v2 i->aD v1 ax ju (decide (IntKind.i64.wrap ((IntKind.i64.wrap (v2-v1)).tdiv (8:Int))<=IntKind.i64.wrap (v2-ax))) aJ i
 /\e_ v1 ax ju (decide (IntKind.i64.wrap ((IntKind.i64.wrap (v2-v1)).tdiv (8:Int))<=IntKind.i64.wrap (v2-ax))) aJ i<e_ v1 v2 v3 v10 v11 ai)))/\(decide ((0:Int)<v1)=false->(0:Nat)<dU.length
 /\(fe dU v1 v2/\v1<=bR/\bR<v2)/\∀x,x=(«Sort».partition aX {toList:=dU} v1.toNat v2.toNat bR.toNat).snd.snd.toList->∀ax,ax=↑(«Sort».partition aX {toList:=dU} v1.toNat v2.toNat bR.toNat).fst
 ->∀aJ,aJ=(«Sort».partition aX {toList:=dU} v1.toNat v2.toNat bR.toNat).snd.fst->(decide (IntKind.i64.wrap (ax-v1)<IntKind.i64.wrap (v2-ax))=true->(fe x v1 ax/\ax-v1<↑n
 /\((0:Int)<=ju/\ju<=(64:Int))/\ «Sort».Below aX v1.toNat ax.toNat {toList:=x})/\∀(i:List (List R)),kQ x v1 ax i->aD (IntKind.i64.wrap (ax+(1:Int))) v2 ju (decide (IntKind.i64.wrap ((IntKind.i64.wrap (v2-v1)).tdiv (8:Int))<=IntKind.i64.wrap (ax-v1))) aJ i
 /\e_ (IntKind.i64.wrap (ax+(1:Int))) v2 ju (decide (IntKind.i64.wrap ((IntKind.i64.wrap (v2-v1)).tdiv (8:Int))<=IntKind.i64.wrap (ax-v1))) aJ i<e_ v1 v2 v3 v10 v11 ai)/\(decide (IntKind.i64.wrap (ax-v1)<IntKind.i64.wrap (v2-ax))=false
 ->(fe x (IntKind.i64.wrap (ax+(1:Int))) v2/\v2-IntKind.i64.wrap (ax+(1:Int))<↑n/\((0:Int)<=ju/\ju<=(64:Int))/\ «Sort».Below aX (IntKind.i64.wrap (ax+(1:Int))).toNat v2.toNat {toList:=x})
 /\∀(i:List (List R)),kQ x (IntKind.i64.wrap (ax+(1:Int))) v2 i->aD v1 ax ju (decide (IntKind.i64.wrap ((IntKind.i64.wrap (v2-v1)).tdiv (8:Int))<=IntKind.i64.wrap (v2-ax))) aJ i
 /\e_ v1 ax ju (decide (IntKind.i64.wrap ((IntKind.i64.wrap (v2-v1)).tdiv (8:Int))<=IntKind.i64.wrap (v2-ax))) aJ i<e_ v1 v2 v3 v10 v11 ai))))
def Je:I.Rows->(ad->J->Prop)->Prop:=
 fun(l:I.Rows) (K:ad->J->Prop)=>((0:Int)<=IntKind.wrap IntKind.u64 ((Nat.cast:Nat->Int) (List.length l))/\IntKind.wrap IntKind.u64 ((Nat.cast:Nat->Int) (List.length l))<(18446744073709551616:Int))
 /\∀(x:Int),x=(Nat.cast:Nat->Int) (I.cL (Int.toNat (IntKind.wrap IntKind.u64 ((Nat.cast:Nat->Int) (List.length l)))))->(I.fe l (0:Int) ((Nat.cast:Nat->Int) (List.length l))/\((0:Int)<=x
 /\x<=(64:Int))/\ «Sort».Below I.aX (0:Nat) (Int.toNat ((Nat.cast:Nat->Int) (List.length l))) {toList:=l})/\∀(i:List (List R)),I.kQ l (0:Int) ((Nat.cast:Nat->Int) (List.length l)) i
 ->K (ad.rows (11:Nat) i) (J.tup [])
end I
end
section
open Go Go.bG
namespace I
def Ja:I.Rows->Int->Int->(ad->J->Prop)->Prop:=
 fun l a b K=>∃(aD:Int->List (List R)->Prop),∃(m:Int->List (List R)->Nat),aD (IntKind.i64.wrap (a+1)) l/\∀(aV:Int) (ai:List (List R)),aD aV ai->(decide (aV<b)=true->∃(fz:Int
 ->List (List R)->Prop),∃(e_:Int->List (List R)->Nat),fz aV ai/\∀(v9:Int) (bq:List (List R)),fz v9 bq->(decide (a<v9)=true->0<=v9/\v9<↑bq.length/\(bq.getD v9.toNat []).length=11
 /\0<=IntKind.i64.wrap (v9-1)/\IntKind.i64.wrap (v9-1)<↑bq.length/\(bq.getD (IntKind.i64.wrap (v9-1)).toNat []).length=11/\(dZ (bq.getD v9.toNat [])/\dZ (bq.getD (IntKind.i64.wrap (v9-1)).toNat []))
 /\∀x,x=fX (bq.getD v9.toNat []) (bq.getD (IntKind.i64.wrap (v9-1)).toNat [])->(decide (x<0)=true->0<=IntKind.i64.wrap (v9-1)/\IntKind.i64.wrap (v9-1)<↑bq.length/\(bq.getD (IntKind.i64.wrap (v9-1)).toNat []).length=11
 /\0<=v9/\v9<↑bq.length/\(bq.getD v9.toNat []).length=11/\0<=v9/\v9<↑bq.length/\0<=IntKind.i64.wrap (v9-1)/\IntKind.i64.wrap (v9-1)<↑(bq.set v9.toNat (bq.getD (IntKind.i64.wrap (v9-1)).toNat [])).length
 /\fz (IntKind.i64.wrap (v9-1)) ((bq.set v9.toNat (bq.getD (IntKind.i64.wrap (v9-1)).toNat [])).set (IntKind.i64.wrap (v9-1)).toNat (bq.getD v9.toNat []))/\e_ (IntKind.i64.wrap (v9-1)) ((bq.set v9.toNat (bq.getD (IntKind.i64.wrap (v9-1)).toNat [])).set (IntKind.i64.wrap (v9-1)).toNat (bq.getD v9.toNat []))<e_ v9 bq)
 /\(decide (x<0)=false->aD (IntKind.i64.wrap (aV+1)) bq/\m (IntKind.i64.wrap (aV+1)) bq<m aV ai))/\(decide (a<v9)=false->aD (IntKind.i64.wrap (aV+1)) bq/\m (IntKind.i64.wrap (aV+1)) bq<m aV ai))
 /\(decide (aV<b)=false->K (ad.rows 11 ai) (J.tup []))
def Jj:I.Rows->Int->Int->Int->(ad->J->Prop)->Prop:=
 fun l lo hi f K=>∃(aD:Int->List (List R)->Prop),∃(m:Int->List (List R)->Nat),aD lo l/\∀(v10:Int) (ai:List (List R)),aD v10 ai->(decide (hi<=IntKind.i64.wrap (IntKind.i64.wrap (2*v10)+1))=true
 ->K (ad.rows 11 ai) (J.tup []))/\(decide (hi<=IntKind.i64.wrap (IntKind.i64.wrap (2*v10)+1))=false->∃(a8:Int->List (List R)->Prop),((decide (IntKind.i64.wrap (IntKind.i64.wrap (IntKind.i64.wrap (2*v10)+1)+1)<hi)=true
 ->0<=IntKind.i64.wrap (f+IntKind.i64.wrap (IntKind.i64.wrap (2*v10)+1))/\IntKind.i64.wrap (f+IntKind.i64.wrap (IntKind.i64.wrap (2*v10)+1))<↑ai.length/\(ai.getD (IntKind.i64.wrap (f+IntKind.i64.wrap (IntKind.i64.wrap (2*v10)+1))).toNat []).length=11
 /\0<=IntKind.i64.wrap (IntKind.i64.wrap (f+IntKind.i64.wrap (IntKind.i64.wrap (2*v10)+1))+1)/\IntKind.i64.wrap (IntKind.i64.wrap (f+IntKind.i64.wrap (IntKind.i64.wrap (2*v10)+1))+1)<↑ai.length
 /\(ai.getD (IntKind.i64.wrap (IntKind.i64.wrap (f+IntKind.i64.wrap (IntKind.i64.wrap (2*v10)+1))+1)).toNat []).length=11/\(dZ (ai.getD (IntKind.i64.wrap (f+IntKind.i64.wrap (IntKind.i64.wrap (2*v10)+1))).toNat [])
 /\dZ (ai.getD (IntKind.i64.wrap (IntKind.i64.wrap (f+IntKind.i64.wrap (IntKind.i64.wrap (2*v10)+1))+1)).toNat []))/\∀x,x=fX (ai.getD (IntKind.i64.wrap (f+IntKind.i64.wrap (IntKind.i64.wrap (2*v10)+1))).toNat []) (ai.getD (IntKind.i64.wrap (IntKind.i64.wrap (f+IntKind.i64.wrap (IntKind.i64.wrap (2*v10)+1))+1)).toNat [])
 ->(decide (x<0)=true->a8 (IntKind.i64.wrap (IntKind.i64.wrap (IntKind.i64.wrap (2*v10)+1)+1)) ai)/\(decide (x<0)=false->a8 (IntKind.i64.wrap (IntKind.i64.wrap (2*v10)+1)) ai))/\(decide (IntKind.i64.wrap (IntKind.i64.wrap (IntKind.i64.wrap (2*v10)+1)+1)<hi)=false
 ->a8 (IntKind.i64.wrap (IntKind.i64.wrap (2*v10)+1)) ai))/\∀(v11:Int) (bq:List (List R)),a8 v11 bq->0<=IntKind.i64.wrap (f+v10)/\IntKind.i64.wrap (f+v10)<↑bq.length/\(bq.getD (IntKind.i64.wrap (f+v10)).toNat []).length=11
 /\0<=IntKind.i64.wrap (f+v11)/\IntKind.i64.wrap (f+v11)<↑bq.length/\(bq.getD (IntKind.i64.wrap (f+v11)).toNat []).length=11/\(dZ (bq.getD (IntKind.i64.wrap (f+v10)).toNat [])/\dZ (bq.getD (IntKind.i64.wrap (f+v11)).toNat []))
 /\∀x,x=fX (bq.getD (IntKind.i64.wrap (f+v10)).toNat []) (bq.getD (IntKind.i64.wrap (f+v11)).toNat [])->((!decide (x<0))=true->K (ad.rows 11 bq) (J.tup []))/\((!decide (x<0))=false
 ->0<=IntKind.i64.wrap (f+v11)/\IntKind.i64.wrap (f+v11)<↑bq.length/\(bq.getD (IntKind.i64.wrap (f+v11)).toNat []).length=11/\0<=IntKind.i64.wrap (f+v10)/\IntKind.i64.wrap (f+v10)<↑bq.length
 /\(bq.getD (IntKind.i64.wrap (f+v10)).toNat []).length=11/\0<=IntKind.i64.wrap (f+v10)/\IntKind.i64.wrap (f+v10)<↑bq.length/\0<=IntKind.i64.wrap (f+v11)/\IntKind.i64.wrap (f+v11)<↑(bq.set (IntKind.i64.wrap (f+v10)).toNat (bq.getD (IntKind.i64.wrap (f+v11)).toNat [])).length
 /\aD v11 ((bq.set (IntKind.i64.wrap (f+v10)).toNat (bq.getD (IntKind.i64.wrap (f+v11)).toNat [])).set (IntKind.i64.wrap (f+v11)).toNat (bq.getD (IntKind.i64.wrap (f+v10)).toNat []))/\m v11 ((bq.set (IntKind.i64.wrap (f+v10)).toNat (bq.getD (IntKind.i64.wrap (f+v11)).toNat [])).set (IntKind.i64.wrap (f+v11)).toNat (bq.getD (IntKind.i64.wrap (f+v10)).toNat []))<m v10 ai))
def Jk:I.Rows->Int->Int->(ad->J->Prop)->Prop:=
 fun l a b K=>∃(a8:List (List R)->Prop),(∃(aD:Int->List (List R)->Prop),∃(m:Int->List (List R)->Nat),aD (IntKind.i64.wrap ((IntKind.i64.wrap (IntKind.i64.wrap (b-a)-(1:Int))).tdiv (2:Int))) l
 /\∀(v11:Int) (ai:List (List R)),aD v11 ai->(decide ((0:Int)<=v11)=true->(0:Nat)<ai.length/\(cQ ai/\(0:Int)<=v11/\v11<=↑ai.length/\(0:Int)<=IntKind.i64.wrap (b-a)/\(0:Int)<=a
 /\a+IntKind.i64.wrap (b-a)<=↑ai.length/\ai.length<(1000000000000000:Nat))/\aD (IntKind.i64.wrap (v11-(1:Int))) («Sort».siftDown aX (IntKind.i64.wrap (b-a)).toNat a.toNat v11.toNat {toList:=ai}).toList
 /\m (IntKind.i64.wrap (v11-(1:Int))) («Sort».siftDown aX (IntKind.i64.wrap (b-a)).toNat a.toNat v11.toNat {toList:=ai}).toList<m v11 ai)/\(decide ((0:Int)<=v11)=false->a8 ai))/\∀(ai:List (List R)),a8 ai
 ->∃(aD:Int->List (List R)->Prop),∃(m:Int->List (List R)->Nat),aD (IntKind.i64.wrap (IntKind.i64.wrap (b-a)-(1:Int))) ai/\∀(v12:Int) (ai:List (List R)),aD v12 ai->(decide ((0:Int)<=v12)=true
 ->(0:Int)<=IntKind.i64.wrap (a+v12)/\IntKind.i64.wrap (a+v12)<↑ai.length/\(ai.getD (IntKind.i64.wrap (a+v12)).toNat []).length=(11:Nat)/\(0:Int)<=a/\a<↑ai.length/\(ai.getD a.toNat []).length=(11:Nat)
 /\(0:Int)<=a/\a<↑ai.length/\(0:Int)<=IntKind.i64.wrap (a+v12)/\IntKind.i64.wrap (a+v12)<↑(ai.set a.toNat (ai.getD (IntKind.i64.wrap (a+v12)).toNat [])).length/\(0:Nat)<((ai.set a.toNat (ai.getD (IntKind.i64.wrap (a+v12)).toNat [])).set (IntKind.i64.wrap (a+v12)).toNat (ai.getD a.toNat [])).length
 /\(cQ ((ai.set a.toNat (ai.getD (IntKind.i64.wrap (a+v12)).toNat [])).set (IntKind.i64.wrap (a+v12)).toNat (ai.getD a.toNat []))/\(0:Int)<=(0:Int)/\(0:Int)<=↑((ai.set a.toNat (ai.getD (IntKind.i64.wrap (a+v12)).toNat [])).set (IntKind.i64.wrap (a+v12)).toNat (ai.getD a.toNat [])).length
 /\(0:Int)<=v12/\(0:Int)<=a/\a+v12<=↑((ai.set a.toNat (ai.getD (IntKind.i64.wrap (a+v12)).toNat [])).set (IntKind.i64.wrap (a+v12)).toNat (ai.getD a.toNat [])).length/\((ai.set a.toNat (ai.getD (IntKind.i64.wrap (a+v12)).toNat [])).set (IntKind.i64.wrap (a+v12)).toNat (ai.getD a.toNat [])).length<(1000000000000000:Nat))
 /\aD (IntKind.i64.wrap (v12-(1:Int))) («Sort».siftDown aX v12.toNat a.toNat (0:Nat) {toList:=(ai.set a.toNat (ai.getD (IntKind.i64.wrap (a+v12)).toNat [])).set (IntKind.i64.wrap (a+v12)).toNat (ai.getD a.toNat [])}).toList
 /\m (IntKind.i64.wrap (v12-(1:Int))) («Sort».siftDown aX v12.toNat a.toNat (0:Nat) {toList:=(ai.set a.toNat (ai.getD (IntKind.i64.wrap (a+v12)).toNat [])).set (IntKind.i64.wrap (a+v12)).toNat (ai.getD a.toNat [])}).toList<m v12 ai)
 /\(decide ((0:Int)<=v12)=false->K (ad.rows (11:Nat) ai) (J.tup []))
def Ji:I.Rows->Int->Int->Int->(ad->J->Prop)->Prop:=
 fun l a b p K=>0<=p/\p<↑(List.length l)/\(List.getD l p.toNat []).length=11/\0<=a/\a<↑(List.length l)/\(List.getD l a.toNat []).length=11/\0<=a/\a<↑(List.length l)/\0<=p/\p<↑(List.set l a.toNat (List.getD l p.toNat [])).length
 /\∃(a8:Int->List (List R)->Prop),(∃(aD:Int->List (List R)->Prop),∃(m:Int->List (List R)->Nat),aD (IntKind.i64.wrap (a+1)) ((List.set l a.toNat (List.getD l p.toNat [])).set p.toNat (List.getD l a.toNat []))
 /\∀(v12:Int) (ai:List (List R)),aD v12 ai->(decide (v12<=IntKind.i64.wrap (b-1))=true->0<=v12/\v12<↑ai.length/\(ai.getD v12.toNat []).length=11/\0<=a/\a<↑ai.length/\(ai.getD a.toNat []).length=11
 /\(dZ (ai.getD v12.toNat [])/\dZ (ai.getD a.toNat []))/\∀x,x=fX (ai.getD v12.toNat []) (ai.getD a.toNat [])->(decide (x<0)=true->aD (IntKind.i64.wrap (v12+1)) ai/\m (IntKind.i64.wrap (v12+1)) ai<m v12 ai)
 /\(decide (x<0)=false->a8 v12 ai))/\(decide (v12<=IntKind.i64.wrap (b-1))=false->a8 v12 ai))/\∀(v12:Int) (ai:List (List R)),a8 v12 ai->∃(a8:Int->List (List R)->Prop),(∃(aD:Int
 ->List (List R)->Prop),∃(m:Int->List (List R)->Nat),aD (IntKind.i64.wrap (b-1)) ai/\∀(bR:Int) (ai:List (List R)),aD bR ai->(decide (v12<=bR)=true->0<=bR/\bR<↑ai.length
 /\(ai.getD bR.toNat []).length=11/\0<=a/\a<↑ai.length/\(ai.getD a.toNat []).length=11/\(dZ (ai.getD bR.toNat [])/\dZ (ai.getD a.toNat []))/\∀x,x=fX (ai.getD bR.toNat []) (ai.getD a.toNat [])
 ->((!decide (x<0))=true->aD (IntKind.i64.wrap (bR-1)) ai/\m (IntKind.i64.wrap (bR-1)) ai<m bR ai)/\((!decide (x<0))=false->a8 bR ai))/\(decide (v12<=bR)=false->a8 bR ai))/\∀(bR:Int) (ai:List (List R)),a8 bR ai
 ->(decide (bR<v12)=true->0<=a/\a<↑ai.length/\(ai.getD a.toNat []).length=11/\0<=bR/\bR<↑ai.length/\(ai.getD bR.toNat []).length=11/\0<=bR/\bR<↑ai.length/\0<=a/\a<↑(ai.set bR.toNat (ai.getD a.toNat [])).length
 /\K (ad.rows 11 ((ai.set bR.toNat (ai.getD a.toNat [])).set a.toNat (ai.getD bR.toNat []))) (J.tup [J.d (R.int .i64 bR),J.d (R.bool true)]))/\(decide (bR<v12)=false->0<=bR/\bR<↑ai.length
 /\(ai.getD bR.toNat []).length=11/\0<=v12/\v12<↑ai.length/\(ai.getD v12.toNat []).length=11/\0<=v12/\v12<↑ai.length/\0<=bR/\bR<↑(ai.set v12.toNat (ai.getD bR.toNat [])).length
 /\∃(a8:Int->List (List R)->Prop),(∃(aD:Int->Int->List (List R)->Prop),∃(m:Int->Int->List (List R)->Nat),aD (IntKind.i64.wrap (v12+1)) (IntKind.i64.wrap (bR-1)) ((ai.set v12.toNat (ai.getD bR.toNat [])).set bR.toNat (ai.getD v12.toNat []))
 /\∀(v12 bR:Int) (ai:List (List R)),aD v12 bR ai->∃(oA:Int->List (List R)->Prop),(∃(aD:Int->List (List R)->Prop),∃(m:Int->List (List R)->Nat),aD v12 ai/\∀(v12:Int) (ai:List (List R)),aD v12 ai
 ->(decide (v12<=bR)=true->0<=v12/\v12<↑ai.length/\(ai.getD v12.toNat []).length=11/\0<=a/\a<↑ai.length/\(ai.getD a.toNat []).length=11/\(dZ (ai.getD v12.toNat [])/\dZ (ai.getD a.toNat []))
 /\∀x,x=fX (ai.getD v12.toNat []) (ai.getD a.toNat [])->(decide (x<0)=true->aD (IntKind.i64.wrap (v12+1)) ai/\m (IntKind.i64.wrap (v12+1)) ai<m v12 ai)/\(decide (x<0)=false->oA v12 ai))
 /\(decide (v12<=bR)=false->oA v12 ai))/\∀(fO:Int) (bq:List (List R)),oA fO bq->∃(tS:Int->List (List R)->Prop),(∃(aD:Int->List (List R)->Prop),∃(m:Int->List (List R)
 ->Nat),aD bR bq/\∀(bR:Int) (ai:List (List R)),aD bR ai->(decide (fO<=bR)=true->0<=bR/\bR<↑ai.length/\(ai.getD bR.toNat []).length=11/\0<=a/\a<↑ai.length/\(ai.getD a.toNat []).length=11
 /\(dZ (ai.getD bR.toNat [])/\dZ (ai.getD a.toNat []))/\∀x,x=fX (ai.getD bR.toNat []) (ai.getD a.toNat [])->((!decide (x<0))=true->aD (IntKind.i64.wrap (bR-1)) ai/\m (IntKind.i64.wrap (bR-1)) ai<m bR ai)
 /\((!decide (x<0))=false->tS bR ai))/\(decide (fO<=bR)=false->tS bR ai))/\∀(kT:Int) (cT:List (List R)),tS kT cT->(decide (kT<fO)=true->a8 kT cT)/\(decide (kT<fO)=false
 ->0<=kT/\kT<↑cT.length/\(cT.getD kT.toNat []).length=11/\0<=fO/\fO<↑cT.length/\(cT.getD fO.toNat []).length=11/\0<=fO/\fO<↑cT.length/\0<=kT/\kT<↑(cT.set fO.toNat (cT.getD kT.toNat [])).length
 /\aD (IntKind.i64.wrap (fO+1)) (IntKind.i64.wrap (kT-1)) ((cT.set fO.toNat (cT.getD kT.toNat [])).set kT.toNat (cT.getD fO.toNat []))/\m (IntKind.i64.wrap (fO+1)) (IntKind.i64.wrap (kT-1)) ((cT.set fO.toNat (cT.getD kT.toNat [])).set kT.toNat (cT.getD fO.toNat []))<m v12 bR ai))
 /\∀(bR:Int) (ai:List (List R)),a8 bR ai->0<=a/\a<↑ai.length/\(ai.getD a.toNat []).length=11/\0<=bR/\bR<↑ai.length/\(ai.getD bR.toNat []).length=11/\0<=bR/\bR<↑ai.length
 /\0<=a/\a<↑(ai.set bR.toNat (ai.getD a.toNat [])).length/\K (ad.rows 11 ((ai.set bR.toNat (ai.getD a.toNat [])).set a.toNat (ai.getD bR.toNat []))) (J.tup [J.d (R.int .i64 bR),J.d (R.bool false)]))
def I8:I.Rows->Int->Int->Int->(ad->J->Prop)->Prop:=
 fun l a b p K=>0<=p/\p<↑(List.length l)/\(List.getD l p.toNat []).length=11/\0<=a/\a<↑(List.length l)/\(List.getD l a.toNat []).length=11/\0<=a/\a<↑(List.length l)/\0<=p/\p<↑(List.set l a.toNat (List.getD l p.toNat [])).length
 /\∃(a8:Int->List (List R)->Prop),(∃(aD:Int->Int->List (List R)->Prop),∃(m:Int->Int->List (List R)->Nat),aD (IntKind.i64.wrap (a+1)) (IntKind.i64.wrap (b-1)) ((List.set l a.toNat (List.getD l p.toNat [])).set p.toNat (List.getD l a.toNat []))
 /\∀(v11 v12:Int) (ai:List (List R)),aD v11 v12 ai->∃(oA:Int->List (List R)->Prop),(∃(aD:Int->List (List R)->Prop),∃(m:Int->List (List R)->Nat),aD v11 ai/\∀(v11:Int) (ai:List (List R)),aD v11 ai
 ->(decide (v11<=v12)=true->0<=a/\a<↑ai.length/\(ai.getD a.toNat []).length=11/\0<=v11/\v11<↑ai.length/\(ai.getD v11.toNat []).length=11/\(dZ (ai.getD a.toNat [])/\dZ (ai.getD v11.toNat []))
 /\∀x,x=fX (ai.getD a.toNat []) (ai.getD v11.toNat [])->((!decide (x<0))=true->aD (IntKind.i64.wrap (v11+1)) ai/\m (IntKind.i64.wrap (v11+1)) ai<m v11 ai)/\((!decide (x<0))=false
 ->oA v11 ai))/\(decide (v11<=v12)=false->oA v11 ai))/\∀(iv:Int) (bq:List (List R)),oA iv bq->∃(tS:Int->List (List R)->Prop),(∃(aD:Int->List (List R)->Prop),∃(m:Int
 ->List (List R)->Nat),aD v12 bq/\∀(v12:Int) (ai:List (List R)),aD v12 ai->(decide (iv<=v12)=true->0<=a/\a<↑ai.length/\(ai.getD a.toNat []).length=11/\0<=v12/\v12<↑ai.length
 /\(ai.getD v12.toNat []).length=11/\(dZ (ai.getD a.toNat [])/\dZ (ai.getD v12.toNat []))/\∀x,x=fX (ai.getD a.toNat []) (ai.getD v12.toNat [])->(decide (x<0)=true->aD (IntKind.i64.wrap (v12-1)) ai
 /\m (IntKind.i64.wrap (v12-1)) ai<m v12 ai)/\(decide (x<0)=false->tS v12 ai))/\(decide (iv<=v12)=false->tS v12 ai))/\∀(fO:Int) (cT:List (List R)),tS fO cT->(decide (fO<iv)=true
 ->a8 iv cT)/\(decide (fO<iv)=false->0<=fO/\fO<↑cT.length/\(cT.getD fO.toNat []).length=11/\0<=iv/\iv<↑cT.length/\(cT.getD iv.toNat []).length=11
 /\0<=iv/\iv<↑cT.length/\0<=fO/\fO<↑(cT.set iv.toNat (cT.getD fO.toNat [])).length/\aD (IntKind.i64.wrap (iv+1)) (IntKind.i64.wrap (fO-1)) ((cT.set iv.toNat (cT.getD fO.toNat [])).set fO.toNat (cT.getD iv.toNat []))
 /\m (IntKind.i64.wrap (iv+1)) (IntKind.i64.wrap (fO-1)) ((cT.set iv.toNat (cT.getD fO.toNat [])).set fO.toNat (cT.getD iv.toNat []))<m v11 v12 ai))/\∀(v11:Int) (ai:List (List R)),a8 v11 ai
 ->K (ad.rows 11 ai) (J.d (R.int .i64 v11))
def I7:I.Rows->Int->Int->(ad->J->Prop)->Prop:=
 fun l a b K=>∃(a8:List (List R)->Prop),(∃(aD:Int->Int->List (List R)->Prop),∃(m:Int->Int->List (List R)->Nat),aD (IntKind.i64.wrap (a+1)) 0 l/\∀(v9 v10:Int) (ai:List (List R)),aD v9 v10 ai
 ->(decide (v10<5)=true->∃(a8:Int->List (List R)->Prop),(∃(aD:Int->List (List R)->Prop),∃(m:Int->List (List R)->Nat),aD v9 ai/\∀(v9:Int) (ai:List (List R)),aD v9 ai->(decide (v9<b)=true
 ->0<=v9/\v9<↑ai.length/\(ai.getD v9.toNat []).length=11/\0<=IntKind.i64.wrap (v9-1)/\IntKind.i64.wrap (v9-1)<↑ai.length/\(ai.getD (IntKind.i64.wrap (v9-1)).toNat []).length=11/\(dZ (ai.getD v9.toNat [])
 /\dZ (ai.getD (IntKind.i64.wrap (v9-1)).toNat []))/\∀x,x=fX (ai.getD v9.toNat []) (ai.getD (IntKind.i64.wrap (v9-1)).toNat [])->((!decide (x<0))=true->aD (IntKind.i64.wrap (v9+1)) ai
 /\m (IntKind.i64.wrap (v9+1)) ai<m v9 ai)/\((!decide (x<0))=false->a8 v9 ai))/\(decide (v9<b)=false->a8 v9 ai))/\∀(fC:Int) (bq:List (List R)),a8 fC bq->(decide (fC=b)=true
 ->K (ad.rows 11 bq) (J.d (R.bool true)))/\(decide (fC=b)=false->(decide (IntKind.i64.wrap (b-a)<50)=true->K (ad.rows 11 bq) (J.d (R.bool false)))/\(decide (IntKind.i64.wrap (b-a)<50)=false
 ->0<=IntKind.i64.wrap (fC-1)/\IntKind.i64.wrap (fC-1)<↑bq.length/\(bq.getD (IntKind.i64.wrap (fC-1)).toNat []).length=11/\0<=fC/\fC<↑bq.length/\(bq.getD fC.toNat []).length=11
 /\0<=fC/\fC<↑bq.length/\0<=IntKind.i64.wrap (fC-1)/\IntKind.i64.wrap (fC-1)<↑(bq.set fC.toNat (bq.getD (IntKind.i64.wrap (fC-1)).toNat [])).length/\∃(a8:List (List R)
 ->Prop),((decide (2<=IntKind.i64.wrap (fC-a))=true->∃(aD:Int->List (List R)->Prop),∃(m:Int->List (List R)->Nat),aD (IntKind.i64.wrap (fC-1)) ((bq.set fC.toNat (bq.getD (IntKind.i64.wrap (fC-1)).toNat [])).set (IntKind.i64.wrap (fC-1)).toNat (bq.getD fC.toNat []))
 /\∀(v11:Int) (ai:List (List R)),aD v11 ai->(decide (1<=v11)=true->0<=v11/\v11<↑ai.length/\(ai.getD v11.toNat []).length=11/\0<=IntKind.i64.wrap (v11-1)/\IntKind.i64.wrap (v11-1)<↑ai.length
 /\(ai.getD (IntKind.i64.wrap (v11-1)).toNat []).length=11/\(dZ (ai.getD v11.toNat [])/\dZ (ai.getD (IntKind.i64.wrap (v11-1)).toNat []))/\∀x,x=fX (ai.getD v11.toNat []) (ai.getD (IntKind.i64.wrap (v11-1)).toNat [])
 ->((!decide (x<0))=true->a8 ai)/\((!decide (x<0))=false->0<=IntKind.i64.wrap (v11-1)/\IntKind.i64.wrap (v11-1)<↑ai.length/\(ai.getD (IntKind.i64.wrap (v11-1)).toNat []).length=11
 /\0<=v11/\v11<↑ai.length/\(ai.getD v11.toNat []).length=11/\0<=v11/\v11<↑ai.length/\0<=IntKind.i64.wrap (v11-1)/\IntKind.i64.wrap (v11-1)<↑(ai.set v11.toNat (ai.getD (IntKind.i64.wrap (v11-1)).toNat [])).length
 /\aD (IntKind.i64.wrap (v11-1)) ((ai.set v11.toNat (ai.getD (IntKind.i64.wrap (v11-1)).toNat [])).set (IntKind.i64.wrap (v11-1)).toNat (ai.getD v11.toNat []))/\m (IntKind.i64.wrap (v11-1)) ((ai.set v11.toNat (ai.getD (IntKind.i64.wrap (v11-1)).toNat [])).set (IntKind.i64.wrap (v11-1)).toNat (ai.getD v11.toNat []))<m v11 ai))
 /\(decide (1<=v11)=false->a8 ai))/\(decide (2<=IntKind.i64.wrap (fC-a))=false->a8 ((bq.set fC.toNat (bq.getD (IntKind.i64.wrap (fC-1)).toNat [])).set (IntKind.i64.wrap (fC-1)).toNat (bq.getD fC.toNat []))))
 /\∀(cT:List (List R)),a8 cT->(decide (2<=IntKind.i64.wrap (b-fC))=true->∃(fz:Int->List (List R)->Prop),∃(e_:Int->List (List R)->Nat),fz (IntKind.i64.wrap (fC+1)) cT
 /\∀(v12:Int) (dU:List (List R)),fz v12 dU->(decide (v12<b)=true->0<=v12/\v12<↑dU.length/\(dU.getD v12.toNat []).length=11/\0<=IntKind.i64.wrap (v12-1)/\IntKind.i64.wrap (v12-1)<↑dU.length
 /\(dU.getD (IntKind.i64.wrap (v12-1)).toNat []).length=11/\(dZ (dU.getD v12.toNat [])/\dZ (dU.getD (IntKind.i64.wrap (v12-1)).toNat []))/\∀x,x=fX (dU.getD v12.toNat []) (dU.getD (IntKind.i64.wrap (v12-1)).toNat [])
 ->((!decide (x<0))=true->aD fC (IntKind.i64.wrap (v10+1)) dU/\m fC (IntKind.i64.wrap (v10+1)) dU<m v9 v10 ai)/\((!decide (x<0))=false->0<=IntKind.i64.wrap (v12-1)/\IntKind.i64.wrap (v12-1)<↑dU.length
 /\(dU.getD (IntKind.i64.wrap (v12-1)).toNat []).length=11/\0<=v12/\v12<↑dU.length/\(dU.getD v12.toNat []).length=11/\0<=v12/\v12<↑dU.length/\0<=IntKind.i64.wrap (v12-1)/\IntKind.i64.wrap (v12-1)<↑(dU.set v12.toNat (dU.getD (IntKind.i64.wrap (v12-1)).toNat [])).length
 /\fz (IntKind.i64.wrap (v12+1)) ((dU.set v12.toNat (dU.getD (IntKind.i64.wrap (v12-1)).toNat [])).set (IntKind.i64.wrap (v12-1)).toNat (dU.getD v12.toNat []))/\e_ (IntKind.i64.wrap (v12+1)) ((dU.set v12.toNat (dU.getD (IntKind.i64.wrap (v12-1)).toNat [])).set (IntKind.i64.wrap (v12-1)).toNat (dU.getD v12.toNat []))<e_ v12 dU))
 /\(decide (v12<b)=false->aD fC (IntKind.i64.wrap (v10+1)) dU/\m fC (IntKind.i64.wrap (v10+1)) dU<m v9 v10 ai))/\(decide (2<=IntKind.i64.wrap (b-fC))=false->aD fC (IntKind.i64.wrap (v10+1)) cT
 /\m fC (IntKind.i64.wrap (v10+1)) cT<m v9 v10 ai))))/\(decide (v10<5)=false->a8 ai))/\∀(ai:List (List R)),a8 ai->K (ad.rows 11 ai) (J.d (R.bool false))
def Jb:I.Rows->Int->Int->(ad->J->Prop)->Prop:=
 fun l a b K=>∃(aD:Int->Int->List (List R)->Prop),∃(m:Int->Int->List (List R)->Nat),aD a (IntKind.i64.wrap (b-1)) l/\∀(aV v9:Int) (ai:List (List R)),aD aV v9 ai->(decide (aV<v9)=true
 ->0<=v9/\v9<↑ai.length/\(ai.getD v9.toNat []).length=11/\0<=aV/\aV<↑ai.length/\(ai.getD aV.toNat []).length=11/\0<=aV/\aV<↑ai.length/\0<=v9/\v9<↑(ai.set aV.toNat (ai.getD v9.toNat [])).length
 /\aD (IntKind.i64.wrap (aV+1)) (IntKind.i64.wrap (v9-1)) ((ai.set aV.toNat (ai.getD v9.toNat [])).set v9.toNat (ai.getD aV.toNat []))/\m (IntKind.i64.wrap (aV+1)) (IntKind.i64.wrap (v9-1)) ((ai.set aV.toNat (ai.getD v9.toNat [])).set v9.toNat (ai.getD aV.toNat []))<m aV v9 ai)
 /\(decide (aV<v9)=false->K (ad.rows 11 ai) (J.tup []))
end I
end
section
open Go Go.bG
theorem I.afi {M:List J->(J->Prop)->Prop}(H:∀x y K,I.BW.T [.d (.int .u32 x), .d (.int .u32 y)] K->M [.d (.int .u32 x), .d (.int .u32 y)] K)(args:List J)(K:J->Prop)(hyp:I.BW.T args K):M args K:=by
 have e:∃x y,args=[.d (.int .u32 x), .d (.int .u32 y)]:=by
  unfold I.BW.T spec at hyp
  split at hyp
  ·rename_i he
   simp only at he
   split at he
   ·exact⟨_,_,rfl⟩
   ·cases he
  ·exact hyp.elim
 obtain⟨x,y,bw⟩:=e
 subst bw
 exact H x y K hyp
theorem I.afj {M:List J->(J->Prop)->Prop}(H:∀x y c K,I.BX.T [.d (.int .u32 x), .d (.int .u32 y), .d (.int .u32 c)] K->M [.d (.int .u32 x), .d (.int .u32 y), .d (.int .u32 c)] K)(args:List J)(K:J->Prop)(hyp:I.BX.T args K):M args K:=by
 have e:∃x y c,args=[.d (.int .u32 x), .d (.int .u32 y), .d (.int .u32 c)]:=by
  unfold I.BX.T spec at hyp
  split at hyp
  ·rename_i he
   simp only at he
   split at he
   ·exact⟨_,_,_,rfl⟩
   ·cases he
  ·exact hyp.elim
 obtain⟨x,y,c,bw⟩:=e
 subst bw
 exact H x y c K hyp
theorem I.afk {M:List J->(J->Prop)->Prop}(H:∀x y c K,I.BY.T [.d (.int .u32 x), .d (.int .u32 y), .d (.int .u32 c)] K->M [.d (.int .u32 x), .d (.int .u32 y), .d (.int .u32 c)] K)(args:List J)(K:J->Prop)(hyp:I.BY.T args K):M args K:=by
 have e:∃x y c,args=[.d (.int .u32 x), .d (.int .u32 y), .d (.int .u32 c)]:=by
  unfold I.BY.T spec at hyp
  split at hyp
  ·rename_i he
   simp only at he
   split at he
   ·exact⟨_,_,_,rfl⟩
   ·cases he
  ·exact hyp.elim
 obtain⟨x,y,c,bw⟩:=e
 subst bw
 exact H x y c K hyp
theorem I.afl {M:List J->(J->Prop)->Prop}(H:∀h l y K,I.BZ.T [.d (.int .u32 h), .d (.int .u32 l), .d (.int .u32 y)] K->M [.d (.int .u32 h), .d (.int .u32 l), .d (.int .u32 y)] K)(args:List J)(K:J->Prop)(hyp:I.BZ.T args K):M args K:=by
 have e:∃h l y,args=[.d (.int .u32 h), .d (.int .u32 l), .d (.int .u32 y)]:=by
  unfold I.BZ.T spec at hyp
  split at hyp
  ·rename_i he
   simp only at he
   split at he
   ·exact⟨_,_,_,rfl⟩
   ·cases he
  ·exact hyp.elim
 obtain⟨h,l,y,bw⟩:=e
 subst bw
 exact H h l y K hyp
theorem I.agd {M:List J->(J->Prop)->Prop}(H:∀a K,I.CG.T [.d (.ints .u32 a)] K->M [.d (.ints .u32 a)] K)(args:List J)(K:J->Prop)(hyp:I.CG.T args K):M args K:=by
 have e:∃a,args=[.d (.ints .u32 a)]:=by
  unfold I.CG.T spec at hyp
  split at hyp
  ·rename_i he
   simp only at he
   split at he
   ·exact⟨_,rfl⟩
   ·cases he
  ·exact hyp.elim
 obtain⟨a,bw⟩:=e
 subst bw
 exact H a K hyp
theorem I.afm {M:List J->(J->Prop)->Prop}(H:∀a K,I.B0.T [.d (.ints .u32 a)] K->M [.d (.ints .u32 a)] K)(args:List J)(K:J->Prop)(hyp:I.B0.T args K):M args K:=by
 have e:∃a,args=[.d (.ints .u32 a)]:=by
  unfold I.B0.T spec at hyp
  split at hyp
  ·rename_i he
   simp only at he
   split at he
   ·exact⟨_,rfl⟩
   ·cases he
  ·exact hyp.elim
 obtain⟨a,bw⟩:=e
 subst bw
 exact H a K hyp
theorem I.age {M:List J->(J->Prop)->Prop}(H:∀a K,I.CH.T [.d (.ints .u32 a)] K->M [.d (.ints .u32 a)] K)(args:List J)(K:J->Prop)(hyp:I.CH.T args K):M args K:=by
 have e:∃a,args=[.d (.ints .u32 a)]:=by
  unfold I.CH.T spec at hyp
  split at hyp
  ·rename_i he
   simp only at he
   split at he
   ·exact⟨_,rfl⟩
   ·cases he
  ·exact hyp.elim
 obtain⟨a,bw⟩:=e
 subst bw
 exact H a K hyp
theorem I.adI {M:List J->(J->Prop)->Prop}(H:∀u K,I.Az.T [.d (.int .u64 u)] K->M [.d (.int .u64 u)] K)(args:List J)(K:J->Prop)(hyp:I.Az.T args K):M args K:=by
 have e:∃u,args=[.d (.int .u64 u)]:=by
  unfold I.Az.T spec at hyp
  split at hyp
  ·rename_i he
   simp only at he
   split at he
   ·exact⟨_,rfl⟩
   ·cases he
  ·exact hyp.elim
 obtain⟨u,bw⟩:=e
 subst bw
 exact H u K hyp
theorem I.aey {M:List J->(J->Prop)->Prop}(H:∀a K,I.Bl.T [.d (.ints .u32 a)] K->M [.d (.ints .u32 a)] K)(args:List J)(K:J->Prop)(hyp:I.Bl.T args K):M args K:=by
 have e:∃a,args=[.d (.ints .u32 a)]:=by
  unfold I.Bl.T spec at hyp
  split at hyp
  ·rename_i he
   simp only at he
   split at he
   ·exact⟨_,rfl⟩
   ·cases he
  ·exact hyp.elim
 obtain⟨a,bw⟩:=e
 subst bw
 exact H a K hyp
theorem I.aho {M:List J->(J->Prop)->Prop}(H:∀a b K,I.C_.T [.d (.ints .u32 a), .d (.ints .u32 b)] K->M [.d (.ints .u32 a), .d (.ints .u32 b)] K)(args:List J)(K:J->Prop)(hyp:I.C_.T args K):M args K:=by
 have e:∃a b,args=[.d (.ints .u32 a), .d (.ints .u32 b)]:=by
  unfold I.C_.T spec at hyp
  split at hyp
  ·rename_i he
   simp only at he
   split at he
   ·exact⟨_,_,rfl⟩
   ·cases he
  ·exact hyp.elim
 obtain⟨a,b,bw⟩:=e
 subst bw
 exact H a b K hyp
theorem I.ahp {M:List J->(J->Prop)->Prop}(H:∀a b K,I.h5.T [.d (.ints .u32 a), .d (.ints .u32 b)] K->M [.d (.ints .u32 a), .d (.ints .u32 b)] K)(args:List J)(K:J->Prop)(hyp:I.h5.T args K):M args K:=by
 have e:∃a b,args=[.d (.ints .u32 a), .d (.ints .u32 b)]:=by
  unfold I.h5.T spec at hyp
  split at hyp
  ·rename_i he
   simp only at he
   split at he
   ·exact⟨_,_,rfl⟩
   ·cases he
  ·exact hyp.elim
 obtain⟨a,b,bw⟩:=e
 subst bw
 exact H a b K hyp
theorem I.ahq {M:List J->(J->Prop)->Prop}(H:∀a b K,I.Da.T [.d (.ints .u32 a), .d (.ints .u32 b)] K->M [.d (.ints .u32 a), .d (.ints .u32 b)] K)(args:List J)(K:J->Prop)(hyp:I.Da.T args K):M args K:=by
 have e:∃a b,args=[.d (.ints .u32 a), .d (.ints .u32 b)]:=by
  unfold I.Da.T spec at hyp
  split at hyp
  ·rename_i he
   simp only at he
   split at he
   ·exact⟨_,_,rfl⟩
   ·cases he
  ·exact hyp.elim
 obtain⟨a,b,bw⟩:=e
 subst bw
 exact H a b K hyp
theorem I.ahr {M:List J->(J->Prop)->Prop}(H:∀a b K,I.Db.T [.d (.ints .u32 a), .d (.ints .u32 b)] K->M [.d (.ints .u32 a), .d (.ints .u32 b)] K)(args:List J)(K:J->Prop)(hyp:I.Db.T args K):M args K:=by
 have e:∃a b,args=[.d (.ints .u32 a), .d (.ints .u32 b)]:=by
  unfold I.Db.T spec at hyp
  split at hyp
  ·rename_i he
   simp only at he
   split at he
   ·exact⟨_,_,rfl⟩
   ·cases he
  ·exact hyp.elim
 obtain⟨a,b,bw⟩:=e
 subst bw
 exact H a b K hyp
theorem I.afn {M:List J->(J->Prop)->Prop}(H:∀a d K,I.B1.T [.d (.ints .u32 a), .d (.int .u32 d)] K->M [.d (.ints .u32 a), .d (.int .u32 d)] K)(args:List J)(K:J->Prop)(hyp:I.B1.T args K):M args K:=by
 have e:∃a d,args=[.d (.ints .u32 a), .d (.int .u32 d)]:=by
  unfold I.B1.T spec at hyp
  split at hyp
  ·rename_i he
   simp only at he
   split at he
   ·exact⟨_,_,rfl⟩
   ·cases he
  ·exact hyp.elim
 obtain⟨a,d,bw⟩:=e
 subst bw
 exact H a d K hyp
theorem I.aez {M:List J->(J->Prop)->Prop}(H:∀a b K,I.Bm.T [.d (.ints .u32 a), .d (.ints .u32 b)] K->M [.d (.ints .u32 a), .d (.ints .u32 b)] K)(args:List J)(K:J->Prop)(hyp:I.Bm.T args K):M args K:=by
 have e:∃a b,args=[.d (.ints .u32 a), .d (.ints .u32 b)]:=by
  unfold I.Bm.T spec at hyp
  split at hyp
  ·rename_i he
   simp only at he
   split at he
   ·exact⟨_,_,rfl⟩
   ·cases he
  ·exact hyp.elim
 obtain⟨a,b,bw⟩:=e
 subst bw
 exact H a b K hyp
theorem I.ad7 {M:J->ad->List J->(ad->J->Prop)->Prop}(H:∀l K,I.AQ.T (.vec 0) (.ints .u8 l) [] K->M (.vec 0) (.ints .u8 l) [] K)(a0:J)(bW:ad)(args:List J)(K:ad->J->Prop)(hyp:I.AQ.T a0 bW args K):M a0 bW args K:=by
 have e:∃l,a0= .vec 0/\bW= .ints .u8 l/\args=[]:=by
  unfold I.AQ.T eO at hyp
  split at hyp
  ·rename_i he
   simp only at he
   split at he
   ·split at he
    ·rename_i ae
     obtain rfl:=ast ae
     exact⟨_,rfl,rfl,rfl⟩
    ·cases he
   ·cases he
  ·exact hyp.elim
 obtain⟨l,bE,an,az⟩:=e
 subst bE an az
 exact H l K hyp
theorem I.aeA {M:List J->(J->Prop)->Prop}(H:∀a K,I.Bn.T [.d (.ints .u32 a)] K->M [.d (.ints .u32 a)] K)(args:List J)(K:J->Prop)(hyp:I.Bn.T args K):M args K:=by
 have e:∃a,args=[.d (.ints .u32 a)]:=by
  unfold I.Bn.T spec at hyp
  split at hyp
  ·rename_i he
   simp only at he
   split at he
   ·exact⟨_,rfl⟩
   ·cases he
  ·exact hyp.elim
 obtain⟨a,bw⟩:=e
 subst bw
 exact H a K hyp
theorem I.afq {M:List J->(J->Prop)->Prop}(H:∀x K,I.B4.T [.d (.int .u32 x)] K->M [.d (.int .u32 x)] K)(args:List J)(K:J->Prop)(hyp:I.B4.T args K):M args K:=by
 have e:∃x,args=[.d (.int .u32 x)]:=by
  unfold I.B4.T spec at hyp
  split at hyp
  ·rename_i he
   simp only at he
   split at he
   ·exact⟨_,rfl⟩
   ·cases he
  ·exact hyp.elim
 obtain⟨x,bw⟩:=e
 subst bw
 exact H x K hyp
theorem I.ad9 {M:List J->(J->Prop)->Prop}(H:∀x K,I.AS.T [.d (.int .u32 x)] K->M [.d (.int .u32 x)] K)(args:List J)(K:J->Prop)(hyp:I.AS.T args K):M args K:=by
 have e:∃x,args=[.d (.int .u32 x)]:=by
  unfold I.AS.T spec at hyp
  split at hyp
  ·rename_i he
   simp only at he
   split at he
   ·exact⟨_,rfl⟩
   ·cases he
  ·exact hyp.elim
 obtain⟨x,bw⟩:=e
 subst bw
 exact H x K hyp
theorem I.afr {M:List J->(ad->Prop)->Prop}(H:∀a k K,I.B5.T [.d (.ints .u32 a), .d (.int .u64 k)] K->M [.d (.ints .u32 a), .d (.int .u64 k)] K)(args:List J)(K:ad->Prop)(hyp:I.B5.T args K):M args K:=by
 have e:∃a k,args=[.d (.ints .u32 a), .d (.int .u64 k)]:=by
  unfold I.B5.T lr at hyp
  split at hyp
  ·rename_i he
   simp only at he
   split at he
   ·exact⟨_,_,rfl⟩
   ·cases he
  ·exact hyp.elim
 obtain⟨a,k,bw⟩:=e
 subst bw
 exact H a k K hyp
theorem I.agf {M:List J->(J->Prop)->Prop}(H:∀a b K,I.CJ.T [.d (.ints .u32 a), .d (.ints .u32 b)] K->M [.d (.ints .u32 a), .d (.ints .u32 b)] K)(args:List J)(K:J->Prop)(hyp:I.CJ.T args K):M args K:=by
 have e:∃a b,args=[.d (.ints .u32 a), .d (.ints .u32 b)]:=by
  unfold I.CJ.T spec at hyp
  split at hyp
  ·rename_i he
   simp only at he
   split at he
   ·exact⟨_,_,rfl⟩
   ·cases he
  ·exact hyp.elim
 obtain⟨a,b,bw⟩:=e
 subst bw
 exact H a b K hyp
theorem I.ahu {M:List J->(J->Prop)->Prop}(H:∀a b K,I.De.T [.d (.ints .u32 a), .d (.ints .u32 b)] K->M [.d (.ints .u32 a), .d (.ints .u32 b)] K)(args:List J)(K:J->Prop)(hyp:I.De.T args K):M args K:=by
 have e:∃a b,args=[.d (.ints .u32 a), .d (.ints .u32 b)]:=by
  unfold I.De.T spec at hyp
  split at hyp
  ·rename_i he
   simp only at he
   split at he
   ·exact⟨_,_,rfl⟩
   ·cases he
  ·exact hyp.elim
 obtain⟨a,b,bw⟩:=e
 subst bw
 exact H a b K hyp
theorem I.ad_ {M:List J->(ad->Prop)->Prop}(H:∀a K,I.AT.T [.d (.ints .u32 a)] K->M [.d (.ints .u32 a)] K)(args:List J)(K:ad->Prop)(hyp:I.AT.T args K):M args K:=by
 have e:∃a,args=[.d (.ints .u32 a)]:=by
  unfold I.AT.T lr at hyp
  split at hyp
  ·rename_i he
   simp only at he
   split at he
   ·exact⟨_,rfl⟩
   ·cases he
  ·exact hyp.elim
 obtain⟨a,bw⟩:=e
 subst bw
 exact H a K hyp
theorem I.aeB {M:List J->(J->Prop)->Prop}(H:∀a b K,I.Bo.T [.d (.ints .u32 a), .d (.ints .u32 b)] K->M [.d (.ints .u32 a), .d (.ints .u32 b)] K)(args:List J)(K:J->Prop)(hyp:I.Bo.T args K):M args K:=by
 have e:∃a b,args=[.d (.ints .u32 a), .d (.ints .u32 b)]:=by
  unfold I.Bo.T spec at hyp
  split at hyp
  ·rename_i he
   simp only at he
   split at he
   ·exact⟨_,_,rfl⟩
   ·cases he
  ·exact hyp.elim
 obtain⟨a,b,bw⟩:=e
 subst bw
 exact H a b K hyp
theorem I.aeC {M:List J->(J->Prop)->Prop}(H:∀a b K,I.Bp.T [.d (.ints .u32 a), .d (.ints .u32 b)] K->M [.d (.ints .u32 a), .d (.ints .u32 b)] K)(args:List J)(K:J->Prop)(hyp:I.Bp.T args K):M args K:=by
 have e:∃a b,args=[.d (.ints .u32 a), .d (.ints .u32 b)]:=by
  unfold I.Bp.T spec at hyp
  split at hyp
  ·rename_i he
   simp only at he
   split at he
   ·exact⟨_,_,rfl⟩
   ·cases he
  ·exact hyp.elim
 obtain⟨a,b,bw⟩:=e
 subst bw
 exact H a b K hyp
theorem I.adK {M:List J->(J->Prop)->Prop}(H:∀a d K,I.AB.T [.d (.ints .u32 a), .d (.int .u32 d)] K->M [.d (.ints .u32 a), .d (.int .u32 d)] K)(args:List J)(K:J->Prop)(hyp:I.AB.T args K):M args K:=by
 have e:∃a d,args=[.d (.ints .u32 a), .d (.int .u32 d)]:=by
  unfold I.AB.T spec at hyp
  split at hyp
  ·rename_i he
   simp only at he
   split at he
   ·exact⟨_,_,rfl⟩
   ·cases he
  ·exact hyp.elim
 obtain⟨a,d,bw⟩:=e
 subst bw
 exact H a d K hyp
theorem I.adn {M:List J->(J->Prop)->Prop}(H:∀a b K,I.Ap.T [.d (.ints .u32 a), .d (.ints .u32 b)] K->M [.d (.ints .u32 a), .d (.ints .u32 b)] K)(args:List J)(K:J->Prop)(hyp:I.Ap.T args K):M args K:=by
 have e:∃a b,args=[.d (.ints .u32 a), .d (.ints .u32 b)]:=by
  unfold I.Ap.T spec at hyp
  split at hyp
  ·rename_i he
   simp only at he
   split at he
   ·exact⟨_,_,rfl⟩
   ·cases he
  ·exact hyp.elim
 obtain⟨a,b,bw⟩:=e
 subst bw
 exact H a b K hyp
theorem I.aeF {M:List J->(J->Prop)->Prop}(H:∀a b K,I.Bs.T [.d (.ints .u32 a), .d (.ints .u32 b)] K->M [.d (.ints .u32 a), .d (.ints .u32 b)] K)(args:List J)(K:J->Prop)(hyp:I.Bs.T args K):M args K:=by
 have e:∃a b,args=[.d (.ints .u32 a), .d (.ints .u32 b)]:=by
  unfold I.Bs.T spec at hyp
  split at hyp
  ·rename_i he
   simp only at he
   split at he
   ·exact⟨_,_,rfl⟩
   ·cases he
  ·exact hyp.elim
 obtain⟨a,b,bw⟩:=e
 subst bw
 exact H a b K hyp
theorem I.ade {M:List J->(J->Prop)->Prop}(H:∀n K,I.z8.T [.d (.int .i64 n)] K->M [.d (.int .i64 n)] K)(args:List J)(K:J->Prop)(hyp:I.z8.T args K):M args K:=by
 have e:∃n,args=[.d (.int .i64 n)]:=by
  unfold I.z8.T spec at hyp
  split at hyp
  ·rename_i he
   simp only at he
   split at he
   ·exact⟨_,rfl⟩
   ·cases he
  ·exact hyp.elim
 obtain⟨n,bw⟩:=e
 subst bw
 exact H n K hyp
theorem I.adM {M:List J->(ad->Prop)->Prop}(H:∀a k K,I.AE.T [.d (.ints .u32 a), .d (.int .i64 k)] K->M [.d (.ints .u32 a), .d (.int .i64 k)] K)(args:List J)(K:ad->Prop)(hyp:I.AE.T args K):M args K:=by
 have e:∃a k,args=[.d (.ints .u32 a), .d (.int .i64 k)]:=by
  unfold I.AE.T lr at hyp
  split at hyp
  ·rename_i he
   simp only at he
   split at he
   ·exact⟨_,_,rfl⟩
   ·cases he
  ·exact hyp.elim
 obtain⟨a,k,bw⟩:=e
 subst bw
 exact H a k K hyp
theorem I.adf {M:List J->(J->Prop)->Prop}(H:∀a k K,I.z_.T [.d (.ints .u32 a), .d (.int .i64 k)] K->M [.d (.ints .u32 a), .d (.int .i64 k)] K)(args:List J)(K:J->Prop)(hyp:I.z_.T args K):M args K:=by
 have e:∃a k,args=[.d (.ints .u32 a), .d (.int .i64 k)]:=by
  unfold I.z_.T spec at hyp
  split at hyp
  ·rename_i he
   simp only at he
   split at he
   ·exact⟨_,_,rfl⟩
   ·cases he
  ·exact hyp.elim
 obtain⟨a,k,bw⟩:=e
 subst bw
 exact H a k K hyp
theorem I.adN {M:J->ad->List J->(ad->J->Prop)->Prop}(H:∀u v j K,I.AF.T (.vec 0) (.ints .u32 u) [.d (.ints .u32 v), .d (.int .i64 j)] K->M (.vec 0) (.ints .u32 u) [.d (.ints .u32 v), .d (.int .i64 j)] K)(a0:J)(bW:ad)(args:List J)(K:ad->J->Prop)(hyp:I.AF.T a0 bW args K):M a0 bW args K:=by
 have e:∃u v j,a0= .vec 0/\bW= .ints .u32 u/\args=[.d (.ints .u32 v), .d (.int .i64 j)]:=by
  unfold I.AF.T eO at hyp
  split at hyp
  ·rename_i he
   simp only at he
   split at he
   ·split at he
    ·rename_i ae
     obtain rfl:=ast ae
     exact⟨_,_,_,rfl,rfl,rfl⟩
    ·cases he
   ·cases he
  ·exact hyp.elim
 obtain⟨u,v,j,bE,an,az⟩:=e
 subst bE an az
 exact H u v j K hyp
theorem I.agh {M:List J->(J->Prop)->Prop}(H:∀a b K,I.CI.T [.d (.ints .u32 a), .d (.ints .u32 b)] K->M [.d (.ints .u32 a), .d (.ints .u32 b)] K)(args:List J)(K:J->Prop)(hyp:I.CI.T args K):M args K:=by
 have e:∃a b,args=[.d (.ints .u32 a), .d (.ints .u32 b)]:=by
  unfold I.CI.T spec at hyp
  split at hyp
  ·rename_i he
   simp only at he
   split at he
   ·exact⟨_,_,rfl⟩
   ·cases he
  ·exact hyp.elim
 obtain⟨a,b,bw⟩:=e
 subst bw
 exact H a b K hyp
end
section
open Go Go.bG
namespace I
def NR:List Int->(J->Prop)->Prop:=
 fun a K=>∃(aD:List Int->Prop),∃(m:List Int->Nat),aD a/\∀(v0:List Int),aD v0->(decide ((0:Int)<↑v0.length)=true->0<=IntKind.i64.wrap (↑v0.length-1)/\IntKind.i64.wrap (↑v0.length-1)<↑v0.length
 /\(decide (v0.getD (IntKind.i64.wrap (↑v0.length-1)).toNat 0=0)=true->0<=IntKind.i64.wrap (↑v0.length-1)/\IntKind.i64.wrap (↑v0.length-1)<=↑v0.length/\aD (List.take (IntKind.i64.wrap (↑v0.length-1)).toNat v0)
 /\m (List.take (IntKind.i64.wrap (↑v0.length-1)).toNat v0)<m v0)/\(decide (v0.getD (IntKind.i64.wrap (↑v0.length-1)).toNat 0=0)=false->K (J.d (R.ints .u32 v0))))/\(decide ((0:Int)<↑v0.length)=false
 ->K (J.d (R.ints .u32 v0)))
def KL:Int->Int->(J->Prop)->Prop:=
 fun x y K=>K (J.tup [J.d (R.int .u32 (IntKind.u32.wrap ((IntKind.u64.wrap (IntKind.u64.wrap x*IntKind.u64.wrap y)).fdiv 4294967296))),J.d (R.int .u32 (IntKind.u32.wrap (IntKind.u64.wrap (IntKind.u64.wrap x*IntKind.u64.wrap y))))])
def KM:Int->Int->Int->(J->Prop)->Prop:=
 fun x y c K=>K (J.tup [J.d (R.int .u32 (IntKind.u32.wrap (IntKind.u64.wrap (IntKind.u64.wrap (IntKind.u64.wrap x+IntKind.u64.wrap y)+IntKind.u64.wrap c)))),J.d (R.int .u32 (IntKind.u32.wrap ((IntKind.u64.wrap (IntKind.u64.wrap (IntKind.u64.wrap x+IntKind.u64.wrap y)+IntKind.u64.wrap c)).fdiv 4294967296)))])
def KF:Int->Int->Int->(J->Prop)->Prop:=
 fun x y c K=>K (J.tup [J.d (R.int .u32 (IntKind.u32.wrap (IntKind.u32.wrap (x-y)-c))),J.d (R.int .u32 ((bk BinOp.or .u32 (bk BinOp.and .u32 (bk BinOp.xor .u32 4294967295 x) y) (bk BinOp.and .u32 (bk BinOp.xor .u32 4294967295 (bk BinOp.xor .u32 x y)) (IntKind.u32.wrap (IntKind.u32.wrap (x-y)-c)))).fdiv 2147483648))])
def S9:Int->Int->Int->(J->Prop)->Prop:=
 fun h l y K=>∃(a8:Prop),(((!decide (y=0))=true->(decide (y<=h)=true->False)/\(decide (y<=h)=false->a8))/\((!decide (y=0))=false->a8))/\(a8->¬IntKind.u64.wrap y=0/\¬IntKind.u64.wrap y=0
 /\K (J.tup [J.d (R.int .u32 (IntKind.u32.wrap (IntKind.u64.wrap ((bk BinOp.or .u64 (IntKind.u64.wrap (IntKind.u64.wrap h*4294967296)) (IntKind.u64.wrap l)).tdiv (IntKind.u64.wrap y))))),J.d (R.int .u32 (IntKind.u32.wrap ((bk BinOp.or .u64 (IntKind.u64.wrap (IntKind.u64.wrap h*4294967296)) (IntKind.u64.wrap l)).tmod (IntKind.u64.wrap y))))]))
def LC:List Int->(J->Prop)->Prop:=
 fun a K=>∀b,(b=true->a=[])->(b=true->K (J.d (R.ints .u32 [])))/\(b=false->((0:Int)+↑a.length)*(4:Int)<=(70368744177664:Int)/\K (J.d (R.ints .u32 ([]++a))))
def NS:List Int->(J->Prop)->Prop:=
 fun a K=>(aZ a/\a.length<=1000000000)/\(ah (val a)).length<=100000000/\K (J.d (R.ints .u32 (ah (val a))))
def K8:Int->(J->Prop)->Prop:=
 fun u K=>(aZ [IntKind.u32.wrap u,IntKind.u32.wrap (u.fdiv 4294967296)]/\[IntKind.u32.wrap u,IntKind.u32.wrap (u.fdiv 4294967296)].length<=1000000000)/\K (J.d (R.ints .u32 (ah (val [IntKind.u32.wrap u,IntKind.u32.wrap (u.fdiv 4294967296)]))))
def L2:List Int->(J->Prop)->Prop:=
 fun a K=>∃(aD:Int->Int->Prop),∃(m:Int->Int->Nat),aD 0 0/\∀(v3 aV:Int),aD v3 aV->(decide (aV<↑a.length)=true->0<=aV/\aV<↑a.length/\0<=IntKind.i64.wrap (32*aV)/\aD (bk BinOp.or .u64 v3 (IntKind.u64.wrap (IntKind.u64.wrap (a.getD aV.toNat 0)*2^min (IntKind.i64.wrap (32*aV)).toNat 64))) (IntKind.i64.wrap (aV+1))
 /\m (bk BinOp.or .u64 v3 (IntKind.u64.wrap (IntKind.u64.wrap (a.getD aV.toNat 0)*2^min (IntKind.i64.wrap (32*aV)).toNat 64))) (IntKind.i64.wrap (aV+1))<m v3 aV)/\(decide (aV<↑a.length)=false
 ->K (J.d (R.int .u64 v3)))
def O2:List Int->List Int->(J->Prop)->Prop:=
  fun(a b:List Int) (K:J->Prop)=>
 (I.aZ a/\List.length a<=(1000000000:Nat))/\
   (I.aZ b/\List.length b<=(1000000000:Nat))/\
     ((!decide ((Nat.cast:Nat->Int) (List.length (I.ah (I.val a)))=(Nat.cast:Nat->Int) (List.length (I.ah (I.val b)))))=true->
        (decide ((Nat.cast:Nat->Int) (List.length (I.ah (I.val a)))<(Nat.cast:Nat->Int) (List.length (I.ah (I.val b))))=true->
          K (J.d (R.int IntKind.i64 (-1:Int))))/\
          (decide ((Nat.cast:Nat->Int) (List.length (I.ah (I.val a)))<(Nat.cast:Nat->Int) (List.length (I.ah (I.val b))))=
            false->
            K (J.d (R.int IntKind.i64 (1:Int)))))/\
       ((!decide ((Nat.cast:Nat->Int) (List.length (I.ah (I.val a)))=(Nat.cast:Nat->Int) (List.length (I.ah (I.val b)))))=false->
         ∃(aD:Int->Prop),
          ∃(m:Int->Nat),
           aD (IntKind.wrap IntKind.i64 ((Nat.cast:Nat->Int) (List.length (I.ah (I.val a)))-(1:Int)))/\
            ∀(v5:Int),
                 aD v5->
                   (decide ((0:Int)<=v5)=true->
                     (0:Int)<=v5/\
                       v5<(Nat.cast:Nat->Int) (List.length (I.ah (I.val a)))/\
                        (0:Int)<=v5/\
                             v5<(Nat.cast:Nat->Int) (List.length (I.ah (I.val b)))/\
                           (decide
                             (List.getD (I.ah (I.val a)) (Int.toNat v5) (0:Int)<
                               List.getD (I.ah (I.val b)) (Int.toNat v5) (0:Int))=
                             true->
                                 K (J.d (R.int IntKind.i64 (-1:Int))))/\
                             (decide
                               (List.getD (I.ah (I.val a)) (Int.toNat v5) (0:Int)<
                                 List.getD (I.ah (I.val b)) (Int.toNat v5) (0:Int))=
                               false->
                                 (0:Int)<=v5/\
                                   v5<(Nat.cast:Nat->Int) (List.length (I.ah (I.val a)))/\
                                    (0:Int)<=v5/\
                                      v5<(Nat.cast:Nat->Int) (List.length (I.ah (I.val b)))/\
                                       (decide
                                         (List.getD (I.ah (I.val b)) (Int.toNat v5) (0:Int)<
                                                  List.getD (I.ah (I.val a)) (Int.toNat v5) (0:Int))=
                                         true->
                                          K (J.d (R.int IntKind.i64 (1:Int))))/\
                                         (decide
                                           (List.getD (I.ah (I.val b)) (Int.toNat v5) (0:Int)<
                                                  List.getD (I.ah (I.val a)) (Int.toNat v5) (0:Int))=
                                           false->
                                          aD (IntKind.wrap IntKind.i64 (v5-(1:Int)))/\
                                           m (IntKind.wrap IntKind.i64 (v5-(1:Int)))<m v5)))/\
                   (decide ((0:Int)<=v5)=false->K (J.d (R.int IntKind.i64 (0:Int)))))
def Pc:List Int->List Int->(J->Prop)->Prop:=
  fun(a b:List Int) (K:J->Prop)=>
 ∃(a8:List Int->List Int->Prop),
  ((decide ((Nat.cast:Nat->Int) (List.length a)<(Nat.cast:Nat->Int) (List.length b))=true->a8 b a)/\
     (decide ((Nat.cast:Nat->Int) (List.length a)<(Nat.cast:Nat->Int) (List.length b))=false->a8 a b))/\
    ∀(v0 v1:List Int),
     a8 v0 v1->
      (0:Int)<=IntKind.wrap IntKind.i64 ((Nat.cast:Nat->Int) (List.length v0)+(1:Int))/\
        IntKind.wrap IntKind.i64 ((Nat.cast:Nat->Int) (List.length v0)+(1:Int))<=
         IntKind.wrap IntKind.i64 ((Nat.cast:Nat->Int) (List.length v0)+(1:Int))/\
            IntKind.wrap IntKind.i64 ((Nat.cast:Nat->Int) (List.length v0)+(1:Int))*(4:Int)<=(281474976710656:Int)/\
             ∃(aD:Int->Int->List Int->Prop),
              ∃(m:Int->Int->List Int->Nat),
               aD (0:Int) (0:Int)
                    (List.replicate (Int.toNat (IntKind.wrap IntKind.i64 ((Nat.cast:Nat->Int) (List.length v0)+(1:Int))))
                      (0:Int))/\
                   ∀(v6 iA:Int) (ai:List Int),
                    aD v6 iA ai->
                     (decide (iA<(Nat.cast:Nat->Int) (List.length v0))=true->
                       (0:Int)<=iA/\
                         iA<(Nat.cast:Nat->Int) (List.length v0)/\
                          ∃(a8:Int->Prop),
                           ((decide (iA<(Nat.cast:Nat->Int) (List.length v1))=true->
                                  (0:Int)<=iA/\
                                    iA<(Nat.cast:Nat->Int) (List.length v1)/\
                                     (false,ad.ints IntKind.u32 ai)=(false,ad.ints IntKind.u32 ai)/\
                                         a8 (List.getD v1 (Int.toNat iA) (0:Int)))/\
                                 (decide (iA<(Nat.cast:Nat->Int) (List.length v1))=false->
                                  (false,ad.ints IntKind.u32 ai)=(false,ad.ints IntKind.u32 ai)/\
                                    a8 (0:Int)))/\
                             ∀(v9:Int),
                                 a8 v9->
                                  (I.L (List.getD v0 (Int.toNat iA) (0:Int))/\
                                     I.L v9/\(0:Int)<=v6/\v6<=(1:Int))/\
                                    (0:Int)<=iA/\
                                     iA<(Nat.cast:Nat->Int) (List.length ai)/\
                                         aD
                                          ((List.getD v0 (Int.toNat iA) (0:Int)+v9+v6)/
                                            (4294967296:Int))
                                          (IntKind.wrap IntKind.i64 (iA+(1:Int)))
                                          (List.set ai (Int.toNat iA)
                                            ((List.getD v0 (Int.toNat iA) (0:Int)+v9+v6)%
                                              (4294967296:Int)))/\
                                          m
                                           ((List.getD v0 (Int.toNat iA) (0:Int)+v9+v6)/
                                             (4294967296:Int))
                                           (IntKind.wrap IntKind.i64 (iA+(1:Int)))
                                           (List.set ai (Int.toNat iA)
                                                 ((List.getD v0 (Int.toNat iA) (0:Int)+v9+v6)%
                                                   (4294967296:Int)))<
                                           m v6 iA ai)/\
                       (decide (iA<(Nat.cast:Nat->Int) (List.length v0))=false->
                         (0:Int)<=(Nat.cast:Nat->Int) (List.length v0)/\
                           (Nat.cast:Nat->Int) (List.length v0)<(Nat.cast:Nat->Int) (List.length ai)/\
                             (I.aZ (List.set ai (Int.toNat ((Nat.cast:Nat->Int) (List.length v0))) v6)/\
                                  List.length (List.set ai (Int.toNat ((Nat.cast:Nat->Int) (List.length v0))) v6)<=
                                 (1000000000:Nat))/\
                               K
                                  (J.d
                                 (R.ints IntKind.u32
                                  (I.ah (I.val (List.set ai (Int.toNat ((Nat.cast:Nat->Int) (List.length v0))) v6))))))
def Pd:List Int->List Int->(J->Prop)->Prop:=
 fun a b K=>(aZ a/\a.length<=(1000000000:Nat))/\(aZ b/\b.length<=(1000000000:Nat))/\(0:Int)<=IntKind.i64.wrap (↑(ah (val a)).length+↑(ah (val b)).length)/\IntKind.i64.wrap (↑(ah (val a)).length+↑(ah (val b)).length)<=IntKind.i64.wrap (↑(ah (val a)).length+↑(ah (val b)).length)
 /\IntKind.i64.wrap (↑(ah (val a)).length+↑(ah (val b)).length)*(4:Int)<=(281474976710656:Int)/\∃(aD:Int->List Int->Prop),∃(m:Int->List Int->Nat),aD (0:Int) (List.replicate (IntKind.i64.wrap (↑(ah (val a)).length+↑(ah (val b)).length)).toNat (0:Int))
 /\∀(fo:Int) (ai:List Int),aD fo ai->(decide (fo<↑(ah (val a)).length)=true->(0:Int)<=fo/\fo<↑(ah (val a)).length/\∃(fz:Int->Int->List Int->Prop),∃(e_:Int->Int
 ->List Int->Nat),fz (0:Int) (0:Int) ai/\∀(aV fS:Int) (bq:List Int),fz aV fS bq->(decide (fS<↑(ah (val b)).length)=true->(0:Int)<=fS/\fS<↑(ah (val b)).length/\(L ((ah (val a)).getD fo.toNat (0:Int))
 /\L ((ah (val b)).getD fS.toNat (0:Int)))/\(0:Int)<=IntKind.i64.wrap (fo+fS)/\IntKind.i64.wrap (fo+fS)<↑bq.length/\(L ((ah (val a)).getD fo.toNat (0:Int)*(ah (val b)).getD fS.toNat (0:Int)%(4294967296:Int))
 /\L (bq.getD (IntKind.i64.wrap (fo+fS)).toNat (0:Int))/\(0:Int)<=(0:Int)/\(0:Int)<=(1:Int))/\(L (((ah (val a)).getD fo.toNat (0:Int)*(ah (val b)).getD fS.toNat (0:Int)%(4294967296:Int)+bq.getD (IntKind.i64.wrap (fo+fS)).toNat (0:Int)+(0:Int))%(4294967296:Int))
 /\L aV/\(0:Int)<=(0:Int)/\(0:Int)<=(1:Int))/\(0:Int)<=IntKind.i64.wrap (fo+fS)/\IntKind.i64.wrap (fo+fS)<↑bq.length/\fz (IntKind.u32.wrap (IntKind.u32.wrap ((ah (val a)).getD fo.toNat (0:Int)*(ah (val b)).getD fS.toNat (0:Int)/(4294967296:Int)+((ah (val a)).getD fo.toNat (0:Int)*(ah (val b)).getD fS.toNat (0:Int)%(4294967296:Int)+bq.getD (IntKind.i64.wrap (fo+fS)).toNat (0:Int)+(0:Int))/(4294967296:Int))+(((ah (val a)).getD fo.toNat (0:Int)*(ah (val b)).getD fS.toNat (0:Int)%(4294967296:Int)+bq.getD (IntKind.i64.wrap (fo+fS)).toNat (0:Int)+(0:Int))%(4294967296:Int)+aV+(0:Int))/(4294967296:Int))) (IntKind.i64.wrap (fS+(1:Int))) (bq.set (IntKind.i64.wrap (fo+fS)).toNat ((((ah (val a)).getD fo.toNat (0:Int)*(ah (val b)).getD fS.toNat (0:Int)%(4294967296:Int)+bq.getD (IntKind.i64.wrap (fo+fS)).toNat (0:Int)+(0:Int))%(4294967296:Int)+aV+(0:Int))%(4294967296:Int)))
 /\e_ (IntKind.u32.wrap (IntKind.u32.wrap ((ah (val a)).getD fo.toNat (0:Int)*(ah (val b)).getD fS.toNat (0:Int)/(4294967296:Int)+((ah (val a)).getD fo.toNat (0:Int)*(ah (val b)).getD fS.toNat (0:Int)%(4294967296:Int)+bq.getD (IntKind.i64.wrap (fo+fS)).toNat (0:Int)+(0:Int))/(4294967296:Int))+(((ah (val a)).getD fo.toNat (0:Int)*(ah (val b)).getD fS.toNat (0:Int)%(4294967296:Int)+bq.getD (IntKind.i64.wrap (fo+fS)).toNat (0:Int)+(0:Int))%(4294967296:Int)+aV+(0:Int))/(4294967296:Int))) (IntKind.i64.wrap (fS+(1:Int))) (bq.set (IntKind.i64.wrap (fo+fS)).toNat ((((ah (val a)).getD fo.toNat (0:Int)*(ah (val b)).getD fS.toNat (0:Int)%(4294967296:Int)+bq.getD (IntKind.i64.wrap (fo+fS)).toNat (0:Int)+(0:Int))%(4294967296:Int)+aV+(0:Int))%(4294967296:Int)))<e_ aV fS bq)
 /\(decide (fS<↑(ah (val b)).length)=false->(0:Int)<=IntKind.i64.wrap (fo+↑(ah (val b)).length)/\IntKind.i64.wrap (fo+↑(ah (val b)).length)<↑bq.length/\aD (IntKind.i64.wrap (fo+(1:Int))) (bq.set (IntKind.i64.wrap (fo+↑(ah (val b)).length)).toNat aV)
 /\m (IntKind.i64.wrap (fo+(1:Int))) (bq.set (IntKind.i64.wrap (fo+↑(ah (val b)).length)).toNat aV)<m fo ai))/\(decide (fo<↑(ah (val a)).length)=false->(aZ ai/\ai.length<=(1000000000:Nat))
 /\K (J.d (R.ints .u32 (ah (val ai)))))
def O3:List Int->List Int->(J->Prop)->Prop:=
  fun(a b:List Int) (K:J->Prop)=>
 (I.aF a/\I.aF b)/\
   (decide (I.cmp (I.val a) (I.val b)<(0:Int))=true->
     K (J.tup [J.d (R.ints IntKind.u32 []),J.d (R.int IntKind.i64 (1:Int))]))/\
     (decide (I.cmp (I.val a) (I.val b)<(0:Int))=false->
       (I.aZ a/\List.length a<=(1000000000:Nat))/\
         (I.aZ b/\List.length b<=(1000000000:Nat))/\
           (0:Int)<=(Nat.cast:Nat->Int) (List.length (I.ah (I.val a)))/\
             (Nat.cast:Nat->Int) (List.length (I.ah (I.val a)))<=(Nat.cast:Nat->Int) (List.length (I.ah (I.val a)))/\
               (Nat.cast:Nat->Int) (List.length (I.ah (I.val a)))*(4:Int)<=(281474976710656:Int)/\
                 ∃(aD:Int->Int->List Int->Prop),
                  ∃(m:Int->Int->List Int->Nat),
                   aD (0:Int) (0:Int)
                        (List.replicate (Int.toNat ((Nat.cast:Nat->Int) (List.length (I.ah (I.val a))))) (0:Int))/\
                    ∀(bY v24:Int) (ai:List Int),
                     aD bY v24 ai->
                      (decide (v24<(Nat.cast:Nat->Int) (List.length (I.ah (I.val a))))=true->
                             (0:Int)<=v24/\
                               v24<(Nat.cast:Nat->Int) (List.length (I.ah (I.val a)))/\
                                ∃(a8:Int->Prop),
                                  ((decide (v24<(Nat.cast:Nat->Int) (List.length (I.ah (I.val b))))=true->
                                    (0:Int)<=v24/\
                                      v24<(Nat.cast:Nat->Int) (List.length (I.ah (I.val b)))/\
                                            (false,ad.ints IntKind.u32 ai)=(false,ad.ints IntKind.u32 ai)/\
                                              a8 (List.getD (I.ah (I.val b)) (Int.toNat v24) (0:Int)))/\
                                   (decide (v24<(Nat.cast:Nat->Int) (List.length (I.ah (I.val b))))=false->
                                    (false,ad.ints IntKind.u32 ai)=(false,ad.ints IntKind.u32 ai)/\
                                      a8 (0:Int)))/\
                                    ∀(v10:Int),
                                   a8 v10->
                                    (I.L (List.getD (I.ah (I.val a)) (Int.toNat v24) (0:Int))/\
                                            I.L v10/\(0:Int)<=bY/\bY<=(1:Int))/\
                                      (0:Int)<=v24/\
                                            v24<(Nat.cast:Nat->Int) (List.length ai)/\
                                             aD
                                              (if
                                                List.getD (I.ah (I.val a)) (Int.toNat v24) (0:Int)-
                                                        v10-
                                                     bY<
                                                 (0:Int)then
                                                (1:Int)
                                              else(0:Int))
                                              (IntKind.wrap IntKind.i64 (v24+(1:Int)))
                                              (List.set ai (Int.toNat v24)
                                                ((List.getD (I.ah (I.val a)) (Int.toNat v24) (0:Int)-
                                                     v10-
                                                   bY)%
                                                  (4294967296:Int)))/\
                                              m
                                               (if
                                                 List.getD (I.ah (I.val a)) (Int.toNat v24) (0:Int)-
                                                  v10-
                                                        bY<
                                                     (0:Int)then
                                                 (1:Int)
                                               else(0:Int))
                                               (IntKind.wrap IntKind.i64 (v24+(1:Int)))
                                               (List.set ai (Int.toNat v24)
                                                 ((List.getD (I.ah (I.val a)) (Int.toNat v24) (0:Int)-
                                                        v10-
                                                     bY)%
                                                   (4294967296:Int)))<
                                               m bY v24 ai)/\
                        (decide (v24<(Nat.cast:Nat->Int) (List.length (I.ah (I.val a))))=false->
                             (I.aZ ai/\List.length ai<=(1000000000:Nat))/\
                               K
                                (J.tup
                                  [J.d (R.ints IntKind.u32 (I.ah (I.val ai))),
                                    J.d (R.int IntKind.i64 (0:Int))])))
def MR:List Int->Int->(J->Prop)->Prop:=
  fun(a:List Int) (d:Int) (K:J->Prop)=>
 (0:Int)<=(Nat.cast:Nat->Int) (List.length a)/\
   (Nat.cast:Nat->Int) (List.length a)<=(Nat.cast:Nat->Int) (List.length a)/\
     (Nat.cast:Nat->Int) (List.length a)*(4:Int)<=(281474976710656:Int)/\
       ∃(aD:Int->Int->List Int->Prop),
        ∃(m:Int->Int->List Int->Nat),
         aD (0:Int) (IntKind.wrap IntKind.i64 ((Nat.cast:Nat->Int) (List.length a)-(1:Int)))
              (List.replicate (Int.toNat ((Nat.cast:Nat->Int) (List.length a))) (0:Int))/\
          ∀(bY aV:Int) (ai:List Int),
           aD bY aV ai->
            (decide ((0:Int)<=aV)=true->
              (0:Int)<=aV/\
                aV<(Nat.cast:Nat->Int) (List.length a)/\
                 (I.L bY/\I.L (List.getD a (Int.toNat aV) (0:Int))/\I.L d/\bY<d)/\
                      (0:Int)<=aV/\
                    aV<(Nat.cast:Nat->Int) (List.length ai)/\
                     aD ((bY*(4294967296:Int)+List.getD a (Int.toNat aV) (0:Int))%d)
                          (IntKind.wrap IntKind.i64 (aV-(1:Int)))
                          (List.set ai (Int.toNat aV)
                               ((bY*(4294967296:Int)+List.getD a (Int.toNat aV) (0:Int))/d))/\
                      m ((bY*(4294967296:Int)+List.getD a (Int.toNat aV) (0:Int))%d)
                          (IntKind.wrap IntKind.i64 (aV-(1:Int)))
                          (List.set ai (Int.toNat aV)
                            ((bY*(4294967296:Int)+List.getD a (Int.toNat aV) (0:Int))/d))<
                          m bY aV ai)/\
                 (decide ((0:Int)<=aV)=false->
                   (I.aZ ai/\List.length ai<=(1000000000:Nat))/\
                     K (J.tup [J.d (R.ints IntKind.u32 (I.ah (I.val ai))),J.d (R.int IntKind.u32 bY)]))
def LD:List Int->List Int->(J->Prop)->Prop:=
  fun(a b:List Int) (K:J->Prop)=>
 ((!decide ((Nat.cast:Nat->Int) (List.length a)=(Nat.cast:Nat->Int) (List.length b)))=true->K (J.d (R.bool false)))/\
   ((!decide ((Nat.cast:Nat->Int) (List.length a)=(Nat.cast:Nat->Int) (List.length b)))=false->
     ∃(aD:Int->Prop),
      ∃(m:Int->Nat),
       aD (0:Int)/\
        ∀(v5:Int),
             aD v5->
               (decide (v5<(Nat.cast:Nat->Int) (List.length a))=true->
                 (0:Int)<=v5/\
                   v5<(Nat.cast:Nat->Int) (List.length a)/\
                    (0:Int)<=v5/\
                      v5<(Nat.cast:Nat->Int) (List.length b)/\
                       ((!decide (List.getD a (Int.toNat v5) (0:Int)=List.getD b (Int.toNat v5) (0:Int)))=
                          true->
                          K (J.d (R.bool false)))/\
                         ((!decide (List.getD a (Int.toNat v5) (0:Int)=List.getD b (Int.toNat v5) (0:Int)))=
                            false->
                           aD (IntKind.wrap IntKind.i64 (v5+(1:Int)))/\
                            m (IntKind.wrap IntKind.i64 (v5+(1:Int)))<m v5))/\
                 (decide (v5<(Nat.cast:Nat->Int) (List.length a))=false->K (J.d (R.bool true))))
end I
end
section
open Go Go.bG
namespace I
theorem bl {x:Int}(h:-9223372036854775808<=x/\x<9223372036854775808):IntKind.wrap .i64 x=x:=by
 unfold IntKind.wrap
 simp only[IntKind.signed,IntKind.bits,Bool.true_and,asw,ge_iff_le]
 split<;>omega
theorem cl {x:Int}(h:0<=x/\x<18446744073709551616):IntKind.wrap .u64 x=x:=by
 unfold IntKind.wrap
 simp[IntKind.signed,IntKind.bits]
 omega
theorem gF {x:Int}(h:0<=x/\x<4294967296):IntKind.wrap .u32 x=x:=by
 unfold IntKind.wrap
 simp[IntKind.signed,IntKind.bits]
 omega
theorem jH (x:Int):IntKind.wrap .u32 x=x%4294967296:=by
 unfold IntKind.wrap
 simp[IntKind.signed,IntKind.bits]
theorem GN (x:Int):IntKind.wrap .u64 x=x%18446744073709551616:=by
 unfold IntKind.wrap
 simp[IntKind.signed,IntKind.bits]
end I
namespace I
theorem G7 (p q s:Nat)(aN:q<2^s)(h:p*2^s+q<18446744073709551616):bk .or .u64 ((p*2^s:Nat):Int) (q:Int)=((p*2^s+q:Nat):Int):=by
 have an:((BitVec.ofInt 64 ((p*2^s:Nat):Int))|||(BitVec.ofInt 64 (q:Int))).toNat=p*2^s+q:=by
  rw[BitVec.toNat_or,BitVec.toNat_ofInt,BitVec.toNat_ofInt]
  have a1:(((p*2^s:Nat):Int)%((2^64:Nat):Int)).toNat=p*2^s:=by
   rw[auK (by omega) (by omega)];exact asu _
  have a2:((q:Int)%((2^64:Nat):Int)).toNat=q:=by
   rw[auK (by omega) (by omega)];simp
  rw[a1,a2,<-Nat.shiftLeft_eq,<-Nat.shiftLeft_add_eq_or_of_lt aN]
 show IntKind.wrap .u64 _=_
 have az:((BitVec.ofInt (IntKind.u64).bits ((p*2^s:Nat):Int))|||(BitVec.ofInt (IntKind.u64).bits (q:Int))).toNat=p*2^s+q:=an
 rw[az,cl (by omega)]
theorem xF {h l:Int}(b2:L h)(aq:L l):bk .or .u64 (h*4294967296) l=h*4294967296+l:=by
 unfold L at b2 aq
 have px:(2:Nat)^32=4294967296:=rfl
 have:=G7 h.toNat l.toNat 32 (by rw[px];omega) (by rw[px];omega)
 rw[px]at this
 have an:((h.toNat*4294967296:Nat):Int)=h*4294967296:=by omega
 have az:((l.toNat:Nat):Int)=l:=by omega
 rw[auB,an,az]at this
 exact this
theorem adS (x y:Int)(K:J->Prop)(h:BW.T [.d (.int .u32 x), .d (.int .u32 y)] K):KL x y K:=by
 obtain⟨⟨af,a6⟩,ab⟩:=h
 unfold L at af a6
 unfold KL
 have DN:0<=x*y:=Int.mul_nonneg af.1 a6.1
 have aiU:x*y<=4294967295*4294967295:=Int.mul_le_mul (by omega) (by omega) a6.1 (by omega)
 rw[cl (x:=x) (by omega),cl (x:=y) (by omega),cl (x:=x*y) (by omega),jH (x*y),as_ _ (by omega),gF (by omega)]
 exact ab
theorem adT (x y c:Int)(K:J->Prop)(h:BX.T [.d (.int .u32 x), .d (.int .u32 y), .d (.int .u32 c)] K):KM x y c K:=by
 obtain⟨⟨af,a6,U,aa⟩,ab⟩:=h
 unfold L at af a6
 unfold KM
 rw[cl (x:=x) (by omega),cl (x:=y) (by omega),cl (x:=x+y) (by omega),cl (x:=c) (by omega),cl (x:=x+y+c) (by omega),jH (x+y+c),as_ _ (by omega),gF (by omega)]
 exact ab
theorem adU (h l y:Int)(K:J->Prop)(b2:BZ.T [.d (.int .u32 h), .d (.int .u32 l), .d (.int .u32 y)] K):S9 h l y K:=by
 obtain⟨⟨b2,aq,a6,bB⟩,ab⟩:=b2
 have lK:=xF b2 aq
 unfold L at b2 aq a6
 refine⟨True,⟨fun _=>⟨fun h=> ?_,fun _=>trivial⟩,fun _=>trivial⟩,fun _=> ?_⟩
 ·simp at h;omega
 have yB:IntKind.wrap .u64 y=y:=cl (by omega)
 have tN:0<=h*4294967296+l:=by omega
 have nF:(h*4294967296+l)/y<4294967296:=Int.ediv_lt_of_lt_mul (by omega) (by
  have:(h+1)*4294967296<=y*4294967296:=Int.mul_le_mul_of_nonneg_right (by omega) (by omega)
  rw[Int.mul_comm 4294967296 y];omega)
 have qG:0<=(h*4294967296+l)/y:=Int.ediv_nonneg tN a6.1
 have vR:0<=(h*4294967296+l)%y:=Int.emod_nonneg _ (by omega)
 have ajc:(h*4294967296+l)%y<y:=Int.emod_lt_of_pos _ (by omega)
 rw[yB,cl (x:=h) (by omega),cl (x:=h*4294967296) (by omega),cl (x:=l) (by omega),lK,auP tN,aus tN,cl (x:=(h*4294967296+l)/y) (by omega),
  gF (x:=(h*4294967296+l)/y) (by omega),gF (x:=(h*4294967296+l)%y) (by omega)]
 exact⟨by omega,by omega,ab⟩
theorem aeK (a:List Int)(K:J->Prop)(h:B0.T [.d (.ints .u32 a)] K):LC a K:=by
 obtain⟨aq,ab⟩:=h
 unfold LC
 intro b ae
 refine⟨fun h=> ?_,fun _=>⟨by omega, ?_⟩⟩
 ·rw[ae h]at ab;exact ab
 ·exact ab
theorem ahy (a:List Int)(K:J->Prop)(h:CG.T [.d (.ints .u32 a)] K):NR a K:=by
 obtain⟨⟨aq,ca⟩,ab⟩:=h
 unfold NR
 refine⟨fun v=>aZ v/\val v=val a/\v.length<=a.length,fun v=>v.length,⟨aq,rfl,asz _⟩,fun v ⟨aM,he,hle⟩=>⟨fun h=> ?_,fun h=> ?_⟩⟩
 ·simp only[asw]at h
  have e:IntKind.wrap .i64 ((Nat.cast:Nat->Int) v.length-1)=((v.length-1:Nat):Int):=by rw[bl (by omega)];omega
  rw[e,asu]
  refine⟨by omega,by omega,fun aE=>⟨by omega,by omega,⟨aM.take _, ?_,by simp;omega⟩,by simp;omega⟩,fun aE=> ?_⟩
  ·simp only[asw]at aE
   rw[Tq aE,he]
  ·simp only[asv]at aE
   rw[<-uF aM (wH (.inr aE)),he];exact ab
 ·simp only[asv]at h
  have:v=[]:=atc.1 (by omega)
  rw[<-uF aM (wH (.inl this)),he];exact ab
theorem ahz (a:List Int)(K:J->Prop)(h:CH.T [.d (.ints .u32 a)] K):NS a K:=by
 obtain⟨⟨aq,ar⟩,ab⟩:=h
 unfold NS
 refine⟨⟨aq,by omega⟩, ?_,ab⟩
 have:=eH.2 (gN aq)
 omega
theorem Q1 {x y:Int}(_:aZ [x,y]):val [x,y]=x.toNat+4294967296*y.toNat:=by simp[val]
theorem aee (u:Int)(K:J->Prop)(h:Az.T [.d (.int .u64 u)] K):K8 u K:=by
 obtain⟨hu,ab⟩:=h
 unfold K8
 rw[as_ _ (by omega),jH u,gF (x:=u/4294967296) (by omega)]
 have aq:aZ [u%4294967296,u/4294967296]:= .mk (by omega) (.mk (by omega) .nil)
 refine⟨⟨aq,by simp⟩, ?_⟩
 rw[Q1 aq]
 have:(u%4294967296).toNat+4294967296*(u/4294967296).toNat=u.toNat:=by omega
 rw[this];exact ab
end I
end
section
open Go Go.bG
namespace I
theorem aF.RC {a:List Int}(h:aF a):aZ a:=h.1
theorem hQ {a:List Int}(h:aF a):(ah (val a)).length<=a.length:=eH.2 (gN h.1)
theorem aiq (a b:List Int)(K:J->Prop)(h:h5.T [.d (.ints .u32 a), .d (.ints .u32 b)] K):Pc a b K:=by
 obtain⟨⟨aC,ae⟩,ab⟩:=h
 unfold Pc
 refine⟨fun x y=>aF x/\aF y/\val x+val y=val a+val b/\y.length<=x.length,⟨fun h=>⟨ae,aC,Nat.add_comm _ _, ?_⟩,fun h=>⟨aC,ae,rfl, ?_⟩⟩,fun x y ⟨af,a6,aM,hle⟩=> ?_⟩
 ·simp only[asw]at h;omega
 ·simp only[asv]at h;omega
 have tH:=af.2
 have e:IntKind.wrap .i64 ((Nat.cast:Nat->Int) x.length+1)=((x.length+1:Nat):Int):=by rw[bl (by omega)];omega
 rw[e,asu]
 refine⟨by omega,by omega,by omega,fun c i o=>aZ o/\o.length=x.length+1/\0<=c/\c<=1/\0<=i/\i<=x.length/\cW o i.toNat+4294967296^i.toNat*c.toNat=cW x i.toNat+cW y i.toNat/\∀j,i.toNat<=j->o.getD j 0=0,
  fun c i o=>x.length-i.toNat,⟨aZ.mI _,by simp,by omega,by omega,by omega,by omega,by simp[hr],fun j _=>by simp[ass,atN];split<;>rfl⟩, ?_⟩
 rintro c i o ⟨aH,e9,tF,gR,rY,mf,l8,bc⟩
 refine⟨fun h=> ?_,fun h=> ?_⟩
 ·simp only[asw]at h
  obtain⟨n,rfl⟩:∃n:Nat,i=n:=⟨i.toNat,by omega⟩
  simp only[asu]at l8 bc⊢
  refine⟨by omega,by omega,fun e=>e=y.getD n 0,⟨fun aa=>⟨by omega,by simpa using aa,trivial,rfl⟩,fun aa=>⟨trivial, ?_⟩⟩, ?_⟩
  ·simp only[asv]at aa
   simp[ass,as5 (show y.length<=n by omega)]
  ·rintro e rfl
   have qA:=af.1 n
   have yB:=a6.1 n
   refine⟨⟨qA,yB,tF,gR⟩,by omega,by omega, ?_⟩
   have az:IntKind.wrap .i64 ((n:Int)+1)=((n+1:Nat):Int):=by rw[bl (by omega)];omega
   rw[az]
   refine⟨⟨aH.set _ (by omega),by simpa using e9,by omega,by omega,by omega,by omega, ?_,fun j aK=> ?_⟩, ?_⟩
   ·rw[asu,fc,fc,fc,qb _ _ _ _ (asz _),ef,asq ⟨rfl,by omega⟩]
    have bK:((x.getD n 0+y.getD n 0+c)%4294967296).toNat+4294967296*((x.getD n 0+y.getD n 0+c)/4294967296).toNat=(x.getD n 0).toNat+(y.getD n 0).toNat+c.toNat:=by omega
    rw[asU]
    generalize ((x.getD n 0+y.getD n 0+c)%4294967296).toNat=p at bK⊢
    generalize ((x.getD n 0+y.getD n 0+c)/4294967296).toNat=q at bK⊢
    generalize 4294967296^n=w at l8⊢
    have cm:w*(p+4294967296*q)=w*((x.getD n 0).toNat+(y.getD n 0).toNat+c.toNat):=by rw[bK]
    simp only[asG]at cm⊢
    rw[as4]
    omega
   ·rw[ef,asp (by simp at aK;omega)]
    exact bc j (by simp at aK;omega)
   ·simp;omega
 ·simp only[asv]at h
  obtain rfl:i=x.length:=by omega
  simp only[asu]at l8 bc⊢
  have Y_:aZ (o.set x.length c):=aH.set _ (by omega)
  refine⟨by omega,by omega,⟨Y_,by simp[e9];omega⟩, ?_⟩
  have:val (o.set x.length c)=val a+val b:=by
   rw[<-gi (o.set x.length c) (i:=x.length+1) (by simp[e9]),fc,qb _ _ _ _ (asz _),ef,asq ⟨rfl,by omega⟩,l8,gi x (asz _),gi y hle,aM]
  rw[this];exact ab
end I
end
section
open Go Go.bG
namespace I
theorem aeL (a b:List Int)(K:J->Prop)(h:CI.T [.d (.ints .u32 a), .d (.ints .u32 b)] K):LD a b K:=by
 obtain⟨⟨aC,ae⟩,ab⟩:=h
 unfold LD
 refine⟨fun h=> ?_,fun h=> ?_⟩
 ·have cV:a≠b:=fun e=>by subst e;simp at h
  rw[atQ cV]at ab;exact ab
 ·have hlen:a.length=b.length:=by
   have:((Nat.cast:Nat->Int) a.length)=b.length:=by simpa using h
   omega
  refine⟨fun i=>0<=i/\i<=a.length/\∀j,j<i.toNat->a.getD j 0=b.getD j 0,fun i=>a.length-i.toNat,⟨by omega,by omega,fun j aK=>by simp at aK⟩,fun i ⟨aE,U,aK⟩=>⟨fun aa=> ?_,fun aa=> ?_⟩⟩
  ·simp only[asw]at aa
   refine⟨by omega,by omega,by omega,by omega,fun al=> ?_,fun al=> ?_⟩
   ·have cV:a≠b:=fun e=>by subst e;simp at al
    rw[atQ cV]at ab;exact ab
   ·have al:a.getD i.toNat 0=b.getD i.toNat 0:=by simpa using al
    rw[bl (by omega)]
    refine⟨⟨by omega,by omega,fun j iL=> ?_⟩,by simp only;omega⟩
    by_cases e:j=i.toNat
    ·rw[e];exact al
    ·exact aK j (by omega)
  ·simp only[asv]at aa
   have e:a=b:=by
    apply auF hlen
    intro j jT mV
    have:=aK j (by omega)
    simpa[ass,jT,mV]using this
   rw[at0 e]at ab;exact ab
end I
end
section
open Go Go.bG
namespace I
def dx (a:List Int)(i:Nat):Nat:=val (a.drop i)
theorem xo (a:List Int):dx a 0=val a:=by simp[dx]
theorem n4 (a:List Int){i:Nat}(h:a.length<=i):dx a i=0:=by simp[dx,List.drop_of_length_le h,val]
theorem mF (a:List Int)(i:Nat):dx a i=(a.getD i 0).toNat+4294967296*dx a (i+1):=by
 unfold dx
 by_cases h:i<a.length
 ·rw[atX h,val]
  simp[ass,h]
 ·rw[List.drop_of_length_le (by omega),List.drop_of_length_le (by omega)]
  simp[val,ass,h]
theorem Gw (a:List Int)(i j:Nat)(v:Int)(h:j<i):dx (a.set j v) i=dx a i:=by
 unfold dx;rw[List.drop_set_of_lt h]
theorem kP (a:List Int)(i:Nat):val a=cW a i+4294967296^i*dx a i:=by
 by_cases h:i<=a.length
 ·have:=An (a.take i) (a.drop i)
  rw[List.take_append_drop,asW,auJ h]at this
  exact this
 ·rw[gi a (by omega),n4 a (by omega)];simp
theorem L_ {D bp x z w:Nat}(W:Nat)(dP:W=4294967296)(dT:bp<D)(af:x<W)(hw:w=z*D+bp):
 (bp*W+x)/D<W/\(bp*W+x)%D<D/\x+W*w=((bp*W+x)/D+W*z)*D+(bp*W+x)%D:=by
 have nN:0<D:=by omega
 have U:(bp+1)*W<=D*W:=asF _ (by omega)
 refine⟨aue (by rw[asK]at U;omega),as6 _ nN, ?_⟩
 have DP:=at4 (bp*W+x) D
 generalize (bp*W+x)/D=q at DP⊢
 generalize (bp*W+x)%D=m at DP⊢
 subst hw
 have bK:(q+W*z)*D=D*q+W*(z*D):=by rw[asK,asT q D,as4]
 rw[bK,asG,asT W bp]
 generalize W*(z*D)=u
 generalize bp*W=v at DP⊢
 generalize D*q=t at DP⊢
 omega
theorem ago (a:List Int)(d:Int)(K:J->Prop)(h:B1.T [.d (.ints .u32 a), .d (.int .u32 d)] K):MR a d K:=by
 obtain⟨⟨aC,aP,qG⟩,ab⟩:=h
 have fm:=aC.2
 unfold L at aP
 obtain⟨D,rfl⟩:∃D:Nat,d=D:=⟨d.toNat,by omega⟩
 simp only[asu]at ab
 unfold MR
 rw[asu]
 refine⟨by omega,by omega,by omega,fun r i o=>aZ o/\o.length=a.length/\0<=r/\r<D/\-1<=i/\i<a.length/\dx a (i+1).toNat=dx o (i+1).toNat*D+r.toNat,fun r i o=>(i+1).toNat,⟨aZ.mI _,by simp,by omega,by omega, ?_⟩, ?_⟩
 ·rw[bl (by omega)]
  refine⟨by omega,by omega, ?_⟩
  rw[n4 a (by omega),n4 _ (by simp)];simp
 rintro r i o ⟨aH,e9,yY,hY,rY,mf,aM⟩
 refine⟨fun h=> ?_,fun h=> ?_⟩
 ·simp only[asw]at h
  have tO:=aC.1 i.toNat
  obtain⟨n,rfl⟩:∃n:Nat,i=n:=⟨i.toNat,by omega⟩
  simp only[asu]at tO⊢
  rw[bl (by omega)]
  obtain⟨bp,rfl⟩:∃bp:Nat,r=bp:=⟨r.toNat,by omega⟩
  obtain⟨x,af⟩:∃x:Nat,a.getD n 0=x:=⟨(a.getD n 0).toNat,by omega⟩
  rw[af]at tO⊢
  have an:((bp:Int)*4294967296+x)/D=(((bp*4294967296+x)/D:Nat):Int):=by rw[aug,auB,atE];rfl
  have az:((bp:Int)*4294967296+x)%D=(((bp*4294967296+x)%D:Nat):Int):=by rw[aut,auB,atE];rfl
  rw[an,az]
  rw[show((n:Int)+1).toNat=n+1 by omega]at aM
  have ct:=L_ (z:=dx o (n+1)) 4294967296 rfl (show bp<D by omega) (show x<4294967296 by omega) (by simpa using aM)
  obtain⟨aN,hm,he⟩:=ct
  have gO:dx (o.set n (((bp*4294967296+x)/D:Nat):Int)) n=(bp*4294967296+x)/D+4294967296*dx o (n+1):=by
   rw[mF _ n,Gw _ _ _ _ (by omega),ef,asq ⟨rfl,by omega⟩,asu]
  have mR:dx a n=x+4294967296*dx a (n+1):=by rw[mF a n,af,asu]
  rw[<-mR,<-gO]at he
  generalize (bp*4294967296+x)/D=q at aN he gO⊢
  generalize (bp*4294967296+x)%D=m at hm he⊢
  refine⟨by omega,by omega,⟨⟨by omega,by omega⟩,⟨by omega,by omega⟩,⟨by omega,by omega⟩,by omega⟩,by omega,by omega,⟨aH.set _ ⟨by omega,by omega⟩,by simpa using e9,by omega,by omega,by omega,by omega, ?_⟩,by show(((n:Int)-1)+1).toNat<((n:Int)+1).toNat;omega⟩
  rw[show((n:Int)-1+1).toNat=n by omega,asu]
  exact he
 ·simp only[asv]at h
  obtain rfl:i=-1:=by omega
  simp only[show((-1:Int)+1).toNat=0 from rfl,xo]at aM
  refine⟨⟨aH,by omega⟩, ?_⟩
  have U:val a/D=val o:=by
   rw[aM,asT,Nat.mul_add_div (by omega),at5 (by omega)];omega
  have aa:((val a%D:Nat):Int)=r:=by
   rw[aM,asT,aun,ati (by omega)];omega
  rw[U,aa]at ab;exact ab
end I
end
section
open Go Go.bG
namespace I
theorem Wn {x y o c:Int}(af:L x)(a6:L y)(aH:L o)(ay:L c):
 let cj:=(x*y%4294967296+o+0)%4294967296
 let U:=IntKind.wrap .u32 (x*y/4294967296+(x*y%4294967296+o+0)/4294967296)
 let db:=(cj+c+0)%4294967296
 let aa:=IntKind.wrap .u32 (U+(cj+c+0)/4294967296)
 L (x*y%4294967296)/\L cj/\L db/\L aa/\db+4294967296*aa=x*y+o+c:=by
 unfold L at*
 have aE:0<=x*y:=Int.mul_nonneg af.1 a6.1
 have U:x*y<=4294967295*4294967295:=Int.mul_le_mul (by omega) (by omega) a6.1 (by omega)
 generalize x*y=p at aE U⊢
 intro cj r_ db aa
 have an:r_=p/4294967296+(p%4294967296+o+0)/4294967296:=gF (by omega)
 have az:aa=p/4294967296+(p%4294967296+o+0)/4294967296+(cj+c+0)/4294967296:=by
  show IntKind.wrap .u32 (r_+(cj+c+0)/4294967296)=_
  rw[an];exact gF (by omega)
 rw[az]
 omega
theorem lf (a:List Int)(j:Nat)(v:Int)(h:j<a.length):val (a.set j v)+4294967296^j*(a.getD j 0).toNat=val a+4294967296^j*v.toNat:=by
 rw[kP (a.set j v) (j+1),kP a (j+1),fc,fc,qb _ _ _ _ (asz _),Gw _ _ _ _ (by omega),ef,asq ⟨rfl,h⟩]
 omega
theorem ais (a b:List Int)(K:J->Prop)(h:Da.T [.d (.ints .u32 a), .d (.ints .u32 b)] K):Pd a b K:=by
 obtain⟨⟨aC,ae⟩,ab⟩:=h
 have fm:=hQ aC
 have lG:=hQ ae
 have jd:=aC.2
 have dr:=ae.2
 unfold Pd
 refine⟨⟨aC.1,by omega⟩,⟨ae.1,by omega⟩, ?_⟩
 have eU:=dN (val a)
 have eG:=dN (val b)
 have mR:=cq (val a)
 have qz:=cq (val b)
 rw[<-mR,<-qz]at ab
 generalize ah (val a)=A at*
 generalize ah (val b)=B at*
 have bE:IntKind.wrap .i64 ((Nat.cast:Nat->Int) A.length+(Nat.cast:Nat->Int) B.length)=((A.length+B.length:Nat):Int):=by rw[bl (by omega)];omega
 rw[bE,asu]
 refine⟨by omega,by omega,by omega,fun i o=>aZ o/\o.length=A.length+B.length/\0<=i/\i<=A.length/\val o=cW A i.toNat*val B/\∀j,i.toNat+B.length<=j->o.getD j 0=0,
  fun i o=>A.length-i.toNat,⟨aZ.mI _,by simp,by omega,by omega,by simp[hr,uE],fun j _=>by simp[ass,atN];split<;>rfl⟩, ?_⟩
 rintro i o ⟨aH,e9,rY,mf,aM,bc⟩
 refine⟨fun h=> ?_,fun h=> ?_⟩
 ·simp only[asw]at h
  obtain⟨n,rfl⟩:∃n:Nat,i=n:=⟨i.toNat,by omega⟩
  simp only[asu]at aM bc⊢
  have ar:n<A.length:=by omega
  refine⟨by omega,by omega,fun c k p=>aZ p/\p.length=A.length+B.length/\L c/\0<=k/\k<=B.length/\val p+4294967296^(n+k.toNat)*c.toNat=val o+4294967296^n*((A.getD n 0).toNat*cW B k.toNat)/\
   ∀j,n+B.length<=j->p.getD j 0=0,fun c k p=>B.length-k.toNat,⟨aH,e9,by unfold L;omega,by omega,by omega,by simp[hr],bc⟩, ?_⟩
  rintro c k p ⟨aw,hX,ay,r4,H2,ao,H_⟩
  refine⟨fun aa=> ?_,fun aa=> ?_⟩
  ·simp only[asw]at aa
   obtain⟨q,rfl⟩:∃q:Nat,k=q:=⟨k.toNat,by omega⟩
   simp only[asu]at ao⊢
   have an:IntKind.wrap .i64 ((n:Int)+(q:Int))=((n+q:Nat):Int):=by rw[bl (by omega)];omega
   have az:IntKind.wrap .i64 ((q:Int)+1)=((q+1:Nat):Int):=by rw[bl (by omega)];omega
   rw[an,az]
   simp only[asu]
   have af:=eU n
   have a6:=eG q
   have hs:=aw (n+q)
   obtain⟨gD,ha,jE,lT,j4⟩:=Wn (x:=A.getD n 0) (y:=B.getD q 0) (o:=p.getD (n+q) 0) (c:=c) af a6 hs ay
   refine⟨by omega,by omega,⟨af,a6⟩,by omega,by omega,⟨gD,hs,by omega,by omega⟩,⟨ha,ay,by omega,by omega⟩,by omega,by omega, ?_⟩
   generalize ((A.getD n 0*B.getD q 0%4294967296+p.getD (n+q) 0+0)%4294967296+c+0)%4294967296=lo at jE j4⊢
   generalize IntKind.u32.wrap (IntKind.u32.wrap (A.getD n 0*B.getD q 0/4294967296+(A.getD n 0*B.getD q 0%4294967296+p.getD (n+q) 0+0)/4294967296)+
    ((A.getD n 0*B.getD q 0%4294967296+p.getD (n+q) 0+0)%4294967296+c+0)/4294967296)=hi at lT j4⊢
   refine⟨⟨aw.set _ jE,by simpa using hX,lT,by omega,by omega, ?_,fun j aK=> ?_⟩,by omega⟩
   ·have gO:=lf p (n+q) lo (by omega)
    unfold L at ay jE lT
    have pJ:lo.toNat+4294967296*hi.toNat=(A.getD n 0).toNat*(B.getD q 0).toNat+(p.getD (n+q) 0).toNat+c.toNat:=by
     obtain⟨x,gJ⟩:∃x:Nat,A.getD n 0=x:=⟨(A.getD n 0).toNat,by omega⟩
     obtain⟨y,mW⟩:∃y:Nat,B.getD q 0=y:=⟨(B.getD q 0).toNat,by omega⟩
     rw[gJ,mW,<-atE]at j4
     rw[gJ,mW,asu,asu]
     generalize x*y=z at j4⊢
     omega
    have cm:=asQ (4294967296^(n+q)*·) pJ
    simp only[asG]at cm
    have eL:4294967296^(n+(q+1))*hi.toNat=4294967296^(n+q)*(4294967296*hi.toNat):=by rw[<-atn,asU,as4]
    have hx:4294967296^n*((A.getD n 0).toNat*cW B (q+1))=4294967296^n*((A.getD n 0).toNat*cW B q)+4294967296^(n+q)*((A.getD n 0).toNat*(B.getD q 0).toNat):=by
     rw[fc,asG,asG,ate,att (A.getD n 0).toNat,as4]
    rw[eL,hx]
    omega
   ·rw[ef,asp (by omega)]
    exact H_ j aK
  ·simp only[asv]at aa
   obtain rfl:k=B.length:=by omega
   simp only[asu]at ao
   have tJ:=ay
   unfold L at tJ
   have an:IntKind.wrap .i64 ((n:Int)+(Nat.cast:Nat->Int) B.length)=((n+B.length:Nat):Int):=by rw[bl (by omega)];omega
   have az:IntKind.wrap .i64 ((n:Int)+1)=((n+1:Nat):Int):=by rw[bl (by omega)];omega
   rw[an,az]
   simp only[asu]
   have gO:=lf p (n+B.length) c (by omega)
   rw[H_ _ (asz _)]at gO
   refine⟨by omega,by omega,⟨aw.set _ tJ,by simpa using hX,by omega,by omega, ?_,fun j aK=> ?_⟩,by omega⟩
   ·rw[fc,asK,<-aM,as4]
    rw[gi B (asz _)]at ao
    simp at gO
    omega
   ·rw[ef,asp (by omega)]
    exact H_ j (by omega)
 ·simp only[asv]at h
  obtain rfl:i=A.length:=by omega
  refine⟨⟨aH,by omega⟩, ?_⟩
  rw[aM,asu,gi A (asz _)];exact ab
end I
end
section
open Go Go.bG
namespace I
theorem u6 {a b:Nat}(h:a<b):cmp a b=-1:=by unfold cmp;rw[asq h]
theorem xn {a b:Nat}(h:b<a):cmp a b=1:=by unfold cmp;rw[asp (by omega),asp (by omega)]
theorem cmp_eq (a:Nat):cmp a a=0:=by unfold cmp;rw[asp (by omega),asq rfl]
theorem B6 {a b:Nat}(h:(ah a).length<(ah b).length):a<b:=by
 have U:a<4294967296^(ah a).length:=eH.1 (asz _)
 have aa:¬b<4294967296^(ah a).length:=fun ae=>by
  have:=eH.2 ae
  omega
 omega
theorem Bv {a b:List Int}(n:Nat)(aC:aZ a)(U:dx a (n+1)=dx b (n+1))(aa:(a.getD n 0).toNat<(b.getD n 0).toNat):val a<val b:=by
 have an:=kP a n
 have az:=kP b n
 have al:=o_ aC n
 rw[mF a n]at an
 rw[mF b n,<-U]at az
 generalize (a.getD n 0).toNat=x at*
 generalize (b.getD n 0).toNat=y at*
 generalize dx a (n+1)=v at*
 generalize 4294967296^n=w at*
 have aL:w*(x+4294967296*v)+w<=w*(y+4294967296*v):=by
  have:=as1 w (show x+4294967296*v+1<=y+4294967296*v by omega)
  rw[asG w (x+4294967296*v) 1,asY]at this
  exact this
 omega
theorem ail (a b:List Int)(K:J->Prop)(h:C_.T [.d (.ints .u32 a), .d (.ints .u32 b)] K):O2 a b K:=by
 obtain⟨⟨aC,ae⟩,ab⟩:=h
 have fm:=hQ aC
 have lG:=hQ ae
 have jd:=aC.2
 have dr:=ae.2
 unfold O2
 refine⟨⟨aC.1,by omega⟩,⟨ae.1,by omega⟩,fun h=>⟨fun U=> ?_,fun U=> ?_⟩,fun h=> ?_⟩
 ·simp only[asw]at U
  rw[u6 (B6 (by omega))]at ab;exact ab
 ·have aa:¬((Nat.cast:Nat->Int) (ah (val a)).length=(Nat.cast:Nat->Int) (ah (val b)).length):=by simpa using h
  simp only[asv]at U
  rw[xn (B6 (by omega))]at ab;exact ab
 ·have aa:(Nat.cast:Nat->Int) (ah (val a)).length=(Nat.cast:Nat->Int) (ah (val b)).length:=by simpa using h
  have eU:=dN (val a)
  have eG:=dN (val b)
  have mR:=cq (val a)
  have qz:=cq (val b)
  rw[<-mR,<-qz]at ab
  generalize ah (val a)=A at*
  generalize ah (val b)=B at*
  refine⟨fun i=>-1<=i/\i<A.length/\dx A (i+1).toNat=dx B (i+1).toNat,fun i=>(i+1).toNat, ?_, ?_⟩
  ·rw[bl (by omega)]
   refine⟨by omega,by omega, ?_⟩
   rw[n4 A (by omega),n4 B (by omega)]
  rintro i ⟨al,aL,bo⟩
  refine⟨fun bX=> ?_,fun bX=> ?_⟩
  ·simp only[asw]at bX
   obtain⟨n,rfl⟩:∃n:Nat,i=n:=⟨i.toNat,by omega⟩
   rw[show((n:Int)+1).toNat=n+1 by omega]at bo
   simp only[asu]
   have af:=eU n
   have a6:=eG n
   refine⟨by omega,by omega,by omega,by omega,fun fi=> ?_,fun fi=>⟨by omega,by omega,by omega,by omega,fun dI=> ?_,fun dI=> ?_⟩⟩
   ·simp only[asw]at fi
    rw[u6 (Bv n eU bo (by omega))]at ab;exact ab
   ·simp only[asw]at dI
    rw[xn (Bv n eG bo.symm (by omega))]at ab;exact ab
   ·simp only[asv]at fi dI
    rw[bl (by omega)]
    refine⟨⟨by omega,by omega, ?_⟩,by show(((n:Int)-1)+1).toNat<((n:Int)+1).toNat;omega⟩
    rw[show((n:Int)-1+1).toNat=n by omega,mF A n,mF B n,bo,show A.getD n 0=B.getD n 0 by omega]
  ·simp only[asv]at bX
   obtain rfl:i=-1:=by omega
   simp only[show((-1:Int)+1).toNat=0 from rfl,xo]at bo
   rw[bo,cmp_eq]at ab;exact ab
theorem MK (x y:Int):bk .or .u64 x y=bk .or .u64 y x:=by
 unfold bk
 simp only[BitVec.or_comm]
theorem U8 {x:Int}(h:L x):bk .or .u64 0 x=x:=by
 have:=xF (h:=0) (l:=x) ⟨by decide,by decide⟩ h
 simpa using this
theorem afg (a:List Int)(K:J->Prop)(h:Bl.T [.d (.ints .u32 a)] K):L2 a K:=by
 obtain⟨⟨aC,aq⟩,ab⟩:=h
 unfold L2
 refine⟨fun v i=>0<=i/\i<=a.length/\v=cW a i.toNat,fun v i=>a.length-i.toNat,⟨by omega,by omega,by simp[hr]⟩, ?_⟩
 rintro v i ⟨U,aa,al⟩
 refine⟨fun aL=> ?_,fun aL=> ?_⟩
 ·simp only[asw]at aL
  have bo:i=0\/i=1:=by omega
  have af:=aC i.toNat
  have lH:=aC 0
  rcases bo with rfl|rfl
  ·simp only[show Int.toNat 0=0 from rfl]at*
   have an:IntKind.wrap .i64 (32*0)=0:=bl (by omega)
   have az:IntKind.wrap .i64 (0+1)=1:=bl (by omega)
   rw[an,az]
   simp only[show Int.toNat 0=0 from rfl,show min 0 64=0 from rfl,Int.pow_zero,Int.mul_one]
   rw[cl (x:=a.getD 0 0) (by omega),cl (x:=a.getD 0 0) (by omega),al,hr]
   have bK:bk .or .u64 (((0:Nat):Int)) (a.getD 0 0)=a.getD 0 0:=U8 af
   rw[bK]
   refine⟨by omega,by omega,by omega,⟨by omega,by omega, ?_⟩, ?_⟩
   ·show a.getD 0 0=((cW a 1:Nat):Int)
    rw[fc,hr,aua,atx,as0];omega
   ·show a.length-Int.toNat 1<a.length-Int.toNat 0
    simp only[show Int.toNat 1=1 from rfl,show Int.toNat 0=0 from rfl];omega
  ·simp only[show Int.toNat 1=1 from rfl]at*
   have an:IntKind.wrap .i64 (32*1)=32:=bl (by omega)
   have az:IntKind.wrap .i64 (1+1)=2:=bl (by omega)
   rw[an,az]
   simp only[show Int.toNat 32=32 from rfl,show min 32 64=32 from rfl,show(2:Int)^32=4294967296 from rfl]
   rw[cl (x:=a.getD 1 0) (by omega),cl (x:=a.getD 1 0*4294967296) (by omega),MK]
   have aM:cW a 1=(a.getD 0 0).toNat:=by rw[fc,hr];simp
   have bK:bk .or .u64 (a.getD 1 0*4294967296) v=a.getD 1 0*4294967296+v:=xF af ⟨by omega,by rw[al,aM];omega⟩
   rw[bK]
   refine⟨by omega,by omega,by omega,⟨by omega,by omega, ?_⟩, ?_⟩
   ·show a.getD 1 0*4294967296+v=((cW a 2:Nat):Int)
    rw[fc,aM,al,aM,Nat.pow_one];omega
   ·show a.length-Int.toNat 2<a.length-Int.toNat 1
    simp only[show Int.toNat 2=2 from rfl,show Int.toNat 1=1 from rfl];omega
 ·simp only[asv]at aL
  obtain rfl:i=a.length:=by omega
  rw[al,asu,gi a (asz _)];exact ab
theorem x1 (x:Int)(h:L x):(BitVec.ofInt 32 x).msb=decide (2147483648<=x):=by
 rw[BitVec.msb_eq_decide,BitVec.toNat_ofInt]
 unfold L at h
 have e:(x%((2^32:Nat):Int)).toNat=x.toNat:=by
  rw[auK h.1 (by have:((2^32:Nat):Int)=4294967296:=rfl
                 omega)]
 rw[e]
 have az:(2^(32-1):Nat)=2147483648:=rfl
 rw[az,auu]
 omega
theorem pd (B:BitVec 32):L (B.toNat:Int)/\BitVec.ofInt 32 (B.toNat:Int)=B:=by
 refine⟨⟨by omega, ?_⟩, ?_⟩
 ·have:=B.isLt
  have az:(2^32:Nat)=4294967296:=rfl
  rw[az]at this
  omega
 ·rw[auh,BitVec.ofNat_toNat,BitVec.setWidth_eq]
theorem Qw (x y:Int):bk .and .u32 x y=((BitVec.ofInt 32 x&&&BitVec.ofInt 32 y).toNat:Int):=gF (pd _).1
theorem QU (x y:Int):bk .or .u32 x y=((BitVec.ofInt 32 x|||BitVec.ofInt 32 y).toNat:Int):=gF (pd _).1
theorem GJ (x y:Int):bk .xor .u32 x y=((BitVec.ofInt 32 x^^^BitVec.ofInt 32 y).toNat:Int):=gF (pd _).1
theorem Yw (B:BitVec 32):((B.toNat:Int)).fdiv 2147483648=if B.msb then 1 else 0:=by
 have h:=(pd B).1
 have aa:=x1 _ h
 rw[(pd B).2]at aa
 unfold L at h
 rw[as_ _ (by omega),aa]
 by_cases al:2147483648<=(B.toNat:Int)
 ·rw[at0 al,asq rfl];omega
 ·rw[atQ al,asp (by simp)];omega
theorem adG (x y c:Int)(K:J->Prop)(h:BY.T [.d (.int .u32 x), .d (.int .u32 y), .d (.int .u32 c)] K):KF x y c K:=by
 obtain⟨⟨af,a6,U,aa⟩,ab⟩:=h
 unfold KF
 have aP:IntKind.wrap .u32 (IntKind.wrap .u32 (x-y)-c)=(x-y-c)%4294967296:=by
  rw[jH,jH,Int.emod_sub_emod]
 rw[aP]
 have nN:L ((x-y-c)%4294967296):=by unfold L;omega
 have ae:((bk .or .u32 (bk .and .u32 (bk .xor .u32 4294967295 x) y) (bk .and .u32 (bk .xor .u32 4294967295 (bk .xor .u32 x y)) ((x-y-c)%4294967296))).fdiv 2147483648)=if x-y-c<0 then 1 else 0:=by
  rw[QU,Qw,Qw,GJ,GJ x y,GJ,(pd _).2,(pd _).2,(pd _).2,(pd _).2,(pd _).2,Yw]
  rw[BitVec.msb_or,BitVec.msb_and,BitVec.msb_and,BitVec.msb_xor,BitVec.msb_xor,BitVec.msb_xor,x1 x af,x1 y a6,x1 _ nN,x1 4294967295 ⟨by decide,by decide⟩]
  unfold L at af a6
  by_cases a1:2147483648<=x<;>by_cases a2:2147483648<=y<;>by_cases a3:2147483648<=(x-y-c)%4294967296<;>simp[a1,a2,a3]<;>omega
 rw[ae]
 exact ab
theorem aim (a b:List Int)(K:J->Prop)(h:Db.T [.d (.ints .u32 a), .d (.ints .u32 b)] K):O3 a b K:=by
 obtain⟨⟨aC,ae⟩,ab⟩:=h
 have fm:=hQ aC
 have lG:=hQ ae
 have jd:=aC.2
 have dr:=ae.2
 unfold O3
 have pr:cmp (val a) (val b)<0↔val a<val b:=by
  unfold cmp
  split
  ·simp[*]
  ·split<;>simp[*]
 refine⟨⟨aC,ae⟩,fun h=> ?_,fun h=>⟨⟨aC.1,by omega⟩,⟨ae.1,by omega⟩, ?_⟩⟩
 ·simp only[asw]at h
  rw[asq (pr.1 h),asq (pr.1 h)]at ab;exact ab
 ·simp only[asv]at h
  have iz:¬val a<val b:=fun af=>h (pr.2 af)
  rw[asp iz,asp iz]at ab
  have HO:(ah (val b)).length<=(ah (val a)).length:=by
   rw[eH]
   have:=eH.1 (asz (ah (val a)).length)
   omega
  have eU:=dN (val a)
  have eG:=dN (val b)
  have mR:=cq (val a)
  have qz:=cq (val b)
  rw[<-mR,<-qz]at ab iz
  generalize ah (val a)=A at*
  generalize ah (val b)=B at*
  rw[asu]
  refine⟨by omega,by omega,by omega,fun c i o=>aZ o/\o.length=A.length/\0<=c/\c<=1/\0<=i/\i<=A.length/\cW o i.toNat+cW B i.toNat=cW A i.toNat+4294967296^i.toNat*c.toNat,
   fun c i o=>A.length-i.toNat,⟨aZ.mI _,by simp,by omega,by omega,by omega,by omega,by simp[hr]⟩, ?_⟩
  rintro c i o ⟨aH,e9,tF,gR,rY,mf,l8⟩
  refine⟨fun h=> ?_,fun h=> ?_⟩
  ·simp only[asw]at h
   obtain⟨n,rfl⟩:∃n:Nat,i=n:=⟨i.toNat,by omega⟩
   simp only[asu]at l8⊢
   refine⟨by omega,by omega,fun e=>e=B.getD n 0,⟨fun aa=> ?_,fun aa=>⟨trivial, ?_⟩⟩, ?_⟩
   ·simp only[asw]at aa
    exact⟨by omega,aa,trivial,rfl⟩
   ·simp only[asv]at aa
    simp[ass,as5 (show B.length<=n by omega)]
   ·rintro e rfl
    have qA:=eU n
    have yB:=eG n
    refine⟨⟨qA,yB,tF,gR⟩,by omega,by omega, ?_⟩
    have az:IntKind.wrap .i64 ((n:Int)+1)=((n+1:Nat):Int):=by rw[bl (by omega)];omega
    rw[az]
    refine⟨⟨aH.set _ (by omega),by simpa using e9,by split<;>omega,by split<;>omega,by omega,by omega, ?_⟩,by simp;omega⟩
    rw[asu,fc,fc,fc,qb _ _ _ _ (asz _),ef,asq ⟨rfl,by omega⟩]
    have bK:((A.getD n 0-B.getD n 0-c)%4294967296).toNat+(B.getD n 0).toNat+c.toNat=(A.getD n 0).toNat+4294967296*(if A.getD n 0-B.getD n 0-c<0 then(1:Int)else 0).toNat:=by
     split<;>omega
    rw[asU]
    generalize ((A.getD n 0-B.getD n 0-c)%4294967296).toNat=p at bK⊢
    generalize (if A.getD n 0-B.getD n 0-c<0 then(1:Int)else 0).toNat=q at bK⊢
    generalize 4294967296^n=w at l8⊢
    have cm:w*(p+(B.getD n 0).toNat+c.toNat)=w*((A.getD n 0).toNat+4294967296*q):=by rw[bK]
    simp only[asG]at cm⊢
    rw[as4]
    omega
  ·simp only[asv]at h
   obtain rfl:i=A.length:=by omega
   simp only[asu]at l8
   refine⟨⟨aH,by omega⟩, ?_⟩
   rw[gi A (asz _),gi B HO,gi o (by omega)]at l8
   have bB:=gN aH
   rw[e9]at bB
   have ay:c.toNat=0:=by
    rcases at1 c.toNat with aE|aE
    ·exact aE
    ·have:c.toNat=1:=by omega
     rw[this]at l8;omega
   rw[ay]at l8
   have:val o=val A-val B:=by omega
   rw[this];exact ab
end I
end
section
open Go Go.bG
namespace I
theorem NH {t f g r p lv s k3 ib:Nat}(aT:g=f/t)(ak:r=f%t)(aA:0<t)(r1:k3<p)(tG:ib<4294967296):
 k3+p*(ib+4294967296*f)<(g+1)*(lv+p*(s+4294967296*t))/\t*g+r=f:=by
 have U:t*g+r=f:=by subst aT ak;exact at4 f t
 refine⟨?_,U⟩
 have aa:f+1<=t*(g+1):=by
  have:=as6 f aA
  rw[asG,asY];omega
 have al:p*(ib+4294967296*f)+p<=p*(4294967296*(t*(g+1))):=by
  have:=as1 p (show ib+4294967296*f+1<=4294967296*(t*(g+1)) by omega)
  rw[asG p _ 1,asY]at this
  exact this
 have aL:(g+1)*(lv+p*(s+4294967296*t))=(g+1)*lv+p*((g+1)*s)+p*(4294967296*(t*(g+1))):=by
  rw[asG,att (g+1) p,asG (g+1) s,asG p,att (g+1) 4294967296,asT (g+1) t,atn]
 rw[aL]
 omega
theorem NI {t f g r p lv s k3 ib:Nat}(U:t*g+r=f)(r1:k3<p)(ay:r*4294967296+ib<g*s):
 k3+p*(ib+4294967296*f)<g*(lv+p*(s+4294967296*t)):=by
 have aa:ib+4294967296*f+1<=g*s+4294967296*(g*t):=by
  rw[asT g t];omega
 have al:=as1 p aa
 rw[asG p _ 1,asY]at al
 have aL:g*(lv+p*(s+4294967296*t))=g*lv+p*(g*s+4294967296*(g*t)):=by
  rw[asG,att g p,asG g s,att g 4294967296]
 rw[aL]
 omega
theorem uK {t f g r p lv s k3 ib:Nat}(U:t*g+r=f)(aA:0<t)(qC:lv<p)(aT:g<4294967296)(ay:g*s<=r*4294967296+ib):
 g*(lv+p*(s+4294967296*t))<=k3+p*(ib+4294967296*f)+(lv+p*(s+4294967296*t)):=by
 cases g with
 |zero=>omega
 |succ g=>
  have aa:g*(s+4294967296*t+1)<=ib+4294967296*f:=by
   have an:g*(s+4294967296*t+1)+s+4294967296*t=(g+1)*s+4294967296*(t*(g+1))+g:=by
    rw[asG g _ 1,asG g s,asY,asK g 1 s,atx,asG t g 1,asY,att g 4294967296,asT g t]
    omega
   omega
  have al:=as1 p aa
  have aL:g*(lv+p*(s+4294967296*t))<=p*(g*(s+4294967296*t+1)):=by
   rw[att p g]
   refine as1 g ?_
   rw[asG p _ 1,asY];omega
  rw[asK g 1,atx]
  omega
theorem MM {g d c b u:Nat}(aT:g<4294967296)(aP:d<4294967296)(ay:c<4294967296)(ae:b<=1)(hu:u<4294967296):
 c+g*d<18446744073709551616/\∃lo T st B:Nat,(c+g*d)%4294967296=lo/\(c+g*d)/4294967296=T/\lo<4294967296/\T<4294967296/\((u:Int)-(lo:Int)-(b:Int))%4294967296=(st:Int)/\st<4294967296/\
  (if(u:Int)-(lo:Int)-(b:Int)<0 then(1:Int)else 0)=(B:Int)/\B<=1/\st+g*d+(c+b)=u+4294967296*(T+B):=by
 have U:g*d<=4294967295*4294967295:=atS (by omega) (by omega)
 generalize g*d=m at U⊢
 refine⟨by omega,(c+m)%4294967296,(c+m)/4294967296,(((u:Int)-((c+m)%4294967296:Nat)-b)%4294967296).toNat,(if(u:Int)-((c+m)%4294967296:Nat)-b<0 then 1 else 0),rfl,rfl,by omega,by omega,by omega,by omega,by split<;>rfl,by split<;>omega,by split<;>omega⟩
theorem uL (n:Nat):∀k,(jL n k).length=k
 |0=>rfl
 |k+1=>by simp[jL,uL _ k]
theorem w9 (k:Nat):∀n,aZ (jL n k):=by
 induction k with
 |zero=>intro n;exact .nil
 |succ k bA=>
  intro n
  have:n%4294967296<4294967296:=as6 _ (by decide)
  exact .mk ⟨by omega,by omega⟩ (bA _)
theorem w8 (k:Nat):∀n,n<4294967296^k->val (jL n k)=n:=by
 induction k with
 |zero=>intro n h;simp at h;subst h;rfl
 |succ k bA=>
  intro n h
  have aa:n/4294967296<4294967296^k:=by
   rw[asU]at h
   exact aue (by rw[asT];exact h)
  simp only[jL,val,bA _ aa,asu]
  omega
theorem FZ (k:Nat):∀{a:List Int},aZ a->a.length=k->jL (val a) k=a:=by
 induction k with
 |zero=>intro a _ h;rw[atc.1 h];rfl
 |succ k bA=>
  intro a aC h
  cases a with
  |nil=>cases h
  |cons x r=>
   obtain⟨⟨U,aa⟩,ak⟩:=aC.cons
   have an:val (x::r)%4294967296=x.toNat:=by rw[val];omega
   have az:val (x::r)/4294967296=val r:=by rw[val];omega
   rw[jL,an,az,bA ak (by simpa using h),Int.toNat_of_nonneg U]
theorem B7 {a:List Int}(h:aZ a){m:Nat}(bc:∀p,m<=p->a.getD p 0=0):val a<4294967296^m:=by
 rw[kP a m]
 have aa:dx a m=0:=by
  unfold dx
  have:∀l:List Int,(∀p,l.getD p 0=0)->val l=0:=fun l=>by
   induction l with
   |nil=>intro _;rfl
   |cons x r bA=>
    intro aq
    have aE:=aq 0
    have U:=bA fun p=>by have:=aq (p+1);simpa using this
    simp at aE
    rw[val,U,aE];rfl
  refine this _ fun p=> ?_
  have:=bc (m+p) (by omega)
  simpa[ass]using this
 rw[aa]
 have:=o_ h m
 omega
theorem O5 {a:List Int}(h:aZ a){m:Nat}(aM:val a<4294967296^m)(p:Nat)(aw:m<=p):a.getD p 0=0:=by
 have U:=kP a p
 have aa:=mF a p
 have al:=h p
 have aL:4294967296^m<=4294967296^p:=as9 (by decide) aw
 cases af:(a.getD p 0).toNat with
 |zero=>omega
 |succ k=>
  rw[aa,af]at U
  have:4294967296^p*1<=4294967296^p*(k+1+4294967296*dx a (p+1)):=as1 _ (by omega)
  omega
end I
end
section
open Go Go.bG
namespace I
def KG:List Int->(ad->J->Prop)->Prop:=
 fun l K=>∃(aD:Int->Int->List Int->Prop),∃(m:Int->Int->List Int->Nat),aD 0 (IntKind.i64.wrap (↑l.length-1)) l/\∀(v2 v3:Int) (ai:List Int),aD v2 v3 ai->(decide (v2<v3)=true->0<=v3
 /\v3<↑ai.length/\0<=v2/\v2<↑ai.length/\0<=v2/\v2<↑ai.length/\0<=v3/\v3<↑(ai.set v2.toNat (ai.getD v3.toNat 0)).length/\aD (IntKind.i64.wrap (v2+1)) (IntKind.i64.wrap (v3-1)) ((ai.set v2.toNat (ai.getD v3.toNat 0)).set v3.toNat (ai.getD v2.toNat 0))
 /\m (IntKind.i64.wrap (v2+1)) (IntKind.i64.wrap (v3-1)) ((ai.set v2.toNat (ai.getD v3.toNat 0)).set v3.toNat (ai.getD v2.toNat 0))<m v2 v3 ai)/\(decide (v2<v3)=false->K (ad.ints .u8 ai) (J.tup []))
def L3:List Int->(J->Prop)->Prop:=
 fun a K=>(aZ a/\a.length<=(1000000000:Nat))/\∃(aD:List Int->List Int->Prop),∃(m:List Int->List Int->Nat),aD (ah (val a)) []/\∀(v0 ai:List Int),aD v0 ai->(decide ((0:Int)<↑v0.length)=true
 ->(aF v0/\L (1000000000:Int)/\(0:Int)<(1000000000:Int))/\∃(fz:Int->Int->List Int->Prop),∃(e_:Int->Int->List Int->Nat),fz ↑(val v0%(1000000000:Nat)) (0:Int) ai/\∀(v4 bI:Int) (bq:List Int),fz v4 bI bq
 ->(decide (bI<(9:Int))=true->(decide (↑(ah (val v0/(1000000000:Nat))).length=(0:Int))=true->(decide (v4=(0:Int))=true->aD (ah (val v0/(1000000000:Nat))) bq/\m (ah (val v0/(1000000000:Nat))) bq<m v0 ai)
 /\(decide (v4=(0:Int))=false->(↑bq.length+↑[IntKind.u8.wrap (IntKind.u32.wrap ((48:Int)+v4.tmod (10:Int)))].length)*(1:Int)<=(70368744177664:Int)/\fz (IntKind.u32.wrap (v4.tdiv (10:Int))) (IntKind.i64.wrap (bI+(1:Int))) (bq++[IntKind.u8.wrap (IntKind.u32.wrap ((48:Int)+v4.tmod (10:Int)))])
 /\e_ (IntKind.u32.wrap (v4.tdiv (10:Int))) (IntKind.i64.wrap (bI+(1:Int))) (bq++[IntKind.u8.wrap (IntKind.u32.wrap ((48:Int)+v4.tmod (10:Int)))])<e_ v4 bI bq))/\(decide (↑(ah (val v0/(1000000000:Nat))).length=(0:Int))=false
 ->(↑bq.length+↑[IntKind.u8.wrap (IntKind.u32.wrap ((48:Int)+v4.tmod (10:Int)))].length)*(1:Int)<=(70368744177664:Int)/\fz (IntKind.u32.wrap (v4.tdiv (10:Int))) (IntKind.i64.wrap (bI+(1:Int))) (bq++[IntKind.u8.wrap (IntKind.u32.wrap ((48:Int)+v4.tmod (10:Int)))])
 /\e_ (IntKind.u32.wrap (v4.tdiv (10:Int))) (IntKind.i64.wrap (bI+(1:Int))) (bq++[IntKind.u8.wrap (IntKind.u32.wrap ((48:Int)+v4.tmod (10:Int)))])<e_ v4 bI bq))/\(decide (bI<(9:Int))=false
 ->aD (ah (val v0/(1000000000:Nat))) bq/\m (ah (val v0/(1000000000:Nat))) bq<m v0 ai))/\(decide ((0:Int)<↑v0.length)=false->(decide (↑ai.length=(0:Int))=true->K (J.d (R.str [(48:Int)])))
 /\(decide (↑ai.length=(0:Int))=false->(0:Nat)<ai.length/\ai.length<=(1000000000000:Nat)/\(∀(x:Int),x∈ai.reverse->(0:Int)<=x/\x<(256:Int))/\K (J.d (R.str ai.reverse))))
end I
end
section
open Go Go.bG
namespace I
theorem qF {x:Int}(h:0<=x/\x<256):IntKind.wrap .u8 x=x:=by
 unfold IntKind.wrap
 simp[IntKind.signed,IntKind.bits]
 omega
theorem NK {a b:List Int}(aq:a.length=b.length)(h:∀i,i<a.length->a.getD i 0=b.getD i 0):a=b:=by
 apply auF aq
 intro j jT mV
 have:=h j jT
 simpa[ass,jT,mV]using this
theorem NL (l:List Int)(i:Nat)(h:i<l.length):l.reverse.getD i 0=l.getD (l.length-1-i) 0:=by
 simp only[ass]
 rw[List.getElem?_reverse h]
theorem adH (l:List Int)(K:ad->J->Prop)(h:AQ.T (.vec 0) (.ints .u8 l) [] K):KG l K:=by
 obtain⟨aq,ab⟩:=h
 unfold KG
 refine⟨fun i j o=>o.length=l.length/\0<=i/\i+j=l.length-1/\i<=j+1/\
  ∀p:Nat,p<l.length->o.getD p 0=if(p:Int)<i\/j<(p:Int)then l.getD (l.length-1-p) 0 else l.getD p 0,fun i j o=>(j+1-i).toNat,⟨rfl,by omega, ?_, ?_, ?_⟩, ?_⟩
 ·rw[bl (by omega)];omega
 ·rw[bl (by omega)];omega
 ·intro p aw
  rw[bl (by omega),asp (by omega)]
 rintro i j o ⟨U,aa,al,aL,bo⟩
 refine⟨fun h=> ?_,fun h=> ?_⟩
 ·simp only[asw]at h
  rw[bl (by omega),bl (by omega)]
  simp only[asJ]
  refine⟨by omega,by omega,by omega,by omega,by omega,by omega,by omega,by omega,⟨by omega,by omega,by omega,by omega,fun p aw=> ?_⟩,by show(j-1+1-(i+1)).toNat<(j+1-i).toNat;omega⟩
  rw[ef,ef]
  simp only[asJ]
  have hi:=bo i.toNat (by omega)
  have aK:=bo j.toNat (by omega)
  rw[asp (by omega)]at hi aK
  have H0:=bo p aw
  by_cases an:p=j.toNat
  ·rw[asq ⟨an.symm,by omega⟩,asq (by omega),hi,an]
   congr 1;omega
  ·rw[asp (fun h=>an h.1.symm)]
   by_cases az:p=i.toNat
   ·rw[asq ⟨az.symm,by omega⟩,asq (by omega),aK,az]
    congr 1;omega
   ·rw[asp (fun h=>az h.1.symm),H0]
    by_cases bK:(p:Int)<i\/j<(p:Int)
    ·rw[asq bK,asq (by omega)]
    ·rw[asp bK,asp (by omega)]
 ·simp only[asv]at h
  have:o=l.reverse:=by
   refine NK (by simpa using U) fun p aw=> ?_
   rw[NL l p (by omega),bo p (by omega)]
   by_cases bK:(p:Int)<i\/j<(p:Int)
   ·rw[asq bK]
   ·rw[asp bK]
    congr 1;omega
  rw[this];exact ab
theorem o4 {n:Nat}(h:(ah n).length=0):n=0:=nY.1 (atc.1 h)
theorem afh (a:List Int)(K:J->Prop)(h:Bn.T [.d (.ints .u32 a)] K):L3 a K:=by
 obtain⟨aC,ab⟩:=h
 have fm:=hQ aC
 have jd:=aC.2
 have Y3:=Bw aC.1
 unfold L3
 generalize eU:val a=A at*
 refine⟨⟨aC.1,by omega⟩,fun v o=>∃V,v=ah V/\V<=A/\hk A=o++hk V,fun v o=>val v,⟨A,rfl,asz _,rfl⟩, ?_⟩
 rintro v o ⟨V,rfl,fj,aP⟩
 have hlen:∀{o:List Int} {n:Nat},hk A=o++hk n->o.length<=1000000000:=fun{o n} h=>by
  have:=asQ List.length h
  rw[as2]at this
  omega
 have hl:∀{o:List Int} {n:Nat},hk A=o++hk n->∀x∈o,48<=x/\x<58:=fun{o n} h x af=>by
  exact Fs (n:=A) (by rw[h];simp[af])
 refine⟨fun h=> ?_,fun h=> ?_⟩
 ·simp only[asw]at h
  have r6:V≠0:=by
   rintro rfl
   rw[gg]at h;simp at h
  have yP:(ah V).length<=100000000:=by
   have:(ah V).length<=a.length:=by
    rw[eH]
    have:=gN aC.1
    omega
   omega
  rw[cq]
  refine⟨⟨⟨dN _,yP⟩,by unfold L;omega,by omega⟩,fun r i o=>0<=i/\i<=9/\0<=r/\r.toNat<10^(9-i.toNat)/\hk A=o++hk (V/1000000000*10^(9-i.toNat)+r.toNat),fun r i o=>9-i.toNat,⟨by omega,by omega,by omega, ?_, ?_⟩, ?_⟩
  ·rw[asu];exact as6 _ (by decide)
  ·rw[asu,aP]
   congr 2
   have:=at4 V 1000000000
   rw[asT]at this
   exact this.symm
  rintro r i bZ ⟨U,aa,al,aL,bo⟩
  have kz:V/1000000000<V:=auq (by omega) (by decide)
  generalize V/1000000000=Q at*
  have step:¬(Q=0/\r=0)->i<9->((Nat.cast:Nat->Int) (List.length bZ)+(Nat.cast:Nat->Int) (List.length [IntKind.wrap IntKind.u8 (IntKind.wrap IntKind.u32 ((48:Int)+Int.tmod r (10:Int)))]))*(1:Int)<=(70368744177664:Int)/\
   (0<=IntKind.wrap IntKind.i64 (i+1)/\IntKind.wrap IntKind.i64 (i+1)<=9/\0<=IntKind.wrap IntKind.u32 (Int.tdiv r 10)/\(IntKind.wrap IntKind.u32 (Int.tdiv r 10)).toNat<10^(9-(IntKind.wrap IntKind.i64 (i+1)).toNat)/\
     hk A=bZ++[IntKind.wrap IntKind.u8 (IntKind.wrap IntKind.u32 ((48:Int)+Int.tmod r (10:Int)))]++hk (Q*10^(9-(IntKind.wrap IntKind.i64 (i+1)).toNat)+(IntKind.wrap IntKind.u32 (Int.tdiv r 10)).toNat))/\
   9-(IntKind.wrap IntKind.i64 (i+1)).toNat<9-i.toNat:=fun cV hi=>by
   have e9:=hlen bo
   obtain⟨n,rfl⟩:∃n:Nat,i=n:=⟨i.toNat,by omega⟩
   obtain⟨bp,rfl⟩:∃bp:Nat,r=bp:=⟨r.toNat,by omega⟩
   have an:IntKind.wrap .i64 ((n:Int)+1)=((n+1:Nat):Int):=by rw[bl (by omega)];omega
   rw[an]
   simp only[asu]at*
   have aw:10^(9-n)=10*10^(9-(n+1)):=by rw[show 9-n=(9-(n+1))+1 by omega,asU,asT]
   rw[aw]at aL bo
   have hle:10^(9-(n+1))<=10^9:=as9 (by decide) (by omega)
   generalize 10^(9-(n+1))=w at*
   have aiQ:w<=1000000000:=hle
   rw[aus (by omega),auP (by omega),gF (x:=48+(bp:Int)%10) (by omega),qF (by omega),gF (x:=(bp:Int)/10) (by omega)]
   refine⟨by simp;omega,⟨by omega,by omega,by omega,by omega, ?_⟩,by omega⟩
   rw[bo,List.append_assoc]
   congr 1
   have ZD:Q*(10*w)+bp≠0:=fun bc=>cV ⟨by
    rcases at1 Q with aE|aE
    ·exact aE
    ·have:0<w:=by omega
     have:0<Q*(10*w):=Nat.mul_pos aE (by omega)
     omega,by omega⟩
   rw[mB ZD]
   have ZE:Q*(10*w)=10*(Q*w):=att _ _ _
   rw[ZE]
   generalize Q*w=z
   have a1:((48+(10*z+bp)%10:Nat):Int)=48+(bp:Int)%10:=by omega
   have a2:(10*z+bp)/10=z+((bp:Int)/10).toNat:=by omega
   rw[a1,a2];rfl
  refine⟨fun h=>⟨fun bX=>⟨fun fi=> ?_,fun fi=> ?_⟩,fun bX=> ?_⟩,fun h=> ?_⟩
  ·simp only[asw]at bX fi
   have ZF:Q=0:=o4 (by omega)
   subst ZF fi
   refine⟨⟨0,rfl,by omega, ?_⟩, ?_⟩
   ·simpa using bo
   ·simp only[cq];exact kz
  ·simp only[asw]at h
   simp only[asv]at fi
   exact step (fun af=>fi af.2) h
  ·simp only[asw]at h
   simp only[asv]at bX
   refine step (fun af=>bX ?_) h
   rw[af.1,gg];rfl
  ·simp only[asv]at h
   obtain rfl:i=9:=by omega
   simp only[show Int.toNat 9=9 from rfl,Nat.sub_self,aua,asY]at aL bo
   refine⟨⟨Q,rfl,by omega, ?_⟩, ?_⟩
   ·rw[bo,show r.toNat=0 by omega];rfl
   ·simp only[cq];exact kz
 ·simp only[asv]at h
  have r6:V=0:=o4 (by omega)
  subst r6
  rw[ka,auv]at aP
  have e9:=hlen (o:=o) (n:=0) (by rw[ka,auv];exact aP)
  have hm:=hl (o:=o) (n:=0) (by rw[ka,auv];exact aP)
  refine⟨fun h=> ?_,fun h=>⟨?_,by omega,fun x af=> ?_, ?_⟩⟩
  ·simp only[asw]at h
   have:o=[]:=atc.1 (by omega)
   rw[this,Fq]at aP
   rw[aP]at ab;exact ab
  ·simp only[asv]at h;omega
  ·have:=hm x (List.mem_reverse.1 af);omega
  ·simp only[asv]at h
   have tI:A≠0:=by
    rintro rfl
    rw[ka]at aP
    subst aP
    simp at h
   unfold dec at ab
   rw[asp tI,aP]at ab;exact ab
theorem qu {x:Int}(h:0<=x/\x<4294967296):aF [x]:=⟨.mk h .nil,by simp⟩
end I
namespace I
end I
end
section
open Go Go.bG
namespace I
def KH:Int->(J->Prop)->Prop:=
 fun x K=>∃(a8:Int->Int->Prop),((decide (65536<=x)=true->a8 (x.fdiv 65536) 16)/\(decide (65536<=x)=false->a8 x 0))/\∀(v0 v2:Int),a8 v0 v2->(decide (256<=v0)=true->0<=IntKind.u8.wrap (v0.fdiv 256)
 /\IntKind.u8.wrap (v0.fdiv 256)<256/\K (J.d (R.int .i64 (IntKind.i64.wrap (IntKind.i64.wrap (v2+8)+IntKind.i64.wrap ((have y:=have y:=have y:=have y:=have y:=have y:=[8,8,8,8];8::8::8::8::y;have y:=8::8::8::8::y;8::8::8::8::y;have y:=have y:=8::8::8::8::y;8::8::8::8::y;have y:=8::8::8::8::y;8::8::8::8::y;have y:=have y:=have y:=8::8::8::8::y;8::8::8::8::y;have y:=8::8::8::8::y;8::8::8::8::y;have y:=have y:=8::8::8::8::y;8::8::8::8::y;have y:=8::8::8::8::y;8::8::8::8::y;have y:=have y:=have y:=have y:=8::8::8::8::y;8::8::8::8::y;have y:=8::8::8::8::y;8::8::8::8::y;have y:=have y:=8::8::8::8::y;8::8::8::8::y;have y:=8::8::8::8::y;8::8::8::8::y;have y:=have y:=have y:=8::8::8::8::y;8::8::8::8::y;have y:=8::8::8::8::y;8::8::8::8::y;have y:=have y:=8::8::8::8::y;8::8::8::8::y;have y:=8::8::8::8::y;8::8::8::8::y;have y:=have y:=have y:=have y:=have y:=7::7::7::7::y;7::7::7::7::y;have y:=7::7::7::7::y;7::7::7::7::y;have y:=have y:=7::7::7::7::y;7::7::7::7::y;have y:=7::7::7::7::y;7::7::7::7::y;have y:=have y:=have y:=7::7::7::7::y;7::7::7::7::y;have y:=7::7::7::7::y;7::7::7::7::y;have y:=have y:=7::7::7::7::y;7::7::7::7::y;have y:=7::7::7::7::y;7::7::7::7::y;have y:=have y:=have y:=have y:=6::6::6::6::y;6::6::6::6::y;have y:=6::6::6::6::y;6::6::6::6::y;have y:=have y:=6::6::6::6::y;6::6::6::6::y;have y:=6::6::6::6::y;6::6::6::6::y;have y:=have y:=have y:=5::5::5::5::y;5::5::5::5::y;have y:=5::5::5::5::y;5::5::5::5::y;have y:=have y:=4::4::4::4::y;4::4::4::4::y;have y:=3::3::3::3::y;0::1::2::2::y).getD (IntKind.u8.wrap (v0.fdiv 256)).toNat 0))))))
 /\(decide (256<=v0)=false->0<=IntKind.u8.wrap v0/\IntKind.u8.wrap v0<256/\K (J.d (R.int .i64 (IntKind.i64.wrap (v2+IntKind.i64.wrap ((have y:=have y:=have y:=have y:=have y:=have y:=[8,8,8,8];8::8::8::8::y;have y:=8::8::8::8::y;8::8::8::8::y;have y:=have y:=8::8::8::8::y;8::8::8::8::y;have y:=8::8::8::8::y;8::8::8::8::y;have y:=have y:=have y:=8::8::8::8::y;8::8::8::8::y;have y:=8::8::8::8::y;8::8::8::8::y;have y:=have y:=8::8::8::8::y;8::8::8::8::y;have y:=8::8::8::8::y;8::8::8::8::y;have y:=have y:=have y:=have y:=8::8::8::8::y;8::8::8::8::y;have y:=8::8::8::8::y;8::8::8::8::y;have y:=have y:=8::8::8::8::y;8::8::8::8::y;have y:=8::8::8::8::y;8::8::8::8::y;have y:=have y:=have y:=8::8::8::8::y;8::8::8::8::y;have y:=8::8::8::8::y;8::8::8::8::y;have y:=have y:=8::8::8::8::y;8::8::8::8::y;have y:=8::8::8::8::y;8::8::8::8::y;have y:=have y:=have y:=have y:=have y:=7::7::7::7::y;7::7::7::7::y;have y:=7::7::7::7::y;7::7::7::7::y;have y:=have y:=7::7::7::7::y;7::7::7::7::y;have y:=7::7::7::7::y;7::7::7::7::y;have y:=have y:=have y:=7::7::7::7::y;7::7::7::7::y;have y:=7::7::7::7::y;7::7::7::7::y;have y:=have y:=7::7::7::7::y;7::7::7::7::y;have y:=7::7::7::7::y;7::7::7::7::y;have y:=have y:=have y:=have y:=6::6::6::6::y;6::6::6::6::y;have y:=6::6::6::6::y;6::6::6::6::y;have y:=have y:=6::6::6::6::y;6::6::6::6::y;have y:=6::6::6::6::y;6::6::6::6::y;have y:=have y:=have y:=5::5::5::5::y;5::5::5::5::y;have y:=5::5::5::5::y;5::5::5::5::y;have y:=have y:=4::4::4::4::y;4::4::4::4::y;have y:=3::3::3::3::y;0::1::2::2::y).getD (IntKind.u8.wrap v0).toNat 0))))))
def Jz:Int->(J->Prop)->Prop:=
 fun x K=>L x/\K (J.d (R.int .i64 (IntKind.i64.wrap (32-↑(cL x.toNat)))))
def MP:List Int->Int->(ad->Prop)->Prop:=
 fun a k K=>0<=IntKind.i64.wrap (↑a.length+1)/\IntKind.i64.wrap (↑a.length+1)<=IntKind.i64.wrap (↑a.length+1)/\IntKind.i64.wrap (↑a.length+1)*4<=281474976710656/\∃(aD:Int->List Int
 ->Prop),∃(m:Int->List Int->Nat),aD 0 (List.replicate (IntKind.i64.wrap (↑a.length+1)).toNat 0)/\∀(bI:Int) (ai:List Int),aD bI ai->(decide (bI<↑a.length)=true->0<=bI/\bI<↑a.length
 /\0<=k/\0<=bI/\bI<↑ai.length/\0<=bI/\bI<↑ai.length/\0<=IntKind.i64.wrap (bI+1)/\IntKind.i64.wrap (bI+1)<↑(ai.set bI.toNat (bk BinOp.or .u32 (ai.getD bI.toNat 0) (IntKind.u32.wrap (IntKind.u64.wrap (IntKind.u64.wrap (a.getD bI.toNat 0)*2^min k.toNat 64))))).length
 /\aD (IntKind.i64.wrap (bI+1)) ((ai.set bI.toNat (bk BinOp.or .u32 (ai.getD bI.toNat 0) (IntKind.u32.wrap (IntKind.u64.wrap (IntKind.u64.wrap (a.getD bI.toNat 0)*2^min k.toNat 64))))).set (IntKind.i64.wrap (bI+1)).toNat (IntKind.u32.wrap ((IntKind.u64.wrap (IntKind.u64.wrap (a.getD bI.toNat 0)*2^min k.toNat 64)).fdiv 4294967296)))
 /\m (IntKind.i64.wrap (bI+1)) ((ai.set bI.toNat (bk BinOp.or .u32 (ai.getD bI.toNat 0) (IntKind.u32.wrap (IntKind.u64.wrap (IntKind.u64.wrap (a.getD bI.toNat 0)*2^min k.toNat 64))))).set (IntKind.i64.wrap (bI+1)).toNat (IntKind.u32.wrap ((IntKind.u64.wrap (IntKind.u64.wrap (a.getD bI.toNat 0)*2^min k.toNat 64)).fdiv 4294967296)))<m bI ai)
 /\(decide (bI<↑a.length)=false->K (ad.ints .u32 ai))
end I
end
section
open Go Go.bG
namespace I
def tab:List Int:=[0,1,2,2,3,3,3,3,4,4,4,4,4,4,4,4,5,5,5,5,5,5,5,5,5,5,5,5,5,5,5,5,6,6,6,6,6,6,6,6,6,6,6,6,6,6,6,6,6,6,6,6,6,6,6,6,6,6,6,6,6,6,6,6,7,7,7,7,7,7,7,7,7,7,7,7,7,7,7,7,7,7,7,7,7,7,7,7,7,7,7,7,7,7,7,7,7,7,7,7,7,7,7,7,7,7,7,7,7,7,7,7,7,7,7,7,7,7,7,7,7,7,7,7,7,7,7,7,8,8,8,8,8,8,8,8,8,8,8,8,8,8,8,8,8,8,8,8,8,8,8,8,8,8,8,8,8,8,8,8,8,8,8,8,8,8,8,8,8,8,8,8,8,8,8,8,8,8,8,8,8,8,8,8,8,8,8,8,8,8,8,8,8,8,8,8,8,8,8,8,8,8,8,8,8,8,8,8,8,8,8,8,8,8,8,8,8,8,8,8,8,8,8,8,8,8,8,8,8,8,8,8,8,8,8,8,8,8,8,8,8,8,8,8,8,8,8,8,8,8,8,8,8,8,8,8]
theorem O_ (i:Nat)(h:i<256):tab.getD i 0=cL i:=by
 have U:((List.range 256).all fun i=>decide (tab.getD i 0=(cL i:Int)))=true:=by decide+kernel
 rw[asH]at U
 simpa using U i (by simpa using h)
theorem Xi {n m:Nat}(U:2^m<=n)(aa:n<2^(m+1)):cL n=m+1:=by
 have aE:n≠0:=by have:=atk m;omega
 unfold cL
 rw[asp aE,(Nat.log2_eq_iff aE).2 ⟨U,aa⟩]
theorem uy {n:Nat}(h:n≠0):2^(cL n-1)<=n/\n<2^cL n/\0<cL n:=by
 unfold cL
 rw[asp h]
 exact⟨Nat.log2_self_le h,Nat.lt_log2_self,by omega⟩
theorem w_ {n k:Nat}(h:2^k<=n):cL n=cL (n/2^k)+k:=by
 have aw:=atk k
 have aE:n/2^k≠0:=by
  have:=Nat.div_pos h aw
  omega
 obtain⟨cn,cF,hN⟩:=uy aE
 have an:2^(cL (n/2^k)-1+k)<=n:=by
  rw[ate]
  exact(Nat.le_div_iff_mul_le aw).1 cn
 have az:n<2^(cL (n/2^k)-1+k+1):=by
  rw[show cL (n/2^k)-1+k+1=cL (n/2^k)+k by omega,ate]
  exact(Nat.div_lt_iff_lt_mul aw).1 cF
 rw[Xi an az];omega
theorem uS {n k:Nat}(h:n<2^k):cL n<=k:=by
 by_cases aE:n=0
 ·subst aE;simp[cL]
 ·obtain⟨cn,cF,hN⟩:=uy aE
  have:=at7 cn h
  have:=(Nat.pow_lt_pow_iff_right (by decide:1<2)).1 this
  omega
theorem adO (x:Int)(K:J->Prop)(h:B4.T [.d (.int .u32 x)] K):KH x K:=by
 obtain⟨af,ab⟩:=h
 unfold L at af
 obtain⟨n,rfl⟩:∃n:Nat,x=n:=⟨x.toNat,by omega⟩
 rw[asu]at ab
 unfold KH
 refine⟨fun v s=>∃m k:Nat,v=m/\s=k/\m<65536/\k<=16/\cL n=cL m+k,⟨fun h=> ?_,fun h=> ?_⟩, ?_⟩
 ·simp only[asw]at h
  have:=w_ (n:=n) (k:=16) (by omega)
  refine⟨n/65536,16, ?_,rfl,by omega,by omega,this⟩
  rw[as_ _ (by omega)];omega
 ·simp only[asv]at h
  exact⟨n,0,rfl,rfl,by omega,by omega,rfl⟩
 rintro v s ⟨m,k,rfl,rfl,hm,aiS,he⟩
 have fin:∀(q c:Nat),q<256->c<=24->cL n=cL q+c->K (.d (.int .i64 (IntKind.wrap .i64 ((c:Int)+IntKind.wrap .i64 (tab.getD q 0))))):=fun q c aN ay e=>by
  have ae:=uS (n:=q) (k:=8) (by omega)
  rw[O_ q aN,bl (x:=(cL q:Int)) (by omega),bl (by omega)]
  rw[show(c:Int)+(cL q:Int)=((cL n:Nat):Int) by omega]
  exact ab
 refine⟨fun h=> ?_,fun h=> ?_⟩
 ·simp only[asw]at h
  have aP:IntKind.wrap .u8 (Int.fdiv (m:Int) 256)=((m/256:Nat):Int):=by
   rw[as_ _ (by omega),qF (by omega)];omega
  rw[aP,bl (x:=(k:Int)+8) (by omega),asu]
  have:=w_ (n:=m) (k:=8) (by omega)
  exact⟨by omega,by omega,fin (m/256) (k+8) (by omega) (by omega) (by rw[he,this];show cL (m/256)+8+k=_;omega)⟩
 ·simp only[asv]at h
  rw[qF (x:=(m:Int)) (by omega),asu]
  exact⟨by omega,by omega,fin m k (by omega) (by omega) he⟩
theorem ab_ (x:Int)(K:J->Prop)(h:AS.T [.d (.int .u32 x)] K):Jz x K:=by
 obtain⟨af,ab⟩:=h
 unfold Jz
 have gJ:=af
 unfold L at gJ
 have:=uS (n:=x.toNat) (k:=32) (by omega)
 rw[bl (by omega)]
 exact⟨af,ab⟩
theorem YB (p q s:Nat)(aN:q<2^s)(h:p*2^s+q<4294967296):bk .or .u32 (q:Int) ((p*2^s:Nat):Int)=((p*2^s+q:Nat):Int):=by
 rw[QU,BitVec.toNat_or,auh,auh,auw,auw]
 have az:(2^32:Nat)=4294967296:=rfl
 rw[az,ati (by omega),ati (by omega),Nat.or_comm,<-Nat.shiftLeft_eq,<-Nat.shiftLeft_add_eq_or_of_lt aN]
theorem Um {d c k:Nat}(ab:k<32)(aP:d<4294967296)(ay:c<2^k):
 d*2^k<18446744073709551616/\d*2^k/4294967296<2^k/\bk .or .u32 (c:Int) ((d*2^k%4294967296:Nat):Int)=((d*2^k%4294967296+c:Nat):Int)/\d*2^k%4294967296+c<4294967296:=by
 have U:d*2^k<4294967296*2^k:=auy aP (atk k)
 have aa:2^k<=2^31:=as9 (by decide) (by omega)
 have al:(2:Nat)^31=2147483648:=rfl
 obtain⟨j,aK⟩:∃j,4294967296=2^j*2^k:=⟨32-k,by rw[<-ate,show 32-k+k=32 by omega]⟩
 have aL:d*2^k%4294967296=d%2^j*2^k:=by rw[aK,Nat.mul_mod_mul_right]
 have bo:d%2^j*2^k+2^k<=4294967296:=by
  have:=as6 d (atk j)
  have:=asF (2^k) (show d%2^j+1<=2^j by omega)
  rw[asK,atx,<-aK]at this
  exact this
 refine⟨by omega, ?_, ?_,by rw[aL];omega⟩
 ·exact aue (by omega)
 ·rw[aL]
  exact YB _ c k ay (by omega)
theorem U_ {sm sn akV w P d x y c:Nat}(v1:sm+w*c=akV+w*(x+c))(v2:sn=sm+w*P*y)(aP:P*y+x=d):sn=akV+w*d:=by
 subst v2 aP
 simp only[asG]at v1⊢
 rw[as4]
 generalize w*(P*y)=A
 omega
theorem agk (a:List Int)(k:Int)(K:ad->Prop)(h:B5.T [.d (.ints .u32 a), .d (.int .u64 k)] K):MP a k K:=by
 obtain⟨⟨aC,r4,H2⟩,ab⟩:=h
 have fm:=aC.2
 obtain⟨s,rfl⟩:∃n:Nat,k=n:=⟨k.toNat,by omega⟩
 rw[asu]at ab
 unfold MP
 have bE:IntKind.wrap .i64 ((Nat.cast:Nat->Int) a.length+1)=((a.length+1:Nat):Int):=by rw[bl (by omega)];omega
 rw[bE]
 simp only[asu,show min s 64=s by omega]
 refine⟨by omega,by omega,by omega,fun i o=>aZ o/\o.length=a.length+1/\0<=i/\i<=a.length/\val o=cW a i.toNat*2^s/\(o.getD i.toNat 0).toNat<2^s/\∀p,i.toNat<p->o.getD p 0=0,
  fun i o=>a.length-i.toNat,⟨aZ.mI _,by simp,by omega,by omega,by simp[hr,uE], ?_,fun p _=> ?_⟩, ?_⟩
 ·have:(List.replicate (a.length+1) (0:Int)).getD (Int.toNat 0) 0=0:=by simp
  rw[this];exact atk s
 ·simp[ass,atN];split<;>rfl
 rintro i o ⟨aH,e9,rY,mf,aM,ay,bc⟩
 refine⟨fun h=> ?_,fun h=> ?_⟩
 ·simp only[asw]at h
  obtain⟨n,rfl⟩:∃n:Nat,i=n:=⟨i.toNat,by omega⟩
  have an:IntKind.wrap .i64 ((n:Int)+1)=((n+1:Nat):Int):=by rw[bl (by omega)];omega
  rw[an]
  simp only[asu,asJ]at*
  have aP:=aC.1 n
  have ZJ:=aH n
  obtain⟨d,h9⟩:∃d:Nat,a.getD n 0=d:=⟨(a.getD n 0).toNat,by omega⟩
  obtain⟨c,tJ⟩:∃d:Nat,o.getD n 0=d:=⟨(o.getD n 0).toNat,by omega⟩
  rw[h9]at aP⊢
  rw[tJ]at ZJ ay⊢
  rw[asu]at ay
  obtain⟨s1,s2,m7,lR⟩:=Um (d:=d) (c:=c) (k:=s) (by omega) (by omega) ay
  have g_:(2:Int)^s=((2^s:Nat):Int):=by simp
  have cz:IntKind.wrap .u64 (IntKind.wrap .u64 (d:Int)*(2:Int)^s)=((d*2^s:Nat):Int):=by
   rw[cl (x:=(d:Int)) (by omega),g_,<-atE,cl (by omega)]
  have dO:IntKind.wrap .u32 ((d*2^s:Nat):Int)=((d*2^s%4294967296:Nat):Int):=by rw[jH];omega
  have DL:2^s<=2^31:=as9 (by decide) (by omega)
  have QY:(2:Nat)^31=2147483648:=rfl
  have gZ:IntKind.wrap .u32 (Int.fdiv ((d*2^s:Nat):Int) 4294967296)=((d*2^s/4294967296:Nat):Int):=by
   rw[as_ _ (by omega),gF (by omega)];omega
  rw[cz,dO,gZ,m7]
  obtain⟨x,y,af,a6,hdiv⟩:∃x y,d*2^s%4294967296=x/\d*2^s/4294967296=y/\4294967296*y+x=d*2^s:=⟨_,_,rfl,rfl,at4 _ _⟩
  rw[af,a6]
  rw[a6]at s2
  rw[af]at lR
  have mW:y<4294967296:=by
   rw[QY]at DL
   have:=asR s2 DL
   omega
  have fZ:(0:Int)<=((x+c:Nat):Int)/\((x+c:Nat):Int)<4294967296:=⟨atm _,by omega⟩
  have dr:(0:Int)<=(y:Int)/\(y:Int)<4294967296:=⟨atm _,by omega⟩
  have hm:a.length-(n+1)<a.length-n:=by omega
  have vK:n+1<o.length:=by omega
  have H3:n<o.length:=by omega
  have Qx:n+1<(o.set n ((x+c:Nat):Int)).length:=by rw[asJ];exact vK
  have mJ:(0:Int)<=(n:Int)/\(n:Int)<(a.length:Int)/\(0:Int)<=(s:Int)/\(0:Int)<=(n:Int)/\(n:Int)<(o.length:Int)/\(0:Int)<=(n:Int)/\(n:Int)<(o.length:Int)/\(0:Int)<=((n+1:Nat):Int)/\((n+1:Nat):Int)<(o.length:Int):=by omega
  have PU:(0:Int)<=((n+1:Nat):Int)/\((n+1:Nat):Int)<=(a.length:Int):=by omega
  obtain⟨g1,g2,g3,g4,g5,g6,g7,g8,g9⟩:=mJ
  have v1:=lf o n ((x+c:Nat):Int) H3
  have v2:=lf (o.set n ((x+c:Nat):Int)) (n+1) (y:Int) Qx
  have vN:=bc (n+1) (Nat.lt_succ_self n)
  rw[ef,asp (fun h=>absurd h.1 (Nat.ne_of_lt (Nat.lt_succ_self n))),vN,show Int.toNat 0=0 from rfl,as3,asN,asu]at v2
  rw[tJ,asu,asu]at v1
  refine⟨g1,g2,g3,g4,g5,g6,g7,g8,g9,⟨(aH.set _ fZ).set _ dr,e9,PU.1,PU.2, ?_, ?_,fun p aw=> ?_⟩,hm⟩
  ·rw[asU]at v2
   rw[fc,h9,asu,asK,<-aM,as4]
   exact U_ v1 v2 hdiv
  ·rw[ef,asq ⟨rfl,Qx⟩,asu];exact s2
  ·clear v1 v2 s1 s2 m7 lR DL QY cz dO gZ aM hdiv af a6
   rw[ef,asp (by omega),ef,asp (by omega)]
   exact bc p (by omega)
 ·simp only[asv]at h
  obtain rfl:i=a.length:=by omega
  rw[asu,gi a (asz _)]at aM
  rw[<-aM,<-e9,FZ _ aH rfl]at ab
  exact ab
end I
end
section
open Go Go.bG
namespace I
def NQ:List Int->List Int->(J->Prop)->Prop:=
 fun(a b:List Int) (K:J->Prop)=>(0:Int)<=IntKind.wrap IntKind.i64 ((Nat.cast:Nat->Int) (List.length b)-(1:Int))/\IntKind.wrap IntKind.i64 ((Nat.cast:Nat->Int) (List.length b)-
 (1:Int))<(Nat.cast:Nat->Int) (List.length b)/\I.L (List.getD b (Int.toNat (IntKind.wrap IntKind.i64 ((Nat.cast:Nat->Int) (List.length b)-(1:Int)))) (0:Int))/\∀(x:Int),x=(32:
 Int)-(Nat.cast:Nat->Int) (I.cL (Int.toNat (List.getD b (Int.toNat (IntKind.wrap IntKind.i64 ((Nat.cast:Nat->Int) (List.length b)-(1:Int)))) (0:Int))))->(I.aF a/\(0:Int)<=
 IntKind.wrap IntKind.u64 x/\IntKind.wrap IntKind.u64 x<(32:Int))/\∀(au:List Int),au=I.jL (I.val a*(2:Nat)^Int.toNat (IntKind.wrap IntKind.u64 x)) (List.length a+(1:Nat))->
 (I.aF b/\(0:Int)<=IntKind.wrap IntKind.u64 x/\IntKind.wrap IntKind.u64 x<(32:Int))/\∀(ax:List Int),ax=I.jL (I.val b*(2:Nat)^Int.toNat (IntKind.wrap IntKind.u64 x))
 (List.length b+(1:Nat))->(I.aZ ax/\List.length ax<=(1000000000:Nat))/\∀(aJ:List Int),aJ=I.ah (I.val ax)->(0:Int)<=IntKind.wrap IntKind.i64 ((Nat.cast:Nat->Int)
 (List.length aJ)-(1:Int))/\IntKind.wrap IntKind.i64 ((Nat.cast:Nat->Int) (List.length aJ)-(1:Int))<(Nat.cast:Nat->Int) (List.length aJ)/\(0:Int)<=IntKind.wrap IntKind.i64
 ((Nat.cast:Nat->Int) (List.length aJ)-(2:Int))/\IntKind.wrap IntKind.i64 ((Nat.cast:Nat->Int) (List.length aJ)-(2:Int))<(Nat.cast:Nat->Int) (List.length aJ)/\(0:Int)<=
 IntKind.wrap IntKind.i64 ((Nat.cast:Nat->Int) (List.length au)-(Nat.cast:Nat->Int) (List.length aJ))/\IntKind.wrap IntKind.i64 ((Nat.cast:Nat->Int) (List.length au)-(Nat.cast:Nat->
 Int) (List.length aJ))<=IntKind.wrap IntKind.i64 ((Nat.cast:Nat->Int) (List.length au)-(Nat.cast:Nat->Int) (List.length aJ))/\IntKind.wrap IntKind.i64 ((Nat.cast:Nat->Int) (List.length
 au)-(Nat.cast:Nat->Int) (List.length aJ))*(4:Int)<=(281474976710656:Int)/\∃(aD:Int->List Int->List Int->Prop),∃(m:Int->List Int->List Int->Nat),((true,ad.ints IntKind.u32
 ax)=(true,ad.ints IntKind.u32 ax)/\aD (IntKind.wrap IntKind.i64 ((Nat.cast:Nat->Int) (List.length (List.replicate (Int.toNat (IntKind.wrap IntKind.i64 ((Nat.cast:Nat->Int) (List.length au)
 -(Nat.cast:Nat->Int) (List.length aJ)))) (0:Int)))-(1:Int))) au (List.replicate (Int.toNat (IntKind.wrap IntKind.i64 ((Nat.cast:Nat->Int) (List.length au)-(Nat.cast:Nat->Int)
 (List.length aJ)))) (0:Int)))/\∀(v12:Int) (ai ba:List Int),aD v12 ai ba->(decide ((0:Int)<=v12)=true->(0:Int)<=IntKind.wrap IntKind.i64 (v12+(Nat.cast:Nat->Int) (List.length
 aJ))/\IntKind.wrap IntKind.i64 (v12+(Nat.cast:Nat->Int) (List.length aJ))<(Nat.cast:Nat->Int) (List.length ai)/\(0:Int)<=IntKind.wrap IntKind.i64 (IntKind.wrap IntKind.i64 (v12+
 (Nat.cast:Nat->Int) (List.length aJ))-(1:Int))/\IntKind.wrap IntKind.i64 (IntKind.wrap IntKind.i64 (v12+(Nat.cast:Nat->Int) (List.length aJ))-(1:Int))<(Nat.cast:Nat->Int)
 (List.length ai)/\¬IntKind.wrap IntKind.u64 (List.getD aJ (Int.toNat (IntKind.wrap IntKind.i64 ((Nat.cast:Nat->Int) (List.length aJ)-(1:Int)))) (0:Int))=(0:Int)/\¬IntKind.wrap
 IntKind.u64 (List.getD aJ (Int.toNat (IntKind.wrap IntKind.i64 ((Nat.cast:Nat->Int) (List.length aJ)-(1:Int)))) (0:Int))=(0:Int)/\∃(a8:Int->Prop),(∃(aD:Int->Int->Prop),∃(m:
 Int->Int->Nat),((false,ad.ints IntKind.u32 ai)=(false,ad.ints IntKind.u32 ai)/\(true,ad.ints IntKind.u32 ax)=(true,ad.ints IntKind.u32 ax)/\(false,ad.ints IntKind.u32 ba)=(false,
 ad.ints IntKind.u32 ba)/\aD (IntKind.wrap IntKind.u64 (Int.tdiv (bk BinOp.or IntKind.u64 (IntKind.wrap IntKind.u64 (IntKind.wrap IntKind.u64 (List.getD ai (Int.toNat (IntKind.wrap IntKind.i64 (v12
 +(Nat.cast:Nat->Int) (List.length aJ)))) (0:Int))*(4294967296:Int))) (IntKind.wrap IntKind.u64 (List.getD ai (Int.toNat (IntKind.wrap IntKind.i64 (IntKind.wrap IntKind.i64 (v12+(Nat.cast
 :Nat->Int) (List.length aJ))-(1:Int)))) (0:Int)))) (IntKind.wrap IntKind.u64 (List.getD aJ (Int.toNat (IntKind.wrap IntKind.i64 ((Nat.cast:Nat->Int) (List.length aJ)-(1:Int)))) (0:
 Int))))) (Int.tmod (bk BinOp.or IntKind.u64 (IntKind.wrap IntKind.u64 (IntKind.wrap IntKind.u64 (List.getD ai (Int.toNat (IntKind.wrap IntKind.i64 (v12+(Nat.cast:Nat->Int) (List.length aJ))))
 (0:Int))*(4294967296:Int))) (IntKind.wrap IntKind.u64 (List.getD ai (Int.toNat (IntKind.wrap IntKind.i64 (IntKind.wrap IntKind.i64 (v12+(Nat.cast:Nat->Int) (List.length aJ))-(1:Int))))
 (0:Int)))) (IntKind.wrap IntKind.u64 (List.getD aJ (Int.toNat (IntKind.wrap IntKind.i64 ((Nat.cast:Nat->Int) (List.length aJ)-(1:Int)))) (0:Int)))))/\∀(cR bI:Int),aD cR bI->
 ((!decide (Int.fdiv cR (4294967296:Int)=(0:Int)))=true->((!decide (Int.fdiv (IntKind.wrap IntKind.u64 (bI+IntKind.wrap IntKind.u64 (List.getD aJ (Int.toNat (IntKind.wrap IntKind.i64
 ((Nat.cast:Nat->Int) (List.length aJ)-(1:Int)))) (0:Int)))) (4294967296:Int)=(0:Int)))=true->(false,ad.ints IntKind.u32 ai)=(false,ad.ints IntKind.u32 ai)/\(true,ad.ints
 IntKind.u32 ax)=(true,ad.ints IntKind.u32 ax)/\(false,ad.ints IntKind.u32 ba)=(false,ad.ints IntKind.u32 ba)/\a8 (IntKind.wrap IntKind.u64 (cR-(1:Int))))/\((!decide (Int.fdiv
 (IntKind.wrap IntKind.u64 (bI+IntKind.wrap IntKind.u64 (List.getD aJ (Int.toNat (IntKind.wrap IntKind.i64 ((Nat.cast:Nat->Int) (List.length aJ)-(1:Int)))) (0:Int)))) (4294967296:Int)=
 (0:Int)))=false->(false,ad.ints IntKind.u32 ai)=(false,ad.ints IntKind.u32 ai)/\(true,ad.ints IntKind.u32 ax)=(true,ad.ints IntKind.u32 ax)/\(false,ad.ints IntKind.u32 ba)=(false,
 ad.ints IntKind.u32 ba)/\aD (IntKind.wrap IntKind.u64 (cR-(1:Int))) (IntKind.wrap IntKind.u64 (bI+IntKind.wrap IntKind.u64 (List.getD aJ (Int.toNat (IntKind.wrap IntKind.i64 ((Nat.cast:Nat
 ->Int) (List.length aJ)-(1:Int)))) (0:Int))))/\m (IntKind.wrap IntKind.u64 (cR-(1:Int))) (IntKind.wrap IntKind.u64 (bI+IntKind.wrap IntKind.u64 (List.getD aJ (Int.toNat (IntKind.wrap
 IntKind.i64 ((Nat.cast:Nat->Int) (List.length aJ)-(1:Int)))) (0:Int))))<m cR bI))/\((!decide (Int.fdiv cR (4294967296:Int)=(0:Int)))=false->(0:Int)<=IntKind.wrap
 IntKind.i64 (IntKind.wrap IntKind.i64 (v12+(Nat.cast:Nat->Int) (List.length aJ))-(2:Int))/\IntKind.wrap IntKind.i64 (IntKind.wrap IntKind.i64 (v12+(Nat.cast:Nat->Int) (List.length
 aJ))-(2:Int))<(Nat.cast:Nat->Int) (List.length ai)/\(decide (bk BinOp.or IntKind.u64 (IntKind.wrap IntKind.u64 (bI*(4294967296:Int))) (IntKind.wrap IntKind.u64 (List.getD ai
 (Int.toNat (IntKind.wrap IntKind.i64 (IntKind.wrap IntKind.i64 (v12+(Nat.cast:Nat->Int) (List.length aJ))-(2:Int)))) (0:Int)))<IntKind.wrap IntKind.u64 (cR*IntKind.wrap IntKind.u64
 (List.getD aJ (Int.toNat (IntKind.wrap IntKind.i64 ((Nat.cast:Nat->Int) (List.length aJ)-(2:Int)))) (0:Int))))=true->((!decide (Int.fdiv (IntKind.wrap IntKind.u64 (bI+IntKind.wrap
 IntKind.u64 (List.getD aJ (Int.toNat (IntKind.wrap IntKind.i64 ((Nat.cast:Nat->Int) (List.length aJ)-(1:Int)))) (0:Int)))) (4294967296:Int)=(0:Int)))=true->(false,ad.ints
 IntKind.u32 ai)=(false,ad.ints IntKind.u32 ai)/\(true,ad.ints IntKind.u32 ax)=(true,ad.ints IntKind.u32 ax)/\(false,ad.ints IntKind.u32 ba)=(false,ad.ints IntKind.u32 ba)/\a8
 (IntKind.wrap IntKind.u64 (cR-(1:Int))))/\((!decide (Int.fdiv (IntKind.wrap IntKind.u64 (bI+IntKind.wrap IntKind.u64 (List.getD aJ (Int.toNat (IntKind.wrap IntKind.i64 ((Nat.cast:Nat->
 Int) (List.length aJ)-(1:Int)))) (0:Int)))) (4294967296:Int)=(0:Int)))=false->(false,ad.ints IntKind.u32 ai)=(false,ad.ints IntKind.u32 ai)/\(true,ad.ints IntKind.u32 ax)=
 (true,ad.ints IntKind.u32 ax)/\(false,ad.ints IntKind.u32 ba)=(false,ad.ints IntKind.u32 ba)/\aD (IntKind.wrap IntKind.u64 (cR-(1:Int))) (IntKind.wrap IntKind.u64 (bI+IntKind.wrap
 IntKind.u64 (List.getD aJ (Int.toNat (IntKind.wrap IntKind.i64 ((Nat.cast:Nat->Int) (List.length aJ)-(1:Int)))) (0:Int))))/\m (IntKind.wrap IntKind.u64 (cR-(1:Int))) (IntKind.wrap
 IntKind.u64 (bI+IntKind.wrap IntKind.u64 (List.getD aJ (Int.toNat (IntKind.wrap IntKind.i64 ((Nat.cast:Nat->Int) (List.length aJ)-(1:Int)))) (0:Int))))<m cR bI))/\(decide (bk
 BinOp.or IntKind.u64 (IntKind.wrap IntKind.u64 (bI*(4294967296:Int))) (IntKind.wrap IntKind.u64 (List.getD ai (Int.toNat (IntKind.wrap IntKind.i64 (IntKind.wrap IntKind.i64 (v12+(Nat.cast:Nat
 ->Int) (List.length aJ))-(2:Int)))) (0:Int)))<IntKind.wrap IntKind.u64 (cR*IntKind.wrap IntKind.u64 (List.getD aJ (Int.toNat (IntKind.wrap IntKind.i64 ((Nat.cast:Nat->Int) (List.length
 aJ)-(2:Int)))) (0:Int))))=false->(false,ad.ints IntKind.u32 ai)=(false,ad.ints IntKind.u32 ai)/\(true,ad.ints IntKind.u32 ax)=(true,ad.ints IntKind.u32 ax)/\(false,ad.ints
 IntKind.u32 ba)=(false,ad.ints IntKind.u32 ba)/\a8 cR)))/\∀(cR:Int),a8 cR->∃(fz:Int->Int->Int->List Int->List Int->Prop),∃(e_:Int->Int->Int->List Int->List Int->Nat),
 ((true,ad.ints IntKind.u32 ax)=(true,ad.ints IntKind.u32 ax)/\fz (0:Int) (0:Int) (0:Int) ai ba)/\∀(mm e2 hU:Int) (bq vn:List Int),fz mm e2 hU bq vn->(decide
 (hU<(Nat.cast:Nat->Int) (List.length aJ))=true->(0:Int)<=hU/\hU<(Nat.cast:Nat->Int) (List.length aJ)/\(0:Int)<=IntKind.wrap IntKind.i64 (v12+hU)/\IntKind.wrap
 IntKind.i64 (v12+hU)<(Nat.cast:Nat->Int) (List.length bq)/\(0:Int)<=IntKind.wrap IntKind.i64 (v12+hU)/\IntKind.wrap IntKind.i64 (v12+hU)<(Nat.cast:Nat->Int) (List.length
 bq)/\(true,ad.ints IntKind.u32 ax)=(true,ad.ints IntKind.u32 ax)/\fz (Int.fdiv (IntKind.wrap IntKind.u64 (IntKind.wrap IntKind.u64 (IntKind.wrap IntKind.u64 (List.getD bq (Int.toNat
 (IntKind.wrap IntKind.i64 (v12+hU))) (0:Int))-bk BinOp.and IntKind.u64 (IntKind.wrap IntKind.u64 (e2+IntKind.wrap IntKind.u64 (cR*IntKind.wrap IntKind.u64 (List.getD aJ (Int.toNat
 hU) (0:Int))))) (4294967295:Int))-mm)) (9223372036854775808:Int)) (Int.fdiv (IntKind.wrap IntKind.u64 (e2+IntKind.wrap IntKind.u64 (cR*IntKind.wrap IntKind.u64 (List.getD aJ
 (Int.toNat hU) (0:Int))))) (4294967296:Int)) (IntKind.wrap IntKind.i64 (hU+(1:Int))) (List.set bq (Int.toNat (IntKind.wrap IntKind.i64 (v12+hU))) (IntKind.wrap IntKind.u32
 (IntKind.wrap IntKind.u64 (IntKind.wrap IntKind.u64 (IntKind.wrap IntKind.u64 (List.getD bq (Int.toNat (IntKind.wrap IntKind.i64 (v12+hU))) (0:Int))-bk BinOp.and IntKind.u64 (IntKind.wrap
 IntKind.u64 (e2+IntKind.wrap IntKind.u64 (cR*IntKind.wrap IntKind.u64 (List.getD aJ (Int.toNat hU) (0:Int))))) (4294967295:Int))-mm)))) vn/\e_ (Int.fdiv (IntKind.wrap IntKind.u64
 (IntKind.wrap IntKind.u64 (IntKind.wrap IntKind.u64 (List.getD bq (Int.toNat (IntKind.wrap IntKind.i64 (v12+hU))) (0:Int))-bk BinOp.and IntKind.u64 (IntKind.wrap IntKind.u64 (e2+
 IntKind.wrap IntKind.u64 (cR*IntKind.wrap IntKind.u64 (List.getD aJ (Int.toNat hU) (0:Int))))) (4294967295:Int))-mm)) (9223372036854775808:Int)) (Int.fdiv (IntKind.wrap IntKind.u64 (e2
 +IntKind.wrap IntKind.u64 (cR*IntKind.wrap IntKind.u64 (List.getD aJ (Int.toNat hU) (0:Int))))) (4294967296:Int)) (IntKind.wrap IntKind.i64 (hU+(1:Int))) (List.set bq (Int.toNat
 (IntKind.wrap IntKind.i64 (v12+hU))) (IntKind.wrap IntKind.u32 (IntKind.wrap IntKind.u64 (IntKind.wrap IntKind.u64 (IntKind.wrap IntKind.u64 (List.getD bq (Int.toNat (IntKind.wrap IntKind.i64
 (v12+hU))) (0:Int))-bk BinOp.and IntKind.u64 (IntKind.wrap IntKind.u64 (e2+IntKind.wrap IntKind.u64 (cR*IntKind.wrap IntKind.u64 (List.getD aJ (Int.toNat hU) (0:Int)))))
 (4294967295:Int))-mm)))) vn<e_ mm e2 hU bq vn)/\(decide (hU<(Nat.cast:Nat->Int) (List.length aJ))=false->(0:Int)<=IntKind.wrap IntKind.i64 (v12+(Nat.cast:Nat->
 Int) (List.length aJ))/\IntKind.wrap IntKind.i64 (v12+(Nat.cast:Nat->Int) (List.length aJ))<(Nat.cast:Nat->Int) (List.length bq)/\(0:Int)<=IntKind.wrap IntKind.i64 (v12+(Nat.cast
 :Nat->Int) (List.length aJ))/\IntKind.wrap IntKind.i64 (v12+(Nat.cast:Nat->Int) (List.length aJ))<(Nat.cast:Nat->Int) (List.length bq)/\∃(a8:Int->List Int->List Int->Prop),
 (((!decide (Int.fdiv (IntKind.wrap IntKind.u64 (IntKind.wrap IntKind.u64 (IntKind.wrap IntKind.u64 (List.getD bq (Int.toNat (IntKind.wrap IntKind.i64 (v12+(Nat.cast:Nat->Int) (List.length
 aJ)))) (0:Int))-e2)-mm)) (9223372036854775808:Int)=(0:Int)))=true->∃(aD:Int->Int->List Int->List Int->Prop),∃(m:Int->Int->List Int->List Int->Nat),((true,ad.ints
 IntKind.u32 ax)=(true,ad.ints IntKind.u32 ax)/\aD (0:Int) (0:Int) (List.set bq (Int.toNat (IntKind.wrap IntKind.i64 (v12+(Nat.cast:Nat->Int) (List.length aJ)))) (IntKind.wrap
 IntKind.u32 (IntKind.wrap IntKind.u64 (IntKind.wrap IntKind.u64 (IntKind.wrap IntKind.u64 (List.getD bq (Int.toNat (IntKind.wrap IntKind.i64 (v12+(Nat.cast:Nat->Int) (List.length aJ)))) (0:
 Int))-e2)-mm)))) vn)/\∀(e2 iw:Int) (ai ba:List Int),aD e2 iw ai ba->(decide (iw<(Nat.cast:Nat->Int) (List.length aJ))=true->(0:Int)<=iw/\iw<(Nat.cast:Nat->
 Int) (List.length aJ)/\(0:Int)<=IntKind.wrap IntKind.i64 (v12+iw)/\IntKind.wrap IntKind.i64 (v12+iw)<(Nat.cast:Nat->Int) (List.length ai)/\(0:Int)<=IntKind.wrap IntKind.i64 (v12
 +iw)/\IntKind.wrap IntKind.i64 (v12+iw)<(Nat.cast:Nat->Int) (List.length ai)/\(true,ad.ints IntKind.u32 ax)=(true,ad.ints IntKind.u32 ax)/\aD (Int.fdiv (IntKind.wrap IntKind.u64
 (e2+IntKind.wrap IntKind.u64 (IntKind.wrap IntKind.u64 (List.getD ai (Int.toNat (IntKind.wrap IntKind.i64 (v12+iw))) (0:Int))+IntKind.wrap IntKind.u64 (List.getD aJ (Int.toNat iw) (0:
 Int))))) (4294967296:Int)) (IntKind.wrap IntKind.i64 (iw+(1:Int))) (List.set ai (Int.toNat (IntKind.wrap IntKind.i64 (v12+iw))) (IntKind.wrap IntKind.u32 (IntKind.wrap IntKind.u64 (e2+
 IntKind.wrap IntKind.u64 (IntKind.wrap IntKind.u64 (List.getD ai (Int.toNat (IntKind.wrap IntKind.i64 (v12+iw))) (0:Int))+IntKind.wrap IntKind.u64 (List.getD aJ (Int.toNat iw) (0:
 Int))))))) ba/\m (Int.fdiv (IntKind.wrap IntKind.u64 (e2+IntKind.wrap IntKind.u64 (IntKind.wrap IntKind.u64 (List.getD ai (Int.toNat (IntKind.wrap IntKind.i64 (v12+iw))) (0:Int))+
 IntKind.wrap IntKind.u64 (List.getD aJ (Int.toNat iw) (0:Int))))) (4294967296:Int)) (IntKind.wrap IntKind.i64 (iw+(1:Int))) (List.set ai (Int.toNat (IntKind.wrap IntKind.i64 (v12+
 iw))) (IntKind.wrap IntKind.u32 (IntKind.wrap IntKind.u64 (e2+IntKind.wrap IntKind.u64 (IntKind.wrap IntKind.u64 (List.getD ai (Int.toNat (IntKind.wrap IntKind.i64 (v12+iw))) (0:Int))+
 IntKind.wrap IntKind.u64 (List.getD aJ (Int.toNat iw) (0:Int))))))) ba<m e2 iw ai ba)/\(decide (iw<(Nat.cast:Nat->Int) (List.length aJ))=false->(0:Int)<=IntKind.wrap
 IntKind.i64 (v12+(Nat.cast:Nat->Int) (List.length aJ))/\IntKind.wrap IntKind.i64 (v12+(Nat.cast:Nat->Int) (List.length aJ))<(Nat.cast:Nat->Int) (List.length ai)/\(0:Int)<=
 IntKind.wrap IntKind.i64 (v12+(Nat.cast:Nat->Int) (List.length aJ))/\IntKind.wrap IntKind.i64 (v12+(Nat.cast:Nat->Int) (List.length aJ))<(Nat.cast:Nat->Int) (List.length ai)/\(true,
 ad.ints IntKind.u32 ax)=(true,ad.ints IntKind.u32 ax)/\a8 (IntKind.wrap IntKind.u64 (cR-(1:Int))) (List.set ai (Int.toNat (IntKind.wrap IntKind.i64 (v12+(Nat.cast:Nat->Int) (List.length
 aJ)))) (IntKind.wrap IntKind.u32 (List.getD ai (Int.toNat (IntKind.wrap IntKind.i64 (v12+(Nat.cast:Nat->Int) (List.length aJ)))) (0:Int)+IntKind.wrap IntKind.u32 e2))) ba))/\((!decide
 (Int.fdiv (IntKind.wrap IntKind.u64 (IntKind.wrap IntKind.u64 (IntKind.wrap IntKind.u64 (List.getD bq (Int.toNat (IntKind.wrap IntKind.i64 (v12+(Nat.cast:Nat->Int) (List.length aJ)))) (0:
 Int))-e2)-mm)) (9223372036854775808:Int)=(0:Int)))=false->(true,ad.ints IntKind.u32 ax)=(true,ad.ints IntKind.u32 ax)/\a8 cR (List.set bq (Int.toNat (IntKind.wrap IntKind.i64
 (v12+(Nat.cast:Nat->Int) (List.length aJ)))) (IntKind.wrap IntKind.u32 (IntKind.wrap IntKind.u64 (IntKind.wrap IntKind.u64 (IntKind.wrap IntKind.u64 (List.getD bq (Int.toNat (IntKind.wrap
 IntKind.i64 (v12+(Nat.cast:Nat->Int) (List.length aJ)))) (0:Int))-e2)-mm)))) vn))/\∀(cR:Int) (cT Dj:List Int),a8 cR cT Dj->(0:Int)<=v12/\v12<(Nat.cast:Nat->
 Int) (List.length Dj)/\(true,ad.ints IntKind.u32 ax)=(true,ad.ints IntKind.u32 ax)/\aD (IntKind.wrap IntKind.i64 (v12-(1:Int))) cT (List.set Dj (Int.toNat v12) (IntKind.wrap
 IntKind.u32 cR))/\m (IntKind.wrap IntKind.i64 (v12-(1:Int))) cT (List.set Dj (Int.toNat v12) (IntKind.wrap IntKind.u32 cR))<m v12 ai ba))/\(decide ((0:Int)<=v12)=false->(0:Int)<=
 (Nat.cast:Nat->Int) (List.length aJ)/\(Nat.cast:Nat->Int) (List.length aJ)<=(Nat.cast:Nat->Int) (List.length aJ)/\(Nat.cast:Nat->Int) (List.length aJ)*(4:Int)<=(281474976710656
 :Int)/\∃(aD:Int->List Int->List Int->List Int->Prop),∃(m:Int->List Int->List Int->List Int->Nat),((true,ad.ints IntKind.u32 ax)=(true,ad.ints IntKind.u32 ax)/\aD (0:Int) ai ba
 (List.replicate (Int.toNat ((Nat.cast:Nat->Int) (List.length aJ))) (0:Int)))/\∀(jN:Int) (ai ba cp:List Int),aD jN ai ba cp->(decide (jN<(Nat.cast:Nat->Int) (List.length aJ))=
 true->(0:Int)<=IntKind.wrap IntKind.i64 (jN+(1:Int))/\IntKind.wrap IntKind.i64 (jN+(1:Int))<(Nat.cast:Nat->Int) (List.length ai)/\(0:Int)<=jN/\jN<(Nat.cast:Nat->
 Int) (List.length ai)/\(0:Int)<=IntKind.wrap IntKind.u64 x/\(0:Int)<=jN/\jN<(Nat.cast:Nat->Int) (List.length cp)/\(true,ad.ints IntKind.u32 ax)=(true,ad.ints IntKind.u32 ax)/\
 aD (IntKind.wrap IntKind.i64 (jN+(1:Int))) ai ba (List.set cp (Int.toNat jN) (IntKind.wrap IntKind.u32 (Int.fdiv (bk BinOp.or IntKind.u64 (IntKind.wrap IntKind.u64 (IntKind.wrap IntKind.u64
 (List.getD ai (Int.toNat (IntKind.wrap IntKind.i64 (jN+(1:Int)))) (0:Int))*(4294967296:Int))) (IntKind.wrap IntKind.u64 (List.getD ai (Int.toNat jN) (0:Int)))) ((2:Int)^min
 (Int.toNat (IntKind.wrap IntKind.u64 x)) (64:Nat)))))/\m (IntKind.wrap IntKind.i64 (jN+(1:Int))) ai ba (List.set cp (Int.toNat jN) (IntKind.wrap IntKind.u32 (Int.fdiv (bk BinOp.or
 IntKind.u64 (IntKind.wrap IntKind.u64 (IntKind.wrap IntKind.u64 (List.getD ai (Int.toNat (IntKind.wrap IntKind.i64 (jN+(1:Int)))) (0:Int))*(4294967296:Int))) (IntKind.wrap IntKind.u64
 (List.getD ai (Int.toNat jN) (0:Int)))) ((2:Int)^min (Int.toNat (IntKind.wrap IntKind.u64 x)) (64:Nat)))))<m jN ai ba cp)/\(decide (jN<(Nat.cast:Nat->Int) (List.length aJ))=
 false->(I.aZ ba/\List.length ba<=(1000000000:Nat))/\∀(x:List Int),x=I.ah (I.val ba)->(I.aZ cp/\List.length cp<=(1000000000:Nat))/\∀(bb:List Int),bb=I.ah (I.val
 cp)->K (J.tup [J.d (R.ints IntKind.u32 x),J.d (R.ints IntKind.u32 bb)])))
end I
end
section
open Go Go.bG
namespace I
def lm (a:List Int)(i:Nat):Nat:=(a.getD i 0).toNat
theorem hE {a:List Int}(h:aZ a)(i:Nat):a.getD i 0=(lm a i:Int):=by
 have:=h i
 unfold lm;omega
theorem eX {a:List Int}(h:aZ a)(i:Nat):lm a i<4294967296:=by
 have:=h i
 unfold lm;omega
theorem lu (a:List Int)(i:Nat):dx a i=lm a i+4294967296*dx a (i+1):=mF a i
theorem Ft {a:List Int}(h:aZ a)(i m:Nat):∃l,dx a i=l+4294967296^m*dx a (i+m)/\l<4294967296^m:=by
 refine⟨cW (a.drop i) m, ?_,o_ (h.drop i) m⟩
 have:=kP (a.drop i) m
 unfold dx at this⊢
 rw[List.drop_drop]at this
 exact this
theorem Gu {a:List Int}(h:aZ a)(i:Nat):val a/4294967296^i=dx a i:=by
 rw[kP a i,Nat.add_mul_div_left _ _ (Nat.pow_pos (by decide)),at5 (o_ h i),as0]
theorem Fu {a:List Int}{i V:Nat}(aM:val a<4294967296^i*V):dx a i<V:=by
 have:=kP a i
 refine atI (a:=4294967296^i) ?_
 omega
theorem xs {u l b:Int}(hu:0<=u/\u<4294967296)(aq:0<=l/\l<4294967296)(ae:0<=b/\b<=1):
 Int.fdiv (IntKind.wrap .u64 (IntKind.wrap .u64 (IntKind.wrap .u64 u-l)-b)) 9223372036854775808=(if u-l-b<0 then 1 else 0)/\
 IntKind.wrap .u32 (IntKind.wrap .u64 (IntKind.wrap .u64 (IntKind.wrap .u64 u-l)-b))=(u-l-b)%4294967296:=by
 rw[GN u,GN,GN,jH,as_ _ (by omega)]
 refine⟨?_,by omega⟩
 split<;>omega
theorem PS {p:Nat}(aw:p<18446744073709551616):bk .and .u64 (p:Int) 4294967295=((p%4294967296:Nat):Int):=by
 have an:((BitVec.ofInt 64 (p:Int))&&&(BitVec.ofInt 64 4294967295)).toNat=p%4294967296:=by
  have:(4294967295:Int)=((2^32-1:Nat):Int):=rfl
  rw[this,BitVec.toNat_and,auh,auh,auw,auw,ati (by omega),ati (by omega),Nat.and_two_pow_sub_one_eq_mod]
 show IntKind.wrap .u64 _=_
 have az:((BitVec.ofInt (IntKind.u64).bits (p:Int))&&&(BitVec.ofInt (IntKind.u64).bits 4294967295)).toNat=p%4294967296:=an
 have:p%4294967296<4294967296:=as6 _ (by decide)
 rw[az,cl (by omega)]
theorem GK {h l:Nat}(b2:h<4294967296)(aq:l<4294967296):bk .or .u64 (IntKind.wrap .u64 (IntKind.wrap .u64 (h:Int)*4294967296)) (IntKind.wrap .u64 (l:Int))=((h*4294967296+l:Nat):Int):=by
 rw[cl (x:=(h:Int)) (by omega),cl (x:=(h:Int)*4294967296) (by omega),cl (x:=(l:Int)) (by omega),xF ⟨by omega,by omega⟩ ⟨by omega,by omega⟩]
 omega
theorem K4 {hM j2 A k:Nat}(ab:k<32):(j2*4294967296+hM)/2^k%4294967296=(hM+4294967296*(j2+4294967296*A))/2^k%4294967296:=by
 have aw:=atk k
 have U:hM+4294967296*(j2+4294967296*A)=j2*4294967296+hM+2^k*(4294967296*(2^(32-k)*A)):=by
  have e:2^k*(4294967296*(2^(32-k)*A))=4294967296*(4294967296*A):=by
   have az:2^k*2^(32-k)=4294967296:=by rw[<-ate,show k+(32-k)=32 by omega]
   rw[att,<-as4 (2^k),az]
  rw[e];omega
 rw[U,Nat.add_mul_div_left _ _ aw,Nat.add_mul_mod_self_left]
theorem NJ {b:List Int}(ae:aZ b)(ar:Norm b)(aa:2<=b.length):
 0<lm b (b.length-1)/\cL (lm b (b.length-1))<=32/\0<cL (lm b (b.length-1))/\
 val b*2^(32-cL (lm b (b.length-1)))<4294967296^b.length/\2147483648*4294967296^(b.length-1)<=val b*2^(32-cL (lm b (b.length-1))):=by
 have r8:lm b (b.length-1)≠0:=fun aE=>by
  apply ar
  have al:=ae (b.length-1)
  unfold lm at aE
  have aL:b.getD (b.length-1) 0=0:=by omega
  rw[List.getLast?_eq_getElem?]
  rw[ass,asI (by omega)]at aL
  rw[asI (by omega)]
  exact asQ some aL
 have bB:=eX ae (b.length-1)
 have ZK:=uS (n:=lm b (b.length-1)) (k:=32) (by omega)
 obtain⟨cn,cF,hN⟩:=uy r8
 have aM:=kP b (b.length-1)
 have ku:=o_ ae (b.length-1)
 rw[lu,show b.length-1+1=b.length by omega,n4 b (asz _),as3,asN]at aM
 refine⟨by omega,ZK,hN, ?_, ?_⟩
 ·have bo:val b<4294967296^(b.length-1)*2^cL (lm b (b.length-1)):=by
   have:=as1 (4294967296^(b.length-1)) (show lm b (b.length-1)+1<=2^cL (lm b (b.length-1)) by omega)
   rw[asG,asY]at this
   omega
  have bX:=auy bo (atk (32-cL (lm b (b.length-1))))
  rw[as4,<-ate,show cL (lm b (b.length-1))+(32-cL (lm b (b.length-1)))=32 by omega]at bX
  have fi:4294967296^b.length=4294967296^(b.length-1)*2^32:=by
   have:b.length=b.length-1+1:=by omega
   rw[this,asU];rfl
  rw[fi];exact bX
 ·have bo:4294967296^(b.length-1)*2^(cL (lm b (b.length-1))-1)<=val b:=by
   have:=as1 (4294967296^(b.length-1)) cn
   omega
  have bX:=asF (2^(32-cL (lm b (b.length-1)))) bo
  rw[as4,<-ate,show cL (lm b (b.length-1))-1+(32-cL (lm b (b.length-1)))=31 by omega]at bX
  rw[asT 2147483648]
  exact bX
structure aa0 (u v:List Int)(n j V F t s ib D:Nat)(p lv k3:Nat):Prop where
 fj:V=lv+p*(s+4294967296*t)
 nN:D=k3+p*(ib+4294967296*F)
 qC:lv<p
 r1:k3<p
 aA:0<t
 r0:t<4294967296
 ao:s<4294967296
 tG:ib<4294967296
 vB:D<4294967296*V
 Sa:F<t*4294967296+4294967296
theorem O4 {u v:List Int}{n j V:Nat}(hu:aZ u)(aM:aZ v)(kt:v.length=n)(ar:2<=n)(fj:val v=V)(om:2147483648*4294967296^(n-1)<=V)(bB:val u<4294967296^(j+1)*V):
 ∃p lv k3,aa0 u v n j V (lm u (j+n)*4294967296+lm u (j+n-1)) (lm v (n-1)) (lm v (n-2)) (lm u (j+n-2)) (dx u j) p lv k3:=by
 obtain⟨lv,an,az⟩:=Ft aM 0 (n-2)
 obtain⟨k3,f1,f2⟩:=Ft hu j (n-2)
 have ai3:=Fu bB
 have yP:V<4294967296^n:=by rw[<-fj,<-kt];exact gN aM
 rw[xo,fj,as0,lu,show n-2+1=n-1 by omega,lu,show n-1+1=n by omega,n4 v (by omega),as3,asN]at an
 have bc:dx u (j+n+1)=0:=by
  have U:val u<4294967296^(j+n+1)*1:=by
   rw[asY,show j+n+1=j+1+n by omega,ate]
   exact asR bB (as1 _ (Nat.le_of_lt yP))
  have:=Fu U
  omega
 have g1:dx u (j+(n-2))=lm u (j+n-2)+4294967296*(lm u (j+n)*4294967296+lm u (j+n-1)):=by
  rw[lu u (j+(n-2)),show j+(n-2)+1=j+n-1 by omega,lu u (j+n-1),show j+n-1+1=j+n by omega,lu u (j+n),bc,show j+(n-2)=j+n-2 by omega]
  omega
 have vB:dx u j<4294967296*V:=by
  have:=lu u j
  have:=eX hu j
  omega
 have ZL:0<lm v (n-1):=by
  rcases at1 (lm v (n-1))with aE|aE
  ·exfalso
   rw[aE]at an
   have ao:=eX aM (n-2)
   have al:4294967296^(n-2)*(lm v (n-2)+4294967296*0)+4294967296^(n-2)<=4294967296^(n-2)*4294967296:=by
    have:=as1 (4294967296^(n-2)) (show lm v (n-2)+4294967296*0+1<=4294967296 by omega)
    rw[asG _ _ 1,asY]at this
    exact this
   rw[<-asU,show(n-2).succ=n-1 by omega]at al
   have:1*4294967296^(n-1)<=2147483648*4294967296^(n-1):=asF _ (by decide)
   omega
  ·exact aE
 refine⟨4294967296^(n-2),lv,k3,an,by rw[f1,g1],az,f2,ZL,eX aM _,eX aM _,eX hu _,vB, ?_⟩
 have aL:dx u (j+1)=dx u (j+1):=rfl
 obtain⟨cj,aU,a_⟩:=Ft hu (j+1) (n-1)
 rw[show j+1+(n-1)=j+n by omega,lu u (j+n),bc,as3,asN (lm u (j+n))]at aU
 have ai4:V<4294967296^(n-1)*(lm v (n-1)+1):=by
  have bK:V+4294967296^(n-2)*1<=4294967296^(n-2)*(4294967296*(lm v (n-1)+1))+lv:=by
   have:=as1 (4294967296^(n-2)) (show lm v (n-2)+4294967296*lm v (n-1)+1<=4294967296*(lm v (n-1)+1) by have:=eX aM (n-2);omega)
   rw[asG _ _ 1]at this
   omega
  have cm:4294967296^(n-1)*(lm v (n-1)+1)=4294967296^(n-2)*(4294967296*(lm v (n-1)+1)):=by
   rw[show n-1=n-2+1 by omega,asU,as4]
  rw[cm];omega
 have bo:lm u (j+n)<lm v (n-1)+1:=by
  refine atI (a:=4294967296^(n-1)) ?_
  omega
 have:=eX hu (j+n-1)
 have:lm u (j+n)*4294967296<=lm v (n-1)*4294967296:=asF _ (by omega)
 omega
theorem Gv {h l:Nat}(b2:h<4294967296)(aq:l<4294967296):bk .or .u64 (IntKind.wrap .u64 ((h:Int)*4294967296)) (IntKind.wrap .u64 (l:Int))=((h*4294967296+l:Nat):Int):=by
 rw[cl (x:=(h:Int)*4294967296) (by omega),cl (x:=(l:Int)) (by omega),xF ⟨by omega,by omega⟩ ⟨by omega,by omega⟩]
 omega
theorem O7 {sn sm fF w A ez st Sb C B S:Nat}(a1:sn+w*ez=sm+w*st)(a2:sm+A=fF+w*(C+B))(a3:st+Sb+(C+B)=ez+4294967296*S):sn+(A+w*Sb)=fF+w*(4294967296*S):=by
 have h:=asQ (w*·) a3
 simp only[asG]at h a2⊢
 omega
theorem O8 {Sc Sd v2 w A ez st d C T:Nat}(a1:Sd+w*ez=Sc+w*st)(a2:Sc+w*C=v2+A)(a3:st+4294967296*T=C+ez+d):Sd+w*(4294967296*T)=v2+(A+w*d):=by
 have h:=asQ (w*·) a3
 simp only[asG]at h
 omega
theorem Xj {v1 v2 fF w y C B G V c1 l D:Nat}(e:v1+c1*(G*V)=fF+w*(C+B))(ao:v2+w*y=v1+w*(y-C-B))(a6:C+B<=y)(nD:fF=l+c1*D)(aq:l<c1)(qD:D<(G+1)*V):
 v2+c1*(G*V)=fF/\v2<c1*V:=by
 have U:w*y=w*(y-C-B)+w*(C+B):=by rw[<-asG];congr 1;omega
 have aa:v2+c1*(G*V)=fF:=by omega
 refine⟨aa, ?_⟩
 have al:=as1 c1 (show D+1<=(G+1)*V from qD)
 rw[asK,atx,asG,asG,asY]at al
 omega
theorem Xk {v1 v2 fF w y C B G V c1 l D:Nat}(e:v1+c1*(G*V)=fF+w*(C+B))(ao:v2+w*y=v1+w*(y+4294967296-C-B))(_:y<C+B)(m4:C+B<=4294967296)(aa:v2<w*4294967296)(nD:fF=l+c1*D)(yC:G*V<=D+V):
 v2+c1*(G*V)=fF+w*4294967296/\1<=G/\fF<c1*(G*V)/\c1*((G-1)*V)<=fF/\c1*(G*V)=c1*((G-1)*V)+c1*V:=by
 have U:w*(y+4294967296-C-B)+w*(C+B)=w*y+w*4294967296:=by rw[<-asG,<-asG];congr 1;omega
 have al:v2+c1*(G*V)=fF+w*4294967296:=by omega
 have hL:1<=G:=by
  rcases at1 G with aE|aE
  ·rw[aE,atL,as3]at al;omega
  ·exact aE
 have aL:G*V=(G-1)*V+V:=by rw[<-Nat.succ_mul];congr 1;omega
 have bo:c1*(G*V)=c1*((G-1)*V)+c1*V:=by rw[aL,asG]
 refine⟨al,hL,by omega, ?_,bo⟩
 have bX:(G-1)*V<=D:=by omega
 have:=as1 c1 bX
 omega
theorem Wk {v2 v3 v4 fF w y C G V c1 low:Nat}(al:v2+c1*(G*V)=fF+w*4294967296)(bo:c1*(G*V)=c1*((G-1)*V)+c1*V)(bX:c1*((G-1)*V)<=fF)(fi:fF<c1*(G*V))
 (aC:v3+w*C=v2+c1*V) (G5:v3=low+w*y) (aq:low<w) (a6:y<4294967296) (m4:C<=1) (ao:v4+w*y=v3):
 y+C=4294967296/\v4+c1*((G-1)*V)=fF/\v4<c1*V:=by
 have dI:v3+w*C+c1*((G-1)*V)=fF+w*4294967296:=by omega
 have lS:y+C=4294967296:=by
  refine Nat.le_antisymm (by omega) (Nat.le_of_not_lt fun bB=> ?_)
  have:=as1 w (show y+C+1<=4294967296 by omega)
  rw[asG,asG,asY]at this
  omega
 have r7:w*y+w*C=w*4294967296:=by rw[<-asG,lS]
 refine⟨lS,by omega,by omega⟩
end I
end
section
open Go Go.bG
namespace I
structure ZN (u cy:List Int)(j n V Q:Nat):Prop where
 RC:aZ cy
 len:cy.length=u.length
 ZO:Q<4294967296
 eq:val cy+4294967296^j*(Q*V)=val u
 lt:val cy<4294967296^j*V
set_option maxHeartbeats 1000000 in
theorem ahx (a b:List Int)(K:J->Prop)(h:CJ.T [.d (.ints .u32 a), .d (.ints .u32 b)] K):NQ a b K:=by
 obtain⟨⟨aC,ae,vP,tK,dr,hle⟩,ab⟩:=h
 have fm:=aC.2
 have lG:=ae.2
 obtain⟨ec,gC,zn,m5,qW⟩:=NJ ae.1 tK dr
 unfold NQ
 have an:IntKind.wrap .i64 ((Nat.cast:Nat->Int) b.length-1)=((b.length-1:Nat):Int):=by rw[bl (by omega)];omega
 rw[an,asu,hE ae.1,asu]
 have HW:=eX ae.1 (b.length-1)
 refine⟨by omega,by omega,⟨by omega,by omega⟩, ?_⟩
 rintro x rfl
 obtain⟨k,r4⟩:∃k,32-cL (lm b (b.length-1))=k:=⟨_,rfl⟩
 rw[r4]at m5 qW
 have Df:k<32:=by omega
 have az:IntKind.wrap .u64 (32-(cL (lm b (b.length-1)):Int))=(k:Int):=by rw[cl (by omega)];omega
 rw[az]
 simp only[asu]
 have HY:2^k<=2147483648:=by
  have:=as9 (show 0<2 by decide) (show k<=31 by omega)
  exact this
 have GL:4294967296^(b.length-1)<=val b:=by
  have U:=kP b (b.length-1)
  rw[lu]at U
  have aa:=as1 (4294967296^(b.length-1)) (show 1<=lm b (b.length-1)+4294967296*dx b (b.length-1+1) by omega)
  omega
 have hlen:b.length<=a.length:=by
  have U:=gN aC.1
  have aa:4294967296^(b.length-1)<4294967296^a.length:=by omega
  have:=(Nat.pow_lt_pow_iff_right (by decide:1<4294967296)).1 aa
  omega
 refine⟨⟨aC,by omega,by omega⟩, ?_⟩
 rintro hM r5
 refine⟨⟨ae,by omega,by omega⟩, ?_⟩
 rintro v0 iJ
 have vm:val v0=val b*2^k:=by
  rw[iJ]
  refine w8 _ _ (asR m5 (as9 (by decide) (by omega)))
 have rT:val hM=val a*2^k:=by
  rw[r5]
  refine w8 _ _ ?_
  rw[asU]
  exact Nat.mul_lt_mul'' (gN aC.1) (by omega)
 have G4:aZ hM:=r5▸w9 _ _
 have Dg:aZ v0:=iJ▸w9 _ _
 have QV:hM.length=a.length+1:=by rw[r5,uL]
 have QW:v0.length=b.length+1:=by rw[iJ,uL]
 refine⟨⟨Dg,by omega⟩, ?_⟩
 rintro v aM
 have mi:val v=val b*2^k:=by rw[aM,cq,vm]
 have nE:aZ v:=aM▸dN _
 have kt:v.length=b.length:=by
  rw[aM,vm]
  refine Nat.le_antisymm (eH.2 m5) ?_
  refine Nat.le_of_not_lt fun af=> ?_
  have U:=eH.1 (show(ah (val b*2^k)).length<=b.length-1 by omega)
  have aa:1*4294967296^(b.length-1)<=2147483648*4294967296^(b.length-1):=asF _ (by decide)
  omega
 have jC:val a/val b=val hM/val v:=by rw[rT,mi,Nat.mul_div_mul_right _ _ (atk k)]
 have hH:(val a%val b)*2^k=val hM%val v:=by rw[rT,mi,Nat.mul_mod_mul_right]
 have aiK:0<val b:=asR (Nat.pow_pos (by decide)) GL
 have om:2147483648*4294967296^(b.length-1)<=val v:=by rw[mi];exact qW
 have rZ:val v<4294967296^b.length:=by rw[mi];exact m5
 have zo:val hM<4294967296^(a.length+1-b.length)*val v:=by
  rw[rT]
  have U:val a*2^k<4294967296^a.length*2147483648:=asR (auy (gN aC.1) (atk k)) (as1 _ HY)
  have aa:=as1 (4294967296^(a.length+1-b.length)) om
  rw[att,<-ate,show a.length+1-b.length+(b.length-1)=a.length by omega,asT 2147483648]at aa
  exact asR U aa
 rw[kt,QV]
 clear aM r5 iJ mi rT vm m5 qW GL hle az an r4 ec gC zn HW Dg QW
 obtain⟨m,hm⟩:∃m,a.length+1-b.length=m:=⟨_,rfl⟩
 obtain⟨n,ar⟩:∃n,b.length=n:=⟨_,rfl⟩
 have HZ:1<=m:=by omega
 rw[hm]at zo
 rw[ar]at om rZ kt dr hlen⊢
 have cm:IntKind.wrap .i64 ((n:Int)-1)=((n-1:Nat):Int):=by rw[bl (by omega)];omega
 have eL:IntKind.wrap .i64 ((n:Int)-2)=((n-2:Nat):Int):=by rw[bl (by omega)];omega
 have hx:IntKind.wrap .i64 (((a.length+1:Nat):Int)-(n:Int))=(m:Int):=by rw[bl (by omega)];omega
 rw[cm,eL,hx]
 simp only[asu,List.length_replicate]
 refine⟨by omega,by omega,by omega,by omega,by omega,by omega,by omega,fun j u q=>-1<=j/\j<m/\aZ u/\u.length=m+n/\aZ q/\q.length=m/\val hM=val q*val v+val u/\val u<4294967296^(j+1).toNat*val v/\∀p:Nat,(p:Int)<=j->q.getD p 0=0,
  fun j u q=>(j+1).toNat,⟨by first|rfl|trivial, ?_⟩, ?_⟩
 ·rw[bl (by omega)]
  refine⟨by omega,by omega,G4,by omega,aZ.mI _,by simp,by rw[uE,atL,as0], ?_,fun p _=>by simp[ass,atN];split<;>rfl⟩
  rw[show((m:Int)-1+1).toNat=m by omega];exact zo
 rintro j u q ⟨vA,jT,hu,mU,aN,vG,heq,bB,yM⟩
 refine⟨fun aK=> ?_,fun aK=> ?_⟩
 ·simp only[asw]at aK
  obtain⟨j,rfl⟩:∃i:Nat,j=i:=⟨j.toNat,by omega⟩
  rw[show((j:Int)+1).toNat=j+1 by omega]at bB
  have jl:IntKind.wrap .i64 ((j:Int)+(n:Int))=((j+n:Nat):Int):=by rw[bl (by omega)];omega
  have jZ:IntKind.wrap .i64 (((j+n:Nat):Int)-1)=((j+n-1:Nat):Int):=by rw[bl (by omega)];omega
  have nO:IntKind.wrap .i64 (((j+n:Nat):Int)-2)=((j+n-2:Nat):Int):=by rw[bl (by omega)];omega
  rw[jl,jZ,nO]
  simp only[asu]
  obtain⟨p,lv,k3,aP⟩:=O4 (j:=j) hu nE kt dr rfl om bB
  simp only[hE hu,hE nE,GK (eX hu (j+n)) (eX hu (j+n-1))]
  have DI:IntKind.wrap .u64 ((lm v (n-1):Nat):Int)=((lm v (n-1):Nat):Int):=cl (by have:=aP.r0;omega)
  have DJ:IntKind.wrap .u64 ((lm v (n-2):Nat):Int)=((lm v (n-2):Nat):Int):=cl (by have:=aP.ao;omega)
  simp only[DI,DJ]
  obtain⟨F,yD⟩:∃F,lm u (j+n)*4294967296+lm u (j+n-1)=F:=⟨_,rfl⟩
  rw[yD]at aP
  simp only[yD]
  have nN:∃D,dx u j=D:=⟨_,rfl⟩
  obtain⟨D,yE⟩:=nN
  rw[yE]at aP
  obtain⟨t,qB⟩:∃t,lm v (n-1)=t:=⟨_,rfl⟩
  obtain⟨s,mg⟩:∃s,lm v (n-2)=s:=⟨_,rfl⟩
  obtain⟨ib,x3⟩:∃s,lm u (j+n-2)=s:=⟨_,rfl⟩
  rw[qB,mg,x3]at aP
  rw[qB]at DI
  rw[mg]at DJ
  simp only[qB,mg,x3]
  obtain⟨fj,oo,qC,r1,aA,r0,ao,tG,vB,Sa⟩:=aP
  have IL:Int.tdiv (F:Int) (t:Int)=((F/t:Nat):Int):=by rw[auP (by omega),aug]
  have IM:Int.tmod (F:Int) (t:Int)=((F%t:Nat):Int):=by rw[aus (by omega),aut]
  simp only[IL,IM]
  have Zt:F<18446744073709551616:=by omega
  have HP:F/t<=F:=auL _ _
  have Zu:F%t<t:=as6 _ aA
  have zk:∀qV:Nat,qV<=F->IntKind.wrap .u64 (qV:Int)=(qV:Int):=fun qV h=>cl (by omega)
  simp only[zk _ HP]
  refine⟨by omega,by omega,by omega,by omega,by omega,by omega,fun g=>∃G:Nat,g=G/\G<4294967296/\D<(G+1)*val v/\G*val v<=D+val v, ?_, ?_⟩
  ·refine⟨fun g r=>∃G bp:Nat,g=G/\r=bp/\t*G+bp=F/\bp<4294967296/\D<(G+1)*val v,fun g r=>g.toNat,⟨by first|rfl|trivial,by first|rfl|trivial,by first|rfl|trivial,F/t,F%t,rfl,rfl,at4 F t,by omega, ?_⟩, ?_⟩
   ·rw[oo,fj]
    exact(NH (lv:=lv) (s:=s) rfl rfl aA r1 tG).1
   rintro g r ⟨G,bp,rfl,rfl,yF,dT,qD⟩
   have Zv:G<=F:=by
    have:1*G<=t*G:=asF _ aA
    omega
   have HQ:IntKind.wrap .u64 ((bp:Int)+(t:Int))=((bp+t:Nat):Int):=by rw[cl (by omega)];omega
   have ZP:((bp+t:Nat):Int).fdiv 4294967296=((bp+t:Nat):Int)/4294967296:=as_ _ (by omega)
   have ZQ:(G:Int).fdiv 4294967296=(G:Int)/4294967296:=as_ _ (by omega)
   simp only[HQ,ZP,ZQ]
   refine⟨fun hL=> ?_,fun hL=>⟨by omega,by omega, ?_⟩⟩
   ·have r2:¬((G:Int)/4294967296=0):=by simpa using hL
    have js:D<G*val v:=asR vB (asF _ (by omega))
    have HR:1<=G:=by
     rcases at1 G with aE|aE
     ·rw[aE,atL]at js;omega
     ·exact aE
    have oE:IntKind.wrap .u64 ((G:Int)-1)=((G-1:Nat):Int):=by rw[cl (by omega)];omega
    have oe:t*(G-1)+(bp+t)=F:=by
     have:t*G=t*(G-1)+t:=by rw[<-Nat.mul_succ];congr 1;omega
     omega
    have og:D<(G-1+1)*val v:=by rw[show G-1+1=G by omega];exact js
    simp only[oE]
    refine⟨fun ak=>⟨by first|rfl|trivial,by first|rfl|trivial,by first|rfl|trivial,G-1,rfl, ?_,og, ?_⟩,fun ak=>⟨by first|rfl|trivial,by first|rfl|trivial,by first|rfl|trivial,⟨G-1,bp+t,rfl,rfl,oe, ?_,og⟩, ?_⟩⟩
    ·have yS:¬(((bp+t:Nat):Int)/4294967296=0):=by simpa using ak
     refine atI (a:=t) ?_
     omega
    ·have yS:¬(((bp+t:Nat):Int)/4294967296=0):=by simpa using ak
     have kY:G-1<4294967296:=by
      refine atI (a:=t) ?_
      omega
     have gR:(G-1)*s<=(bp+t)*4294967296+ib:=by
      have U:(G-1)*s<=4294967296*4294967296:=atS (by omega) (by omega)
      have aa:4294967296*4294967296<=(bp+t)*4294967296:=asF _ (by omega)
      omega
     rw[oo,fj]
     exact uK oe aA qC kY gR
    ·have yS:((bp+t:Nat):Int)/4294967296=0:=by simpa using ak
     omega
    ·show((G-1:Nat):Int).toNat<(G:Int).toNat
     omega
   ·have r2:(G:Int)/4294967296=0:=by simpa using hL
    have IN:IntKind.wrap .u64 ((G:Int)*(s:Int))=((G*s:Nat):Int):=by
     have:G*s<=4294967295*4294967295:=atS (by omega) (by omega)
     rw[<-atE,cl ⟨atm _,by omega⟩]
    have IP:=Gv (h:=bp) (l:=ib) dT tG
    simp only[IN,IP]
    refine⟨fun ay=> ?_,fun ay=>⟨by first|rfl|trivial,by first|rfl|trivial,by first|rfl|trivial,G,rfl,by omega,qD, ?_⟩⟩
    ·simp only[asw,atT]at ay
     have js:D<G*val v:=by rw[oo,fj];exact NI yF r1 ay
     have HR:1<=G:=by
      rcases at1 G with aE|aE
      ·rw[aE,atL]at js;omega
      ·exact aE
     have oE:IntKind.wrap .u64 ((G:Int)-1)=((G-1:Nat):Int):=by rw[cl (by omega)];omega
     have oe:t*(G-1)+(bp+t)=F:=by
      have:t*G=t*(G-1)+t:=by rw[<-Nat.mul_succ];congr 1;omega
      omega
     have og:D<(G-1+1)*val v:=by rw[show G-1+1=G by omega];exact js
     simp only[oE]
     refine⟨fun ak=>⟨by first|rfl|trivial,by first|rfl|trivial,by first|rfl|trivial,G-1,rfl, ?_,og, ?_⟩,fun ak=>⟨by first|rfl|trivial,by first|rfl|trivial,by first|rfl|trivial,⟨G-1,bp+t,rfl,rfl,oe, ?_,og⟩, ?_⟩⟩
     ·have yS:¬(((bp+t:Nat):Int)/4294967296=0):=by simpa using ak
      refine atI (a:=t) ?_
      omega
     ·have yS:¬(((bp+t:Nat):Int)/4294967296=0):=by simpa using ak
      have kY:G-1<4294967296:=by
       refine atI (a:=t) ?_
       omega
      have gR:(G-1)*s<=(bp+t)*4294967296+ib:=by
       have U:(G-1)*s<=4294967296*4294967296:=atS (by omega) (by omega)
       have aa:4294967296*4294967296<=(bp+t)*4294967296:=asF _ (by omega)
       omega
      rw[oo,fj]
      exact uK oe aA qC kY gR
     ·have yS:((bp+t:Nat):Int)/4294967296=0:=by simpa using ak
      omega
     ·show((G-1:Nat):Int).toNat<(G:Int).toNat
      omega
    ·simp only[asv,atT]at ay
     rw[oo,fj]
     exact uK yF aA qC (by omega) (by omega)
  ·rintro g ⟨G,rfl,r2,qD,yC⟩
   have nD:∃l,val u=l+4294967296^j*D/\l<4294967296^j:=⟨cW u j,by rw[<-yE];exact kP u j,o_ hu j⟩
   obtain⟨l,nD,aq⟩:=nD
   have bc:∀p,j+n<p->u.getD p 0=0:=fun p aw=>by
    refine O5 hu (m:=j+n+1) ?_ p (by omega)
    rw[show j+n+1=j+1+n by omega,ate]
    exact asR bB (as1 _ (Nat.le_of_lt rZ))
   refine⟨fun zl c i cy iC=>iC=q/\aZ cy/\cy.length=m+n/\∃C B i0:Nat,zl=B/\c=C/\i=i0/\i0<=n/\B<=1/\C<4294967296/\val cy+4294967296^j*(G*cW v i0)=val u+4294967296^(j+i0)*(C+B)/\∀p,j+n<p->cy.getD p 0=0,
    fun _ _ i _ _=>n-i.toNat,⟨by first|rfl|trivial,rfl,hu,mU,0,0,0,rfl,rfl,rfl,by omega,by omega,by omega,by rw[hr,as3,as3,as3],bc⟩, ?_⟩
   rintro zl c i cy iC ⟨rfl,iI,akd,C,B,i,rfl,rfl,rfl,eE,eG,m4,iX,cS⟩
   refine⟨fun h=> ?_,fun h=> ?_⟩
   ·simp only[asw]at h
    have zm:IntKind.wrap .i64 ((j:Int)+(i:Int))=((j+i:Nat):Int):=by rw[bl (by omega)];omega
    have yG:IntKind.wrap .i64 ((i:Int)+1)=((i+1:Nat):Int):=by rw[bl (by omega)];omega
    simp only[zm,yG,asu,hE iI]
    have nF:=eX nE i
    have x2:=eX iI (j+i)
    obtain⟨d,jR⟩:∃d,lm v i=d:=⟨_,rfl⟩
    obtain⟨ez,lI⟩:∃d,lm cy (j+i)=d:=⟨_,rfl⟩
    rw[jR]at nF
    rw[lI]at x2
    simp only[jR,lI]
    obtain⟨t1,lo,sk,st,mu,G3,DK,h8,t2,ct,x4,r3,nG,t4⟩:=MM (g:=G) (d:=d) (c:=C) (b:=B) (u:=ez) r2 nF m4 eG x2
    have Zy:G*d<=4294967295*4294967295:=atS (by omega) (by omega)
    have cz:IntKind.wrap .u64 (d:Int)=(d:Int):=cl (by omega)
    have dO:IntKind.wrap .u64 ((G:Int)*(d:Int))=((G*d:Nat):Int):=by rw[<-atE,cl ⟨atm _,by omega⟩]
    have gZ:IntKind.wrap .u64 ((C:Int)+((G*d:Nat):Int))=((C+G*d:Nat):Int):=by rw[<-auB,cl ⟨atm _,by omega⟩]
    have oF:=PS t1
    rw[G3]at oF
    have nP:((C+G*d:Nat):Int).fdiv 4294967296=(((C+G*d)/4294967296:Nat):Int):=by rw[as_ _ (by omega),aug];rfl
    obtain⟨nQ,fG⟩:=xs (u:=(ez:Int)) (l:=(lo:Int)) (b:=(B:Int)) (by omega) (by omega) (by omega)
    rw[r3]at nQ
    rw[ct]at fG
    rw[DK]at nP
    simp only[cz,dO,gZ,oF,nP,nQ,fG]
    have jS:=lf cy (j+i) (st:Int) (by omega)
    rw[show(cy.getD (j+i) 0).toNat=ez from lI,asu]at jS
    have ku:cW v (i+1)=cW v i+4294967296^i*d:=by rw[fc,show(v.getD i 0).toNat=d from jR]
    have jM:=O7 jS iX t4
    refine⟨by omega,by omega,by omega,by omega,by omega,by omega,by first|rfl|trivial,⟨by first|rfl|trivial,iI.set _ ⟨by omega,by omega⟩,by rw[asJ];exact akd,sk,mu,i+1,rfl,rfl,rfl,by omega,nG,t2, ?_,fun p aw=> ?_⟩,by show n-((i+1:Nat):Int).toNat<n-(i:Int).toNat;omega⟩
    ·have mT:4294967296^j*(G*cW v (i+1))=4294967296^j*(G*cW v i)+4294967296^(j+i)*(G*d):=by
      rw[ku,asG,asG,ate,att G,as4]
     have pw:4294967296^(j+(i+1))*(sk+mu)=4294967296^(j+i)*(4294967296*(sk+mu)):=by
      rw[<-atn,asU,as4]
     rw[mT,pw];exact jM
    ·rw[ef,asp (by omega)];exact cS p aw
   ·simp only[asv]at h
    obtain rfl:i=n:=by omega
    rw[gi v (by omega)]at iX
    have a6:=eX iI (j+i)
    simp only[hE iI]
    obtain⟨y,H4⟩:∃y,lm cy (j+i)=y:=⟨_,rfl⟩
    rw[H4]at a6
    simp only[H4]
    obtain⟨nQ,fG⟩:=xs (u:=(y:Int)) (l:=(C:Int)) (b:=(B:Int)) (by omega) (by omega) (by omega)
    simp only[nQ,fG]
    have jS:=lf cy (j+i) (((y:Int)-(C:Int)-(B:Int))%4294967296) (by omega)
    rw[show(cy.getD (j+i) 0).toNat=y from H4]at jS
    refine⟨by omega,by omega,by omega,by omega,fun g H5 DM=>∃Q:Nat,g=Q/\DM=iC/\ZN u H5 j i (val v) Q,⟨fun af=> ?_,fun af=> ?_⟩, ?_⟩
    ·have H6:y<C+B:=by
      by_cases ay:(y:Int)-C-B<0
      ·omega
      ·rw[asp ay]at af;simp at af
     rw[show(((y:Int)-(C:Int)-(B:Int))%4294967296)=((y+4294967296-C-B:Nat):Int) by omega]at jS
     simp only[show(((y:Int)-(C:Int)-(B:Int))%4294967296)=((y+4294967296-C-B:Nat):Int) by omega]
     rw[asu]at jS
     have G6:aZ (cy.set (j+i) ((y+4294967296-C-B:Nat):Int)):=iI.set _ ⟨by omega,by omega⟩
     have QZ:(cy.set (j+i) ((y+4294967296-C-B:Nat):Int)).length=m+i:=by rw[asJ];exact akd
     have ot:∀p,j+i<p->(cy.set (j+i) ((y+4294967296-C-B:Nat):Int)).getD p 0=0:=fun p aw=>by
      rw[ef,asp (by omega)];exact cS p aw
     obtain⟨kB,ou⟩:∃kB,cy.set (j+i) ((y+4294967296-C-B:Nat):Int)=kB:=⟨_,rfl⟩
     rw[ou]at jS G6 QZ ot
     simp only[ou]
     have lJ:val kB<4294967296^(j+i)*4294967296:=by rw[<-asU];exact B7 G6 (m:=j+i+1) fun p aw=>ot p (by omega)
     obtain⟨g3,g1,g7,g6,g5⟩:=Xk iX jS H6 (by omega) lJ nD yC
     have oE:IntKind.wrap .u64 ((G:Int)-1)=((G-1:Nat):Int):=by rw[cl (by omega)];omega
     simp only[oE]
     refine⟨fun c i3 ds cu=>cu=iC/\aZ ds/\ds.length=m+i/\∃gM i0:Nat,c=gM/\i3=i0/\i0<=i/\gM<=1/\val ds+4294967296^(j+i0)*gM=val kB+4294967296^j*cW v i0/\∀p,j+i<p->ds.getD p 0=0,fun _ i3 _ _=>i-i3.toNat,
      ⟨by first|rfl|trivial,by first|rfl|trivial,G6,QZ,0,0,rfl,rfl,by omega,by omega,by rw[hr,as3,as3],ot⟩, ?_⟩
     rintro c i3 ds cu ⟨rfl,mh,x5,gM,i3,rfl,rfl,Zz,Rw,ta,yI⟩
     refine⟨fun al=> ?_,fun al=> ?_⟩
     ·simp only[asw]at al
      have sl:IntKind.wrap .i64 ((j:Int)+(i3:Int))=((j+i3:Nat):Int):=by rw[bl (by omega)];omega
      have HS:IntKind.wrap .i64 ((i3:Int)+1)=((i3+1:Nat):Int):=by rw[bl (by omega)];omega
      simp only[sl,HS,asu,hE mh]
      have nF:=eX nE i3
      have x2:=eX mh (j+i3)
      obtain⟨d,jR⟩:∃d,lm v i3=d:=⟨_,rfl⟩
      obtain⟨ez,lI⟩:∃d,lm ds (j+i3)=d:=⟨_,rfl⟩
      rw[jR]at nF
      rw[lI]at x2
      simp only[jR,lI]
      have cz:IntKind.wrap .u64 (gM+IntKind.wrap .u64 (IntKind.wrap .u64 (ez:Int)+IntKind.wrap .u64 (d:Int)))=((gM+(ez+d):Nat):Int):=by
       rw[cl (x:=(d:Int)) (by omega),cl (x:=(ez:Int)) (by omega),cl (x:=(ez:Int)+(d:Int)) (by omega),cl (by omega)];omega
      have dO:((gM+(ez+d):Nat):Int).fdiv 4294967296=(((gM+(ez+d))/4294967296:Nat):Int):=by rw[as_ _ (by omega),aug];rfl
      have gZ:IntKind.wrap .u32 ((gM+(ez+d):Nat):Int)=(((gM+(ez+d))%4294967296:Nat):Int):=by rw[jH];omega
      simp only[cz,dO,gZ]
      have ct:(gM+(ez+d))%4294967296<4294967296:=as6 _ (by decide)
      have x6:=lf ds (j+i3) (((gM+(ez+d))%4294967296:Nat):Int) (by omega)
      rw[show(ds.getD (j+i3) 0).toNat=ez from lI,asu]at x6
      have ku:cW v (i3+1)=cW v i3+4294967296^i3*d:=by rw[fc,show(v.getD i3 0).toNat=d from jR]
      have jM:=O8 (T:=(gM+(ez+d))/4294967296) (d:=d) x6 ta (by omega)
      refine⟨by omega,by omega,by omega,by omega,by omega,by omega,by first|rfl|trivial,⟨by first|rfl|trivial,mh.set _ ⟨by omega,by omega⟩,by rw[asJ];exact x5,(gM+(ez+d))/4294967296,i3+1,rfl,rfl,by omega,by omega, ?_,fun p aw=> ?_⟩,by show i-((i3+1:Nat):Int).toNat<i-(i3:Int).toNat;omega⟩
      ·have mT:4294967296^j*cW v (i3+1)=4294967296^j*cW v i3+4294967296^(j+i3)*d:=by
        rw[ku,asG,ate,as4]
       have pw:4294967296^(j+(i3+1))*((gM+(ez+d))/4294967296)=4294967296^(j+i3)*(4294967296*((gM+(ez+d))/4294967296)):=by
        rw[<-atn,asU,as4]
       rw[mT,pw];exact jM
      ·rw[ef,asp (by omega)];exact yI p aw
     ·simp only[asv]at al
      obtain rfl:i3=i:=by omega
      rw[gi v (by omega)]at ta
      have RD:=eX mh (j+i3)
      simp only[hE mh]
      obtain⟨D_,Di⟩:∃y,lm ds (j+i3)=y:=⟨_,rfl⟩
      rw[Di]at RD
      simp only[Di]
      have G5:=kP ds (j+i3)
      have jU:dx ds (j+i3+1)=0:=by
       have:=Fu (a:=ds) (i:=j+i3+1) (V:=1) (by rw[asY];exact B7 mh fun p aw=>yI p (by omega))
       omega
      rw[lu,jU,as3,asN,Di]at G5
      have Q0:=lf ds (j+i3) 0 (by omega)
      rw[show(ds.getD (j+i3) 0).toNat=D_ from Di,show Int.toNat 0=0 from rfl,as3,asN]at Q0
      obtain⟨aU,a_,bF⟩:=Wk g3 g5 g6 g7 ta G5 (o_ mh _) RD Rw Q0
      have cz:IntKind.wrap .u32 ((D_:Int)+IntKind.wrap .u32 (gM:Int))=0:=by
       rw[gF (x:=(gM:Int)) (by omega),jH];omega
      simp only[cz]
      exact⟨by omega,by omega,by omega,by omega,by first|rfl|trivial,G-1,rfl,by first|rfl|trivial,mh.set _ (by omega),by rw[asJ,x5,mU],by omega,a_,bF⟩
    ·have H6:C+B<=y:=by
      by_cases ay:(y:Int)-C-B<0
      ·rw[asq ay]at af;simp at af
      ·omega
     rw[show(((y:Int)-(C:Int)-(B:Int))%4294967296)=((y-C-B:Nat):Int) by omega]at jS⊢
     rw[asu]at jS
     obtain⟨f1,f2⟩:=Xj iX jS H6 nD aq qD
     exact⟨by first|rfl|trivial,G,rfl,rfl,iI.set _ ⟨by omega,by omega⟩,by rw[asJ,akd,mU],r2,f1,f2⟩
    ·rintro g H5 DM ⟨Q,rfl,rfl,yT⟩
     have kz:=yT.ZO
     have aa4:IntKind.wrap .u32 (Q:Int)=(Q:Int):=gF (by omega)
     have c1:IntKind.wrap .i64 ((j:Int)-1)=(j:Int)-1:=bl (by omega)
     rw[aa4,c1]
     have vH:=yM j (by omega)
     have yN:=lf DM j (Q:Int) (by omega)
     rw[vH,show Int.toNat 0=0 from rfl,as3,asN,asu]at yN
     have Y6:val hM=(val DM+4294967296^j*Q)*val v+val H5:=by
      rw[heq,<-yT.eq,asK,as4];omega
     refine⟨by omega,by omega,by first|rfl|trivial,⟨by omega,by omega,yT.RC,by rw[yT.len];exact mU,aN.set _ ⟨by omega,by omega⟩,by rw[asJ];exact vG,by rw[yN];exact Y6, ?_,fun p aw=> ?_⟩, ?_⟩
     ·rw[show((j:Int)-1+1).toNat=j by omega];exact yT.lt
     ·rw[ef,asp (by omega)];exact yM p (by omega)
     ·show((j:Int)-1+1).toNat<((j:Int)+1).toNat
      omega
 ·simp only[asv]at aK
  obtain rfl:j=-1:=by omega
  rw[show((-1:Int)+1).toNat=0 from rfl,aua,atx]at bB
  have yO:val hM/val v=val q:=by
   rw[heq,asT,Nat.mul_add_div (by omega),at5 bB,asN]
  have vI:val hM%val v=val u:=by
   rw[heq,asT,aun,ati bB]
  have dT:val u/2^k=val a%val b:=by rw[<-vI,<-hH,Nat.mul_div_cancel _ (atk k)]
  refine⟨by omega,by omega,by omega,fun i cy iC r=>cy=u/\iC=q/\aZ r/\r.length=n/\∃i0:Nat,i=i0/\i0<=n/\cW r i0=val u/2^k%4294967296^i0,fun i _ _ _=>n-i.toNat,⟨by first|rfl|trivial,rfl,rfl,aZ.mI _,by simp,0,rfl,by omega,by rw[hr,aua,Nat.mod_one]⟩, ?_⟩
  rintro i cy iC r ⟨rfl,rfl,ak,yU,i,rfl,eE,H7⟩
  refine⟨fun h=> ?_,fun h=> ?_⟩
  ·simp only[asw]at h
   have yG:IntKind.wrap .i64 ((i:Int)+1)=((i+1:Nat):Int):=by rw[bl (by omega)];omega
   simp only[yG,asu,hE hu,GK (eX hu (i+1)) (eX hu i),show min k 64=k by omega]
   have g_:(2:Int)^k=((2^k:Nat):Int):=by simp
   have cz:Int.fdiv ((lm cy (i+1)*4294967296+lm cy i:Nat):Int) ((2:Int)^k)=(((lm cy (i+1)*4294967296+lm cy i)/2^k:Nat):Int):=by
    rw[g_,as_ _ (atm _),aug]
   have dO:IntKind.wrap .u32 (((lm cy (i+1)*4294967296+lm cy i)/2^k:Nat):Int)=(((lm cy (i+1)*4294967296+lm cy i)/2^k%4294967296:Nat):Int):=by
    rw[jH,aut];rfl
   simp only[cz,dO]
   have GO:(lm cy (i+1)*4294967296+lm cy i)/2^k%4294967296=val cy/2^k/4294967296^i%4294967296:=by
    rw[K4 (A:=dx cy (i+2)) Df,<-lu,<-lu,<-Gu hu i,Nat.div_div_eq_div_mul,Nat.div_div_eq_div_mul,asT]
   rw[GO]
   have k6:val cy/2^k/4294967296^i%4294967296<4294967296:=as6 _ (by decide)
   refine⟨by omega,by omega,by omega,by omega,by omega,by omega,by omega,by first|rfl|trivial,⟨by first|rfl|trivial,by first|rfl|trivial,ak.set _ ⟨atm _,by omega⟩,by rw[asJ];exact yU,i+1,rfl,by omega, ?_⟩,by show n-((i+1:Nat):Int).toNat<n-(i:Int).toNat;omega⟩
   rw[fc,qb _ _ _ _ (asz _),ef,asq ⟨rfl,by omega⟩,asu,H7,asU,Nat.mod_mul]
  ·simp only[asv]at h
   obtain rfl:i=n:=by omega
   rw[gi r (by omega),ati (at7 (auL _ _) (Nat.lt_trans bB rZ)),dT]at H7
   refine⟨⟨aN,by omega⟩, ?_⟩
   rintro x rfl
   refine⟨⟨ak,by omega⟩, ?_⟩
   rintro aa5 rfl
   rw[H7,<-yO,<-jC]
   exact ab
end I
end
section
open Go Go.bG
namespace I
def L5:List Int->List Int->(J->Prop)->Prop:=
 fun a b K=>(aZ a/\a.length<=(1000000000:Nat))/\(aZ b/\b.length<=(1000000000:Nat))/\(decide (↑(ah (val b)).length=(0:Int))=true->K (J.tup [J.d (R.ints .u32 []),J.d (R.ints .u32 []),J.d (R.int .i64 (3:Int))]))
 /\(decide (↑(ah (val b)).length=(0:Int))=false->(aF (ah (val a))/\aF (ah (val b)))/\(decide (cmp (val (ah (val a))) (val (ah (val b)))<(0:Int))=true->(ah (val a)).length<=(100000000:Nat)
 /\K (J.tup [J.d (R.ints .u32 []),J.d (R.ints .u32 (ah (val a))),J.d (R.int .i64 (0:Int))]))/\(decide (cmp (val (ah (val a))) (val (ah (val b)))<(0:Int))=false->(decide (↑(ah (val b)).length=(1:Int))=true
 ->(0:Int)<=(0:Int)/\(0:Int)<↑(ah (val b)).length/\(aF (ah (val a))/\L ((ah (val b)).getD (0:Nat) (0:Int))/\(0:Int)<(ah (val b)).getD (0:Nat) (0:Int))/\((0:Int)<=IntKind.u64.wrap ↑(val (ah (val a))%((ah (val b)).getD (0:Nat) (0:Int)).toNat)
 /\IntKind.u64.wrap ↑(val (ah (val a))%((ah (val b)).getD (0:Nat) (0:Int)).toNat)<(18446744073709551616:Int))/\K (J.tup [J.d (R.ints .u32 (ah (val (ah (val a))/((ah (val b)).getD (0:Nat) (0:Int)).toNat))),J.d (R.ints .u32 (ah (IntKind.u64.wrap ↑(val (ah (val a))%((ah (val b)).getD (0:Nat) (0:Int)).toNat)).toNat)),J.d (R.int .i64 (0:Int))]))
 /\(decide (↑(ah (val b)).length=(1:Int))=false->(aF (ah (val a))/\aF (ah (val b))/\Norm (ah (val a))/\Norm (ah (val b))/\(2:Nat)<=(ah (val b)).length/\val (ah (val b))<=val (ah (val a)))
 /\K (J.tup [J.d (R.ints .u32 (ah (val (ah (val a))/val (ah (val b))))),J.d (R.ints .u32 (ah (val (ah (val a))%val (ah (val b))))),J.d (R.int .i64 (0:Int))]))))
end I
end
section
open Go Go.bG
namespace I
theorem afu (a b:List Int)(K:J->Prop)(h:Bm.T [.d (.ints .u32 a), .d (.ints .u32 b)] K):L5 a b K:=by
 obtain⟨⟨aC,ae⟩,ab⟩:=h
 have fm:=hQ aC
 have lG:=hQ ae
 have jd:=aC.2
 have dr:=ae.2
 unfold L5
 simp only[cq]
 refine⟨⟨aC.1,by omega⟩,⟨ae.1,by omega⟩,fun h=> ?_,fun h=> ?_⟩
 ·simp only[asw]at h
  have aE:val b=0:=o4 (by omega)
  simp only[aE,atj]at ab;exact ab
 ·simp only[asv]at h
  have aE:val b≠0:=fun e=>h (by rw[e,gg];rfl)
  simp only[asp aE]at ab
  refine⟨⟨⟨dN _,by omega⟩,⟨dN _,by omega⟩⟩,fun U=>⟨by omega, ?_⟩,fun U=>⟨fun aa=> ?_,fun aa=> ?_⟩⟩
  ·simp only[asw]at U
   have bB:val a<val b:=by
    unfold cmp at U
    split at U
    ·assumption
    ·split at U<;>omega
   rw[at5 bB,ati bB,gg]at ab;exact ab
  ·simp only[asw]at aa
   have eG:((ah (val b)).getD 0 0).toNat=val b:=by
    have:=gi (ah (val b)) (i:=1) (by omega)
    rw[fc,hr,cq]at this
    simpa using this
   have yL:=dN (val b) 0
   rw[eG]
   have hm:val a%val b<val b:=as6 _ (by omega)
   rw[cl (by omega),asu]
   exact⟨by omega,by omega,⟨⟨dN _,by omega⟩,yL,by omega⟩,⟨by omega,by omega⟩,ab⟩
  ·simp only[asv]at U aa
   have iz:val b<=val a:=by
    unfold cmp at U
    split at U
    ·exact absurd (by decide) U
    ·omega
   exact⟨⟨⟨dN _,by omega⟩,⟨dN _,by omega⟩,Ao _,Ao _,by omega,iz⟩,ab⟩
end I
end
section
open Go Go.bG
namespace I
def ed (n k:Nat):Prop:=n<4294967296^k
theorem ed.of {a:List Int}(h:aZ a){k:Nat}(ab:a.length<=k):ed (val a) k:=asR (gN h) (as9 (by decide) ab)
theorem ed.b5 {n k:Nat}(h:ed n k)(ab:k<=100000000):aF (ah n):=⟨dN n,asZ (eH.2 h) ab⟩
theorem ed.len {n k:Nat}(h:ed n k){j:Nat}(ab:k<=j):(ah n).length<=j:=asZ (eH.2 h) ab
theorem ed.add {x y j k:Nat}(h:ed x j)(aa:ed y k):ed (x+y) (j+k+1):=by
 unfold ed at*
 have al:4294967296^j<=4294967296^(j+k):=as9 (by decide) (by omega)
 have aL:4294967296^k<=4294967296^(j+k):=as9 (by decide) (by omega)
 rw[asU]
 omega
theorem ed.mul {x y j k:Nat}(h:ed x j)(aa:ed y k):ed (x*y) (j+k):=by
 unfold ed at*
 rw[ate]
 exact Nat.mul_lt_mul'' h aa
theorem GM (p k:Nat)(aw:p<9223372036854775808)(ab:2^k<=4611686018427387904):bk .and .i64 (p:Int) ((2^k-1:Nat):Int)=((p%2^k:Nat):Int):=by
 have an:((BitVec.ofInt 64 (p:Int))&&&(BitVec.ofInt 64 ((2^k-1:Nat):Int))).toNat=p%2^k:=by
  rw[BitVec.toNat_and,auh,auh,auw,auw,ati (by omega),ati (by omega),Nat.and_two_pow_sub_one_eq_mod]
 show IntKind.wrap .i64 _=_
 have az:((BitVec.ofInt (IntKind.i64).bits (p:Int))&&&(BitVec.ofInt (IntKind.i64).bits ((2^k-1:Nat):Int))).toNat=p%2^k:=an
 have:p%2^k<2^k:=as6 _ (atk k)
 rw[az,bl (by omega)]
end I
namespace I
theorem aiJ {n:Int}(h:(Lit.int .u8 n).wf=true):0<=n/\n<256:=by
 have h:=xp h
 have an:IntKind.u8.min=0:=by decide
 have az:IntKind.u8.max=255:=by decide
 omega
end I
end
section
open Go Go.bG
namespace I
def Pb:List Int->List Int->(J->Prop)->Prop:=
 fun a b K=>aF a/\∀x,x=ah (val a)->aF b/\∀au,au=ah (val b)->∃(aD:List Int->List Int->Prop),∃(m:List Int->List Int->Nat),aD x au/\∀(v0 v1:List Int),aD v0 v1->(decide ((2:Int)<↑v0.length)=true
 ->(decide (↑v1.length=(0:Int))=true->K (J.d (R.ints .u32 v0)))/\(decide (↑v1.length=(0:Int))=false->(aF v0/\aF v1)/\∀x,(x=if val v1=(0:Nat)then[]else ah (val v0/val v1))
 ->∀x,(x=if val v1=(0:Nat)then[]else ah (val v0%val v1))->∀ax,(ax=if val v1=(0:Nat)then(3:Int)else(0:Int))->aD v1 x/\m v1 x<m v0 v1))/\(decide ((2:Int)<↑v0.length)=false
 ->(decide ((2:Int)<↑v1.length)=true->(decide (↑v1.length=(0:Int))=true->K (J.d (R.ints .u32 v0)))/\(decide (↑v1.length=(0:Int))=false->(aF v0/\aF v1)/\∀x,(x=if val v1=(0:Nat)then[]else ah (val v0/val v1))
 ->∀x,(x=if val v1=(0:Nat)then[]else ah (val v0%val v1))->∀ax,(ax=if val v1=(0:Nat)then(3:Int)else(0:Int))->aD v1 x/\m v1 x<m v0 v1))/\(decide ((2:Int)<↑v1.length)=false
 ->(aZ v0/\v0.length<=(2:Nat))/\∀x,x=↑(val v0)->(aZ v1/\v1.length<=(2:Nat))/\∀ax,ax=↑(val v1)->∃(aD:Int->Int->Prop),∃(m:Int->Int->Nat),aD x ax/\∀(aV v9:Int),aD aV v9
 ->((!decide (v9=(0:Int)))=true->¬v9=(0:Int)/\aD v9 (aV.tmod v9)/\m v9 (aV.tmod v9)<m aV v9)/\((!decide (v9=(0:Int)))=false->((0:Int)<=aV/\aV<(18446744073709551616:Int))/\∀x,x=ah aV.toNat
 ->K (J.d (R.ints .u32 x)))))
def LB:List Int->(ad->Prop)->Prop:=
 fun a K=>∃(aD:Int->Prop),∃(m:Int->Nat),aD ↑a.length/\∀(v3:Int),aD v3->(decide ((0:Int)<v3)=true->(0:Int)<=IntKind.i64.wrap (v3-(1:Int))/\IntKind.i64.wrap (v3-(1:Int))<↑a.length
 /\(decide (a.getD (IntKind.i64.wrap (v3-(1:Int))).toNat (0:Int)=(0:Int))=true->aD (IntKind.i64.wrap (v3-(1:Int)))/\m (IntKind.i64.wrap (v3-(1:Int)))<m v3)/\(decide (a.getD (IntKind.i64.wrap (v3-(1:Int))).toNat (0:Int)=(0:Int))=false
 ->(0:Int)<=v3/\v3<=↑a.length/\↑(List.take v3.toNat a).length*(4:Int)<=(70368744177664:Int)/\K (ad.ints .u32 (List.take v3.toNat a))))/\(decide ((0:Int)<v3)=false->(0:Int)<=v3
 /\v3<=↑a.length/\↑(List.take v3.toNat a).length*(4:Int)<=(70368744177664:Int)/\K (ad.ints .u32 (List.take v3.toNat a)))
def Ma:List Int->List Int->(J->Prop)->Prop:=
 fun(a b:List Int) (K:J->Prop)=>I.aF a/\I.aF b/\((!decide ((Nat.cast:Nat->Int) (List.length (I.ah (I.val a)))=(Nat.cast:Nat->Int) (List.length (I.ah (I.val b)))))=
 true->(decide ((Nat.cast:Nat->Int) (List.length (I.ah (I.val a)))<(Nat.cast:Nat->Int) (List.length (I.ah (I.val b))))=true->K (J.d (R.int IntKind.i64 (-1:Int))))/\(decide
 ((Nat.cast:Nat->Int) (List.length (I.ah (I.val a)))<(Nat.cast:Nat->Int) (List.length (I.ah (I.val b))))=false->K (J.d (R.int IntKind.i64 (1:Int)))))/\((!decide ((Nat.cast:
 Nat->Int) (List.length (I.ah (I.val a)))=(Nat.cast:Nat->Int) (List.length (I.ah (I.val b)))))=false->∃(aD:Int->Prop),∃(m:Int->Nat),((false,ad.ints IntKind.u32 (I.ah
 (I.val a)))=(false,ad.ints IntKind.u32 (I.ah (I.val a)))/\(false,ad.ints IntKind.u32 (I.ah (I.val b)))=(false,ad.ints IntKind.u32 (I.ah (I.val b)))/\aD (IntKind.wrap
 IntKind.i64 ((Nat.cast:Nat->Int) (List.length (I.ah (I.val a)))-(1:Int))))/\∀(v5:Int),aD v5->(decide ((0:Int)<=v5)=true->(0:Int)<=v5/\v5<(Nat.cast:Nat->Int)
 (List.length (I.ah (I.val a)))/\(0:Int)<=v5/\v5<(Nat.cast:Nat->Int) (List.length (I.ah (I.val b)))/\(decide (List.getD (I.ah (I.val a)) (Int.toNat v5) (0:Int)<List.getD
 (I.ah (I.val b)) (Int.toNat v5) (0:Int))=true->K (J.d (R.int IntKind.i64 (-1:Int))))/\(decide (List.getD (I.ah (I.val a)) (Int.toNat v5) (0:Int)<List.getD (I.ah (I.val b))
 (Int.toNat v5) (0:Int))=false->(0:Int)<=v5/\v5<(Nat.cast:Nat->Int) (List.length (I.ah (I.val a)))/\(0:Int)<=v5/\v5<(Nat.cast:Nat->Int) (List.length (I.ah (I.val b)))
 /\(decide (List.getD (I.ah (I.val b)) (Int.toNat v5) (0:Int)<List.getD (I.ah (I.val a)) (Int.toNat v5) (0:Int))=true->K (J.d (R.int IntKind.i64 (1:Int))))/\(decide (List.getD
 (I.ah (I.val b)) (Int.toNat v5) (0:Int)<List.getD (I.ah (I.val a)) (Int.toNat v5) (0:Int))=false->(false,ad.ints IntKind.u32 (I.ah (I.val a)))=(false,ad.ints IntKind.u32
 (I.ah (I.val a)))/\(false,ad.ints IntKind.u32 (I.ah (I.val b)))=(false,ad.ints IntKind.u32 (I.ah (I.val b)))/\aD (IntKind.wrap IntKind.i64 (v5-(1:Int)))/\m (IntKind.wrap
 IntKind.i64 (v5-(1:Int)))<m v5)))/\(decide ((0:Int)<=v5)=false->K (J.d (R.int IntKind.i64 (0:Int)))))
def K7:List Int->Int->(J->Prop)->Prop:=
 fun(a:List Int) (d:Int) (K:J->Prop)=>(0:Int)<=(Nat.cast:Nat->Int) (List.length a)/\(Nat.cast:Nat->Int) (List.length a)<=(Nat.cast:Nat->Int) (List.length a)/\(Nat.cast:Nat->
 Int) (List.length a)*(4:Int)<=(281474976710656:Int)/\∃(aD:Int->Int->List Int->Prop),∃(m:Int->Int->List Int->Nat),aD (0:Int) (IntKind.wrap IntKind.i64 ((Nat.cast:Nat->Int)
 (List.length a)-(1:Int))) (List.replicate (Int.toNat ((Nat.cast:Nat->Int) (List.length a))) (0:Int))/\∀(bY aV:Int) (ai:List Int),aD bY aV ai->(decide ((0:Int)<=aV)=true->(0:
 Int)<=aV/\aV<(Nat.cast:Nat->Int) (List.length a)/\¬IntKind.wrap IntKind.u64 d=(0:Int)/\(0:Int)<=aV/\aV<(Nat.cast:Nat->Int) (List.length ai)/\¬IntKind.wrap IntKind.u64 d=(0:
 Int)/\aD (Int.tmod (bk BinOp.or IntKind.u64 (IntKind.wrap IntKind.u64 (bY*(4294967296:Int))) (IntKind.wrap IntKind.u64 (List.getD a (Int.toNat aV) (0:Int)))) (IntKind.wrap IntKind.u64 d))
 (IntKind.wrap IntKind.i64 (aV-(1:Int))) (List.set ai (Int.toNat aV) (IntKind.wrap IntKind.u32 (IntKind.wrap IntKind.u64 (Int.tdiv (bk BinOp.or IntKind.u64 (IntKind.wrap IntKind.u64 (bY*
 (4294967296:Int))) (IntKind.wrap IntKind.u64 (List.getD a (Int.toNat aV) (0:Int)))) (IntKind.wrap IntKind.u64 d)))))/\m (Int.tmod (bk BinOp.or IntKind.u64 (IntKind.wrap IntKind.u64 (bY*
 (4294967296:Int))) (IntKind.wrap IntKind.u64 (List.getD a (Int.toNat aV) (0:Int)))) (IntKind.wrap IntKind.u64 d)) (IntKind.wrap IntKind.i64 (aV-(1:Int))) (List.set ai (Int.toNat aV)
 (IntKind.wrap IntKind.u32 (IntKind.wrap IntKind.u64 (Int.tdiv (bk BinOp.or IntKind.u64 (IntKind.wrap IntKind.u64 (bY*(4294967296:Int))) (IntKind.wrap IntKind.u64 (List.getD a (Int.toNat aV) (0
 :Int)))) (IntKind.wrap IntKind.u64 d)))))<m bY aV ai)/\(decide ((0:Int)<=aV)=false->I.aF ai/\K (J.tup [J.d (R.ints IntKind.u32 (I.ah (I.val ai))),J.d (R.int IntKind.u32
 (IntKind.wrap IntKind.u32 bY))]))
end I
end
section
open Go Go.bG
namespace I
theorem AU {A B:Nat}:Nat.gcd B (A%B)=Nat.gcd A B:=by
 rw[Nat.gcd_comm A B,Nat.gcd_rec B A,Nat.gcd_comm]
theorem aip (a b:List Int)(K:J->Prop)(h:De.T [.d (.ints .u32 a), .d (.ints .u32 b)] K):Pb a b K:=by
 obtain⟨⟨aC,ae⟩,ab⟩:=h
 unfold Pb
 obtain⟨G,hL⟩:∃G,Nat.gcd (val a) (val b)=G:=⟨_,rfl⟩
 rw[hL]at ab
 refine⟨aC, ?_⟩
 rintro x rfl
 refine⟨ae, ?_⟩
 rintro y rfl
 have fm:=hQ aC
 have lG:=hQ ae
 have jd:=aC.2
 have dr:=ae.2
 refine⟨fun u v=>∃A B:Nat,u=ah A/\v=ah B/\Nat.gcd A B=G/\(ah A).length<=100000000/\(ah B).length<=100000000,fun u v=>val v,⟨val a,val b,rfl,rfl,hL,by omega,by omega⟩, ?_⟩
 rintro u v ⟨A,B,rfl,rfl,qE,eU,eG⟩
 have Sm:aF (ah A):=⟨dN _,eU⟩
 have Sn:aF (ah B):=⟨dN _,eG⟩
 simp only[cq]
 have zero:∀{n:Nat},decide ((Nat.cast:Nat->Int) (ah n).length=0)=true->n=0:=fun h=>by
  simp only[asw]at h
  exact o4 (by omega)
 have So:∀{n:Nat},decide ((Nat.cast:Nat->Int) (ah n).length=0)=false->n≠0:=fun h e=>by
  subst e
  rw[gg]at h
  simp at h
 have stop:B=0->K (.d (.ints .u32 (ah A))):=fun h=>by
  subst h
  rw[Nat.gcd_zero_right]at qE
  rw[qE];exact ab
 have bB:B≠0->A%B<B:=fun h=>as6 _ (by omega)
 have hlen:B≠0->(ah (A%B)).length<=100000000:=fun h=>by
  refine asZ (eH.2 ?_) eG
  exact Nat.lt_trans (bB h) (eH.1 (asz _))
 refine⟨fun _=>⟨fun h=>stop (zero h),fun h=>⟨⟨Sm,Sn⟩, ?_⟩⟩,fun U=>⟨fun _=>⟨fun h=>stop (zero h),fun h=>⟨⟨Sm,Sn⟩, ?_⟩⟩,fun aa=> ?_⟩⟩
 ·have oq:=So h
  rintro q rfl r rfl e rfl
  rw[asp oq]
  exact⟨⟨B,A%B,rfl,rfl,by rw[AU];exact qE,eG,hlen oq⟩,by rw[cq];exact bB oq⟩
 ·have oq:=So h
  rintro q rfl r rfl e rfl
  rw[asp oq]
  exact⟨⟨B,A%B,rfl,rfl,by rw[AU];exact qE,eG,hlen oq⟩,by rw[cq];exact bB oq⟩
 ·simp only[asv]at U aa
  have j3:(4294967296:Nat)^2=18446744073709551616:=by decide
  have vO:A<18446744073709551616:=by rw[<-j3];exact eH.1 (by omega)
  have r3:B<18446744073709551616:=by rw[<-j3];exact eH.1 (by omega)
  refine⟨⟨dN _,by omega⟩, ?_⟩
  rintro x rfl
  refine⟨⟨dN _,by omega⟩, ?_⟩
  rintro y rfl
  refine⟨fun x y=>∃p q:Nat,x=p/\y=q/\p<18446744073709551616/\q<18446744073709551616/\Nat.gcd p q=G,fun x y=>y.toNat,⟨A,B,rfl,rfl,vO,r3,qE⟩, ?_⟩
  rintro x y ⟨p,q,rfl,rfl,aw,aN,aT⟩
  refine⟨fun h=> ?_,fun h=> ?_⟩
  ·have pA:¬((q:Int)=0):=by simpa using h
   have aA:Int.tmod (p:Int) (q:Int)=((p%q:Nat):Int):=by rw[aus (by omega),aut]
   have hm:p%q<q:=as6 _ (by omega)
   rw[aA]
   refine⟨pA,⟨q,p%q,rfl,rfl,aN,by omega,by rw[AU];exact aT⟩, ?_⟩
   show((p%q:Nat):Int).toNat<(q:Int).toNat
   rw[asu,asu];exact hm
  ·have pA:((q:Int)=0):=by simpa using h
   obtain rfl:q=0:=by omega
   rw[Nat.gcd_zero_right]at aT
   refine⟨⟨by omega,by omega⟩, ?_⟩
   rintro r rfl
   rw[asu,aT];exact ab
theorem Vb {a:List Int}{k:Nat}(ab:0<k)(_:k<=a.length)(h:a.getD (k-1) 0=0):val (a.take (k-1))=val (a.take k):=by
 have:=fc a (k-1)
 rw[show k-1+1=k by omega,h]at this
 unfold cW at this
 rw[this];simp
theorem aeJ (a:List Int)(K:ad->Prop)(h:AT.T [.d (.ints .u32 a)] K):LB a K:=by
 obtain⟨aC,ab⟩:=h
 have fm:=aC.2
 unfold LB
 refine⟨fun i=>∃k:Nat,i=k/\k<=a.length/\val (a.take k)=val a,fun i=>i.toNat,⟨a.length,rfl,asz _,by rw[atU]⟩, ?_⟩
 rintro i ⟨k,rfl,r9,aM⟩
 have ow:∀j,j<k->(a.take k).getD j 0=a.getD j 0:=fun j aK=>by simp[ass,aK]
 refine⟨fun h=> ?_,fun h=> ?_⟩
 ·simp only[asw]at h
  have e:IntKind.wrap .i64 ((k:Int)-1)=((k-1:Nat):Int):=by rw[bl (by omega)];omega
  rw[e]
  simp only[asu]
  refine⟨by omega,by omega,fun aE=> ?_,fun aE=>⟨by omega,by omega, ?_, ?_⟩⟩
  ·simp only[asw]at aE
   exact⟨⟨k-1,rfl,by omega,by rw[Vb (by omega) r9 aE,aM]⟩,by show((k-1:Nat):Int).toNat<(k:Int).toNat;omega⟩
  ·rw[asW];omega
  ·simp only[asv]at aE
   rw[<-uF (aC.1.take k) (wH (.inr ?_)),aM]
   ·exact ab
   ·rw[asW,auJ r9,ow _ (by omega)];exact aE
 ·simp only[asv]at h
  obtain rfl:k=0:=by omega
  simp only[asu]
  refine⟨by omega,by omega,by rw[asW];omega, ?_⟩
  rw[<-uF (aC.1.take 0) (wH (.inl (by simp))),aM];exact ab
theorem aed (a:List Int)(d:Int)(K:J->Prop)(h:AB.T [.d (.ints .u32 a), .d (.int .u32 d)] K):K7 a d K:=by
 obtain⟨⟨aC,aP,qG⟩,ab⟩:=h
 have fm:=aC.2
 unfold L at aP
 obtain⟨D,rfl⟩:∃D:Nat,d=D:=⟨d.toNat,by omega⟩
 simp only[asu]at ab
 unfold K7
 rw[asu]
 have aa6:IntKind.wrap .u64 (D:Int)=D:=cl (by omega)
 simp only[aa6]
 refine⟨by omega,by omega,by omega,fun r i o=>aZ o/\o.length=a.length/\0<=r/\r<D/\-1<=i/\i<a.length/\dx a (i+1).toNat=dx o (i+1).toNat*D+r.toNat,fun r i o=>(i+1).toNat,⟨aZ.mI _,by simp,by omega,by omega, ?_⟩, ?_⟩
 ·rw[bl (by omega)]
  refine⟨by omega,by omega, ?_⟩
  rw[n4 a (by omega),n4 _ (by simp)];simp
 rintro r i o ⟨aH,e9,yY,hY,rY,mf,aM⟩
 refine⟨fun h=> ?_,fun h=> ?_⟩
 ·simp only[asw]at h
  obtain⟨n,rfl⟩:∃n:Nat,i=n:=⟨i.toNat,by omega⟩
  simp only[asu,hE aC.1]
  rw[bl (by omega)]
  obtain⟨bp,rfl⟩:∃bp:Nat,r=bp:=⟨r.toNat,by omega⟩
  have af:=eX aC.1 n
  have RG:(a.getD n 0).toNat=lm a n:=rfl
  obtain⟨x,gJ⟩:∃x,lm a n=x:=⟨_,rfl⟩
  rw[gJ]at af RG
  simp only[gJ,Gv (h:=bp) (l:=x) (by omega) af]
  have an:Int.tdiv ((bp*4294967296+x:Nat):Int) (D:Int)=(((bp*4294967296+x)/D:Nat):Int):=by rw[auP (atm _),aug]
  have az:Int.tmod ((bp*4294967296+x:Nat):Int) (D:Int)=(((bp*4294967296+x)%D:Nat):Int):=by rw[aus (atm _),aut]
  rw[show((n:Int)+1).toNat=n+1 by omega]at aM
  have ct:=L_ (z:=dx o (n+1)) 4294967296 rfl (show bp<D by omega) af (by simpa using aM)
  obtain⟨aN,hm,he⟩:=ct
  have mR:dx a n=x+4294967296*dx a (n+1):=by rw[mF a n,RG]
  rw[<-mR]at he
  simp only[an,az]
  generalize (bp*4294967296+x)/D=q at aN he⊢
  generalize (bp*4294967296+x)%D=m at hm he⊢
  have cz:IntKind.wrap .u32 (IntKind.wrap .u64 (q:Int))=(q:Int):=by rw[cl (by omega),gF (by omega)]
  simp only[cz]
  have gO:dx (o.set n (q:Int)) n=q+4294967296*dx o (n+1):=by
   rw[mF _ n,Gw _ _ _ _ (by omega),ef,asq ⟨rfl,by omega⟩,asu]
  rw[<-gO]at he
  refine⟨by omega,by omega,by omega,by omega,by omega,by omega,⟨aH.set _ ⟨by omega,by omega⟩,by simpa using e9,by omega,by omega,by omega,by omega, ?_⟩,by show(((n:Int)-1)+1).toNat<((n:Int)+1).toNat;omega⟩
  rw[show((n:Int)-1+1).toNat=n by omega,asu]
  exact he
 ·simp only[asv]at h
  obtain rfl:i=-1:=by omega
  simp only[show((-1:Int)+1).toNat=0 from rfl,xo]at aM
  refine⟨⟨aH,by omega⟩, ?_⟩
  have U:val a/D=val o:=by
   rw[aM,asT,Nat.mul_add_div (by omega),at5 (by omega)];omega
  have aa:((val a%D:Nat):Int)=r:=by
   rw[aM,asT,aun,ati (by omega)];omega
  rw[U,aa]at ab
  rw[gF (by omega)];exact ab
theorem afz (a b:List Int)(K:J->Prop)(h:Bo.T [.d (.ints .u32 a), .d (.ints .u32 b)] K):Ma a b K:=by
 obtain⟨⟨aC,ae⟩,ab⟩:=h
 have fm:=hQ aC
 have lG:=hQ ae
 have jd:=aC.2
 have dr:=ae.2
 unfold Ma
 refine⟨aC,ae,fun h=>⟨fun U=> ?_,fun U=> ?_⟩,fun h=> ?_⟩
 ·simp only[asw]at U
  rw[u6 (B6 (by omega))]at ab;exact ab
 ·have aa:¬((Nat.cast:Nat->Int) (ah (val a)).length=(Nat.cast:Nat->Int) (ah (val b)).length):=by simpa using h
  simp only[asv]at U
  rw[xn (B6 (by omega))]at ab;exact ab
 ·have aa:(Nat.cast:Nat->Int) (ah (val a)).length=(Nat.cast:Nat->Int) (ah (val b)).length:=by simpa using h
  have eU:=dN (val a)
  have eG:=dN (val b)
  have mR:=cq (val a)
  have qz:=cq (val b)
  rw[<-mR,<-qz]at ab
  generalize ah (val a)=A at*
  generalize ah (val b)=B at*
  refine⟨fun i=>-1<=i/\i<A.length/\dx A (i+1).toNat=dx B (i+1).toNat,fun i=>(i+1).toNat,⟨by first|rfl|trivial,by first|rfl|trivial, ?_⟩, ?_⟩
  ·rw[bl (by omega)]
   refine⟨by omega,by omega, ?_⟩
   rw[n4 A (by omega),n4 B (by omega)]
  rintro i ⟨al,aL,bo⟩
  refine⟨fun bX=> ?_,fun bX=> ?_⟩
  ·simp only[asw]at bX
   obtain⟨n,rfl⟩:∃n:Nat,i=n:=⟨i.toNat,by omega⟩
   rw[show((n:Int)+1).toNat=n+1 by omega]at bo
   simp only[asu]
   have af:=eU n
   have a6:=eG n
   refine⟨by omega,by omega,by omega,by omega,fun fi=> ?_,fun fi=>⟨by omega,by omega,by omega,by omega,fun dI=> ?_,fun dI=> ?_⟩⟩
   ·simp only[asw]at fi
    rw[u6 (Bv n eU bo (by omega))]at ab;exact ab
   ·simp only[asw]at dI
    rw[xn (Bv n eG bo.symm (by omega))]at ab;exact ab
   ·simp only[asv]at fi dI
    rw[bl (by omega)]
    refine⟨by first|rfl|trivial,by first|rfl|trivial,⟨by omega,by omega, ?_⟩,by show(((n:Int)-1)+1).toNat<((n:Int)+1).toNat;omega⟩
    rw[show((n:Int)-1+1).toNat=n by omega,mF A n,mF B n,bo,show A.getD n 0=B.getD n 0 by omega]
  ·simp only[asv]at bX
   obtain rfl:i=-1:=by omega
   simp only[show((-1:Int)+1).toNat=0 from rfl,xo]at bo
   rw[bo,cmp_eq]at ab;exact ab
end I
end
section
open Go Go.bG
namespace I
end I
end
section
open Go Go.bG
namespace I
def L6:List Int->List Int->(J->Prop)->Prop:=
 fun(a b:List Int) (K:J->Prop)=>(0:Int)<=IntKind.wrap IntKind.i64 ((if(Nat.cast:Nat->Int) (List.length a)<(Nat.cast:Nat->Int) (List.length b)then(Nat.cast:Nat->Int)
 (List.length b)else(Nat.cast:Nat->Int) (List.length a))+(1:Int))/\IntKind.wrap IntKind.i64 ((if(Nat.cast:Nat->Int) (List.length a)<(Nat.cast:Nat->Int) (List.length b)then(Nat.cast
 :Nat->Int) (List.length b)else(Nat.cast:Nat->Int) (List.length a))+(1:Int))<=IntKind.wrap IntKind.i64 ((if(Nat.cast:Nat->Int) (List.length a)<(Nat.cast:Nat->Int) (List.length b)
 then(Nat.cast:Nat->Int) (List.length b)else(Nat.cast:Nat->Int) (List.length a))+(1:Int))/\IntKind.wrap IntKind.i64 ((if(Nat.cast:Nat->Int) (List.length a)<(Nat.cast:Nat->Int)
 (List.length b)then(Nat.cast:Nat->Int) (List.length b)else(Nat.cast:Nat->Int) (List.length a))+(1:Int))*(4:Int)<=(281474976710656:Int)/\∃(aD:Int->Int->List Int->Prop),∃(m
 :Int->Int->List Int->Nat),aD (0:Int) (0:Int) (List.replicate (Int.toNat (IntKind.wrap IntKind.i64 ((if(Nat.cast:Nat->Int) (List.length a)<(Nat.cast:Nat->Int) (List.length b)then
 (Nat.cast:Nat->Int) (List.length b)else(Nat.cast:Nat->Int) (List.length a))+(1:Int)))) (0:Int))/\∀(v6 bY:Int) (ai:List Int),aD v6 bY ai->(decide (bY<(Nat.cast:Nat->Int)
 (List.length ai))=true->∃(a8:Int->Prop),((decide (bY<(Nat.cast:Nat->Int) (List.length a))=true->(0:Int)<=bY/\bY<(Nat.cast:Nat->Int) (List.length a)/\(false,ad.ints
 IntKind.u32 ai)=(false,ad.ints IntKind.u32 ai)/\a8 (IntKind.wrap IntKind.u64 (v6+IntKind.wrap IntKind.u64 (List.getD a (Int.toNat bY) (0:Int)))))/\(decide (bY<(Nat.cast:Nat->Int)
 (List.length a))=false->(false,ad.ints IntKind.u32 ai)=(false,ad.ints IntKind.u32 ai)/\a8 v6))/\∀(G8:Int),a8 G8->∃(a8:Int->Prop),((decide (bY<(Nat.cast:Nat->Int) (List.length
 b))=true->(0:Int)<=bY/\bY<(Nat.cast:Nat->Int) (List.length b)/\(false,ad.ints IntKind.u32 ai)=(false,ad.ints IntKind.u32 ai)/\a8 (IntKind.wrap IntKind.u64 (G8+IntKind.wrap
 IntKind.u64 (List.getD b (Int.toNat bY) (0:Int)))))/\(decide (bY<(Nat.cast:Nat->Int) (List.length b))=false->(false,ad.ints IntKind.u32 ai)=(false,ad.ints IntKind.u32 ai)/\a8 G8))/\∀
 (x9:Int),a8 x9->(0:Int)<=bY/\bY<(Nat.cast:Nat->Int) (List.length ai)/\aD (Int.fdiv x9 (4294967296:Int)) (IntKind.wrap IntKind.i64 (bY+(1:Int))) (List.set ai (Int.toNat bY)
 (IntKind.wrap IntKind.u32 x9))/\m (Int.fdiv x9 (4294967296:Int)) (IntKind.wrap IntKind.i64 (bY+(1:Int))) (List.set ai (Int.toNat bY) (IntKind.wrap IntKind.u32 x9))<m v6 bY ai)/\(decide
 (bY<(Nat.cast:Nat->Int) (List.length ai))=false->I.aF ai/\K (J.d (R.ints IntKind.u32 (I.ah (I.val ai)))))
def K6:List Int->Int->(ad->Prop)->Prop:=
 fun(a:List Int) (k:Int) (K:ad->Prop)=>(0:Int)<=IntKind.wrap IntKind.i64 ((Nat.cast:Nat->Int) (List.length a)+(1:Int))/\IntKind.wrap IntKind.i64 ((Nat.cast:Nat->Int)
 (List.length a)+(1:Int))<=IntKind.wrap IntKind.i64 ((Nat.cast:Nat->Int) (List.length a)+(1:Int))/\IntKind.wrap IntKind.i64 ((Nat.cast:Nat->Int) (List.length a)+(1:Int))*(4:Int)
 <=(281474976710656:Int)/\∃(aD:Int->Int->List Int->Prop),∃(m:Int->Int->List Int->Nat),aD (0:Int) (0:Int) (List.replicate (Int.toNat (IntKind.wrap IntKind.i64 ((Nat.cast:Nat->Int)
 (List.length a)+(1:Int)))) (0:Int))/\∀(v6 bY:Int) (ai:List Int),aD v6 bY ai->(decide (bY<(Nat.cast:Nat->Int) (List.length a))=true->(0:Int)<=bY/\bY<(Nat.cast:Nat->Int)
 (List.length a)/\(0:Int)<=IntKind.wrap IntKind.u64 k/\(0:Int)<=bY/\bY<(Nat.cast:Nat->Int) (List.length ai)/\aD (Int.fdiv (bk BinOp.or IntKind.u64 (IntKind.wrap IntKind.u64
 (IntKind.wrap IntKind.u64 (List.getD a (Int.toNat bY) (0:Int))*(2:Int)^min (Int.toNat (IntKind.wrap IntKind.u64 k)) (64:Nat))) v6) (4294967296:Int)) (IntKind.wrap IntKind.i64 (bY+(1:
 Int))) (List.set ai (Int.toNat bY) (IntKind.wrap IntKind.u32 (bk BinOp.or IntKind.u64 (IntKind.wrap IntKind.u64 (IntKind.wrap IntKind.u64 (List.getD a (Int.toNat bY) (0:Int))*(2:Int)^min
 (Int.toNat (IntKind.wrap IntKind.u64 k)) (64:Nat))) v6)))/\m (Int.fdiv (bk BinOp.or IntKind.u64 (IntKind.wrap IntKind.u64 (IntKind.wrap IntKind.u64 (List.getD a (Int.toNat bY) (0:Int))*(2:
 Int)^min (Int.toNat (IntKind.wrap IntKind.u64 k)) (64:Nat))) v6) (4294967296:Int)) (IntKind.wrap IntKind.i64 (bY+(1:Int))) (List.set ai (Int.toNat bY) (IntKind.wrap IntKind.u32 (bk
 BinOp.or IntKind.u64 (IntKind.wrap IntKind.u64 (IntKind.wrap IntKind.u64 (List.getD a (Int.toNat bY) (0:Int))*(2:Int)^min (Int.toNat (IntKind.wrap IntKind.u64 k)) (64:Nat))) v6)))<m v6 bY
 ai)/\(decide (bY<(Nat.cast:Nat->Int) (List.length a))=false->(0:Int)<=(Nat.cast:Nat->Int) (List.length a)/\(Nat.cast:Nat->Int) (List.length a)<(Nat.cast:Nat->Int) (List.length
 ai)/\K (ad.ints IntKind.u32 (List.set ai (Int.toNat ((Nat.cast:Nat->Int) (List.length a))) (IntKind.wrap IntKind.u32 v6))))
def Ks:List Int->Int->(J->Prop)->Prop:=
 fun(a:List Int) (k:Int) (K:J->Prop)=>(0:Int)<=(Nat.cast:Nat->Int) (List.length a)/\(Nat.cast:Nat->Int) (List.length a)<=(Nat.cast:Nat->Int) (List.length a)/\(Nat.cast:Nat->
 Int) (List.length a)*(4:Int)<=(281474976710656:Int)/\∃(aD:Int->List Int->Prop),∃(m:Int->List Int->Nat),aD (0:Int) (List.replicate (Int.toNat ((Nat.cast:Nat->Int) (List.length
 a))) (0:Int))/\∀(v6:Int) (ai:List Int),aD v6 ai->(decide (v6<(Nat.cast:Nat->Int) (List.length a))=true->(0:Int)<=v6/\v6<(Nat.cast:Nat->Int) (List.length a)/\∃(a8:Int->
 Prop),((decide (IntKind.wrap IntKind.i64 (v6+(1:Int))<(Nat.cast:Nat->Int) (List.length a))=true->(0:Int)<=IntKind.wrap IntKind.i64 (v6+(1:Int))/\IntKind.wrap IntKind.i64 (v6+(1
 :Int))<(Nat.cast:Nat->Int) (List.length a)/\(false,ad.ints IntKind.u32 ai)=(false,ad.ints IntKind.u32 ai)/\a8 (bk BinOp.or IntKind.u64 (IntKind.wrap IntKind.u64 (List.getD a (Int.toNat
 v6) (0:Int))) (IntKind.wrap IntKind.u64 (IntKind.wrap IntKind.u64 (List.getD a (Int.toNat (IntKind.wrap IntKind.i64 (v6+(1:Int)))) (0:Int))*(4294967296:Int)))))/\(decide (IntKind.wrap
 IntKind.i64 (v6+(1:Int))<(Nat.cast:Nat->Int) (List.length a))=false->(false,ad.ints IntKind.u32 ai)=(false,ad.ints IntKind.u32 ai)/\a8 (IntKind.wrap IntKind.u64 (List.getD a (Int.toNat
 v6) (0:Int)))))/\∀(bY:Int),a8 bY->(0:Int)<=IntKind.wrap IntKind.u64 k/\(0:Int)<=v6/\v6<(Nat.cast:Nat->Int) (List.length ai)/\aD (IntKind.wrap IntKind.i64 (v6+(1:Int)))
 (List.set ai (Int.toNat v6) (IntKind.wrap IntKind.u32 (Int.fdiv bY ((2:Int)^min (Int.toNat (IntKind.wrap IntKind.u64 k)) (64:Nat)))))/\m (IntKind.wrap IntKind.i64 (v6+(1:Int))) (List.set ai
 (Int.toNat v6) (IntKind.wrap IntKind.u32 (Int.fdiv bY ((2:Int)^min (Int.toNat (IntKind.wrap IntKind.u64 k)) (64:Nat)))))<m v6 ai)/\(decide (v6<(Nat.cast:Nat->Int) (List.length a))=
 false->I.aF ai/\K (J.d (R.ints IntKind.u32 (I.ah (I.val ai)))))
def Kr:Int->(J->Prop)->Prop:=
 fun n K=>(decide (n<0)=true->K (J.tup [J.d (R.ints .u32 []),J.d (R.int .i64 1)]))/\(decide (n<0)=false->aF [IntKind.u32.wrap (bk BinOp.and .i64 n 4294967295),IntKind.u32.wrap (n.fdiv 4294967296)]
 /\K (J.tup [J.d (R.ints .u32 (ah (val [IntKind.u32.wrap (bk BinOp.and .i64 n 4294967295),IntKind.u32.wrap (n.fdiv 4294967296)]))),J.d (R.int .i64 0)]))
end I
end
section
open Go Go.bG
namespace I
theorem w7 {b:List Int}{n:Nat}(h:b.length<=n):b.getD n 0=0:=by
 simp[ass,as5 h]
theorem Wm {Sh V Si Sj w x y C T st:Nat}(U:V+w*C=Si+Sj)(aa:st+4294967296*T=C+x+y)(al:Sh=V+w*st):Sh+w*(4294967296*T)=(Si+w*x)+(Sj+w*y):=by
 have h:=asQ (w*·) aa
 simp only[asG]at h
 omega
theorem afv (a b:List Int)(K:J->Prop)(h:Bp.T [.d (.ints .u32 a), .d (.ints .u32 b)] K):L6 a b K:=by
 obtain⟨⟨aC,ae,fm,lG⟩,ab⟩:=h
 unfold L6
 obtain⟨M,ic,ZR,ZS,ai5⟩:∃M:Nat,IntKind.wrap .i64 ((if(Nat.cast:Nat->Int) a.length<(Nat.cast:Nat->Int) b.length then(Nat.cast:Nat->Int) b.length else(Nat.cast:Nat->Int) a.length)+1)=(M:Int)/\a.length<M/\b.length<M/\M<=90000001:=by
  split
  ·exact⟨b.length+1,by rw[bl (by omega)];omega,by omega,by omega,by omega⟩
  ·exact⟨a.length+1,by rw[bl (by omega)];omega,by omega,by omega,by omega⟩
 rw[ic]
 simp only[asu]
 refine⟨by omega,by omega,by omega,fun c i o=>aZ o/\o.length=M/\∃C i0:Nat,c=C/\i=i0/\i0<=M/\C<=1/\cW o i0+4294967296^i0*C=cW a i0+cW b i0,fun c i o=>M-i.toNat,⟨aZ.mI _,by simp,0,0,rfl,rfl,by omega,by omega,by simp[hr]⟩, ?_⟩
 rintro c i o ⟨aH,e9,C,n,rfl,rfl,ar,m4,ao⟩
 rw[e9]
 refine⟨fun h=> ?_,fun h=> ?_⟩
 ·simp only[asw]at h
  simp only[asu,hE aC,hE ae]
  have af:=eX aC n
  have a6:=eX ae n
  refine⟨fun v=>v=((C+lm a n:Nat):Int),⟨fun U=> ?_,fun U=> ?_⟩, ?_⟩
  ·simp only[asw]at U
   refine⟨by omega,U,by first|rfl|trivial, ?_⟩
   rw[cl (x:=(lm a n:Int)) (by omega),cl (by omega)];omega
  ·simp only[asv]at U
   refine⟨by first|rfl|trivial, ?_⟩
   have:lm a n=0:=by unfold lm;rw[w7 (by omega)];rfl
   rw[this];rfl
  rintro v rfl
  refine⟨fun v=>v=((C+lm a n+lm b n:Nat):Int),⟨fun U=> ?_,fun U=> ?_⟩, ?_⟩
  ·simp only[asw]at U
   refine⟨by omega,U,by first|rfl|trivial, ?_⟩
   rw[cl (x:=(lm b n:Int)) (by omega),cl (by omega)];omega
  ·simp only[asv]at U
   refine⟨by first|rfl|trivial, ?_⟩
   have:lm b n=0:=by unfold lm;rw[w7 (by omega)];rfl
   rw[this];rfl
  rintro v rfl
  have an:IntKind.wrap .i64 ((n:Int)+1)=((n+1:Nat):Int):=by rw[bl (by omega)];omega
  have az:IntKind.wrap .u32 ((C+lm a n+lm b n:Nat):Int)=(((C+lm a n+lm b n)%4294967296:Nat):Int):=by rw[jH];omega
  have bK:Int.fdiv ((C+lm a n+lm b n:Nat):Int) 4294967296=(((C+lm a n+lm b n)/4294967296:Nat):Int):=by rw[as_ _ (by omega)];omega
  simp only[an,az,bK]
  refine⟨by omega,by omega,⟨aH.set _ ⟨by omega,by omega⟩,by rw[asJ];exact e9,_,n+1,rfl,rfl,by omega,by omega, ?_⟩,by show M-((n+1:Nat):Int).toNat<M-(n:Int).toNat;omega⟩
  have hw:cW (o.set n (((C+lm a n+lm b n)%4294967296:Nat):Int)) (n+1)=cW o n+4294967296^n*((C+lm a n+lm b n)%4294967296):=by
   rw[fc,qb _ _ _ _ (asz _),ef,asq ⟨rfl,by omega⟩,asu]
  have aQ:=Wm (x:=lm a n) (y:=lm b n) (T:=(C+lm a n+lm b n)/4294967296) ao (by omega) hw
  rw[asU,as4,fc a,fc b]
  exact aQ
 ·simp only[asv]at h
  obtain rfl:n=M:=by omega
  refine⟨⟨aH,by omega⟩, ?_⟩
  rw[gi a (by omega),gi b (by omega),gi o (by omega)]at ao
  have U:=gN aC
  have aa:=gN ae
  have yH:C=0:=by
   rcases at1 C with aE|aE
   ·exact aE
   ·exfalso
    have al:4294967296^a.length*4294967296<=4294967296^n:=by rw[<-asU];exact as9 (by decide) ZR
    have aL:4294967296^b.length*4294967296<=4294967296^n:=by rw[<-asU];exact as9 (by decide) ZS
    have bo:=as1 (4294967296^n) aE
    omega
  rw[yH,as3,asN]at ao
  rw[ao];exact ab
theorem O6 {x y:Nat}(af:x<4294967296)(a6:y<4294967296):x*y<=18446744065119617025:=by
 have:x*y<=4294967295*4294967295:=atS (by omega) (by omega)
 omega
end I
end
section
open Go Go.bG
namespace I
end I
end
