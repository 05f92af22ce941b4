/- Helpers for the statements: conditions under which code does what is wanted, and proofs that they suffice. Condition: none. -/
import Derived.Calls
import Derived.KernelRfl
import Derived.Laws.Sem
import Derived.Below
import Derived.Laws.AppendOwn
import Derived.Laws.CopyRow
import Derived.Laws.Rows
import Derived.Laws.Tables
import Derived.Laws.Cells
import Derived.Scope
import Derived.Laws.Strings
import Derived.Laws.Small
import Derived.Laws.Cover3
import Derived.Laws.IdiomCopy
import Derived.Laws.MakeOwn
import Derived.Laws.BytesString
import Derived.Deep.AppendSrc
abbrev asA:=@Array.getD_eq_getD_getElem?
abbrev auO:=@Array.getElem?_append_left
abbrev aud:=@Array.getElem?_eq_getElem
abbrev auG:=@Array.getElem?_eq_some_iff
abbrev auo:=@Array.getElem?_modify
abbrev auj:=@Array.getElem?_setIfInBounds
abbrev auD:=@Array.getElem?_toList
abbrev atu:=@Array.length_toList
abbrev auh:=@BitVec.ofInt_natCast
abbrev auw:=@BitVec.toNat_ofNat
abbrev asD:=@Bool.and_eq_true
abbrev atF:=@Bool.false_eq_true
abbrev atB:=@Bool.false_ne_true
abbrev atq:=@Bool.not_eq_true'
abbrev atO:=@Bool.or_eq_true
abbrev atd:=@Iff.rfl
abbrev auK:=@Int.emod_eq_of_lt
abbrev asx:=@Int.eq_ofNat_of_zero_le
abbrev as_:=@Int.fdiv_eq_ediv_of_nonneg
abbrev atJ:=@Int.le_trans
abbrev auB:=@Int.natCast_add
abbrev aug:=@Int.natCast_ediv
abbrev aut:=@Int.natCast_emod
abbrev atE:=@Int.natCast_mul
abbrev atm:=@Int.natCast_nonneg
abbrev atT:=@Int.ofNat_lt
abbrev auP:=@Int.tdiv_eq_ediv_of_nonneg
abbrev aus:=@Int.tmod_eq_emod_of_nonneg
abbrev asu:=@Int.toNat_natCast
abbrev at2:=@List.all_cons
abbrev asH:=@List.all_eq_true
abbrev auv:=@List.append_nil
abbrev auc:=@List.cons.injEq
abbrev atP:=@List.cons_append
abbrev atX:=@List.drop_eq_getElem_cons
abbrev auN:=@List.drop_eq_nil_of_le
abbrev aum:=@List.eq_nil_of_length_eq_zero
abbrev auF:=@List.ext_getElem
abbrev aup:=@List.filter_append
abbrev at6:=@List.filter_cons
abbrev ass:=@List.getD_eq_getElem?_getD
abbrev asS:=@List.getElem?_append
abbrev atp:=@List.getElem?_append_left
abbrev atC:=@List.getElem?_append_right
abbrev atK:=@List.getElem?_drop
abbrev asI:=@List.getElem?_eq_getElem
abbrev as5:=@List.getElem?_eq_none
abbrev atg:=@List.getElem?_eq_some_iff
abbrev atl:=@List.getElem?_map
abbrev atN:=@List.getElem?_replicate
abbrev ata:=@List.getElem?_set
abbrev ath:=@List.getElem?_take
abbrev atw:=@List.getElem_mem
abbrev auM:=@List.getElem_of_mem
abbrev as2:=@List.length_append
abbrev atf:=@List.length_cons
abbrev atA:=@List.length_drop
abbrev atc:=@List.length_eq_zero_iff
abbrev asy:=@List.length_map
abbrev asJ:=@List.length_set
abbrev atZ:=@List.length_singleton
abbrev asW:=@List.length_take
abbrev as7:=@List.map_append
abbrev auC:=@List.map_congr_left
abbrev asX:=@List.map_cons
abbrev atM:=@List.map_map
abbrev auf:=@List.map_set
abbrev auH:=@List.map_singleton
abbrev auE:=@List.map_toArray
abbrev atY:=@List.mem_append
abbrev asP:=@List.mem_cons
abbrev at3:=@List.mem_cons_of_mem
abbrev auk:=@List.mem_cons_self
abbrev atH:=@List.mem_filter
abbrev asL:=@List.mem_map
abbrev atG:=@List.mem_of_getElem?
abbrev auI:=@List.mem_or_eq_of_mem_set
abbrev atr:=@List.mem_singleton
abbrev atW:=@List.not_mem_nil
abbrev aub:=@List.pairwise_cons
abbrev auz:=@List.take_add_one
abbrev atU:=@List.take_length
abbrev aul:=@List.take_of_length_le
abbrev atn:=@Nat.add_assoc
abbrev asK:=@Nat.add_mul
abbrev asN:=@Nat.add_zero
abbrev ato:=@Nat.beq_refl
abbrev at4:=@Nat.div_add_mod
abbrev at5:=@Nat.div_eq_of_lt
abbrev auL:=@Nat.div_le_self
abbrev aue:=@Nat.div_lt_of_lt_mul
abbrev auq:=@Nat.div_lt_self
abbrev ast:=@Nat.eq_of_beq_eq_true
abbrev at1:=@Nat.eq_zero_or_pos
abbrev asV:=@Nat.le_of_ble_eq_true
abbrev asz:=@Nat.le_refl
abbrev asZ:=@Nat.le_trans
abbrev at7:=@Nat.lt_of_le_of_lt
abbrev asR:=@Nat.lt_of_lt_of_le
abbrev atI:=@Nat.lt_of_mul_lt_mul_left
abbrev auJ:=@Nat.min_eq_left
abbrev ati:=@Nat.mod_eq_of_lt
abbrev as6:=@Nat.mod_lt
abbrev asG:=@Nat.mul_add
abbrev aun:=@Nat.mul_add_mod
abbrev as4:=@Nat.mul_assoc
abbrev asT:=@Nat.mul_comm
abbrev atS:=@Nat.mul_le_mul
abbrev as1:=@Nat.mul_le_mul_left
abbrev asF:=@Nat.mul_le_mul_right
abbrev att:=@Nat.mul_left_comm
abbrev auy:=@Nat.mul_lt_mul_of_pos_right
abbrev asY:=@Nat.mul_one
abbrev as3:=@Nat.mul_zero
abbrev atx:=@Nat.one_mul
abbrev aur:=@Nat.pos_of_ne_zero
abbrev ate:=@Nat.pow_add
abbrev as9:=@Nat.pow_le_pow_right
abbrev asU:=@Nat.pow_succ
abbrev aua:=@Nat.pow_zero
abbrev atk:=@Nat.two_pow_pos
abbrev as0:=@Nat.zero_add
abbrev atD:=@Nat.zero_le
abbrev atL:=@Nat.zero_mul
abbrev atb:=@Ne.symm
abbrev atv:=@Option.getD_some
abbrev auA:=@Option.isSome_iff_exists
abbrev ats:=@Option.map_some
abbrev asB:=@Option.some.inj
abbrev asM:=@Option.some.injEq
abbrev asO:=@Prod.mk.injEq
abbrev atz:=@Rat.add_assoc
abbrev atV:=@Rat.add_zero
abbrev aui:=@Rat.mul_assoc
abbrev aty:=@Rat.zero_add
abbrev asQ:=@congrArg
abbrev auu:=@decide_eq_decide
abbrev atQ:=@decide_eq_false
abbrev asv:=@decide_eq_false_iff_not
abbrev at0:=@decide_eq_true
abbrev asw:=@decide_eq_true_eq
abbrev as8:=@decide_eq_true_iff
abbrev asp:=@if_neg
abbrev asq:=@if_pos
abbrev atj:=@if_true
abbrev asE:=@of_decide_eq_false
abbrev asC:=@of_decide_eq_true
section
namespace Go.bG
inductive R:Type where
 |int (k:IntKind) (n:Int)
 |bool (b:Bool)
 |str (l:List Int)
 |ints (k:IntKind) (l:List Int)
 |rows (aj:Nat) (l:List (List R))
 |undef
 deriving Inhabited
def R.isInt:R->IntKind->Prop
 | .int k _,b3=>k=b3
 |_,_=>False
def R.toInt:R->Int
 | .int _ n=>n
 |_=>0
def R.isBool:R->Prop
 | .bool _=>True
 |_=>False
def R.toBool:R->Bool
 | .bool b=>b
 |_=>false
def R.isStr:R->Prop
 | .str _=>True
 |_=>False
def R.toStr:R->List Int
 | .str l=>l
 |_=>[]
def R.eM:R->IntKind->Prop
 | .ints k _,b3=>k=b3
 |_,_=>False
def R.b6:R->List Int
 | .ints _ l=>l
 |_=>[]
def R.Qe:R->Nat->Prop
 | .rows aj _,hK=>aj=hK
 |_,_=>False
def R.Qf:R->List (List R)
 | .rows _ l=>l
 |_=>[]
def R.len:R->Nat
 | .ints _ l=>l.length
 | .rows _ l=>l.length
 | .str l=>l.length
 |_=>0
def R.ch:R->Nat
 | .rows aj _=>aj
 |_=>1
def R.cell:R->Nat->Nat->R
 | .ints k l,i,_=> .int k (l.getD i 0)
 | .rows _ l,i,j=>(l.getD i []).getD j .undef
 |_,_,_=> .undef
inductive J:Type where
 |d (x:R)
 |bt
 |bf
 |emp
 |vec (id:Nat)
 |ptr (id off:Nat)
 |optr (id:Nat) (i:Int) (j:Nat)
 |rptr (x:R) (i:Int) (j:Nat)
 |oat (id:Nat) (i:Int) (j:Nat)
 |rat (x:R) (i:Int) (j:Nat)
 |mp (id:Nat)
 |tail (id:Nat) (i:Int)
 |vt
 |fn (f:FuncId)
 |cls (f:FuncId) (aiY:List J)
 |agg (l:List J)
 |tup (l:List J)
 |rw(n:Nat) (r:List R)
 |un
 |any
 deriving Inhabited
inductive ad:Type where
 |cells (l:List J)
 |ints (k:IntKind) (l:List Int)
 |rows (aj:Nat) (l:List (List R))
 |map (sx aj:Nat) (l:List (List R))
 |dead (n aj:Nat)
 |gone
 deriving Inhabited
abbrev aB:=List (Bool×ad)
def ad.len:ad->Nat
 | .ints _ l=>l.length
 | .rows _ l=>l.length
 | .cells l=>l.length
 | .map _ _ _=>0
 | .dead n _=>n
 | .gone=>0
def ad.ch:ad->Nat
 | .rows aj _=>aj
 | .map _ aj _=>aj
 | .dead _ aj=>aj
 |_=>1
def ad.data:ad->R
 | .ints k l=> .ints k l
 | .rows aj l=> .rows aj l
 |_=> .undef
inductive b0:Type where
 |int (k:IntKind)
 |bool
 |str
 |sints (k:IntKind)
 |srows (aj:Nat)
 |other
 deriving Inhabited
inductive aO:Type where
 |bS (s:b0)
 |struct (fields:List (Nat×Nat×aO)) (cells:List b0)
 |arr (n:Nat) (elem:aO) (cells:List b0)
 |no
 deriving Inhabited
structure bQ where
 ty:aO
 elem:TypeId:=0
 bytes:Nat:=0
 hC:List b0:=[]
 lit:Bool:=false
 cut:Bool:=false
 mp:Option (Nat×TypeId×TypeId):=none
 deriving Inhabited
def b0.take:b0->R->J
 | .int k,x=> .d (.int k x.toInt)
 | .bool,x=> .d (.bool x.toBool)
 | .str,x=> .d (.str x.toStr)
 | .sints k,x=> .d (.ints k x.b6)
 | .srows aj,x=> .d (.rows aj x.Qf)
 | .other,x=> .d x
def b0.pa:b0->R->Prop
 | .int k,x=>x.isInt k
 | .bool,x=>x.isBool
 | .str,x=>x.isStr
 | .sints k,x=>x.eM k
 | .srows aj,x=>x.Qe aj
 | .other,_=>True
end Go.bG
end
section
namespace Go.bG
def bT {α:Type}(d:α):List α->Nat->α
 |[],_=>d
 |x::_,0=>x
 |_::r,n+1=>bT d r n
def cH {α:Type}:List α->Nat->α->List α
 |[],_,_=>[]
 |_::r,0,v=>v::r
 |x::r,n+1,v=>x::cH r n v
def lmap {α β:Type}(f:α->β):List α->List β
 |[]=>[]
 |x::r=>f x::lmap f r
def dV {α:Type}:List α->List α->List α
 |[],y=>y
 |x::r,y=>x::dV r y
def bN {α:Type}:List α->Nat
 |[]=>0
 |_::r=>Nat.succ (bN r)
def ko {α:Type}:List α->Nat->List α
 |l,0=>l
 |[],_+1=>[]
 |_::r,n+1=>ko r n
def kp {α:Type}:List α->Nat->List α
 |_,0=>[]
 |[],_+1=>[]
 |x::r,n+1=>x::kp r n
def tx {α:Type}(v:α):Nat->List α
 |0=>[]
 |n+1=>v::tx v n
def dq {α:Type}(f:α->Bool):List α->Bool
 |[]=>true
 |x::r=>match f x with|true=>dq f r|false=>false
def omap {α β:Type}(f:α->β):Option α->Option β
 |none=>none
 |some x=>some (f x)
def pad:Nat->List J->List J
 |0,l=>l
 |n+1,[]=> .un::pad n []
 |n+1,v::r=>v::pad n r
def eN {α:Type}(j:Nat):List (Nat×α)->Option α
 |[]=>none
 |(i,x)::r=>match Nat.beq i j with|true=>some x|false=>eN j r
def oB:Value->J
 | .int k n=> .d (.int k n)
 | .bool true=> .bt
 | .bool false=> .bf
 | .string s=> .d (.str (lmap (fun b=>Int.ofNat b.toNat) s.data.toList))
 | .slice none 0 0=> .emp
 | .pointer none=> .vt
 |_=> .any
def sy:Value->J
 | .agg cs=> .agg (lmap oB cs.toList)
 |v=>oB v
def aS (tm:List J):Operand->J
 | .tmp t=>bT .un tm t
 | .const v=>sy v
 | .global _=> .any
 | .func f=> .fn f
def put (tm:List J):Option Tmp->J->List J
 |some d,v=>cH tm d v
 |none,_=>tm
def ad.at (own:aB)(id:Nat):ad:=(bT (true, .gone) own id).2
def frozenAt (own:aB)(id:Nat):Bool:=(bT (true, .gone) own id).1
def J.hn (own:aB):J->R
 | .d x=>x
 | .bt=> .bool true
 | .bf=> .bool false
 | .vec id=>(ad.at own id).data
 |_=> .undef
def b0.norm (own:aB):b0->J->J
 | .sints k, .emp=> .d (.ints k [])
 | .sints _, .vec id=> .d (ad.at own id).data
 | .srows aj, .emp=> .d (.rows aj [])
 | .srows _, .vec id=> .d (ad.at own id).data
 | .bool, .bt=> .d (.bool true)
 | .bool, .bf=> .d (.bool false)
 |_,v=>v
def h3 (own:aB):List b0->List J->List J
 |s::cB,v::aG=>s.norm own v::h3 own cB aG
 |_,aG=>aG
def aO.norm (own:aB):aO->J->J
 | .bS s,v=>s.norm own v
 | .struct _ cs, .agg aG=> .agg (h3 own cs aG)
 | .arr _ _ cs, .agg aG=> .agg (h3 own cs aG)
 |_,v=>v
def en (own:aB)(id:Nat):aB:=cH own id (true,ad.at own id)
def kJ (own:aB):J->aB
 | .vec id=>en own id
 |_=>own
def sU (own:aB):List J->aB
 |[]=>own
 |v::aG=>sU (kJ own v) aG
def freeze (own:aB):J->aB
 | .vec id=>en own id
 | .agg l=>sU own l
 |_=>own
def b7 (own:aB):List J->aB
 |[]=>own
 |v::aG=>b7 (freeze own v) aG
def eh (id:Nat):J->J
 | .vec i=>match Nat.beq i id with|true=> .any|false=> .vec i
 | .optr i x y=>match Nat.beq i id with|true=> .any|false=> .optr i x y
 | .ptr i x=>match Nat.beq i id with|true=> .any|false=> .ptr i x
 | .oat i x y=>match Nat.beq i id with|true=> .any|false=> .oat i x y
 | .mp i=>match Nat.beq i id with|true=> .any|false=> .mp i
 | .tail i x=>match Nat.beq i id with|true=> .any|false=> .tail i x
 |v=>v
def da (id:Nat):J->J
 | .agg l=> .agg (lmap (eh id) l)
 | .tup _=> .any
 |v=>eh id v
def ad.kill (id:Nat):ad->ad
 | .cells l=> .cells (lmap (eh id) l)
 |o=>o
def fN (id:Nat)(own:aB):aB:=lmap (fun p=>(p.1,p.2.kill id)) own
inductive bH:Type where
 |bad
 |aR (safe:List Prop) (v:J) (own:aB)
 |grow (safe:List Prop) (v:J) (own:aB) (id:Nat)
 |e0 (p:Bool->Prop)
 |call (f:FuncId) (args:List J) (tys:List TypeId)
def gk:List Prop->Prop->Prop
 |[],q=>q
 |p::ps,q=>p/\gk ps q
def bk (op:BinOp)(k:IntKind)(a b:Int):Int:=
 let x:=BitVec.ofInt k.bits a
 let y:=BitVec.ofInt k.bits b
 match op with
 | .and=>k.wrap (x&&&y).toNat
 | .or=>k.wrap (x|||y).toNat
 | .xor=>k.wrap (x^^^y).toNat
 |_=>k.wrap (x&&&~~~y).toNat
def isNeg:Int->Bool
 | .ofNat _=>false
 | .negSucc _=>true
def BN (o:Operand)(b:Int):List Prop:=
 match o with
 | .const (.int _ n)=>match isNeg n with|true=>[False]|false=>[]
 |_=>[0<=b]
def C4 (o:Operand)(b:Int):List Prop:=
 match o with
 | .const (.int _ (.ofNat (_+1)))=>[]
 |_=>[b≠0]
def l4 (op:BinOp)(cY:Operand)(k:IntKind)(a b:Int)(own:aB):bH:=
 match op with
 | .add=> .aR [] (.d (.int k (k.wrap (a+b)))) own
 | .sub=> .aR [] (.d (.int k (k.wrap (a-b)))) own
 | .mul=> .aR [] (.d (.int k (k.wrap (a*b)))) own
 | .quo=> .aR (C4 cY b) (.d (.int k (k.wrap (a.tdiv b)))) own
 | .rem=> .aR (C4 cY b) (.d (.int k (a.tmod b))) own
 | .and=> .aR [] (.d (.int k (bk .and k a b))) own
 | .or=> .aR [] (.d (.int k (bk .or k a b))) own
 | .xor=> .aR [] (.d (.int k (bk .xor k a b))) own
 | .andNot=> .aR [] (.d (.int k (bk .andNot k a b))) own
 | .eql=> .aR [] (.d (.bool (decide (a=b)))) own
 | .neq=> .aR [] (.d (.bool (!decide (a=b)))) own
 | .lss=> .aR [] (.d (.bool (decide (a<b)))) own
 | .leq=> .aR [] (.d (.bool (decide (a<=b)))) own
 | .gtr=> .aR [] (.d (.bool (decide (b<a)))) own
 | .geq=> .aR [] (.d (.bool (decide (b<=a)))) own
 |_=> .bad
def iU:IntKind->IntKind->Bool
 | .i8, .i8| .i16, .i16| .i32, .i32| .i64, .i64| .u8, .u8| .u16, .u16| .u32, .u32| .u64, .u64=>true
 |_,_=>false
def u0:List Int->List Int->Bool
 |_,[]=>false
 |[],_::_=>true
 |a::x,b::y=>decide (a<b)||(decide (a=b)&&u0 x y)
def Qg (a b:Bool):Bool:=a==b
def gq:aO->R->Bool
 | .bS (.sints k), .ints b3 _=>iU k b3
 | .bS (.srows aj), .rows hK _=>Nat.beq aj hK
 |_,_=>false
def iV:aO->ad->Bool
 | .bS (.sints k), .ints b3 _=>iU k b3
 | .bS (.srows aj), .rows hK _=>Nat.beq aj hK
 |_,_=>false
def h1:aO->Bool
 | .bS (.sints _)=>true
 | .bS (.srows _)=>true
 |_=>false
def im (op:BinOp)(t:aO)(a b:Bool)(own:aB):bH:=
 match op,t with
 | .eql, .bS .bool=> .aR [] (.d (.bool (Qg a b))) own
 | .neq, .bS .bool=> .aR [] (.d (.bool (!Qg a b))) own
 |_,_=> .bad
def n5 (op:BinOp)(t:aO)(cY:Operand)(x y:J)(own:aB):bH:=
 match x,y with
 | .d (.int k a), .d (.int b3 b)=>
  match op with
  | .shl=> .aR (BN cY b) (.d (.int k (k.wrap (a*2^min b.toNat k.bits)))) own
  | .shr=> .aR (BN cY b) (.d (.int k (a.fdiv (2^min b.toNat k.bits)))) own
  |_=>match iU k b3 with|true=>l4 op cY k a b own|false=> .bad
 | .d (.str a), .d (.str b)=>
  match op with
  | .add=> .aR [(a.length:Int)+b.length<=9223372036854775807] (.d (.str (a++b))) own
  | .eql=> .aR [] (.d (.bool (decide (a=b)))) own
  | .neq=> .aR [] (.d (.bool (!decide (a=b)))) own
  | .lss=> .aR [] (.d (.bool (u0 a b))) own
  |_=> .bad
 | .d (.ints _ l), .emp=>
  match op,h1 t,cY with
  | .eql,true, .const _=> .e0 fun b=>b=true->l=[]
  | .neq,true, .const _=> .e0 fun b=>b=false->l=[]
  |_,_,_=> .bad
 | .d (.rows _ l), .emp=>
  match op,h1 t,cY with
  | .eql,true, .const _=> .e0 fun b=>b=true->l=[]
  | .neq,true, .const _=> .e0 fun b=>b=false->l=[]
  |_,_,_=> .bad
 | .d (.bool a), .d (.bool b)=>im op t a b own
 | .d (.bool a), .bt=>im op t a true own
 | .d (.bool a), .bf=>im op t a false own
 | .bt, .d (.bool a)=>im op t true a own
 | .bf, .d (.bool a)=>im op t false a own
 | .bt, .bt=>im op t true true own
 | .bt, .bf=>im op t true false own
 | .bf, .bt=>im op t false true own
 | .bf, .bf=>im op t false false own
 |_,_=> .bad
def vh (op:UnOp)(x:J)(own:aB):bH:=
 match op,x with
 | .neg, .d (.int k n)=> .aR [] (.d (.int k (k.wrap (0-n)))) own
 | .xor, .d (.int k n)=> .aR [] (.d (.int k (bk .xor k (if k.signed then-1 else k.max) n))) own
 | .not, .d (.bool b)=> .aR [] (.d (.bool (!b))) own
 | .not, .bt=> .aR [] .bf own
 | .not, .bf=> .aR [] .bt own
 |_,_=> .bad
def u1 (c x y:J)(own:aB):bH:=
 match c with
 | .bt=> .aR [] x own
 | .bf=> .aR [] y own
 | .d (.bool b)=>
  match x,y with
  | .d (.bool p), .d (.bool q)=> .aR [] (.d (.bool (if b then p else q))) own
  | .bt, .d (.bool q)=> .aR [] (.d (.bool (if b then true else q))) own
  | .d (.bool p), .bf=> .aR [] (.d (.bool (if b then p else false))) own
  | .bt, .bf=> .aR [] (.d (.bool b)) own
  | .d (.int k p), .d (.int b3 q)=>match iU k b3 with|true=> .aR [] (.d (.int k (if b then p else q))) own|false=> .bad
  |_,_=> .bad
 |_=> .bad
def nt (src dst:aO)(x:J)(own:aB):bH:=
 match dst,x with
 | .bS (.int k), .d (.int _ n)=>(match src with| .bS (.int _)=> .aR [] (.d (.int k (k.wrap n))) own|_=> .bad)
 | .bS .str, .d (.str l)=>(match src with| .bS .str=> .aR [] (.d (.str l)) own|_=> .bad)
 | .bS .str, .d (.ints .u8 l)=>(match src with| .bS (.sints .u8)=> .aR [∀x∈l,0<=x/\x<256] (.d (.str l)) own|_=> .bad)
 | .bS .str, .vec id=>
  match ad.at own id,src with
  | .ints .u8 l, .bS (.sints .u8)=> .aR [∀x∈l,0<=x/\x<256] (.d (.str l)) own
  |_,_=> .bad
 | .bS .str, .emp=>(match src with| .bS (.sints .u8)=> .aR [] (.d (.str [])) own|_=> .bad)
 |_,_=> .bad
def qm (cs:List b0)(x:R)(i j:Nat):List Prop×List J:=
 match cs with
 |[]=>([],[])
 |s::cB=>(s.pa (x.cell i j)::(qm cB x i (Nat.succ j)).1,s.take (x.cell i j)::(qm cB x i (Nat.succ j)).2)
def aO.size:aO->Nat
 | .bS _=>1
 | .struct _ cs| .arr _ _ cs=>bN cs
 | .no=>0
def aO.Gk:aO->Bool
 | .arr ..=>true
 |_=>false
def aO.jj:aO->Bool
 | .arr ..=>true
 | .struct _ cs=>Nat.blt 8 (bN cs)
 |_=>false
def aO.cells:aO->List b0
 | .struct _ cs=>cs
 | .arr _ _ cs=>cs
 |_=>[]
def kM (r:List R)(j n aj:Nat):List R:=
 match Nat.beq j 0 with
 |true=>(match Nat.beq n aj with|true=>r|false=>r.take n)
 |false=>(r.drop j).take n
def xv (r:List R)(j n aj:Nat)(v:List R):List R:=
 match Nat.beq j 0 with
 |true=>(match Nat.beq n aj with|true=>v|false=>v++r.drop n)
 |false=>r.take j++(v++r.drop (Nat.add j n))
def loadData (t:aO)(x:R)(i:Int)(j:Nat)(own:aB):bH:=
 match x with
 | .ints k l=>
  (match t,Nat.beq j 0 with
  | .bS (.int b3),true=>match iU k b3 with|true=> .aR [] (.d (.int k (l.getD i.toNat 0))) own|false=> .bad
  |_,_=> .bad)
 | .rows aj l=>
  (match Nat.ble (Nat.add j t.size) aj with
  |true=>
   (match t with
   | .bS s=> .aR [s.pa (R.cell (.rows aj l) i.toNat j)] (s.take (R.cell (.rows aj l) i.toNat j)) own
   | .struct _ cs=>
    (match Nat.blt 8 (bN cs)with
    |true=> .aR [(l.getD i.toNat []).length=aj] (.rw (bN cs) (kM (l.getD i.toNat []) j (bN cs) aj)) own
    |false=> .aR (qm cs (.rows aj l) i.toNat j).1 (.agg (qm cs (.rows aj l) i.toNat j).2) own)
   | .arr _ _ cs=> .aR [(l.getD i.toNat []).length=aj] (.rw (bN cs) (kM (l.getD i.toNat []) j (bN cs) aj)) own
   | .no=> .bad)
  |false=> .bad)
 |_=> .bad
def loadAt (t:aO)(x:R)(i:Int)(j:Nat)(own:aB):bH:=
 match x,t with
 | .rows _ l, .bS s=> .aR [s.pa ((l.getD i.toNat []).getD j .undef)] (s.take ((l.getD i.toNat []).getD j .undef)) own
 |_,_=> .bad
def oa:J->J
 | .agg _=> .any
 | .tup _=> .any
 |v=>v
def hR (t:aO)(p:J)(own:aB):bH:=
 match p with
 | .ptr id off=>
  match ad.at own id with
  | .cells l=>
   (match t,Nat.ble (Nat.add off t.size) (bN l)with
   | .bS _,true=> .aR [] (oa (bT .un l off)) own
   | .struct _ cs,true=> .aR [] (.agg (kp (ko l off) (bN cs))) own
   | .arr _ _ cs,true=> .aR [] (.agg (kp (ko l off) (bN cs))) own
   |_,_=> .bad)
  |_=> .bad
 | .optr id i j=>loadData t (ad.at own id).data i j own
 | .rptr x i j=>loadData t x i j own
 | .oat id i j=>loadAt t (ad.at own id).data i j own
 | .rat x i j=>loadAt t x i j own
 |_=> .bad
def setCells (l:List J)(off:Nat):List J->List J
 |[]=>l
 |v::aG=>setCells (cH l off v) (Nat.succ off) aG
def setRow (r:List R)(j:Nat):List R->List R
 |[]=>r
 |v::aG=>setRow (r.set j v) (j+1) aG
def J.cellsOf:J->List J
 | .agg l=>l
 |v=>[v]
def J.nm:J->Bool
 | .any=>false
 | .un=>false
 | .rw _ _=>false
 | .oat ..=>false
 | .rat ..=>false
 | .mp _=>false
 | .tail ..=>false
 | .tup _=>false
 | .agg _=>false
 |_=>true
def J.fits:aO->J->Bool
 | .bS _,v=>v.nm
 | .struct _ cs, .agg l=>match Nat.beq (bN l) (bN cs)with|true=>dq J.nm l|false=>false
 | .arr _ _ cs, .agg l=>match Nat.beq (bN l) (bN cs)with|true=>dq J.nm l|false=>false
 |_,_=>false
def J.gy:J->Bool
 | .d _=>true
 | .bt=>true
 | .bf=>true
 | .emp=>true
 |_=>false
def mc:List b0->List R->Nat->List Prop×List J
 |[],_,_=>([],[])
 |s::cB,r,j=>(s.pa (r.getD j .undef)::(mc cB r (Nat.succ j)).1,s.take (r.getD j .undef)::(mc cB r (Nat.succ j)).2)
def lz (own:aB)(cs:List b0)(v:J):List R:=lmap (J.hn own) (h3 own cs v.cellsOf)
def n6 (own:aB)(t:aO)(v:J):Option (List R):=
 match v with
 | .rw n r=>(match Nat.beq n t.size with|true=>some r|false=>none)
 | .agg l=>(match t.jj,Nat.beq (bN l) (bN t.cells),dq J.gy l with|true,true,true=>some (lz own t.cells (.agg l))|_,_,_=>none)
 |_=>none
def PE (r:List R)(j n aj:Nat):List Prop:=match Nat.beq j 0,Nat.beq n aj with|true,true=>[]|_,_=>[r.length=aj]
def p1 (t:aO)(p:J)(r:List R)(own:aB):bH:=
 match t.jj,p with
 |true, .optr id i j=>
  (match frozenAt own id,ad.at own id with
  |false, .rows aj l=>
   (match Nat.ble (Nat.add j t.size) aj with
   |true=> .aR (PE (l.getD i.toNat []) j t.size aj) .un (cH own id (false, .rows aj (l.set i.toNat (xv (l.getD i.toNat []) j t.size aj r))))
   |false=> .bad)
  |_,_=> .bad)
 |_,_=> .bad
def pX (t:aO)(id:Nat)(i:Int)(j:Nat)(v:J)(own:aB):bH:=
 match t with
 | .bS s=>
  (match frozenAt own id,ad.at own id,v.gy with
  |false, .rows aj l,true=> .aR [] .un (cH own id (false, .rows aj (l.set i.toNat ((l.getD i.toNat []).set j (J.hn own (s.norm own v))))))
  |_,_,_=> .bad)
 |_=> .bad
def sO (t:aO)(p v:J)(own:aB):bH:=
 match p with
 | .ptr id off=>
  match frozenAt own id,ad.at own id,v.fits t with
  |false, .cells l,true=>match Nat.ble (Nat.add off t.size) (bN l)with|true=> .aR [] .un (cH own id (false, .cells (setCells l off v.cellsOf)))|false=> .bad
  |_,_,_=> .bad
 | .optr id i j=>
  match frozenAt own id,ad.at own id,v.fits t with
  |false, .ints k l,true=>
   (match v with
   | .d (.int b3 n)=>match iU k b3,Nat.beq j 0 with|true,true=> .aR [] .un (cH own id (false, .ints k (l.set i.toNat n)))|_,_=> .bad
   |_=> .bad)
  |false, .rows aj l,true=>
   match Nat.ble (Nat.add j t.size) aj,dq J.gy v.cellsOf with
   |true,true=> .aR [] .un (cH own id (false, .rows aj (l.set i.toNat (setRow (l.getD i.toNat []) j (lmap (J.hn own) (t.norm own v).cellsOf)))))
   |_,_=> .bad
  |_,_,_=> .bad
 |_=> .bad
def oT (t:aO)(p v:J)(own:aB):bH:=
 match n6 own t v with
 |some r=>p1 t p r own
 |none=>(match p with| .oat id i j=>pX t id i j v own|_=>sO t p v own)
def b0.zero:b0->J
 | .int k=> .d (.int k 0)
 | .bool=> .d (.bool false)
 | .str=> .d (.str [])
 | .sints _=> .emp
 | .srows _=> .emp
 | .other=> .any
def b0.ir:b0->R
 | .int k=> .int k 0
 | .bool=> .bool false
 | .str=> .str []
 | .sints k=> .ints k []
 | .srows aj=> .rows aj []
 | .other=> .undef
def aO.zero:aO->List J
 | .bS s=>[s.zero]
 | .struct _ cs| .arr _ _ cs=>lmap b0.zero cs
 | .no=>[]
def uA (parts:List (Nat×J))(place:Nat->Nat)(cells:List J):List J:=
 match parts with
 |[]=>cells
 |(i,v)::r=>uA r place (setCells cells (place i) v.cellsOf)
def eV (t:aO)(f:Nat):Nat:=
 match t with
 | .struct bM _=>(bT (0,0, .no) bM f).1
 | .arr _ e _=>Nat.mul f e.size
 |_=>0
def kg (t:aO)(f:Nat):aO:=
 match t with
 | .struct bM _=>(bT (0,0, .no) bM f).2.2
 |_=> .no
def placeOf (j:Nat)(n:Int):Nat:=match Nat.beq j 0 with|true=>n.toNat|false=>j+n.toNat
def oc (t:aO)(x:J)(n:Int)(own:aB):bH:=
 match t with
 | .arr m (.bS _) _=>
  (match x with
  | .optr id a j=>
   (match ad.at own id with
   | .rows aj _=>(match Nat.ble (Nat.add j m) aj with|true=> .aR [0<=n,n<(m:Int)] (.oat id a (placeOf j n)) own|false=> .bad)
   |_=> .bad)
  | .rptr (.rows aj l) a j=>(match Nat.ble (Nat.add j m) aj with|true=> .aR [0<=n,n<(m:Int)] (.rat (.rows aj l) a (placeOf j n)) own|false=> .bad)
  |_=> .bad)
 |_=> .bad
def pS (t:aO)(x i:J)(own:aB):bH:=
 match i with
 | .d (.int _ n)=>
  match x with
  | .d a=>match gq t a with|true=> .aR [0<=n,n<(a.len:Int)] (.rptr a n 0) own|false=> .bad
  | .vec id=>match iV t (ad.at own id)with|true=> .aR [0<=n,n<((ad.at own id).len:Int)] (.optr id n 0) own|false=> .bad
  | .emp=> .aR [False] .any own
  |x=>oc t x n own
 |_=> .bad
def xb (t:aO)(x i:J)(own:aB):bH:=
 match i with
 | .d (.int _ n)=>
  match t,x with
  | .bS .str, .d (.str l)=> .aR [0<=n,n<(l.length:Int)] (.d (.int .u8 (l.getD n.toNat 0))) own
  | .arr m (.bS s) _, .rw z r=>(match Nat.beq z m with|true=> .aR [0<=n,n<(m:Int),s.pa (r.getD n.toNat .undef)] (s.take (r.getD n.toNat .undef)) own|false=> .bad)
  |_,_=> .bad
 |_=> .bad
def tf (t:aO)(x:J)(own:aB):Option Nat:=
 match x with
 | .d (.str l)=>(match t with| .bS .str=>some l.length|_=>none)
 | .d (.ints _ l)=>match h1 t with|true=>some l.length|false=>none
 | .d (.rows _ l)=>match h1 t with|true=>some l.length|false=>none
 | .vec id=>match h1 t with|true=>some (ad.at own id).len|false=>none
 | .emp=>match h1 t with|true=>some 0|false=>none
 |_=>none
def madeOf (t:bQ)(n:Nat):ad:=
 match t.ty with
 | .bS (.sints k)=> .ints k (List.replicate n 0)
 | .bS (.srows aj)=> .rows aj (List.replicate n (lmap b0.ir t.hC))
 |_=> .gone
def u2 (t:bQ)(len cap:J)(own:aB):bH:=
 match len,cap with
 | .d (.int .i64 n), .d (.int .i64 c)=>
  match Nat.blt 0 t.bytes,h1 t.ty with
  |true,true=> .aR [0<=n,n<=c,c*t.bytes<=281474976710656] (.vec (bN own)) (dV own [(false,madeOf t n.toNat)])
  |_,_=> .bad
 |_,_=> .bad
def ll:Option J->Option (Option Int)
 |none=>some none
 |some (.d (.int _ n))=>some (some n)
 |_=>none
def jP {α:Type}(l:List α)(lo hi:Option Int):List α:=
 match lo,hi with
 |none,none=>l
 |some a,none=>l.drop a.toNat
 |none,some b=>l.take b.toNat
 |some a,some b=>(l.take b.toNat).drop a.toNat
def lA (n:Nat)(lo hi:Option Int):List Prop:=
 match lo,hi with
 |none,none=>[]
 |some a,none=>[0<=a,a<=(n:Int)]
 |none,some b=>[0<=b,b<=(n:Int)]
 |some a,some b=>[0<=a,a<=b,b<=(n:Int)]
def kf (t:aO)(x:J)(lo hi cX:Option J)(own:aB):bH:=
 match cX with
 |none=>
  match ll lo,ll hi with
  |some a,some b=>
   (match x with
   | .d (.ints k l)=>match gq t (.ints k l)with|true=> .aR (lA l.length a b) (.d (.ints k (jP l a b))) own|false=> .bad
   | .d (.rows aj l)=>match gq t (.rows aj l)with|true=> .aR (lA l.length a b) (.d (.rows aj (jP l a b))) own|false=> .bad
   | .d (.str l)=>(match t with| .bS .str=> .aR (lA l.length a b) (.d (.str (jP l a b))) own|_=> .bad)
   | .vec id=>
    (match ad.at own id with
    | .ints k l=>match gq t (.ints k l)with|true=> .aR (lA l.length a b) (.d (.ints k (jP l a b))) (en own id)|false=> .bad
    | .rows aj l=>match gq t (.rows aj l)with|true=> .aR (lA l.length a b) (.d (.rows aj (jP l a b))) (en own id)|false=> .bad
    |_=> .bad)
   | .emp=>match h1 t with|true=> .aR (lA 0 a b) .emp own|false=> .bad
   |_=> .bad)
  |_,_=> .bad
 |some (.d (.int _ (.ofNat 0)))=>
  match ll lo,ll hi,x with
  |some none,some (some (.ofNat 0)), .d a=>match gq t a with|true=> .aR [] .emp own|false=> .bad
  |some (some (.ofNat 0)),some (some (.ofNat 0)), .d a=>match gq t a with|true=> .aR [] .emp own|false=> .bad
  |_,_,_=> .bad
 |_=> .bad
def oU (t:aO)(x:J)(lo hi cX:Option J)(own:aB):bH:=
 match t,x,cX with
 | .arr m (.bS (.int k)) _, .optr id i j,none=>
  (match ad.at own id,ll lo,ll hi with
  | .rows aj l,some a,some b=>
   (match Nat.ble (Nat.add j m) aj with
   |true=> .aR (((l.getD i.toNat []).length=aj)::(∀x∈kM (l.getD i.toNat []) j m aj,x.isInt k)::lA m a b) (.d (.ints k (jP ((kM (l.getD i.toNat []) j m aj).map R.toInt) a b))) (en own id)
   |false=> .bad)
  |_,_,_=> .bad)
 |_,_,_=> .bad
def rk (t:aO)(x:J)(lo hi cX:Option J)(own:aB):bH:=match t.Gk with|true=>oU t x lo hi cX own|false=>kf t x lo hi cX own
def Bg (t:bQ)(x:J)(lo hi cX:Option J)(own:aB):bH:=
 match x,cX with
 | .vec id,none=>
  (match frozenAt own id,ad.at own id,iV t.ty (ad.at own id),ll lo,ll hi with
  |false, .rows aj l,true,some none,some (some b)=> .aR [0<=b,b<=(l.length:Int)] (.vec (bN own)) (dV (cH own id (true, .dead l.length aj)) [(false, .rows aj (l.take b.toNat))])
  |false, .rows _ l,true,some (some a),some none=> .aR [0<=a,a<(l.length:Int)] (.tail id a) own
  |_,_,_,_,_=> .bad)
 |_,_=> .bad
def sV (t:bQ)(x:J)(lo hi cX:Option J)(own:aB):bH:=match t.cut with|true=>Bg t x lo hi cX own|false=>rk t.ty x lo hi cX own
def uO (t:bQ)(x:J)(own:aB):bH:=
 match x with
 | .tail id a=>
  (match frozenAt own id,ad.at own id,iV t.ty (ad.at own id)with
  |false, .rows aj l,true=> .aR [] .any (cH own id (false, .rows aj (l.take a.toNat++List.replicate (l.length-a.toNat) (lmap b0.ir t.hC))))
  |_,_,_=> .bad)
 |_=> .bad
def rb (t:bQ)(x y:J)(own:aB):bH:=
 match x,y with
 | .emp, .emp=>match h1 t.ty with|true=> .aR [] .emp own|false=> .bad
 | .emp, .d a=>
  match gq t.ty a with
  |true=>(match a with
   | .ints k l=> .aR [(l.length:Int)*t.bytes<=70368744177664] (.vec (bN own)) (dV own [(false, .ints k l)])
   | .rows aj l=> .aR [(l.length:Int)*t.bytes<=70368744177664] (.vec (bN own)) (dV own [(false, .rows aj l)])
   |_=> .bad)
  |false=> .bad
 | .vec id, .emp=>match iV t.ty (ad.at own id)with|true=> .aR [] (.vec id) own|false=> .bad
 | .vec id, .d a=>
  match gq t.ty a,frozenAt own id with
  |true,false=>(match a,ad.at own id with
   | .ints k l, .ints b3 m=>(match iU k b3 with
    |true=> .grow [((m.length:Int)+l.length)*t.bytes<=70368744177664] (.vec id) (cH own id (false, .ints k (m++l))) id
    |false=> .bad)
   | .rows aj l, .rows hK m=>(match Nat.beq aj hK with
    |true=> .grow [((m.length:Int)+l.length)*t.bytes<=70368744177664] (.vec id) (cH own id (false, .rows aj (m++l))) id
    |false=> .bad)
   |_,_=> .bad)
  |_,_=> .bad
 |_,_=> .bad
def rJ (own:aB):J->J
 | .vec id=>(match ad.at own id with| .ints k l=> .d (.ints k l)| .rows aj l=> .d (.rows aj l)|_=> .any)
 |v=>v
def rq (f:Int->Int->Int):Int->List J->Option Int
 |a,[]=>some a
 |a, .d (.int _ b)::r=>rq f (f a b) r
 |_,_=>none
def rr (t:aO)(f:Nat):Bool:=
 match t with
 | .struct bM _=>Nat.blt f (bN bM)
 |_=>false
def j_ (tb:TypeId->bQ)(b:Builtin)(tys:List TypeId)(args:List J)(own:aB):bH:=
 match b,args with
 | .len,[x]=>
  match tys with
  |[]=> .bad
  |t::_=>
   match tf (tb t).ty x own with
   |some n=> .aR [] (.d (.int .i64 n)) own
   |none=> .bad
 | .append,[x,y]=>match h1 (tb (bT 0 tys 1)).ty,Nat.blt 0 (tb (bT 0 tys 0)).bytes,bN tys with|true,true,n=>(match Nat.beq n 2 with|true=>rb (tb (bT 0 tys 0)) x (rJ own y) (kJ own y)|false=> .bad)|_,_,_=> .bad
 | .max, .d (.int k a)::r=>
  match rq (fun x y=>if y>x then y else x) a r with
  |some m=> .aR [] (.d (.int k m)) own
  |none=> .bad
 | .min, .d (.int k a)::r=>
  match rq (fun x y=>if y<x then y else x) a r with
  |some m=> .aR [] (.d (.int k m)) own
  |none=> .bad
 | .clear,[x]=>(match tys with|[t]=>uO (tb t) x own|_=> .bad)
 |_,_=> .bad
def aO.XF:aO->Bool
 | .struct ..=>true
 | .arr ..=>true
 |_=>false
def u3 (t:aO):List (Nat×J)->Bool
 |[]=>true
 |(i,v)::r=>
  match t with
  | .struct bM cs=>(match Nat.blt i (bN bM),Nat.ble (Nat.add (eV t i) (kg t i).size) (bN cs),v.fits (kg t i)with|true,true,true=>u3 t r|_,_,_=>false)
  | .arr n e cs=>(match Nat.blt i n,Nat.ble (Nat.add (eV t i) e.size) (bN cs),v.fits e with|true,true,true=>u3 t r|_,_,_=>false)
  |_=>false
def n3 (k:IntKind):Nat->List (Nat×J)->Option (List Int):=fun n parts=>go 0 n parts
  where
 go:Nat->Nat->List (Nat×J)->Option (List Int)
 |_,0,[]=>some []
 |i,n+1,(j, .d (.int b3 x))::r=>
  match Nat.beq i j,iU k b3 with
  |true,true=>(match go (Nat.succ i) n r with|some l=>some (x::l)|none=>none)
  |_,_=>none
 |_,_,_=>none
def hB (own:aB)(aj:Nat)(cs:List b0):Nat->List (Nat×J)->Option (List (List R)):=fun n parts=>go 0 n parts
  where
 go:Nat->Nat->List (Nat×J)->Option (List (List R))
 |_,0,[]=>some []
 |i,n+1,(j, .rw m x)::r=>
  match Nat.beq i j,Nat.beq m aj with
  |true,true=>(match go (Nat.succ i) n r with|some l=>some (x::l)|none=>none)
  |_,_=>none
 |i,n+1,(j,v)::r=>
  match Nat.beq i j,Nat.beq (bN v.cellsOf) aj,dq J.gy v.cellsOf with
  |true,true,true=>(match go (Nat.succ i) n r with|some l=>some (lz own cs v::l)|none=>none)
  |_,_,_=>none
 |_,_,_=>none
def rB (b:Bool)(ob:ad)(own:aB):bH:=
 match b with
 |true=> .aR [] (.d ob.data) own
 |false=> .aR [] (.vec (bN own)) (dV own [(false,ob)])
def vi:J->Value
 | .d (.int k n)=> .int k n
 | .d (.bool b)=> .bool b
 | .bt=> .bool true
 | .bf=> .bool false
 |_=>undef
def tz:J->Value
 | .agg l=> .agg (lmap vi l).toArray
 |v=>vi v
def vu:J->Bool
 | .d (.int _ _)=>true
 | .d (.bool _)=>true
 | .bt=>true
 | .bf=>true
 |_=>false
def vS:J->Bool
 | .agg l=>dq vu l
 |v=>vu v
def ru (fn:Fn)(first cap:List J)(own:aB):bH:=
 match fn,cap with
 | .func f,[]=>
  (match first with
  |[]=> .aR [] (.fn f) own
  |l=>match dq vS l with|true=> .aR [] (.cls f l) own|false=> .bad)
 |_,_=> .bad
def rv (v:J)(args:List J)(tys:List TypeId):bH:=
 match v with
 | .fn f=> .call f args tys
 | .cls f l=> .call f (dV l args) tys
 |_=> .bad
def xc (t:aO)(own:aB):bH:=
 match t.jj with
 |true=>(match Nat.blt 0 t.size with|true=> .aR [] (.optr (bN own) 0 0) (dV own [(false, .rows t.size [lmap b0.ir t.cells])])|false=> .bad)
 |false=>(match t with| .no=> .bad|ty=> .aR [] (.ptr (bN own) 0) (dV own [(false, .cells ty.zero)]))
def xw (t:aO)(v:J)(own:aB):bH:=
 match t.jj with
 |true=>(match n6 own t v,Nat.blt 0 t.size with|some r,true=> .aR [] (.optr (bN own) 0 0) (dV own [(false, .rows t.size [r])])|_,_=> .bad)
 |false=>(match dq J.nm v.cellsOf with|true=> .aR [] (.ptr (bN own) 0) (dV own [(false, .cells v.cellsOf)])|false=> .bad)
def nu (own:aB)(t:aO)(v:J):Option (List R):=
 match t with
 | .bS s=>(match v.gy with|true=>some [J.hn own (s.norm own v)]|false=>none)
 |t=>
  (match v with
  | .rw n r=>(match Nat.beq n t.size with|true=>some r|false=>none)
  | .agg l=>(match Nat.beq (bN l) t.size,dq J.gy l with|true,true=>some (lz own t.cells (.agg l))|_,_=>none)
  |_=>none)
def p2 (own:aB)(cs:List b0)(parts:List (Nat×J)):Nat->List (Nat×Nat×aO)->Option (List R)
 |_,[]=>some []
 |k,f::r=>
  match(match eN k parts with|some v=>nu own f.2.2 v|none=>some (lmap b0.ir (kp (ko cs f.1) f.2.2.size))),p2 own cs parts (Nat.succ k) r with
  |some x,some y=>some (match r with|[]=>x|_=>x++y)
  |_,_=>none
def rC:List (Nat×Nat×aO)->Nat->Nat->Bool
 |[],o,n=>Nat.beq o n
 |f::r,o,n=>match Nat.beq f.1 o,f.2.2 with|true, .no=>false|true,t=>rC r (Nat.add o t.size) n|false,_=>false
def BO (n:Nat):List (Nat×J)->Bool
 |[]=>true
 |p::r=>match Nat.blt p.1 n,eN p.1 r with|true,none=>BO n r|_,_=>false
def oV (t:aO)(parts:List (Nat×J))(own:aB):bH:=
 match t.jj with
 |true=>
  (match t with
  | .struct bM cs=>
   (match rC bM 0 (bN cs),BO (bN bM) parts,p2 own cs parts 0 bM with
   |true,true,some r=> .aR [] (.rw (bN cs) r) own
   |_,_,_=> .bad)
  | .arr _ _ cs=>(match parts with|[]=> .aR [] (.rw (bN cs) (lmap b0.ir cs)) own|_=> .bad)
  |_=> .bad)
 |false=>(match u3 t parts,t.XF with|true,true=> .aR [] (.agg (uA parts (eV t) t.zero)) own|_,_=> .bad)
def oW (t:aO)(f:Nat)(v:J)(own:aB):bH:=
 match rr t f with
 |false=> .bad
 |true=>
  match v with
  | .agg l=>
   (match Nat.ble (Nat.add (eV t f) (kg t f).size) (bN l)with
   |true=> .aR [] (match kg t f with| .bS _=>bT .un l (eV t f)|t'=> .agg (kp (ko l (eV t f)) t'.size)) own
   |false=> .bad)
  | .rw n r=>
   (match Nat.ble (Nat.add (eV t f) (kg t f).size) n,Nat.beq n t.size with
   |true,true=>
    (match kg t f with
    | .bS s=> .aR [s.pa (r.getD (eV t f) .undef)] (s.take (r.getD (eV t f) .undef)) own
    |t'=>
     (match t'.jj with
     |true=> .aR [] (.rw t'.size (kM r (eV t f) t'.size n)) own
     |false=> .aR (mc t'.cells r (eV t f)).1 (.agg (mc t'.cells r (eV t f)).2) own))
   |_,_=> .bad)
  |_=> .bad
def pb (op:BinOp)(t:aO)(x y:J)(own:aB):bH:=
 match t with
 | .arr _ (.bS (.int k)) _=>
  (match n6 own t x,n6 own t y with
  |some a,some b=>
   (match op with
   | .eql=> .aR [∀x∈a,x.isInt k,∀x∈b,x.isInt k] (.d (.bool (decide (a.map R.toInt=b.map R.toInt)))) own
   | .neq=> .aR [∀x∈a,x.isInt k,∀x∈b,x.isInt k] (.d (.bool (!decide (a.map R.toInt=b.map R.toInt)))) own
   |_=> .bad)
  |_,_=> .bad)
 |_=> .bad
def xx (op:BinOp)(t:aO)(cY:Operand)(x y:J)(own:aB):bH:=match t.Gk with|true=>pb op t x y own|false=>n5 op t cY x y own
def iF (n:Nat)(r:List R):List Int:=(r.take n).map R.toInt
def l1 (n:Nat):List (List R)->List Int->Bool
 |[],_=>false
 |r::l,k=>if iF n r=k then true else l1 n l k
def cZ (n:Nat)(z:List R):List (List R)->List Int->List R
 |[],_=>z
 |r::l,k=>if iF n r=k then r.drop n else cZ n z l k
def lj (n:Nat)(key v:List R):List (List R)->List (List R)
 |[]=>[key++v]
 |r::l=>if iF n r=key.map R.toInt then(key++v)::l else r::lj n key v l
def jI (key:List R):Prop:=∀x∈key,x.isInt .i64/\-9223372036854775808<=x.toInt/\x.toInt<=9223372036854775807
def o0:aO->List R
 | .bS s=>[s.ir]
 |t=>lmap b0.ir t.cells
def Cv (t:aO)(r:List R):Option (List Prop×J):=
 match t with
 | .bS s=>some ([s.pa (r.getD 0 .undef)],s.take (r.getD 0 .undef))
 | .struct _ cs=>(match t.jj with|false=>some ((mc cs r 0).1, .agg (mc cs r 0).2)|true=>none)
 |_=>none
def wO (tb:TypeId->bQ)(t:bQ)(own:aB):bH:=
 match t.mp with
 |some (n,_,e)=> .aR [] (.mp (bN own)) (dV own [(false, .map n (Nat.add n (tb e).ty.size) [])])
 |none=> .bad
def nZ (tb:TypeId->bQ)(t:bQ)(m k:J)(c:Bool)(own:aB):bH:=
 match t.mp,m with
 |some (n,fb,e), .mp id=>
  (match ad.at own id,n6 own (tb fb).ty k with
  | .map n' aj l,some key=>
   (match Nat.beq n' n,Nat.beq aj (Nat.add n (tb e).ty.size),Nat.beq (tb fb).ty.size n,Cv (tb e).ty (cZ n (o0 (tb e).ty) l (key.map R.toInt))with
   |true,true,true,some v=> .aR (jI key::v.1) (match c with|true=> .tup [v.2, .d (.bool (l1 n l (key.map R.toInt)))]|false=>v.2) own
   |_,_,_,_=> .bad)
  |_,_=> .bad)
 |_,_=> .bad
def q7 (tb:TypeId->bQ)(t:bQ)(m k v:J)(own:aB):bH:=
 match t.mp,m with
 |some (n,fb,e), .mp id=>
  (match frozenAt own id,ad.at own id,n6 own (tb fb).ty k,nu own (tb e).ty v with
  |false, .map n' aj l,some key,some r=>
   (match Nat.beq n' n,Nat.beq aj (Nat.add n (tb e).ty.size),Nat.beq (tb fb).ty.size n with
   |true,true,true=> .aR [jI key] .un (cH own id (false, .map n aj (lj n key r l)))
   |_,_,_=> .bad)
  |_,_,_,_=> .bad)
 |_,_=> .bad
def aO.isAgg:aO->Bool
 | .bS _=>false
 |_=>true
def ei (tb:TypeId->bQ)(o:Oper)(tm:List J)(own:aB):bH:=
 match o.op with
 | .move x| .assign x=> .aR [] (aS tm x) own
 | .pick c a b=>u1 (aS tm c) (aS tm a) (aS tm b) own
 | .alloc t=>xc (tb t).ty own
 | .box t x=>xw (tb t).ty (aS tm x) own
 | .build t parts=>oV (tb t).ty (lmap (fun p=>(p.1,aS tm p.2)) parts.toList) own
 | .buildSlice t n parts=>
  match(tb t).ty with
  | .bS (.sints k)=>
   (match n3 k n (lmap (fun p=>(p.1,aS tm p.2)) parts.toList),Nat.ble n 65536 with
   |some l,true=>rB (tb t).lit (.ints k l) own
   |_,_=> .bad)
  | .bS (.srows aj)=>
   (match hB own aj (tb t).hC n (lmap (fun p=>(p.1,aS tm p.2)) parts.toList),Nat.ble (Nat.mul n aj) 65536 with
   |some l,true=>rB (tb t).lit (.rows aj l) own
   |_,_=> .bad)
  |_=> .bad
 | .load t p=>hR (tb t).ty (aS tm p) own
 | .store t p v=>oT (tb t).ty (aS tm p) (aS tm v) own
 | .nilCheck x=>
  match aS tm x with
  | .ptr i j=> .aR [] (.ptr i j) own
  | .optr i a b=> .aR [] (.optr i a b) own
  | .rptr a i b=> .aR [] (.rptr a i b) own
  |_=> .bad
 | .binOp op t x y _=>xx op (tb t).ty y (aS tm x) (aS tm y) own
 | .unOp op _ x=>vh op (aS tm x) own
 | .convert src dst x=>nt (tb src).ty (tb dst).ty (aS tm x) own
 | .extract x i=>
  match aS tm x with
  | .tup l=>match Nat.blt i (bN l)with|true=> .aR [] (bT .any l i) own|false=> .bad
  |_=> .bad
 | .fieldAddr s x f=>
  match rr (tb s).ty f with
  |false=> .bad
  |true=>
  match aS tm x with
  | .ptr id off=> .aR [] (.ptr id (Nat.add off (eV (tb s).ty f))) own
  | .optr id i j=> .aR [] (.optr id i (Nat.add j (eV (tb s).ty f))) own
  | .rptr a i j=> .aR [] (.rptr a i (Nat.add j (eV (tb s).ty f))) own
  |_=> .bad
 | .field s x f=>oW (tb s).ty f (aS tm x) own
 | .indexAddr t x i=>pS (tb t).ty (aS tm x) (aS tm i) own
 | .index t x i=>xb (tb t).ty (aS tm x) (aS tm i) own
 | .makeSlice t n c=>u2 (tb t) (aS tm n) (aS tm c) own
 | .slice t x lo hi cX=>sV (tb t) (aS tm x) (omap (aS tm) lo) (omap (aS tm) hi) (omap (aS tm) cX) own
 | .call c=>
  match c.callee with
  | .builtin b=>j_ tb b c.argTypes.toList (lmap (aS tm) c.args.toList) own
  | .value (.func f)=> .call f (lmap (aS tm) c.args.toList) c.argTypes.toList
  | .value (.tmp t)=>rv (bT .un tm t) (lmap (aS tm) c.args.toList) c.argTypes.toList
  |_=> .bad
 | .makeFunc fn first cap=>ru fn (lmap (aS tm) first.toList) (lmap (aS tm) cap.toList) own
 | .makeMap t none=>wO tb (tb t) own
 | .lookup t m k c=>nZ tb (tb t) (aS tm m) (aS tm k) c own
 | .mapUpdate t m k v=>q7 tb (tb t) (aS tm m) (aS tm k) (aS tm v) own
 | .panic _=> .aR [False] .any own
 |_=> .bad
abbrev e3:=List J->aB->(J->aB->Prop)->Prop
structure j7 where
 tm:List J
 own:aB
def la:List Oper->Nat->Option Tmp
 |[],_=>none
 |o::_,0=>o.dst
 |_::r,n+1=>la r n
def rK (i:bQ)(n:Nat)(ps:List (Nat×J))(own:aB):Option ad:=
 match i.ty with
 | .bS (.sints k)=>(match n3 k n ps,Nat.ble n 65536 with|some l,true=>some (.ints k l)|_,_=>none)
 | .bS (.srows aj)=>(match hB own aj i.hC n ps,Nat.ble (Nat.mul n aj) 65536 with|some l,true=>some (.rows aj l)|_,_=>none)
 |_=>none
def o6 (tb:TypeId->bQ)(o:Op):Bool:=
 match o with
 | .alloc _=>true
 | .buildSlice t _ _=> !(tb t).lit
 |_=>false
def ck (tb:TypeId->bQ)(ids:List (Tmp×Nat))(o:Oper)(tm:List J)(own:aB):bH:=
 match o.op,o.dst with
 | .alloc t,some d=>
  (match eN d ids with
  |some id=>(match(tb t).ty.jj,(tb t).ty,frozenAt own id with|false, .no,_=> .bad|false,_,true=> .bad|false,ty,false=> .aR [] (.ptr id 0) (cH own id (false, .cells ty.zero))|true,_,_=> .bad)
  |none=>ei tb o tm own)
 | .buildSlice t n parts,some d=>
  (match(tb t).lit,eN d ids with
  |false,some id=>(match rK (tb t) n (lmap (fun p=>(p.1,aS tm p.2)) parts.toList) own,frozenAt own id with|some ob,false=> .aR [] (.vec id) (cH own id (false,ob))|_,_=> .bad)
  |_,_=>ei tb o tm own)
 |_,_=>ei tb o tm own
def c6 (tb:TypeId->bQ)(bd:FuncId->e3)(ids:List (Tmp×Nat))(all:List Oper):List Oper->List J->aB->(List J->aB->Prop)->Prop
 |[],tm,own,K=>K tm own
 |o::rest,tm,own,K=>
  let run (tm:List J):Prop:=
   match ck tb ids o tm own with
   | .bad=>False
   | .aR safe v own'=>gk safe (c6 tb bd ids all rest (put tm o.dst v) own' K)
   | .grow safe v own' id=>gk safe (c6 tb bd ids all rest (put (lmap (da id) tm) o.dst v) (fN id own') K)
   | .e0 p=>∀b:Bool,p b->c6 tb bd ids all rest (put tm o.dst (.d (.bool b))) own K
   | .call f args _=>bd f args own fun v own'=>c6 tb bd ids all rest (put tm o.dst v) own' K
  let skip (tm:List J):Prop:=c6 tb bd ids all rest (put tm o.dst .un) own K
  match o.guard with
  |none=>run tm
  |some (j,want)=>
   match la all j with
   |none=>skip tm
   |some g=>
    match bT .un tm g with
    | .bt=>match want with|true=>run tm|false=>skip tm
    | .bf=>match want with|true=>skip tm|false=>run tm
    | .un=>skip tm
    | .d (.bool b)=>
     (b=true->match want with|true=>run (cH tm g .bt)|false=>skip (cH tm g .bt))/\
     (b=false->match want with|true=>skip (cH tm g .bf)|false=>run (cH tm g .bf))
    |_=>False
def eP (tb:TypeId->bQ)(o:Op):Nat:=
 match o with
 | .move _| .assign _| .pick ..| .binOp ..| .unOp ..| .extract ..| .fieldAddr ..| .field ..| .nilCheck _| .index ..| .build ..| .makeFunc ..=>0
 | .load ..| .indexAddr ..| .lookup ..=>1
 | .convert s _ _=>(match(tb s).ty with| .bS (.int _)=>0|_=>1)
 | .store ..| .makeSlice ..| .alloc _| .slice ..| .mapUpdate ..=>2
 | .box ..=>2
 | .buildSlice t _ _=>(match(tb t).lit with|true=>0|false=>2)
 | .call c=>
  (match c.callee with
  | .builtin .len=>1
  | .builtin .max=>1
  | .builtin .min=>1
  | .value (.func _)=>2
  |_=>3)
 |_=>3
def zX:Operand->Bool
 | .const (.slice ..)=>true
 |_=>false
def n7 (o:Op):Bool:=
 match o with
 | .binOp _ _ _ y _=>zX y
 |_=>false
def p7 (t:Tmp):List Operand->Bool
 |[]=>false
 | .tmp u::r=>match Nat.beq u t with|true=>true|false=>p7 t r
 |_::r=>p7 t r
def fl:Option Tmp->Option Tmp->Bool
 |some a,some b=>Nat.beq a b
 |_,_=>false
def lb (o:Oper):Option Tmp->Bool
 |some t=>p7 t o.op.operands.toList
 |none=>false
def pc (a b:Nat):Bool:=
 match Nat.ble a 1,Nat.ble b 1 with
 |true,true=>true
 |true,false=>Nat.beq a 0&&Nat.beq b 2
 |false,true=>Nat.beq a 2&&Nat.beq b 0
 |false,false=>false
def ik (all:List Oper)(o:Oper):Option Tmp:=
 match o.guard with
 |none=>none
 |some (j,_)=>la all j
def lX (all:List Oper)(a i:Oper):Bool:=
 match ik all a with
 |none=>true
 |some g=> !fl (some g) i.dst&&(!p7 g i.op.operands.toList||fl (ik all i) (some g))
def o7 (tb:TypeId->bQ)(a i:Oper):Bool:=
 pc (eP tb a.op) (eP tb i.op)&& !n7 a.op&& !n7 i.op&& !fl a.dst i.dst&& !lb i a.dst&& !lb a i.dst
def J.jc:J->List Nat
 | .vec i=>[i]
 | .ptr i _=>[i]
 | .optr i _ _=>[i]
 | .oat i _ _=>[i]
 | .mp i=>[i]
 | .tail i _=>[i]
 |_=>[]
def rV:List J->List Nat
 |[]=>[]
 |v::r=>dV v.jc (rV r)
def J.ids:J->List Nat
 | .agg l=>rV l
 |v=>v.jc
def fY:List J->List Nat
 |[]=>[]
 |v::r=>dV v.ids (fY r)
structure gl where
 ok:Bool
 call:Bool
 r:List Nat
 w:List Nat
 ext:Bool
 soft:Bool
 C5:Bool
def l5:gl:=⟨false,false,[],[],false,false,false⟩
def qc:J->Bool
 | .ptr _ _=>true
 |_=>false
def qd:J->Bool
 | .d (.int _ _)=>true
 |_=>false
def kl (tb:TypeId->bQ)(o:Op)(tm:List J):Bool:=
 match o with
 | .load _ p=>qc (aS tm p)
 | .fieldAddr _ x _=>qc (aS tm x)
 | .buildSlice t _ parts=>(match(tb t).lit with|true=>dq (fun p=>qd (aS tm p.2)) parts.toList|false=>false)
 |_=>false
def kh:List J->Bool
 |[.vec _, .d (.ints _ _)]=>true
 |[.vec _, .d (.rows _ _)]=>true
 |_=>false
def b8 (tb:TypeId->bQ)(data:FuncId->Nat)(ids:List (Tmp×Nat))(n:Nat)(o:Oper)(tm:List J):gl:=
 match o.op with
 | .load _ p=>⟨true,false,(aS tm p).ids,[],false,kl tb o.op tm,false⟩
 | .store _ p _=>⟨true,false,(aS tm p).ids,(aS tm p).ids,false,false,false⟩
 | .indexAddr _ x _=>⟨true,false,(aS tm x).ids,[],false,false,false⟩
 | .slice t x _ _ _=>(match(tb t).cut with|true=>l5|false=>⟨true,false,(aS tm x).ids,(aS tm x).ids,false,false,false⟩)
 | .lookup _ m _ _=>⟨true,false,(aS tm m).ids,[],false,false,false⟩
 | .mapUpdate _ m _ _=>⟨true,false,(aS tm m).ids,(aS tm m).ids,false,false,false⟩
 | .convert _ _ x=>⟨true,false,(aS tm x).ids,[],false,false,false⟩
 | .alloc _=>(match o.dst with|some d=>(match eN d ids with|some id=>⟨true,false,[id],[id],false,false,false⟩|none=>l5)|none=>l5)
 | .buildSlice t _ _=>(match(tb t).lit with|true=>⟨true,false,[],[],false,kl tb o.op tm,false⟩|false=>(match o.dst with|some d=>(match eN d ids with|some id=>⟨true,false,[id],[id],false,false,false⟩|none=>l5)|none=>l5))
 | .call c=>
  (match c.callee with
  | .builtin .len=>⟨true,false,fY (lmap (aS tm) c.args.toList),[],false,false,false⟩
  | .builtin .append=>⟨false,false,[],[],false,false,kh (lmap (aS tm) c.args.toList)⟩
  | .value (.func f)=>(match data f with|1=>⟨true,true,fY (lmap (aS tm) c.args.toList),fY (lmap (aS tm) c.args.toList),false,false,false⟩|2=>⟨true,true,fY (lmap (aS tm) c.args.toList),n::fY (lmap (aS tm) c.args.toList),true,false,false⟩|_=>l5)
  |_=>l5)
 |o=>⟨Nat.beq (eP tb o) 0&& !n7 o,false,[],[],false,kl tb o tm,false⟩
def pk (x:Nat):List Nat->Bool
 |[]=>false
 |y::r=>match Nat.beq x y with|true=>true|false=>pk x r
def tA:List Nat->List Nat->Bool
 |[],_=>true
 |x::r,l=>match pk x l with|true=>false|false=>tA r l
def rW (a i:gl):Bool:=a.ok&&i.ok&& !(a.call&&i.call)&&tA a.w i.w&&tA a.w i.r&&tA i.w a.r
def sW (a i:Oper):Bool:= !fl a.dst i.dst&& !lb i a.dst&& !lb a i.dst
def bare (o:Oper):Bool:=
 match o.guard with
 |none=>true
 |some _=>false
def rl (a:Oper)(dJ:gl)(i:Oper)(gn:gl):Bool:=dJ.C5&&gn.soft&&sW a i&&bare a&&bare i
def mN (tb:TypeId->bQ)(all:List Oper)(a:Oper)(dJ:gl)(i:Oper)(gn:gl):Bool:=lX all a i&&lX all i a&&sW a i&&(o7 tb a i||rW dJ gn)
def rD (tab:List Nat):List Edge->Nat
 |[]=>0
 |e::r=>match Region.binds .any e with|true=>Nat.lor (Nat.lor (Nat.pow 2 e.on) (bT 0 tab e.on)) (rD tab r)|false=>rD tab r
def sX:List Oper->List Nat->List Nat
 |[],acc=>acc
 |o::r,acc=>sX r (dV acc [rD acc o.after.toList])
def bit (tab:List Nat)(n m:Nat):Bool:=Nat.beq (Nat.land (Nat.shiftRight (bT 0 tab n) m) 1) 1
def rE (tb:TypeId->bQ)(all:List Oper)(tab:List Nat)(n:Nat)(o:Oper)(f:gl)(p:Nat×Oper×gl):Bool:=
 (match Nat.blt p.1 n with|true=>bit tab n p.1|false=>bit tab p.1 n)||mN tb all p.2.1 p.2.2 o f||(match Nat.blt p.1 n with|true=>rl p.2.1 p.2.2 o f|false=>rl o f p.2.1 p.2.2)
def kx (tb:TypeId->bQ)(all:List Oper)(tab:List Nat)(n:Nat)(o:Oper)(f:gl)(eb:List (Nat×Oper×gl)):Bool:=dq (rE tb all tab n o f) eb
def ft (tb:TypeId->bQ)(bd:FuncId->e3)(data:FuncId->Nat)(ids:List (Tmp×Nat))(all:List Oper)(tab:List Nat):List (Nat×Oper×gl)->List (Nat×Oper)->List J->aB->(List J->aB->Prop)->Prop
 |_,[],tm,own,K=>K tm own
 |eb,x::rest,tm,own,K=>
  match kx tb all tab x.1 x.2 (b8 tb data ids (bN own) x.2 tm) eb with
  |false=>False
  |true=>c6 tb bd ids all [x.2] tm own fun dL own'=>ft tb bd data ids all tab ((x.1,x.2,b8 tb data ids (bN own) x.2 tm)::eb) rest dL own' K
def n2 (tb:TypeId->bQ):List Oper->List Tmp
 |[]=>[]
 |o::r=>match o6 tb o.op,o.guard,o.dst with|true,none,some d=>d::n2 tb r|_,_,_=>n2 tb r
def sP:List Tmp->Nat->List (Tmp×Nat)
 |[],_=>[]
 |d::r,n=>(d,n)::sP r (Nat.succ n)
def nr (d:Tmp):List Oper->Nat
 |[]=>0
 |o::r=>match fl (some d) o.dst with|true=>Nat.succ (nr d r)|false=>nr d r
def indexed:List Oper->Nat->List (Nat×Oper)
 |[],_=>[]
 |o::r,n=>(n,o)::indexed r (Nat.succ n)
def xl (tb:TypeId->bQ)(ops:List Oper):Bool:=dq (fun x=>x.2.after.toList.all fun e=> !Region.binds .any e||Nat.blt e.on x.1) (indexed ops 0)&&dq (fun d=>Nat.beq (nr d ops) 1) (n2 tb ops)
inductive mK where
 |normal
 |exit (id:Nat)
 |goto (l:Nat)
 |ret
inductive ui:Type where
 |bS (s:b0)
 |agg (cs:List b0)
 |e1
inductive sd:Type where
 |e1
 |ints (k:IntKind)
 |rows (aj:Nat)
 |map (sx aj:Nat)
 |cells (cs:List b0)
structure Head where
 conv:List (Tmp×b0):=[]
 od:List (Tmp×ui):=[]
 own:List sd:=[]
def b0.T:b0->Type
 | .int _=>Int
 | .bool=>Bool
 | .str=>List Int
 | .sints _=>List Int
 | .srows _=>List (List R)
 | .other=>R
def b0.mk:(s:b0)->s.T->J
 | .int k,x=> .d (.int k x)
 | .bool,x=> .d (.bool x)
 | .str,x=> .d (.str x)
 | .sints k,x=> .d (.ints k x)
 | .srows aj,x=> .d (.rows aj x)
 | .other,x=> .d x
def c_:List b0->Type
 |[]=>Unit
 |s::cB=>s.T×c_ cB
def kZ:List b0->Type->Type
 |[],α=>α
 |s::cB,α=>s.T->kZ cB α
def kZ.app {α:Type}:(cB:List b0)->kZ cB α->c_ cB->α
 |[],f,_=>f
 |_::cB,f,(x,r)=>kZ.app cB (f x) r
def C6:(cB:List b0)->(c_ cB->Prop)->Prop
 |[],f=>f ()
 |s::cB,f=>∀x:s.T,C6 cB fun r=>f (x,r)
def c_.append:(a b:List b0)->c_ a->c_ b->c_ (dV a b)
 |[],_,_,y=>y
 |_::cB,b,(x,r),y=>(x,c_.append cB b r y)
def c_.left:(a b:List b0)->c_ (dV a b)->c_ a
 |[],_,_=>()
 |_::cB,b,(x,r)=>(x,c_.left cB b r)
def c_.right:(a b:List b0)->c_ (dV a b)->c_ b
 |[],_,r=>r
 |_::cB,b,(_,r)=>c_.right cB b r
def ui.ps:ui->List b0
 | .bS s=>[s]
 | .agg cs=>cs
 | .e1=>[]
def sd.ps:sd->List b0
 | .e1=>[]
 | .ints k=>[.sints k]
 | .rows aj=>[.srows aj]
 | .map _ aj=>[.srows aj]
 | .cells cs=>cs
def kN:List (Tmp×ui)->List b0
 |[]=>[]
 |(_,s)::r=>dV s.ps (kN r)
def jJ:List sd->List b0
 |[]=>[]
 |s::r=>dV s.ps (jJ r)
def Head.ps (h:Head):List b0:=dV (kN h.od) (jJ h.own)
def ry:(cs:List b0)->c_ cs->List J
 |[],_=>[]
 |s::cB,(x,r)=>s.mk x::ry cB r
def b0.qn (own:aB):(s:b0)->J->(List Prop×s.T)
 | .int k, .d (.int b3 n)=>(match iU k b3 with|true=>[]|false=>[False],n)
 | .int _,_=>([False],(0:Int))
 | .bool, .d (.bool b)=>([],b)
 | .bool, .bt=>([],true)
 | .bool, .bf=>([],false)
 | .bool,_=>([False],false)
 | .str, .d (.str l)=>([],l)
 | .str,_=>([False],([]:List Int))
 | .sints k, .d (.ints b3 l)=>(match iU k b3 with|true=>[]|false=>[False],l)
 | .sints _, .emp=>([],([]:List Int))
 | .sints k, .vec id=>
  match ad.at own id with
  | .ints b3 l=>(match iU k b3,frozenAt own id with|true,true=>[]|_,_=>[False],l)
  |_=>([False],([]:List Int))
 | .sints _,_=>([False],([]:List Int))
 | .srows aj, .d (.rows hK l)=>(match Nat.beq aj hK with|true=>[]|false=>[False],l)
 | .srows _, .emp=>([],([]:List (List R)))
 | .srows aj, .vec id=>
  match ad.at own id with
  | .rows hK l=>(match Nat.beq aj hK,frozenAt own id with|true,true=>[]|_,_=>[False],l)
  |_=>([False],([]:List (List R)))
 | .srows _,_=>([False],([]:List (List R)))
 | .other, .d x=>([],x)
 | .other,_=>([False],R.undef)
def w0 (own:aB):(cs:List b0)->List J->(c_ cs->Prop)->Prop
 |[],[],k=>k ()
 |s::cB,v::aG,k=>gk (s.qn own v).1 (w0 own cB aG fun h=>k ((s.qn own v).2,h))
 |_,_,_=>False
def J.s6:J->J->Bool
 | .vec a, .vec b=>Nat.beq a b
 | .ptr a x, .ptr b y=>Nat.beq a b&&Nat.beq x y
 | .optr a (.ofNat 0) x, .optr b (.ofNat 0) y=>Nat.beq a b&&Nat.beq x y
 | .mp a, .mp b=>Nat.beq a b
 | .emp, .emp=>true
 | .vt, .vt=>true
 | .bt, .bt=>true
 | .bf, .bf=>true
 | .fn f, .fn g=>Nat.beq f g
 |_,_=>false
def Code.gv:Code->Tmp->Bool
 | .region _ ops _,t=>ops.toList.any fun o=>match o.dst with|some d=>Nat.beq d t|none=>false
 | .seq a b,t=>Code.gv a t||Code.gv b t
 | .cond _ a b,t=>Code.gv a t||Code.gv b t
 | .block _ c,t=>Code.gv c t
 | .loop c,t=>Code.gv c t
 | .scope c,t=>Code.gv c t
 | .rangeFunc ..,_=>true
 |_,_=>false
def J.qe:J->Bool
 | .d _=>true
 | .bt=>true
 | .bf=>true
 | .emp=>true
 | .vt=>true
 | .fn _=>true
 | .rptr ..=>true
 | .cls ..=>true
 | .un=>true
 | .any=>true
 |_=>false
def J.plain:J->Bool
 | .agg l=>dq J.qe l
 | .rw _ _=>true
 |v=>v.qe
def J.nw (n:Nat):J->Bool
 | .vec i=>Nat.blt i n
 | .ptr i _=>Nat.blt i n
 | .optr i _ _=>Nat.blt i n
 | .oat i _ _=>Nat.blt i n
 | .mp i=>Nat.blt i n
 | .tail i _=>Nat.blt i n
 | .agg _=>false
 | .tup _=>false
 |_=>true
def J.under (n:Nat):J->Bool
 | .agg l=>dq (J.nw n) l
 |v=>v.nw n
def ad.under (n:Nat):ad->Bool
 | .cells l=>dq (J.nw n) l
 |_=>true
def Qj (n:Nat)(w:Bool)(v0 v:J):Bool:=
 match v0.under n with
 |false=>false
 |true=>
  match w,v0.plain with
  |false,true=>true
  |_,_=>v.s6 v0
def re (n:Nat)(w:Tmp->Bool)(own:aB)(c8:List J):(cB:List (Tmp×ui))->List J->(c_ (kN cB)->Prop)->Prop
 |[],_,k=>k ()
 |(t, .bS s)::r,tm,k=>gk (s.qn own (bT .un tm t)).1 (re n w own c8 r tm fun h=>k ((s.qn own (bT .un tm t)).2,h))
 |(t, .agg cs)::r,tm,k=>
  match bT .un tm t with
  | .agg aG=>w0 own cs aG fun a=>re n w own c8 r tm fun h=>k (c_.append cs (kN r) a h)
  |_=>False
 |(t, .e1)::r,tm,k=>match Qj n (w t) (bT .un c8 t) (bT .un tm t)with|true=>re n w own c8 r tm k|false=>False
def nv (n:Nat)(et:aB):(os:List sd)->Nat->aB->(c_ (jJ os)->Prop)->Prop
 |[],_,_,k=>k ()
 | .e1::r,i,own,k=>match(bT (true, .gone) et i).2.under n with|true=>bT (true, .gone) own i=bT (true, .gone) et i/\nv n et r (Nat.succ i) own k|false=>False
 | .ints k7::r,i,own,k=>
  match bT (true, .gone) own i with
  |(false, .ints aU l)=>match iU k7 aU with|true=>nv n et r (Nat.succ i) own fun h=>k (l,h)|false=>False
  |_=>False
 | .rows oJ::r,i,own,k=>
  match bT (true, .gone) own i with
  |(false, .rows s1 l)=>match Nat.beq oJ s1 with|true=>nv n et r (Nat.succ i) own fun h=>k (l,h)|false=>False
  |_=>False
 | .map su oJ::r,i,own,k=>
  match bT (true, .gone) own i with
  |(false, .map ec s1 l)=>match Nat.beq su ec,Nat.beq oJ s1 with|true,true=>nv n et r (Nat.succ i) own fun h=>k (l,h)|_,_=>False
  |_=>False
 | .cells cs::r,i,own,k=>
  match bT (true, .gone) own i with
  |(false, .cells aG)=>w0 own cs aG fun a=>nv n et r (Nat.succ i) own fun h=>k (c_.append cs (jJ r) a h)
  |_=>False
def xd (w:Tmp->Bool)(h:Head)(wo S:j7)(k:c_ h.ps->Prop):Prop:=
 re (bN h.own) w S.own wo.tm h.od S.tm fun a=>nv (bN h.own) wo.own h.own 0 S.own fun b=>k (c_.append (kN h.od) (jJ h.own) a b)
def sY (c8:List J):(cB:List (Tmp×ui))->c_ (kN cB)->List J->List J
 |[],_,tm=>tm
 |(t, .bS s)::r,(x,h),tm=>cH (sY c8 r h tm) t (s.mk x)
 |(t, .agg cs)::r,h,tm=>cH (sY c8 r (c_.right cs (kN r) h) tm) t (.agg (ry cs (c_.left cs (kN r) h)))
 |(t, .e1)::r,h,tm=>cH (sY c8 r h tm) t (bT .un c8 t)
def lB (et:aB):(os:List sd)->Nat->c_ (jJ os)->aB
 |[],_,_=>[]
 | .e1::r,i,h=>bT (true, .gone) et i::lB et r (Nat.succ i) h
 | .ints k::r,i,(x,h)=>(false, .ints k x)::lB et r (Nat.succ i) h
 | .rows aj::r,i,(x,h)=>(false, .rows aj x)::lB et r (Nat.succ i) h
 | .map n aj::r,i,(x,h)=>(false, .map n aj x)::lB et r (Nat.succ i) h
 | .cells cs::r,i,h=>(false, .cells (ry cs (c_.left cs (jJ r) h)))::lB et r (Nat.succ i) (c_.right cs (jJ r) h)
def qf (h:Head)(wo:j7)(x:c_ h.ps):j7:=
 ⟨sY wo.tm h.od (c_.left (kN h.od) (jJ h.own) x) (tx .any (bN wo.tm)),lB wo.own h.own 0 (c_.right (kN h.od) (jJ h.own) x)⟩
def sZ:b0->ad
 | .sints k=> .ints k []
 | .srows aj=> .rows aj []
 |_=> .gone
def lY:List (Tmp×b0)->j7->j7
 |[],S=>S
 |(t,s)::r,S=>
  match bT .un S.tm t,s with
  | .vec id, .other=>lY r ⟨S.tm,en S.own id⟩
  |_, .other=>lY r S
  | .emp,s=>lY r ⟨cH S.tm t (.vec (bN S.own)),dV S.own [(false,sZ s)]⟩
  |_,_=>lY r S
def o1:List (Tmp×b0)->j7->j7
 |[],S=>S
 |(t,s)::r,S=>
  match bT .un S.tm t,s with
  | .vec id, .other=>o1 r ⟨S.tm,en S.own id⟩
  |_,_=>o1 r S
def n8:TypeDesc->Bool
 | .struct _=>true
 | .array _ _=>true
 |_=>false
def xy:b0->Value->Bool
 | .int k, .int b3 n=>iU k b3&&(match n with| .ofNat 0=>true|_=>false)
 | .bool, .bool false=>true
 | .str, .string s=>Nat.beq s.data.size 0
 | .sints _, .slice none 0 0=>true
 | .srows _, .slice none 0 0=>true
 | .other,v=>v.oneCell'
 |_,_=>false
def lZ:List b0->List Value->Bool
 |[],[]=>true
 |s::cB,v::aG=>xy s v&&lZ cB aG
 |_,_=>false
def m2 (z:Option Value)(cs:List b0):Bool:=match z with|some v=>lZ cs v.cells.toList|none=>false
def HB (k:IntKind):Option Value->Bool
 |some (.int b3 (.ofNat 0))=>iU k b3
 |_=>false
def Cw (P:Program)(t:TypeId):Bool:=match P.underlying t with|some d=>n8 d|none=>true
def oX (P:Program):List (Nat×Nat×aO)->List Field->Bool
 |[],[]=>true
 |(o,n,t)::r,f::bM=>Nat.beq o f.offset&&Nat.beq n (P.cellsOf f.type)&&Nat.beq t.size n&&Nat.blt 0 n&&(P.info? f.type).isSome&&(P.underlying f.type).isSome&&(Cw P f.type==t.isAgg)&&oX P r bM
 |_,_=>false
def cE (P:Program)(t:TypeId)(i:bQ):Bool:=
 match i.ty,P.info? t,P.underlying t with
 | .no,_,_=>true
 | .bS (.int k),some f,some (.int b3)=>iU k b3&&Nat.beq f.size 1&&m2 f.zero [.int k]
 | .bS .bool,some f,some .bool=>Nat.beq f.size 1&&m2 f.zero [.bool]
 | .bS .str,some f,some .string=>Nat.beq f.size 1&&m2 f.zero [.str]
 | .bS (.sints k),some f,some (.slice e)=>Nat.beq f.size 1&&m2 f.zero [.sints k]&&Nat.beq e i.elem&&
  (match P.info? e,P.underlying e with
  |some g,some (.int b3)=>iU k b3&&Nat.beq g.size 1&&Nat.beq g.bytes i.bytes&&HB k g.zero
  |_,_=>false)
 | .bS (.srows aj),some f,some (.slice e)=>Nat.beq f.size 1&&m2 f.zero [.srows aj]&&Nat.beq e i.elem&&Nat.blt 0 aj&&Nat.beq (bN i.hC) aj&&
  (match P.info? e,P.underlying e with
  |some g,some d=>Nat.beq g.size aj&&Nat.beq g.bytes i.bytes&&m2 g.zero i.hC&&(match d with| .int _=>false|_=>true)
  |_,_=>false)
 | .bS .other,some f,some d=> !n8 d&&Nat.beq f.size 1&&m2 f.zero [.other]
 | .struct bM cs,some f,some (.struct a)=>Nat.beq f.size (bN cs)&&m2 f.zero cs&&oX P bM a.toList
 | .arr n e cs,some f,some (.array m el)=>Nat.beq n m&&Nat.beq f.size (bN cs)&&m2 f.zero cs&&Nat.beq (P.cellsOf el) e.size&&Nat.blt 0 e.size&&(P.info? el).isSome&&(P.underlying el).isSome&&(Cw P el==e.isAgg)
 |_,_,_=>false
def tg:aO->Bool
 | .bS _=>true
 | .struct _ cs=>(match Nat.blt 8 (bN cs),Nat.beq (bN cs) 1 with|false,false=>true|_,_=>false)
 |_=>false
def HC:aO->Option Value->Bool
 | .bS s,some v=>xy s v
 | .struct _ cs,some (.agg aG)=>lZ cs aG.toList
 |_,_=>false
def rF (P:Program)(tb:TypeId->bQ)(t:TypeId):Bool:=
 match(tb t).mp with
 |none=>true
 |some (n,fb,e)=>
  match P.underlying t,P.underlying fb with
  |some (.map k v),some (.array m q)=>Nat.beq k fb&&Nat.beq v e&&Nat.beq m n&&Nat.beq (P.cellsOf q) 1&&Nat.beq (P.cellsOf fb) n&&(match P.underlying q with|some (.int .i64)=>true|_=>false)&&Nat.blt 0 P.types.size&&Nat.blt 0 (tb e).ty.size&&tg (tb e).ty&&(match P.info? e with|some g=>HC (tb e).ty g.zero|none=>false)
  |_,_=>false
def xz (P:Program)(i:bQ)(t:TypeId):Bool:=
 match i.ty with
 | .arr n (.bS (.int k)) cs=>
  (match P.underlying t,Nat.beq (bN cs) n with
  |some (.array _ q),true=>(match P.underlying q with|some (.int b3)=>iU k b3|_=>false)
  |_,_=>false)
 |_=>true
def o2 (P:Program)(tb:TypeId->bQ)(t:TypeId):Bool:=match rF P tb t with|true=>xz P (tb t) t|false=>false
structure Env where
 tys:List (Nat×bQ)
 cons:List (Nat×e3)
 th:List (Nat×Head)
 meets:List (Nat×Head)
 data:List Nat:=[]
 fresh:List Nat:=[]
def Env.kind (E:Env)(f:FuncId):Nat:=match pk f E.data with|true=>1|false=>(match pk f E.fresh with|true=>2|false=>0)
def Env.tb (E:Env)(t:TypeId):bQ:=match eN t E.tys with|some i=>i|none=>{ty:= .no}
def QH:e3:=fun _ _ _=>False
def Env.bd (E:Env)(f:FuncId):e3:=match eN f E.cons with|some c=>c|none=>QH
def Env.loops (E:Env)(b:Nat):Head:=match eN b E.th with|some h=>h|none=>{}
def Env.YL (E:Env)(t:Tmp):Option Head:=eN t E.meets
def PF:Code->Option Tmp
 | .cond (.tmp t) _ _=>some t
 | .seq _ b=>PF b
 | .block id _=>some (Nat.add 100000 id)
 |_=>none
def Yk (j:Tmp->Option Head):Option Tmp->Option Head
 |none=>none
 |some t=>j t
def ht (E:Env):Code->Nat->j7->(mK->j7->Prop)->Prop
 | .skip,_,S,K=>K .normal S
 | .label _,_,S,K=>K .normal S
 | .region _ ops draw,_,S,K=>
  match draw with
  |false=>c6 E.tb E.bd [] ops.toList ops.toList S.tm S.own fun tm own=>K .normal ⟨tm,own⟩
  |true=>
   (match xl E.tb ops.toList with
   |true=>ft E.tb E.bd E.kind (sP (n2 E.tb ops.toList) (bN S.own)) ops.toList (sX ops.toList []) [] (indexed ops.toList 0) S.tm (dV S.own (tx (false, .gone) (bN (n2 E.tb ops.toList)))) fun tm own=>K .normal ⟨tm,own⟩
   |false=>False)
 | .seq a b,bO,S,K=>
  match Yk E.YL (PF a)with
  |none=>ht E a bO S fun e c0=>match e with| .normal=>ht E b bO c0 K|e=>K e c0
  |some h=>
   let fI:=lY h.conv S
   ∃a8:kZ h.ps Prop,
    ht E a bO fI (fun e c0=>match e with| .normal=>xd (Code.gv a) h fI (o1 h.conv c0) (kZ.app h.ps a8)|e=>K e c0)/\
    C6 h.ps fun x=>kZ.app h.ps a8 x->ht E b bO (qf h fI x) K
 | .cond c a b,bO,S,K=>
  match aS S.tm c with
  | .bt=>ht E a bO S K
  | .bf=>ht E b bO S K
  | .d (.bool x)=>
   (match c with
   | .tmp t=>(x=true->ht E a bO ⟨cH S.tm t .bt,S.own⟩ K)/\(x=false->ht E b bO ⟨cH S.tm t .bf,S.own⟩ K)
   |_=>False)
  |_=>False
 | .block id c,_,S,K=>ht E c id S fun e c0=>match e with| .exit i=>(match Nat.beq i id with|true=>K .normal c0|false=>K (.exit i) c0)|e=>K e c0
 | .loop c,bO,S,K=>
  let h:=E.loops bO
  let fI:=lY h.conv S
  ∃aD:kZ h.ps Prop,∃m:kZ h.ps Nat,xd (fun _=>false) h fI fI (kZ.app h.ps aD)/\
   C6 h.ps fun x=>kZ.app h.ps aD x->ht E c bO (qf h fI x) fun e c0=>
    match e with
    | .normal=>xd (Code.gv c) h fI (o1 h.conv c0) fun y=>kZ.app h.ps aD y/\kZ.app h.ps m y<kZ.app h.ps m x
    |e=>K e c0
 | .exit id,_,S,K=>K (.exit id) S
 | .goto l,_,S,K=>K (.goto l) S
 | .ret,_,S,K=>K .ret S
 | .scope c,bO,S,K=>ht E c bO S fun e c0=>match e with| .goto _=>False|e=>K e c0
 | .refuse _,_,_,_=>False
 | .rangeFunc ..,_,_,_=>False
def gz (tb:TypeId->bQ)(tm:List J)(own:aB):List ResultVar->List J
 |[]=>[]
 | .tmp t::r=>bT .un tm t::gz tb tm own r
 | .cell a t::r=>(match hR (tb t).ty (bT .un tm a) own with| .aR _ v _=>v|_=> .any)::gz tb tm own r
def jG (tb:TypeId->bQ)(tm:List J)(own:aB):List ResultVar->List Prop
 |[]=>[]
 | .tmp _::r=>jG tb tm own r
 | .cell a t::r=>(match hR (tb t).ty (bT .un tm a) own with| .aR s _ _=>dV s (jG tb tm own r)|_=>jG tb tm own r)
def p8 (tb:TypeId->bQ)(tm:List J)(own:aB):List ResultVar->Bool
 |[]=>true
 | .tmp _::r=>p8 tb tm own r
 | .cell a t::r=>match bT .un tm a,hR (tb t).ty (bT .un tm a) own with| .ptr _ _, .aR [] _ _=>p8 tb tm own r|_,_=>false
def ld (tb:TypeId->bQ)(tm:List J)(own:aB):List ResultVar->Bool
 |[]=>true
 | .tmp _::r=>ld tb tm own r
 | .cell a t::r=>match bT .un tm a,hR (tb t).ty (bT .un tm a) own with| .ptr _ _, .aR _ _ _=>ld tb tm own r| .optr _ _ _, .aR _ _ _=>ld tb tm own r|_,_=>false
def one:List J->J
 |[x]=>x
 |l=> .tup l
def l0 (E:Env)(ntmps:Nat)(results:List ResultVar)(c:Code)(args:List J)(own:aB)(K:J->aB->Prop):Prop:=
 ht E c 1000000 ⟨pad ntmps args,own⟩ fun e S=>
  match e with
  | .normal| .ret=>(match ld E.tb S.tm S.own results with|true=>gk (jG E.tb S.tm S.own results) (K (one (gz E.tb S.tm S.own results)) S.own)|false=>False)
  |_=>False
def aO.dF (own:aB):List aO->List J->List J
 |t::ts,v::aG=>t.norm own v::aO.dF own ts aG
 |_,_=>[]
def ln (own:aB)(ts:List aO)(v:J):J:=
 match ts,v with
 |[t],v=>t.norm own v
 |ts, .tup aG=> .tup (aO.dF own ts aG)
 |_,v=>v
end Go.bG
end
section
namespace Go.bG
theorem cf {α:Type}(l:List α):bN l=l.length:=by induction l<;>simp_all [bN]
theorem dp {α:Type}(d:α):∀(l:List α) (i:Nat),bT d l i=l.getD i d
 |[],i=>by simp[bT]
 |x::r,0=>by simp[bT]
 |x::r,n+1=>by simp[bT,dp d r n]
theorem ep {α:Type}:∀(l:List α) (i:Nat) (v:α),cH l i v=l.set i v
 |[],i,v=>by simp[cH]
 |x::r,0,v=>by simp[cH]
 |x::r,n+1,v=>by simp[cH,ep r n v]
theorem c5 {α β:Type}(f:α->β)(l:List α):lmap f l=l.map f:=by induction l<;>simp_all [lmap]
theorem fu {α:Type}(a b:List α):dV a b=a++b:=by induction a<;>simp_all [dV]
theorem kH {α:Type}:∀(l:List α) (n:Nat),ko l n=l.drop n
 |l,0=>by simp[ko]
 |[],n+1=>by simp[ko]
 |x::r,n+1=>by simp[ko,kH r n]
theorem kI {α:Type}:∀(l:List α) (n:Nat),kp l n=l.take n
 |l,0=>by simp[kp]
 |[],n+1=>by simp[kp]
 |x::r,n+1=>by simp[kp,kI r n]
theorem Gl {α:Type}(v:α)(n:Nat):tx v n=List.replicate n v:=by induction n<;>simp_all [tx,List.replicate]
theorem rG:∀(n:Nat) (l:List J),pad n l=l++List.replicate (n-l.length) .un
 |0,l=>by simp[pad]
 |n+1,[]=>by simp[pad,rG n [],List.replicate]
 |n+1,v::r=>by simp[pad,rG n r,Nat.add_sub_add_right]
theorem ef {α:Type}(l:List α)(i j:Nat)(v d:α):(l.set i v).getD j d=if i=j/\i<l.length then v else l.getD j d:=by
 simp only[ass,ata]
 by_cases h:i=j
 ·subst h
  by_cases aq:i<l.length<;>simp[aq]
 ·simp[h]
theorem eW {α:Type}(f:α->Bool)(l:List α):dq f l=l.all f:=by
 induction l with
 |nil=>rfl
 |cons x r bA=>simp only[dq,at2];cases f x<;>simp[bA]
theorem gr (ps:List Prop)(q:Prop):gk ps q↔(∀p∈ps,p)/\q:=by
 induction ps with
 |nil=>simp[gk]
 |cons p r bA=>rw[gk,bA,List.forall_mem_cons,and_assoc]
theorem uI {ps:List Prop}{q iC:Prop}(h:q->iC):gk ps q->gk ps iC:=by
 rw[gr,gr];exact fun⟨a,b⟩=>⟨a,h b⟩
structure Loc where
 a:Option Addr
 cap:Nat
 bO:Option Nat
inductive Reads (Z:Nat->Prop) (w:World):R->Value->Prop
 |int (k:IntKind) (n:Int):Reads Z w (.int k n) (.int k n)
 |bool (b:Bool):Reads Z w (.bool b) (.bool b)
 |str (s:ByteArray) (l:List Int) (h:l=s.data.toList.map fun b=>(b.toNat:Int)):Reads Z w (.str l) (.string s)
 |h4 (a:Option Addr) (cap:Nat) (k:IntKind):Reads Z w (.ints k []) (.slice a 0 cap)
 |ints (k:IntKind) (l:List Int) (n b off cap:Nat) (ar:l.length=n) (bc:¬Z b) (ay:n<=cap)
  (h:∀i,i<n->w.cell? ⟨b,off+i,none⟩=some (.int k (l.getD i 0))):
  Reads Z w (.ints k l) (.slice (some ⟨b,off,none⟩) n cap)
 |jK (a:Option Addr) (cap:Nat) (aj:Nat):Reads Z w (.rows aj []) (.slice a 0 cap)
 |rows (aj:Nat) (l:List (List R)) (n b off cap:Nat) (u:Nat->Nat->Value) (ar:l.length=n) (ca:0<aj) (bc:¬Z b) (ay:n<=cap)
  (h:∀i j,i<n->j<aj->w.cell? ⟨b,off+i*aj+j,none⟩=some (u i j))
  (ak:∀i j,i<n->j<aj->Reads Z w ((l.getD i []).getD j .undef) (u i j)):
  Reads Z w (.rows aj l) (.slice (some ⟨b,off,none⟩) n cap)
 |undef (v:Value) (h:v.oneCell'=true):Reads Z w .undef v
theorem Reads.one {Z:Nat->Prop}{w:World}{x:R}{v:Value}(h:Reads Z w x v):v.oneCell'=true:=by
 cases h<;>first|rfl|assumption
theorem OF {w:World}{b o:Nat}{v:Value}(h:w.cell? ⟨b,o,none⟩=some v):b<w.heap.size:=World.block_lt_of_cell? w _ h
theorem Reads.mono {Z Z':Nat->Prop}{w w':World}{x:R}{v:Value}(h:Reads Z w x v)
 (key:∀b,b<w.heap.size->¬Z b->w'.heap[b]? =w.heap[b]? /\¬Z' b):Reads Z' w' x v:=by
 induction h with
 |int k n=>exact .int k n
 |bool b=>exact .bool b
 |str s l h=>exact .str s l h
 |h4 a cap k=>exact .h4 a cap k
 |ints k l n b off cap ar bc ay gA=>
  cases l with
  |nil=>subst ar;exact .h4 _ _ _
  |cons y r=>
   have bB:b<w.heap.size:=OF (gA 0 (by rw[<-ar];simp))
   refine .ints k _ n b off cap ar (key b bB bc).2 ay fun i hi=> ?_
   rw[World.cell?_of_block (w:=w) (w':=w') (a:=⟨b,off+i,none⟩) (key b bB bc).1]
   exact gA i hi
 |jK a cap aj=>exact .jK a cap aj
 |rows aj l n b off cap u ar ca bc ay gA ak bA=>
  cases l with
  |nil=>subst ar;exact .jK _ _ _
  |cons y r=>
   have bB:b<w.heap.size:=OF (gA 0 0 (by rw[<-ar];simp) ca)
   refine .rows _ _ n b off cap u ar ca (key b bB bc).2 ay (fun i j hi aK=> ?_) bA
   rw[World.cell?_of_block (w:=w) (w':=w') (a:=⟨b,off+i*aj+j,none⟩) (key b bB bc).1]
   exact gA i j hi aK
 |undef v h=>exact .undef v h
def fU (ρ:List Loc)(own:aB)(b:Nat):Prop:=∃i loc,ρ[i]? =some loc/\loc.bO=some b/\frozenAt own i=false
def aI (N:Nat->Prop)(ρ:List Loc)(own:aB)(b:Nat):Prop:=N b\/fU ρ own b
def dE (Z:Nat->Prop)(w:World)(ρ:List Loc)(own:aB):J->Value->Prop
 | .d x,v=>Reads Z w x v
 | .bt,v=>v= .bool true
 | .bf,v=>v= .bool false
 | .emp,v=>∃a,v= .slice a 0 0
 | .vec id,v=>∃loc,ρ[id]? =some loc/\v= .slice loc.a (ad.at own id).len loc.cap/\(loc.a=none->loc.cap=0)
 | .ptr id off,v=>∃loc b,ρ[id]? =some loc/\loc.a=some ⟨b,0,none⟩/\loc.bO=some b/\v= .pointer (some ⟨b,off,none⟩)
 | .optr id i j,v=>∃loc b,ρ[id]? =some loc/\loc.a=some ⟨b,0,none⟩/\loc.bO=some b/\
  v= .pointer (some ⟨b,i.toNat*(ad.at own id).ch+j,none⟩)/\0<=i/\i<((ad.at own id).len:Int)
 | .rptr x i j,v=>∃b off cap,Reads Z w x (.slice (some ⟨b,off,none⟩) x.len cap)/\0<=i/\i<(x.len:Int)/\
  v= .pointer (some ⟨b,off+i.toNat*x.ch+j,none⟩)
 | .oat id i j,v=>∃loc b,ρ[id]? =some loc/\loc.a=some ⟨b,0,none⟩/\loc.bO=some b/\
  v= .pointer (some ⟨b,i.toNat*(ad.at own id).ch+j,none⟩)/\0<=i/\i<((ad.at own id).len:Int)/\j<(ad.at own id).ch
 | .rat x i j,v=>∃b off cap,Reads Z w x (.slice (some ⟨b,off,none⟩) x.len cap)/\0<=i/\i<(x.len:Int)/\j<x.ch/\
  v= .pointer (some ⟨b,off+i.toNat*x.ch+j,none⟩)
 | .mp id,v=>∃loc b,ρ[id]? =some loc/\loc.bO=some b/\v= .map (some b)
 | .tail id i,v=>∃loc b,ρ[id]? =some loc/\loc.a=some ⟨b,0,none⟩/\loc.bO=some b/\
  v= .slice (some ⟨b,i.toNat*(ad.at own id).ch,none⟩) ((ad.at own id).len-i.toNat) (loc.cap-i.toNat)/\0<=i/\i<((ad.at own id).len:Int)
 | .vt,v=>v= .pointer none
 | .fn f,v=>v= .func (.func f) #[] #[]
 | .cls f l,v=>v= .func (.func f) (lmap tz l).toArray #[]/\dq vS l=true
 | .un,v=>v=undef
 | .any,_=>True
 |_,_=>False
def hg (Z:Nat->Prop)(w:World)(ρ:List Loc)(own:aB):J->Value->Prop
 | .agg l,v=>∃a:Array Value,v= .agg a/\a.size=l.length/\∀i,i<l.length->dE Z w ρ own (l.getD i .un) (a.getD i undef)
 | .rw n r,v=>∃a:Array Value,v= .agg a/\a.size=n/\r.length=n/\∀i,i<n->Reads Z w (r.getD i .undef) (a.getD i undef)
 |t,v=>dE Z w ρ own t v
def bz (Z:Nat->Prop)(w:World)(ρ:List Loc)(own:aB):J->Value->Prop
 | .tup l,v=>∃a:Array Value,v= .tuple a/\a.size=l.length/\∀i,i<l.length->hg Z w ρ own (l.getD i .un) (a.getD i undef)
 |t,v=>hg Z w ρ own t v
def nn (Z:Nat->Prop)(w:World)(r:List R)(v:Value):Prop:=∃a:Array Value,v= .agg a/\a.size=r.length/\∀j,j<r.length->Reads Z w (r.getD j .undef) (a.getD j undef)
def p9 (Z:Nat->Prop)(w:World)(r:List R)(v:Value):Prop:=(∃x,r=[x]/\Reads Z w x v)\/(r.length≠1/\nn Z w r v)
theorem nn.mono {Z Z':Nat->Prop}{w w':World}{r:List R}{v:Value}(h:nn Z w r v)(ak:∀x u,Reads Z w x u->Reads Z' w' x u):nn Z' w' r v:=by
 obtain⟨a,U,aa,al⟩:=h
 exact⟨a,U,aa,fun j aK=>ak _ _ (al j aK)⟩
theorem p9.mono {Z Z':Nat->Prop}{w w':World}{r:List R}{v:Value}(h:p9 Z w r v)(ak:∀x u,Reads Z w x u->Reads Z' w' x u):p9 Z' w' r v:=by
 rcases h with⟨x,U,aa⟩|⟨U,aa⟩
 ·exact .inl ⟨x,U,ak _ _ aa⟩
 ·exact .inr ⟨U,aa.mono ak⟩
def hD (Z:Nat->Prop)(w:World)(ρ:List Loc)(own:aB)(loc:Loc):ad->Prop
 | .gone=>True
 | .dead _ _=>True
 | .map sx aj l=>∃b es c,loc.bO=some b/\w.heap[b]? =some (.map es c)/\es.size=l.length/\sx<aj/\(l.map (iF sx)).Nodup/\
  ∀i,i<l.length->∃e,es[i]? =some e/\(l.getD i []).length=aj/\jI ((l.getD i []).take sx)/\nn Z w ((l.getD i []).take sx) e.key/\p9 Z w ((l.getD i []).drop sx) e.val
 | .cells l=>∃b aG e,loc.a=some ⟨b,0,none⟩/\loc.bO=some b/\w.heap[b]? =some (.cells aG e (0,0))/\aG.size=l.length/\
  ∀i,i<l.length->dE Z w ρ own (l.getD i .un) (aG.getD i undef)
 | .ints k l=>(l=[]/\loc.cap=0)\/∃b aG e,loc.a=some ⟨b,0,none⟩/\loc.bO=some b/\w.heap[b]? =some (.cells aG e (0,0))/\
  l.length<=loc.cap/\loc.cap<=aG.size/\∀i,i<l.length->aG[i]? =some (.int k (l.getD i 0))
 | .rows aj l=>(l=[]/\loc.cap=0)\/∃b aG e,loc.a=some ⟨b,0,none⟩/\loc.bO=some b/\w.heap[b]? =some (.cells aG e (0,0))/\
  l.length<=loc.cap/\loc.cap*aj<=aG.size/\0<aj/\∀i j,i<l.length->j<aj->∃v,aG[i*aj+j]? =some v/\Reads Z w ((l.getD i []).getD j .undef) v
def gE (own:aB)(i:Nat):Prop:=frozenAt own i=true/\∃n aj,ad.at own i= .dead n aj
theorem np {own:aB}{i:Nat}(h:frozenAt own i=false):¬gE own i:=fun⟨U,_⟩=>by rw[h]at U;cases U
structure b4 (N:Nat->Prop)(ρ:List Loc)(own:aB)(w:World):Prop where
 len:ρ.length=own.length
 fE:∀b,N b->b<w.heap.size
 lt:∀(i:Nat) (loc:Loc) (b:Nat),ρ[i]? =some loc->loc.bO=some b->b<w.heap.size
 inj:∀(i j:Nat) (li b9:Loc) (b:Nat),ρ[i]? =some li->ρ[j]? =some b9->li.bO=some b->b9.bO=some b->¬gE own i->¬gE own j->i=j
 fr:∀(i:Nat) (loc:Loc) (b:Nat),ρ[i]? =some loc->loc.bO=some b->¬N b
 ob:∀(i:Nat) (loc:Loc),ρ[i]? =some loc->hD (aI N ρ own) w ρ own loc (ad.at own i)
structure Fr (ρ:List Loc)(own:aB)(w:World)(ρ':List Loc)(own':aB)(w':World):Prop where
 os:w'.os=w.os
 tape:w'.tape=w.tape
 output:w'.output=w.output
 size:w.heap.size<=w'.heap.size
 e1:∀b,b<w.heap.size->¬fU ρ own b->w'.heap[b]? =w.heap[b]?
 alive:∀b,fU ρ' own' b->fU ρ own b\/w.heap.size<=b
theorem Fr.refl (ρ:List Loc)(own:aB)(w:World):Fr ρ own w ρ own w:=⟨rfl,rfl,rfl,asz _,fun _ _ _=>rfl,fun _ h=> .inl h⟩
theorem Fr.trans {ρ eu fg:List Loc}{own cx me:aB}{w cz dO:World}(h:Fr ρ own w eu cx cz)(k:Fr eu cx cz fg me dO):Fr ρ own w fg me dO:=by
 refine⟨k.os.trans h.os,k.tape.trans h.tape,k.output.trans h.output,asZ h.size k.size,fun b ae aC=> ?_,fun b ae=> ?_⟩
 ·have U:=h.e1 b ae aC
  have aa:¬fU eu cx b:=fun af=>by
   rcases h.alive b af with al|al
   ·exact aC al
   ·omega
  rw[k.e1 b (asR ae h.size) aa,U]
 ·rcases k.alive b ae with U|U
  ·exact h.alive b U
  ·exact .inr (asZ h.size U)
theorem Fr.reads {N:Nat->Prop}{ρ ρ':List Loc}{own own':aB}{w w':World}(h:Fr ρ own w ρ' own' w'){x:R}{v:Value}
 (ak:Reads (aI N ρ own) w x v):Reads (aI N ρ' own') w' x v:=
 ak.mono fun b bB bc=>⟨h.e1 b bB fun aC=>bc (.inr aC),fun cS=>by
  rcases cS with ar|aC
  ·exact bc (.inl ar)
  ·rcases h.alive b aC with U|U
   ·exact bc (.inr U)
   ·omega⟩
def J.kO (id:Nat):J->Prop
 | .vec i=>i=id
 | .ptr i _=>i=id
 | .optr i _ _=>i=id
 | .oat i _ _=>i=id
 | .mp i=>i=id
 | .tail i _=>i=id
 |_=>False
def eg (ρ:List Loc)(own:aB)(ρ':List Loc)(own':aB)(id:Nat):Prop:=
 ∀loc,ρ[id]? =some loc->ρ'[id]? =some loc/\(ad.at own' id).len=(ad.at own id).len/\(ad.at own' id).ch=(ad.at own id).ch
theorem dE.mono {Z Z':Nat->Prop}{w w':World}{ρ ρ':List Loc}{own own':aB}{t:J}{v:Value}(h:dE Z w ρ own t v)
 (ak:∀x u,Reads Z w x u->Reads Z' w' x u) (ao:∀id,t.kO id->eg ρ own ρ' own' id):dE Z' w' ρ' own' t v:=by
 cases t<;>simp only[dE]at h⊢<;>try exact h
 case d x=>exact ak _ _ h
 case vec id=>
  obtain⟨loc,U,aa⟩:=h
  obtain⟨aU,a_,_⟩:=ao id rfl loc U
  exact⟨loc,aU,by rw[a_];exact aa⟩
 case ptr id off=>
  obtain⟨loc,b,U,aa⟩:=h
  exact⟨loc,b,(ao id rfl loc U).1,aa⟩
 case optr id i j=>
  obtain⟨loc,b,U,aa,al,aL,bo⟩:=h
  obtain⟨aU,a_,bF⟩:=ao id rfl loc U
  exact⟨loc,b,aU,aa,al,by rw[bF];exact aL,by rw[a_];exact bo⟩
 case rptr x i j=>
  obtain⟨b,off,cap,U,aa⟩:=h
  exact⟨b,off,cap,ak _ _ U,aa⟩
 case oat id i j=>
  obtain⟨loc,b,U,aa,al,aL,bo,bX,fi⟩:=h
  obtain⟨aU,a_,bF⟩:=ao id rfl loc U
  exact⟨loc,b,aU,aa,al,by rw[bF];exact aL,bo,by rw[a_];exact bX,by rw[bF];exact fi⟩
 case rat x i j=>
  obtain⟨b,off,cap,U,aa⟩:=h
  exact⟨b,off,cap,ak _ _ U,aa⟩
 case mp id=>
  obtain⟨loc,b,U,aa⟩:=h
  exact⟨loc,b,(ao id rfl loc U).1,aa⟩
 case tail id i=>
  obtain⟨loc,b,U,aa,al,aL,bo⟩:=h
  obtain⟨aU,a_,bF⟩:=ao id rfl loc U
  exact⟨loc,b,aU,aa,al,by rw[a_,bF];exact aL,by rw[a_];exact bo⟩
def J.GD (id:Nat):J->Prop
 | .agg l=>∃i,i<l.length/\(l.getD i .un).kO id
 |t=>t.kO id
def J.names (id:Nat):J->Prop
 | .tup l=>∃i,i<l.length/\(l.getD i .un).GD id
 |t=>t.GD id
theorem hg.mono {Z Z':Nat->Prop}{w w':World}{ρ ρ':List Loc}{own own':aB}{t:J}{v:Value}(h:hg Z w ρ own t v)
 (ak:∀x u,Reads Z w x u->Reads Z' w' x u) (ao:∀id,t.GD id->eg ρ own ρ' own' id):hg Z' w' ρ' own' t v:=by
 cases t
 case agg l=>
  obtain⟨a,U,aa,al⟩:=h
  exact⟨a,U,aa,fun i hi=>(al i hi).mono ak fun id de=>ao id ⟨i,hi,de⟩⟩
 case rw n r=>
  obtain⟨a,U,aa,aL,al⟩:=h
  exact⟨a,U,aa,aL,fun i hi=>ak _ _ (al i hi)⟩
 all_goals (unfold hg at h⊢;exact dE.mono h ak fun id de=>ao id de)
theorem bz.mono {Z Z':Nat->Prop}{w w':World}{ρ ρ':List Loc}{own own':aB}{t:J}{v:Value}(h:bz Z w ρ own t v)
 (ak:∀x u,Reads Z w x u->Reads Z' w' x u) (ao:∀id,t.names id->eg ρ own ρ' own' id):bz Z' w' ρ' own' t v:=by
 cases t
 case tup l=>
  obtain⟨a,U,aa,al⟩:=h
  exact⟨a,U,aa,fun i hi=>(al i hi).mono ak fun id de=>ao id ⟨i,hi,de⟩⟩
 all_goals (unfold bz at h⊢;exact hg.mono h ak fun id de=>ao id de)
theorem hg.cM {Z:Nat->Prop}{w:World}{ρ:List Loc}{own:aB}{t:J}{v:Value}(h:dE Z w ρ own t v):hg Z w ρ own t v:=by
 cases t<;>first|exact h|exact h.elim
theorem bz.gB {Z:Nat->Prop}{w:World}{ρ:List Loc}{own:aB}{t:J}{v:Value}(h:hg Z w ρ own t v):bz Z w ρ own t v:=by
 cases t<;>first|exact h|exact h.elim
theorem bz.cM {Z:Nat->Prop}{w:World}{ρ:List Loc}{own:aB}{t:J}{v:Value}(h:dE Z w ρ own t v):bz Z w ρ own t v:= .gB (.cM h)
structure Step (N:Nat->Prop)(ρ:List Loc)(own:aB)(w:World)(ρ':List Loc)(own':aB)(w':World):Prop extends Fr ρ own w ρ' own' w' where
 rel:b4 N ρ' own' w'
 same:∀id,eg ρ own ρ' own' id
theorem eg.refl (ρ:List Loc)(own:aB)(id:Nat):eg ρ own ρ own id:=fun _ h=>⟨h,rfl,rfl⟩
theorem Step.refl {N:Nat->Prop}{ρ:List Loc}{own:aB}{w:World}(h:b4 N ρ own w):Step N ρ own w ρ own w:=
 {Fr.refl ρ own w with rel:=h,same:=eg.refl ρ own}
theorem Step.km {N:Nat->Prop}{ρ ρ':List Loc}{own own':aB}{w w':World}(h:Step N ρ own w ρ' own' w'){t:J}{v:Value}
 (aA:bz (aI N ρ own) w ρ own t v):bz (aI N ρ' own') w' ρ' own' t v:=aA.mono (fun _ _=>h.toFr.reads) fun id _=>h.same id
structure dC (Z:Nat->Prop)(w:World)(ρ:List Loc)(own:aB)(tm:List J)(tmps:Array Value):Prop where
 size:tmps.size=tm.length
 at_:∀t,bz Z w ρ own (tm.getD t .un) (tmps.getD t undef)
theorem dC.step {N:Nat->Prop}{ρ ρ':List Loc}{own own':aB}{w w':World}(h:Step N ρ own w ρ' own' w'){tm:List J}{tmps:Array Value}
 (aA:dC (aI N ρ own) w ρ own tm tmps):dC (aI N ρ' own') w' ρ' own' tm tmps:=⟨aA.size,fun t=>h.km (aA.at_ t)⟩
theorem bz.un {Z:Nat->Prop}{w:World}{ρ:List Loc}{own:aB}:bz Z w ρ own .un undef:=rfl
theorem zG (a:Array Value)(d i:Nat)(v:Value):(a.setIfInBounds d v).getD i undef=if d=i/\d<a.size then v else a.getD i undef:=by
 simp only[asA,auj]
 by_cases h:d=i
 ·subst h
  by_cases aq:d<a.size<;>simp[aq]
 ·simp[h]
theorem dC.put {Z:Nat->Prop}{w:World}{ρ:List Loc}{own:aB}{tm:List J}{a:Act}{t:J}{v:Value}(h:dC Z w ρ own tm a.tmps)(dst:Option Tmp)
 (aM:bz Z w ρ own t v):dC Z w ρ own (put tm dst t) (a.put dst v).tmps:=by
 cases dst with
 |none=>exact h
 |some d=>
  simp only[bG.put,ep,Act.put]
  refine⟨by simp[h.size],fun i=> ?_⟩
  rw[ef,zG,h.size]
  split
  ·exact aM
  ·exact h.at_ i
end Go.bG
end
section
namespace Go.bG
theorem gw (own:aB)(p:Bool×ad)(i:Nat):ad.at (own++[p]) i=if i=own.length then p.2 else ad.at own i:=by
 simp only[ad.at,dp,ass,asS]
 by_cases h:i<own.length
 ·rw[asq h,asp (by omega)]
 ·rw[asp h]
  by_cases e:i=own.length
  ·rw[asq e];simp[e]
  ·rw[asp e,as5 (by simp;omega),as5 (by omega)]
theorem kn (own:aB)(p:Bool×ad)(i:Nat):frozenAt (own++[p]) i=if i=own.length then p.1 else frozenAt own i:=by
 simp only[frozenAt,dp,ass,asS]
 by_cases h:i<own.length
 ·rw[asq h,asp (by omega)]
 ·rw[asp h]
  by_cases e:i=own.length
  ·rw[asq e];simp[e]
  ·rw[asp e,as5 (by simp;omega),as5 (by omega)]
theorem gx (own:aB)(id:Nat)(p:Bool×ad)(i:Nat):ad.at (own.set id p) i=if id=i/\id<own.length then p.2 else ad.at own i:=by
 simp only[ad.at,dp,ef];split<;>rfl
theorem hS (own:aB)(id:Nat)(p:Bool×ad)(i:Nat):frozenAt (own.set id p) i=if id=i/\id<own.length then p.1 else frozenAt own i:=by
 simp only[frozenAt,dp,ef];split<;>rfl
theorem Qk (own:aB)(i:Nat)(h:own.length<=i):frozenAt own i=true:=by simp[frozenAt,dp,ass,as5 h]
theorem b4.jz {N:Nat->Prop}{ρ:List Loc}{own:aB}{w:World}(h:b4 N ρ own w){i:Nat}{loc:Loc}(hi:ρ[i]? =some loc):i<own.length:=by
 rw[<-h.len];exact(atg.1 hi).1
structure aiO (ex:Nat->Prop)(N:Nat->Prop)(ρ:List Loc)(own:aB)(w:World)(ρ':List Loc)(own':aB)(w':World):Prop extends Fr ρ own w ρ' own' w' where
 rel:b4 N ρ' own' w'
 same:∀id,¬ex id->eg ρ own ρ' own' id
theorem hD.mono {Z Z':Nat->Prop}{w w':World}{ρ ρ':List Loc}{own own':aB}{loc:Loc}{o:ad}(h:hD Z w ρ own loc o)
 (ae:∀b,loc.bO=some b->w'.heap[b]? =w.heap[b]?) (ak:∀x u,Reads Z w x u->Reads Z' w' x u)
 (ao:∀l,o= .cells l->∀k id,k<l.length->(l.getD k .un).kO id->eg ρ own ρ' own' id):hD Z' w' ρ' own' loc o:=by
 cases o with
 |gone=>trivial
 |dead n aj=>trivial
 |map sx aj l=>
  obtain⟨b,es,c,U,aa,al,aL,bX,bo⟩:=h
  refine⟨b,es,c,U,by rw[ae b U];exact aa,al,aL,bX,fun i hi=> ?_⟩
  obtain⟨e,aU,a_,eB,bF,di⟩:=bo i hi
  exact⟨e,aU,a_,eB,bF.mono ak,di.mono ak⟩
 |cells l=>
  obtain⟨b,aG,e,U,aa,al,aL,bo⟩:=h
  exact⟨b,aG,e,U,aa,by rw[ae b aa];exact al,aL,fun i hi=>(bo i hi).mono ak (fun id ar=>ao l rfl i id hi ar)⟩
 |ints k l=>
  rcases h with h|⟨b,aG,e,U,aa,al,aL⟩
  ·exact .inl h
  ·exact .inr ⟨b,aG,e,U,aa,by rw[ae b aa];exact al,aL⟩
 |rows aj l=>
  rcases h with h|⟨b,aG,e,U,aa,al,aL,bo,fi,bX⟩
  ·exact .inl h
  ·refine .inr ⟨b,aG,e,U,aa,by rw[ae b aa];exact al,aL,bo,fi,fun i j hi aK=> ?_⟩
   obtain⟨v,aM,pv⟩:=bX i j hi aK
   exact⟨v,aM,ak _ _ pv⟩
theorem b4.Dy {N:Nat->Prop}{ρ ρ':List Loc}{own own':aB}{w w':World}(h:b4 N ρ own w)(aQ:Fr ρ own w ρ' own' w')(hlen:ρ'.length=own'.length)
 (ao:∀i l,ad.at own i= .cells l->∀k id,k<l.length->(l.getD k .un).kO id->eg ρ own ρ' own' id)
 (hi:∀i loc,ρ'[i]? =some loc->
   (ρ[i]? =some loc/\ad.at own' i=ad.at own i/\(frozenAt own' i=false->frozenAt own i=false)/\(¬gE own i->∀b,loc.bO=some b->w'.heap[b]? =w.heap[b]?))\/
   ((∀b,loc.bO=some b->b<w'.heap.size/\¬N b/\∀j b9,ρ'[j]? =some b9->b9.bO=some b->¬gE own' j->j=i)/\
     hD (aI N ρ' own') w' ρ' own' loc (ad.at own' i))):b4 N ρ' own' w' where
 len:=hlen
 fE:=fun b ae=>asR (h.fE b ae) aQ.size
 lt:=fun i loc b U aa=>by
  rcases hi i loc U with⟨aU,_⟩|⟨k,_⟩
  ·exact asR (h.lt i loc b aU aa) aQ.size
  ·exact(k b aa).1
 inj:=fun i j li b9 b U aa al aL s1 s2=>by
  have back:∀i,ad.at own' i=ad.at own i->(frozenAt own' i=false->frozenAt own i=false)->¬gE own' i->¬gE own i:=fun i an az s ⟨f,n,aj,e⟩=>by
   refine s ⟨?_,n,aj,by rw[an];exact e⟩
   cases af:frozenAt own' i with
   |true=>rfl
   |false=>rw[az af]at f;cases f
  rcases hi i li U with⟨aU,a_,bF,_⟩|⟨k,_⟩
  ·rcases hi j b9 aa with⟨q1,cb,cu,_⟩|⟨b3,_⟩
   ·exact h.inj i j li b9 b aU q1 al aL (back i a_ bF s1) (back j cb cu s2)
   ·exact(b3 b aL).2.2 i li U al s1
  ·exact((k b al).2.2 j b9 aa aL s2).symm
 fr:=fun i loc b U aa=>by
  rcases hi i loc U with⟨aU,_⟩|⟨k,_⟩
  ·exact h.fr i loc b aU aa
  ·exact(k b aa).2.1
 ob:=fun i loc U=>by
  rcases hi i loc U with⟨aU,a_,_,di⟩|⟨_,k⟩
  ·rw[a_]
   by_cases s:gE own i
   ·obtain⟨_,n,aj,e⟩:=s
    rw[e];trivial
   ·exact(h.ob i loc aU).mono (di s) (fun _ _=>aQ.reads) (fun l aq k id ab ar=>ao i l aq k id ab ar)
  ·exact k
theorem b4.se {N:Nat->Prop}{ρ ρ':List Loc}{own own':aB}{w w':World}(h:b4 N ρ own w)(aQ:Fr ρ own w ρ' own' w')(hlen:ρ'.length=own'.length)
 (ao:∀i l,ad.at own i= .cells l->∀k id,k<l.length->(l.getD k .un).kO id->eg ρ own ρ' own' id)
 (hi:∀i loc,ρ'[i]? =some loc->
   (ρ[i]? =some loc/\ad.at own' i=ad.at own i/\(frozenAt own' i=false->frozenAt own i=false)/\∀b,loc.bO=some b->w'.heap[b]? =w.heap[b]?)\/
   ((∀b,loc.bO=some b->b<w'.heap.size/\¬N b/\∀j b9,ρ'[j]? =some b9->b9.bO=some b->¬gE own' j->j=i)/\
     hD (aI N ρ' own') w' ρ' own' loc (ad.at own' i))):b4 N ρ' own' w':=
 h.Dy aQ hlen ao fun i loc aq=>(hi i loc aq).imp (fun⟨aU,a_,bF,di⟩=>⟨aU,a_,bF,fun _=>di⟩) id
theorem Step.alloc {N:Nat->Prop}{ρ:List Loc}{own:aB}{w:World}(h:b4 N ρ own w)(f:Bool)(ob:ad)(obj:Obj)(cap:Nat)
 (aH:hD (aI N (ρ++[⟨some ⟨w.heap.size,0,none⟩,cap,some w.heap.size⟩]) (own++[(f,ob)])) (w.alloc obj)
   (ρ++[⟨some ⟨w.heap.size,0,none⟩,cap,some w.heap.size⟩]) (own++[(f,ob)]) ⟨some ⟨w.heap.size,0,none⟩,cap,some w.heap.size⟩ ob):
 Step N ρ own w (ρ++[⟨some ⟨w.heap.size,0,none⟩,cap,some w.heap.size⟩]) (own++[(f,ob)]) (w.alloc obj):=by
 have cr:Fr ρ own w (ρ++[⟨some ⟨w.heap.size,0,none⟩,cap,some w.heap.size⟩]) (own++[(f,ob)]) (w.alloc obj):=by
  refine⟨rfl,rfl,rfl,by simp,fun b ae _=>heap_alloc_old w obj b ae,fun b ⟨i,loc,U,aa,al⟩=> ?_⟩
  rw[asS]at U
  by_cases hi:i<ρ.length
  ·rw[asq hi]at U
   rw[kn,asp (by rw[<-h.len];omega)]at al
   exact .inl ⟨i,loc,U,aa,al⟩
  ·rw[asp hi]at U
   cases aP:i-ρ.length with
   |zero=>simp[aP]at U;subst U;simp at aa;exact .inr (by omega)
   |succ n=>simp[aP]at U
 have ey:∀id,eg ρ own (ρ++[⟨some ⟨w.heap.size,0,none⟩,cap,some w.heap.size⟩]) (own++[(f,ob)]) id:=fun id loc aq=>by
  have:=h.jz aq
  refine⟨by rw[atp (by rw[h.len];exact this)];exact aq, ?_⟩
  rw[gw,asp (by omega)];exact⟨rfl,rfl⟩
 refine{cr with rel:=h.se cr (by simp[h.len]) (fun _ _ _ _ id _ _=>ey id) (fun i loc aq=> ?_),same:=ey}
 rw[asS]at aq
 by_cases hi:i<ρ.length
 ·rw[asq hi]at aq
  refine .inl ⟨aq,by rw[gw,asp (by rw[<-h.len];omega)],fun af=>by rwa [kn,asp (by rw[<-h.len];omega)]at af,fun b ae=> ?_⟩
  exact heap_alloc_old w obj b (h.lt i loc b aq ae)
 ·rw[asp hi]at aq
  cases aP:i-ρ.length with
  |succ n=>simp[aP]at aq
  |zero=>
   simp[aP]at aq
   subst aq
   have dH:i=own.length:=by rw[<-h.len];omega
   refine .inr ⟨fun b ae=> ?_,by rw[dH,gw,asq rfl];exact aH⟩
   simp at ae
   subst ae
   refine⟨by simp,fun ar=>absurd (h.fE _ ar) (by omega),fun j b9 aK ae _=> ?_⟩
   rw[asS]at aK
   by_cases hZ:j<ρ.length
   ·rw[asq hZ]at aK
    have:=h.lt j b9 _ aK ae
    omega
   ·rw[asp hZ]at aK
    cases h9:j-ρ.length with
    |zero=>omega
    |succ n=>simp[h9]at aK
theorem Step.Ql {N:Nat->Prop}{ρ:List Loc}{own:aB}{w:World}(h:b4 N ρ own w)(id:Nat)(loc:Loc)(b:Nat)(de:ρ[id]? =some loc)(ae:loc.bO=some b)
 (aQ:frozenAt own id=false) (ob:ad) (aq:ob.len=(ad.at own id).len) (he:ob.ch=(ad.at own id).ch) (w':World) (U:w'.os=w.os) (aa:w'.tape=w.tape) (al:w'.output=w.output) (ca:w'.heap.size=w.heap.size) (lp:∀x,x≠b->w'.heap[x]? =w.heap[x]?)
 (aH:hD (aI N ρ (own.set id (false,ob))) w' ρ (own.set id (false,ob)) loc ob):
 Step N ρ own w ρ (own.set id (false,ob)) w':=by
 have bB:=h.jz de
 have iu:∀x,fU ρ (own.set id (false,ob)) x->fU ρ own x:=fun x ⟨i,l,U,aa,al⟩=>by
  rw[hS]at al
  by_cases e:id=i
  ·subst e;exact⟨id,l,U,aa,aQ⟩
  ·rw[asp (by simp[e])]at al;exact⟨i,l,U,aa,al⟩
 have cr:Fr ρ own w ρ (own.set id (false,ob)) w':=by
  refine⟨U,aa,al,by omega,fun x af aC=> ?_,fun x af=> .inl (iu x af)⟩
  exact lp x fun e=>aC ⟨id,loc,de,e▸ae,aQ⟩
 have ey:∀i,eg ρ own ρ (own.set id (false,ob)) i:=fun i l ia=>by
  refine⟨ia, ?_⟩
  rw[gx]
  by_cases e:id=i
  ·subst e;rw[asq ⟨rfl,bB⟩];exact⟨aq,he⟩
  ·rw[asp (by simp[e])];exact⟨rfl,rfl⟩
 refine{cr with rel:=h.Dy cr (by simp[h.len]) (fun _ _ _ _ i _ _=>ey i) (fun i l ia=> ?_),same:=ey}
 by_cases e:id=i
 ·subst e
  rw[de]at ia
  obtain rfl:=asB ia
  refine .inr ⟨fun x af=>⟨by rw[ca];exact h.lt id loc x de af,h.fr id loc x de af,fun j b9 aK Im k8=> ?_⟩, ?_⟩
  ·by_cases e:id=j
   ·exact e.symm
   ·refine h.inj j id b9 loc x aK de Im af (fun⟨s1,n,aj,s2⟩=>k8 ⟨by rw[hS,asp (by simp[e])];exact s1,n,aj,by rw[gx,asp (by simp[e])];exact s2⟩) (np aQ)
  ·rw[gx,asq ⟨rfl,bB⟩];exact aH
 ·refine .inl ⟨ia,by rw[gx,asp (by simp[e])],fun af=>by rwa [hS,asp (by simp[e])]at af,fun jF x af=> ?_⟩
  exact lp x fun aaf=>e (h.inj id i loc l b de ia ae (aaf▸af) (np aQ) jF)
theorem Step.write {N:Nat->Prop}{ρ:List Loc}{own:aB}{w:World}(h:b4 N ρ own w)(id:Nat)(loc:Loc)(b:Nat)(de:ρ[id]? =some loc)(ae:loc.bO=some b)
 (aQ:frozenAt own id=false) (ob:ad) (aq:ob.len=(ad.at own id).len) (he:ob.ch=(ad.at own id).ch) (cs:Array Value)
 (aH:hD (aI N ρ (own.set id (false,ob))) (w.setRow b cs) ρ (own.set id (false,ob)) loc ob):
 Step N ρ own w ρ (own.set id (false,ob)) (w.setRow b cs):=
 Step.Ql h id loc b de ae aQ ob aq he _ rfl rfl rfl (by simp) (fun x af=>setRow_other w b x cs af) aH
theorem Step.shut {N:Nat->Prop}{ρ:List Loc}{own:aB}{w:World}(h:b4 N ρ own w)(id:Nat):Step N ρ own w ρ (own.set id (true,ad.at own id)) w:=by
 have iu:∀x,fU ρ (own.set id (true,ad.at own id)) x->fU ρ own x:=fun x ⟨i,l,U,aa,al⟩=>by
  rw[hS]at al
  by_cases e:id=i/\id<own.length
  ·rw[asq e]at al;cases al
  ·rw[asp e]at al;exact⟨i,l,U,aa,al⟩
 have cr:Fr ρ own w ρ (own.set id (true,ad.at own id)) w:=⟨rfl,rfl,rfl,asz _,fun _ _ _=>rfl,fun x af=> .inl (iu x af)⟩
 have cg:∀i,ad.at (own.set id (true,ad.at own id)) i=ad.at own i:=fun i=>by
  rw[gx];split
  ·rename_i e;rw[e.1]
  ·rfl
 have ey:∀i,eg ρ own ρ (own.set id (true,ad.at own id)) i:=fun i l ia=>⟨ia,by rw[cg];exact⟨rfl,rfl⟩⟩
 refine{cr with rel:=h.se cr (by simp[h.len]) (fun _ _ _ _ i _ _=>ey i) (fun i l ia=> ?_),same:=ey}
 refine .inl ⟨ia,cg i,fun af=> ?_,fun _ _=>rfl⟩
 rw[hS]at af
 split at af
 ·cases af
 ·exact af
theorem Step.drew {N:Nat->Prop}{ρ:List Loc}{own:aB}{w w':World}(h:b4 N ρ own w)(b2:w'.heap=w.heap)(U:w'.os=w.os)(aa:w'.tape=w.tape)(al:w'.output=w.output):
 Step N ρ own w ρ own w':=by
 have cr:Fr ρ own w ρ own w':=⟨U,aa,al,by rw[b2];exact asz _,fun _ _ _=>by rw[b2],fun x af=> .inl af⟩
 refine{cr with rel:=h.se cr h.len (fun _ _ _ _ i _ _=>eg.refl ρ own i) (fun i l ia=> .inl ⟨ia,rfl,id,fun _ _=>by rw[b2]⟩),same:=eg.refl ρ own}
theorem Step.trans {N:Nat->Prop}{ρ eu fg:List Loc}{own cx me:aB}{w cz dO:World}(h:Step N ρ own w eu cx cz)(k:Step N eu cx cz fg me dO):Step N ρ own w fg me dO:=
 {h.toFr.trans k.toFr with
  rel:=k.rel
  same:=fun id loc aq=>by
   obtain⟨a,b,c⟩:=h.same id loc aq
   obtain⟨cI,ee,abu⟩:=k.same id loc a
   exact⟨cI,ee.trans b,abu.trans c⟩}
theorem TX (id:Nat)(t:J):eh id t= .any\/(eh id t=t/\¬t.kO id):=by
 cases t with
 |vec j=>
  by_cases e:j=id
  ·subst e;exact .inl (by simp[eh])
  ·have aK:Nat.beq j id=false:=by
    cases ae:Nat.beq j id with
    |false=>rfl
    |true=>exact absurd (ast ae) e
   exact .inr ⟨by simp[eh,aK],e⟩
 |ptr j x=>
  by_cases e:j=id
  ·subst e;exact .inl (by simp[eh])
  ·have aK:Nat.beq j id=false:=by
    cases ae:Nat.beq j id with
    |false=>rfl
    |true=>exact absurd (ast ae) e
   exact .inr ⟨by simp[eh,aK],e⟩
 |optr j x y=>
  by_cases e:j=id
  ·subst e;exact .inl (by simp[eh])
  ·have aK:Nat.beq j id=false:=by
    cases ae:Nat.beq j id with
    |false=>rfl
    |true=>exact absurd (ast ae) e
   exact .inr ⟨by simp[eh,aK],e⟩
 |oat j x y=>
  by_cases e:j=id
  ·subst e;exact .inl (by simp[eh])
  ·have aK:Nat.beq j id=false:=by
    cases ae:Nat.beq j id with
    |false=>rfl
    |true=>exact absurd (ast ae) e
   exact .inr ⟨by simp[eh,aK],e⟩
 |mp j=>
  by_cases e:j=id
  ·subst e;exact .inl (by simp[eh])
  ·have aK:Nat.beq j id=false:=by
    cases ae:Nat.beq j id with
    |false=>rfl
    |true=>exact absurd (ast ae) e
   exact .inr ⟨by simp[eh,aK],e⟩
 |tail j x=>
  by_cases e:j=id
  ·subst e;exact .inl (by simp[eh])
  ·have aK:Nat.beq j id=false:=by
    cases ae:Nat.beq j id with
    |false=>rfl
    |true=>exact absurd (ast ae) e
   exact .inr ⟨by simp[eh,aK],e⟩
 |_=>exact .inr ⟨rfl,fun h=>h⟩
theorem dE.kill {Z Z':Nat->Prop}{w w':World}{ρ ρ':List Loc}{own own':aB}{t:J}{v:Value}(id:Nat)(h:dE Z w ρ own t v)
 (ak:∀x u,Reads Z w x u->Reads Z' w' x u) (ao:∀i,i≠id->eg ρ own ρ' own' i):dE Z' w' ρ' own' (eh id t) v:=by
 rcases TX id t with e|⟨e,ar⟩
 ·rw[e];trivial
 ·rw[e];exact h.mono ak fun i hi=>ao i fun de=>ar (de▸hi)
theorem Tt {Z:Nat->Prop}{w:World}{ρ:List Loc}{own:aB}{v:Value}(t:J)(U:∀l,t≠ .agg l)(aa:∀l,t≠ .tup l)(al:∀n r,t≠ .rw n r):
 bz Z w ρ own t v=dE Z w ρ own t v:=by
 cases t with
 |agg l=>exact absurd rfl (U l)
 |rw n r=>exact absurd rfl (al n r)
 |tup l=>exact absurd rfl (aa l)
 |_=>rfl
theorem bz.kill {Z Z':Nat->Prop}{w w':World}{ρ ρ':List Loc}{own own':aB}{t:J}{v:Value}(id:Nat)(h:bz Z w ρ own t v)
 (ak:∀x u,Reads Z w x u->Reads Z' w' x u) (ao:∀i,i≠id->eg ρ own ρ' own' i):bz Z' w' ρ' own' (da id t) v:=by
 cases t with
 |agg l=>
  obtain⟨a,U,aa,al⟩:=h
  refine⟨a,U,by rw[c5,asy];exact aa,fun i hi=> ?_⟩
  rw[c5]at hi⊢
  simp only[asy]at hi
  have:=(al i hi).kill id ak ao
  simpa[ass,hi]using this
 |tup l=>trivial
 |rw n r=>
  obtain⟨a,an,az,cm,bK⟩:=h
  exact⟨a,an,az,cm,fun i hi=>ak _ _ (bK i hi)⟩
 |_=>rw[Tt _ (by simp) (by simp) (by simp)]at h;exact .cM (dE.kill id h ak ao)
theorem WU (id:Nat)(o:ad):(o.kill id).len=o.len/\(o.kill id).ch=o.ch:=by
 cases o<;>simp[ad.kill,ad.len,ad.ch,c5]
theorem Gm (id:Nat)(own:aB)(i:Nat):ad.at (fN id own) i=(ad.at own i).kill id:=by
 simp only[ad.at,fN,c5,dp,ass,atl]
 cases own[i]? <;>rfl
theorem XI (id:Nat)(own:aB)(i:Nat):frozenAt (fN id own) i=frozenAt own i:=by
 simp only[frozenAt,fN,c5,dp,ass,atl]
 cases own[i]? <;>rfl
theorem WV (id:Nat)(own:aB):(fN id own).length=own.length:=by simp[fN,c5]
theorem FK {N:Nat->Prop}{ρ:List Loc}{own:aB}{w w':World}(h:b4 N ρ own w)(id:Nat)(iy:Loc)(de:id<own.length)(ob:ad)(ab:ob.kill id=ob)
 (aQ:frozenAt own id=false)
 (U:w'.os=w.os) (aa:w'.tape=w.tape) (al:w'.output=w.output) (ca:w.heap.size<=w'.heap.size)
 (rM:∀b,b<w.heap.size->(∀loc,ρ[id]? =some loc->loc.bO≠some b)->w'.heap[b]? =w.heap[b]?)
 (nz:∀b,iy.bO=some b->b<w'.heap.size/\¬N b/\(w.heap.size<=b\/∃loc,ρ[id]? =some loc/\loc.bO=some b))
 (aH:∀Z kr fK,(∀b,b<w.heap.size->¬aI N ρ own b->¬Z b)->hD Z w' kr fK iy ob):
 let own':=fN id (own.set id (false,ob))
 b4 N (ρ.set id iy) own' w'/\Fr ρ own w (ρ.set id iy) own' w'/\∀i,i≠id->eg ρ own (ρ.set id iy) own' i:=by
 intro own'
 have hlen:id<ρ.length:=by rw[h.len];exact de
 have cg:∀i,ad.at own' i=if i=id then ob else(ad.at own i).kill id:=fun i=>by
  show ad.at (fN id (own.set id (false,ob))) i=_
  rw[Gm,gx]
  by_cases e:i=id
  ·subst e;rw[asq ⟨rfl,de⟩,asq rfl];exact ab
  ·rw[asp (fun x=>e x.1.symm),asp e]
 have dy:∀i,frozenAt own' i=frozenAt own i:=fun i=>by
  show frozenAt (fN id (own.set id (false,ob))) i=_
  rw[XI,hS]
  split
  ·rename_i e;rw[<-e.1];exact aQ.symm
  ·rfl
 have iu:∀x,fU (ρ.set id iy) own' x->fU ρ own x\/w.heap.size<=x:=fun x ⟨i,l,aU,a_,bF⟩=>by
  rw[ata]at aU
  by_cases e:id=i
  ·rw[asq e,asq hlen]at aU
   obtain rfl:=asB aU
   rcases(nz x a_).2.2 with b2|⟨loc,aq,ae⟩
   ·exact .inr b2
   ·exact .inl ⟨id,loc,aq,ae,aQ⟩
  ·rw[asp e]at aU
   exact .inl ⟨i,l,aU,a_,by rw[<-dy];exact bF⟩
 have cr:Fr ρ own w (ρ.set id iy) own' w':=
  ⟨U,aa,al,ca,fun b ae aC=>rM b ae fun loc aq af=>aC ⟨id,loc,aq,af,aQ⟩,iu⟩
 have ey:∀i,i≠id->eg ρ own (ρ.set id iy) own' i:=fun i hi loc aq=>by
  refine⟨by rw[ata,asp (atb hi)];exact aq, ?_⟩
  rw[cg,asp hi];exact WU id _
 refine⟨?_,cr,ey⟩
 refine{len:=by simp[own',WV,h.len],fE:=fun b ae=>asR (h.fE b ae) ca,lt:= ?_,inj:= ?_,fr:= ?_,ob:= ?_}
 ·intro i loc b aq ae
  rw[ata]at aq
  by_cases e:id=i
  ·rw[asq e,asq hlen]at aq
   obtain rfl:=asB aq
   exact(nz b ae).1
  ·rw[asp e]at aq
   exact asR (h.lt i loc b aq ae) ca
 ·have back:∀i,id≠i->¬gE own' i->¬gE own i:=fun i e s ⟨s1,n,aj,s2⟩=>s ⟨by rw[dy];exact s1,n,aj,by rw[cg,asp (atb e),s2];rfl⟩
  have key:∀j b9 b,id≠j->ρ[j]? =some b9->b9.bO=some b->iy.bO=some b->¬gE own' j->False:=fun j b9 b e aK ae gT k8=>by
   rcases(nz b gT).2.2 with b2|⟨loc,aq,af⟩
   ·have:=h.lt j b9 b aK ae;omega
   ·exact e (h.inj id j loc b9 b aq aK af ae (np aQ) (back j e k8))
  intro i j li b9 b hi aK mo mq jF k8
  rw[ata]at hi aK
  by_cases e:id=i
  ·by_cases cd:id=j
   ·rw[<-e,<-cd]
   ·rw[asq e,asq hlen]at hi
    rw[asp cd]at aK
    obtain rfl:=asB hi
    exact(key j b9 b cd aK mq mo k8).elim
  ·rw[asp e]at hi
   by_cases cd:id=j
   ·rw[asq cd,asq hlen]at aK
    obtain rfl:=asB aK
    exact(key i li b e hi mo mq jF).elim
   ·rw[asp cd]at aK
    exact h.inj i j li b9 b hi aK mo mq (back i e jF) (back j cd k8)
 ·intro i loc b aq ae
  rw[ata]at aq
  by_cases e:id=i
  ·rw[asq e,asq hlen]at aq
   obtain rfl:=asB aq
   exact(nz b ae).2.1
  ·rw[asp e]at aq
   exact h.fr i loc b aq ae
 ·intro i loc aq
  rw[ata]at aq
  by_cases e:id=i
  ·rw[asq e,asq hlen]at aq
   obtain rfl:=asB aq
   rw[cg,asq e.symm]
   refine aH _ _ _ fun b ae bc cS=> ?_
   rcases cS with ar|aC
   ·exact bc (.inl ar)
   ·rcases iu b aC with b2|b2
    ·exact bc (.inr b2)
    ·omega
  ·rw[asp e]at aq
   rw[cg,asp (atb e)]
   have b1:=h.ob i loc aq
   by_cases jF:gE own i
   ·obtain⟨_,n,aj,s2⟩:=jF
    rw[s2];trivial
   have HX:∀b,loc.bO=some b->w'.heap[b]? =w.heap[b]? :=fun b ae=>
    rM b (h.lt i loc b aq ae) fun l ia af=>e (h.inj id i l loc b ia aq af ae (np aQ) jF)
   cases hs:ad.at own i with
   |cells l=>
    rw[hs]at b1
    obtain⟨b,aG,IY,aU,a_,bF,di,eB⟩:=b1
    refine⟨b,aG,IY,aU,a_,by rw[HX b a_];exact bF,by rw[c5,asy];exact di,fun k py=> ?_⟩
    rw[c5]at py⊢
    simp only[asy]at py
    have:=(eB k py).kill id (fun _ _=>cr.reads (N:=N)) ey
    simpa[ass,py]using this
   |_=>
    rw[hs]at b1
    exact b1.mono HX (fun _ _=>cr.reads) (fun l aq=>by cases aq)
end Go.bG
end
section
namespace Go.bG
section
variable {P:Program} {N:Nat->Prop} {ρ:List Loc} {own:aB} {w:World}
def Good (P:Program)(N:Nat->Prop)(ρ:List Loc)(own:aB)(w:World)(s:Sem Next)(v:J)(own':aB):Prop:=
 ∃my w' ρ' u,s.run P w= .ok my w'/\(my= .value u\/(my= .skip/\u=undef))/\Step N ρ own w ρ' own' w'/\bz (aI N ρ' own') w' ρ' own' v u
theorem Good.Ym (h:b4 N ρ own w){s:Sem Value}{u:Value}{v:J}(ao:s.run P w= .ok u w)(aM:bz (aI N ρ own) w ρ own v u):
 Good P N ρ own w (do pure (.value (<-s))) v own:=
 ⟨.value u,w,ρ,u,by simp[ao], .inl rfl,Step.refl h,aM⟩
theorem Good.xA (h:b4 N ρ own w){u:Value}{v:J}(aM:bz (aI N ρ own) w ρ own v u):
 Good P N ρ own w (pure (.value u)) v own:=⟨.value u,w,ρ,u,rfl, .inl rfl,Step.refl h,aM⟩
theorem WW (Z:Nat->Prop)(v:Value):bz Z w ρ own (sy v) v:=by
 have aE:∀v:Value,dE Z w ρ own (oB v) v:=by
  intro v
  unfold oB
  split
  ·exact .int _ _
  ·rfl
  ·rfl
  ·exact .str _ _ (by rw[c5];rfl)
  ·exact⟨none,rfl⟩
  ·rfl
  ·trivial
 cases v with
 |agg cs=>
  refine .gB ⟨cs,rfl,by simp[c5],fun i hi=> ?_⟩
  simp only[c5,atu,asy]at hi⊢
  have:(cs.toList.map oB).getD i .un=oB (cs.getD i undef):=by
   simp[ass,asA,hi]
  rw[this];exact aE _
 |_=>unfold sy;exact .cM (aE _)
theorem dK {tm:List J}{a:Act}(h:dC (aI N ρ own) w ρ own tm a.tmps)(x:Operand):bz (aI N ρ own) w ρ own (aS tm x) (a.eval x):=by
 cases x with
 |tmp t=>rw[aS,dp];exact h.at_ t
 |const v=>exact WW _ v
 |global g=>exact .cM trivial
 |func f=>exact .cM rfl
theorem iS {a b:IntKind}:iU a b=true↔a=b:=by cases a<;>cases b<;>simp[iU]
theorem iE {Z:Nat->Prop}{k:IntKind}{n:Int}{u:Value}(h:bz Z w ρ own (.d (.int k n)) u):u= .int k n:=by
 have h:Reads Z w (.int k n) u:=h
 cases h;rfl
theorem lW {Z:Nat->Prop}{b:Bool}{u:Value}(h:bz Z w ρ own (.d (.bool b)) u):u= .bool b:=by
 have h:Reads Z w (.bool b) u:=h
 cases h;rfl
theorem rf {Z:Nat->Prop}{l:List Int}{u:Value}(h:bz Z w ρ own (.d (.str l)) u):∃s:ByteArray,u= .string s/\l=s.data.toList.map fun b=>(b.toNat:Int):=by
 have h:Reads Z w (.str l) u:=h
 cases h with
 |str s _ kE=>exact⟨s,rfl,kE⟩
theorem nq {Z:Nat->Prop}(k:IntKind)(n:Int):bz Z w ρ own (.d (.int k n)) (.int k n):= .cM (Reads.int k n)
theorem jq {Z:Nat->Prop}(b:Bool):bz Z w ρ own (.d (.bool b)) (.bool b):= .cM (Reads.bool b)
theorem OG {cY:Operand}{b:Int}{tm:List J}{k:IntKind}(ae:aS tm cY= .d (.int k b))(h:∀p∈C4 cY b,p):b≠0:=by
 unfold C4 at h
 split at h
 ·rename_i b3 n
  simp[aS,sy,oB]at ae
  rw[<-ae.2]
  intro b2;omega
 ·exact h _ (by simp)
theorem Mp {cY:Operand}{b:Int}{tm:List J}{k:IntKind}(ae:aS tm cY= .d (.int k b))(h:∀p∈BN cY b,p):0<=b:=by
 unfold BN at h
 split at h
 ·rename_i b3 n
  simp[aS,sy,oB]at ae
  rw[<-ae.2]
  cases n with
  |ofNat m=>exact atm m
  |negSucc m=>exact(h False (by simp[isNeg])).elim
 ·exact h _ (by simp)
theorem UG {op:BinOp}{cY:Operand}{k:IntKind}{a b:Int}{safe:List Prop}{v:J}{own':aB}{tm:List J}
 (RX:aS tm cY= .d (.int k b)) (h:l4 op cY k a b own= .aR safe v own') (ao:∀p∈safe,p):
 ∃u,own'=own/\(binOp op 0 (.int k a) (.int k b)).run P w= .ok u w/\bz (aI N ρ own) w ρ own v u:=by
 have ab:∀n,bz (aI N ρ own) w ρ own (.d (.int k n)) (.int k n):=nq k
 cases op<;>simp only[l4,bH.aR.injEq,reduceCtorEq]at h<;>obtain⟨rfl,rfl,rfl⟩:=h
 case quo=>exact⟨_,rfl,by simp[binOp,Op.intDiv,OG RX ao],ab _⟩
 case rem=>exact⟨_,rfl,by simp[binOp,Op.intDiv,OG RX ao],ab _⟩
 case eql=>exact⟨_,rfl,by simp[binOp,Op.intCmp];rfl,by rw[show(a==b)=decide (a=b)from rfl];exact jq _⟩
 case neq=>exact⟨_,rfl,by simp[binOp,Op.intCmp];rfl,by rw[show(a !=b)= !decide (a=b)from rfl];exact jq _⟩
 case lss=>exact⟨_,rfl,by simp[binOp,Op.intCmp],jq _⟩
 case leq=>exact⟨_,rfl,by simp[binOp,Op.intCmp],jq _⟩
 case gtr=>exact⟨_,rfl,by simp[binOp,Op.intCmp],jq _⟩
 case geq=>exact⟨_,rfl,by simp[binOp,Op.intCmp],jq _⟩
 case add=>exact⟨_,rfl,by simp[binOp,Op.intArith],ab _⟩
 case sub=>exact⟨_,rfl,by simp[binOp,Op.intArith],ab _⟩
 case mul=>exact⟨_,rfl,by simp[binOp,Op.intArith],ab _⟩
 case and=>exact⟨_,rfl,by simp only[binOp,Op.intBits,ne_eq,not_true_eq_false,if_false];rfl,ab _⟩
 case or=>exact⟨_,rfl,by simp only[binOp,Op.intBits,ne_eq,not_true_eq_false,if_false];rfl,ab _⟩
 case xor=>exact⟨_,rfl,by simp only[binOp,Op.intBits,ne_eq,not_true_eq_false,if_false];rfl,ab _⟩
 case andNot=>exact⟨_,rfl,by simp only[binOp,Op.intBits,ne_eq,not_true_eq_false,if_false];rfl,ab _⟩
theorem q5 (op:BinOp)(t:TypeId)(x y:Operand)(a b:Value)(U:a≠ .nilIface)(aa:∀c,a≠ .agg c):(eqGuard op t x y a b).run P w= .ok () w:=by
 cases op<;>first|rfl|(cases a<;>first|exact absurd rfl U|exact absurd rfl (aa _)|rfl)
theorem pR {t:TypeId}{i:bQ}(hi:cE P t i=true)(h:h1 i.ty=true):∃e,P.underlying t=some (.slice e):=by
 unfold cE at hi
 split at hi<;>simp_all [h1]
theorem Mq {t:TypeId}{i:bQ}(hi:cE P t i=true)(h:i.ty= .bS .bool):P.underlying t=some .bool:=by
 unfold cE at hi
 rw[h]at hi
 split at hi<;>simp_all
theorem rh {t:TypeId}{i:bQ}(hi:cE P t i=true)(h:i.ty= .bS .str):P.underlying t=some .string:=by
 unfold cE at hi
 rw[h]at hi
 split at hi<;>simp_all
theorem TY {op:BinOp}{t:TypeId}{i:bQ}(hi:cE P t i=true){a b:Bool}{safe:List Prop}{v:J}{own':aB}
 (h:im op i.ty a b own= .aR safe v own'):
 ∃u,own'=own/\(binOp op t (.bool a) (.bool b)).run P w= .ok u w/\bz (aI N ρ own) w ρ own v u:=by
 unfold im at h
 split at h<;>simp only[bH.aR.injEq,reduceCtorEq]at h<;>obtain⟨rfl,rfl,rfl⟩:=h
 ·rename_i e
  have hu:=Mq hi e
  refine⟨.bool (a==b),rfl, ?_,jq _⟩
  simp only[binOp,Sem.run_bind,run_equal_bool w t a b hu,Result.andThen_ok,Sem.run_pure]
 ·rename_i e
  have hu:=Mq hi e
  refine⟨.bool (!(a==b)),rfl, ?_,jq _⟩
  simp only[binOp,Sem.run_bind,run_equal_bool w t a b hu,Result.andThen_ok,Sem.run_pure]
theorem OH {x y:ByteArray}:(x.toList==y.toList)=decide ((x.data.toList.map fun b=>(b.toNat:Int))=(y.data.toList.map fun b=>(b.toNat:Int))):=by
 rw[ByteArray.toList_eq,ByteArray.toList_eq,Bool.eq_iff_iff]
 simp only[beq_iff_eq,asw]
 constructor
 ·intro h;rw[h]
 ·intro h
  have:∀(p q:List UInt8),p.map (fun b=>(b.toNat:Int))=q.map (fun b=>(b.toNat:Int))->p=q:=by
   intro p
   induction p with
   |nil=>intro q aN;cases q<;>simp_all
   |cons c r bA=>
    intro q aN
    cases q with
    |nil=>simp at aN
    |cons d s=>
     simp only[asX,auc]at aN
     obtain⟨U,aa⟩:=aN
     have:c=d:=by apply UInt8.toNat_inj.1;omega
     rw[this,bA s aa]
  exact this _ _ h
theorem Tu (x y:List UInt8):Op.bytesLess x y=u0 (x.map fun b=>(b.toNat:Int)) (y.map fun b=>(b.toNat:Int)):=by
 induction x generalizing y with
 |nil=>cases y<;>simp[Op.bytesLess,u0]
 |cons a r bA=>
  cases y with
  |nil=>simp[Op.bytesLess,u0]
  |cons b s=>
   simp only[Op.bytesLess,u0,asX,bA]
   congr 1
   ·rw[Bool.eq_iff_iff];simp[UInt8.lt_iff_toNat_lt]
   ·congr 1
    rw[Bool.eq_iff_iff];simp[<-UInt8.toNat_inj];omega
theorem UH {op:BinOp}{t:TypeId}{i:bQ}(hi:cE P t i=true){cw cY:Operand}{tm:List J}{a:Act}(aA:dC (aI N ρ own) w ρ own tm a.tmps)
 {safe:List Prop} {v:J} {own':aB} (h:n5 op i.ty cY (aS tm cw) (aS tm cY) own= .aR safe v own') (ao:∀p∈safe,p):
 ∃u,own'=own/\(do eqGuard op t cw cY (a.eval cw) (a.eval cY);binOp op t (a.eval cw) (a.eval cY):Sem Value).run P w= .ok u w/\bz (aI N ρ own) w ρ own v u:=by
 have af:=dK aA cw
 have a6:=dK aA cY
 generalize hex:aS tm cw=x at*
 generalize qP:aS tm cY=y at*
 generalize a.eval cw=nV at*
 generalize a.eval cY=pN at*
 unfold n5 at h
 split at h
 ·
  rename_i k n b3 m
  have an:=iE af
  have az:=iE a6
  subst an az
  rw[Sem.run_bind,q5 _ _ _ _ _ _ (by simp) (by simp),Result.andThen_ok]
  split at h
  ·simp only[bH.aR.injEq]at h
   obtain⟨rfl,rfl,rfl⟩:=h
   have:=Mp qP ao
   exact⟨_,rfl,by simp[binOp,Op.shift,show ¬m<0 by omega],nq _ _⟩
  ·simp only[bH.aR.injEq]at h
   obtain⟨rfl,rfl,rfl⟩:=h
   have:=Mp qP ao
   exact⟨_,rfl,by simp[binOp,Op.shift,show ¬m<0 by omega],nq _ _⟩
  ·split at h
   ·rename_i ab
    obtain rfl:=iS.1 ab
    obtain⟨u,U,aa,al⟩:=UG (P:=P) (N:=N) (ρ:=ρ) (w:=w) qP h ao
    refine⟨u,U, ?_,al⟩
    rw[<-aa]
    cases op<;>first|rfl|(exfalso;simp_all;done)|(simp only[l4]at h;cases h)
   ·cases h
 ·
  rename_i l m
  obtain⟨s1,rfl,rfl⟩:=rf af
  obtain⟨s2,rfl,rfl⟩:=rf a6
  rw[Sem.run_bind,q5 _ _ _ _ _ _ (by simp) (by simp),Result.andThen_ok]
  split at h<;>simp only[bH.aR.injEq,reduceCtorEq]at h<;>obtain⟨rfl,rfl,rfl⟩:=h
  ·have hle:((s1.size+s2.size:Nat):Int)<=9223372036854775807:=by
    have:=ao _ (atr.2 rfl)
    simp only[asy,atu]at this
    have aa:((s1.size+s2.size:Nat):Int)=(s1.data.size:Int)+s2.data.size:=by rw[show s1.size=s1.data.size from rfl,show s2.size=s2.data.size from rfl];omega
    rw[aa];exact this
   refine⟨.string (s1++s2),rfl, ?_, ?_⟩
   ·have:¬((s1.size+s2.size:Nat):Int)>IntKind.i64.max:=by
     have:IntKind.i64.max=9223372036854775807:=by decide
     rw[this];omega
    simp only[binOp,Op.stringOp,asp this,Sem.run_pure]
   ·exact .cM (Reads.str _ _ (by rw[<-as7];congr 1))
  ·exact⟨_,rfl,by simp only[binOp,Op.stringOp,OH,Sem.run_pure],jq _⟩
  ·exact⟨_,rfl,by simp only[binOp,Op.stringOp,OH,Sem.run_pure],jq _⟩
  ·exact⟨_,rfl,by simp only[binOp,Op.stringOp,ByteArray.toList_eq,Tu,Sem.run_pure],jq _⟩
 ·split at h<;>cases h
 ·split at h<;>cases h
 rotate_right
 ·cases h
 all_goals
  (obtain⟨u,U,aa,al⟩:=TY (P:=P) (N:=N) (ρ:=ρ) (w:=w) hi h
   refine⟨u,U, ?_,al⟩
   first
    |(rename_i p q;have an:=lW af;have az:=lW a6;subst an az
      rw[Sem.run_bind,q5 _ _ _ _ _ _ (by simp) (by simp),Result.andThen_ok];exact aa)
    |(have an:=lW af;have az:pN= .bool _:=a6;subst an az
      rw[Sem.run_bind,q5 _ _ _ _ _ _ (by simp) (by simp),Result.andThen_ok];exact aa)
    |(have an:nV= .bool _:=af;have az:=lW a6;subst an az
      rw[Sem.run_bind,q5 _ _ _ _ _ _ (by simp) (by simp),Result.andThen_ok];exact aa)
    |(have an:nV= .bool _:=af;have az:pN= .bool _:=a6;subst an az
      rw[Sem.run_bind,q5 _ _ _ _ _ _ (by simp) (by simp),Result.andThen_ok];exact aa))
end
end Go.bG
end
section
namespace Go.bG
section
variable {P:Program} {N:Nat->Prop} {ρ:List Loc} {own:aB} {w:World}
theorem Ax {Z:Nat->Prop}{k:IntKind}{l:List Int}{u:Value}(h:bz Z w ρ own (.d (.ints k l)) u):
 ∃a cap,u= .slice a l.length cap/\l.length<=cap/\(a=none->l=[]):=by
 have h:Reads Z w (.ints k l) u:=h
 cases h with
 |h4 a cap=>exact⟨a,cap,rfl,by simp,fun _=>rfl⟩
 |ints _ _ n b off cap ar bc ay h=>exact⟨_,cap,by rw[ar],by rw[ar];exact ay,fun h=>by cases h⟩
theorem EI {Z:Nat->Prop}{aj:Nat}{l:List (List R)}{u:Value}(h:bz Z w ρ own (.d (.rows aj l)) u):
 ∃a cap,u= .slice a l.length cap/\l.length<=cap/\(a=none->l=[]):=by
 have h:Reads Z w (.rows aj l) u:=h
 cases h with
 |jK a cap=>exact⟨a,cap,rfl,by simp,fun _=>rfl⟩
 |rows _ _ n b off cap _ ar _ bc ay h=>exact⟨_,cap,by rw[ar],by rw[ar];exact ay,fun h=>by cases h⟩
theorem WX {Z:Nat->Prop}{x:R}{t:aO}{u:Value}(aQ:gq t x=true)(h:Reads Z w x u)(cV:0<x.len):
 ∃b off cap,u= .slice (some ⟨b,off,none⟩) x.len cap:=by
 cases h with
 |h4 a cap=>simp[R.len]at cV
 |ints _ l n b off cap ar bc ay h=>exact⟨b,off,cap,by simp[R.len,ar]⟩
 |jK a cap=>simp[R.len]at cV
 |rows _ l n b off cap _ ar _ bc ay h=>exact⟨b,off,cap,by simp[R.len,ar]⟩
 |_=>cases t<;>simp[gq]at aQ
theorem q9 {t:TypeId}{i:bQ}(hi:cE P t i=true){x:R}(aQ:gq i.ty x=true):
 ∃e g,P.underlying t=some (.slice e)/\P.info? e=some g/\g.size=x.ch/\0<x.ch/\g.bytes=i.bytes:=by
 unfold cE at hi
 cases x<;>cases bV:i.ty<;>simp only[bV,gq,atF]at aQ<;>rename_i s<;>cases s<;>
  simp only[atF]at aQ<;>simp only[bV]at hi
 ·split at hi<;>simp_all
  split at hi<;>simp_all [R.ch]
 ·split at hi<;>simp_all
  split at hi<;>simp_all [R.ch]
theorem mD (b off n:Nat):(⟨b,off,none⟩:Addr).add n=⟨b,off+n,none⟩:=by unfold Addr.add;split<;>simp_all
theorem k_ {t:TypeId}{g:TypeInfo}(h:P.info? t=some g):(sizeOf t).run P w= .ok g.size w:=by simp[sizeOf,typeInfo,h]
theorem XJ {v:Value}(h:oB v= .emp):v= .slice none 0 0:=by
 unfold oB at h;split at h<;>first|rfl|cases h
theorem Qm {v:Value}(h:sy v= .emp):v= .slice none 0 0:=by
 cases v with
 |agg c=>cases h
 |_=>exact XJ h
theorem WY {op:BinOp}{t:TypeId}{i:bQ}(hi:cE P t i=true){cw cY:Operand}{tm:List J}{a:Act}(aA:dC (aI N ρ own) w ρ own tm a.tmps)
 {p:Bool->Prop} (h:n5 op i.ty cY (aS tm cw) (aS tm cY) own= .e0 p):
 ∃b,p b/\(do eqGuard op t cw cY (a.eval cw) (a.eval cY);binOp op t (a.eval cw) (a.eval cY):Sem Value).run P w= .ok (.bool b) w:=by
 have af:=dK aA cw
 generalize hex:aS tm cw=x at*
 generalize qP:aS tm cY=y at*
 unfold n5 at h
 have Dz:∀v,cY= .const v->y= .emp->a.eval cY= .slice none 0 0:=by
  intro v aM a6
  subst aM
  rw[a6]at qP
  exact Qm qP
 have key:∀u:Value,(∃e4 l cap,u= .slice e4 l cap)->∀e4 l cap,u= .slice e4 l cap->h1 i.ty=true->a.eval cY= .slice none 0 0->
  (op= .eql->(do eqGuard op t cw cY u (a.eval cY);binOp op t u (a.eval cY):Sem Value).run P w= .ok (.bool e4.isNone) w)/\
  (op= .neq->(do eqGuard op t cw cY u (a.eval cY);binOp op t u (a.eval cY):Sem Value).run P w= .ok (.bool (!e4.isNone)) w):=by
  intro u _ e4 l cap hu jW aah
  subst hu
  rw[aah]
  obtain⟨e,he⟩:=pR hi jW
  constructor
  ·rintro rfl
   rw[Sem.run_bind,q5 _ _ _ _ _ _ (by simp) (by simp),Result.andThen_ok]
   simp only[binOp,Sem.run_bind,run_equal_slice_nil w t e e4 l cap he,Result.andThen_ok,Sem.run_pure]
  ·rintro rfl
   rw[Sem.run_bind,q5 _ _ _ _ _ _ (by simp) (by simp),Result.andThen_ok]
   simp only[binOp,Sem.run_bind,run_equal_slice_nil w t e e4 l cap he,Result.andThen_ok,Sem.run_pure]
 split at h
 ·split at h
  ·cases h
  ·cases h
  ·split at h
   ·cases op<;>simp[l4]at h
   ·cases h
 ·split at h<;>cases h
 ·rename_i zx l
  obtain⟨e4,cap,hu,_,ar⟩:=Ax af
  split at h<;>simp only[bH.e0.injEq,reduceCtorEq]at h<;>subst h
  ·rename_i _ v jW
   exact⟨e4.isNone,fun ae=>ar (by simpa using ae),(key _ ⟨_,_,_,hu⟩ _ _ _ hu jW (Dz v rfl rfl)).1 rfl⟩
  ·rename_i _ v jW
   exact⟨!e4.isNone,fun ae=>ar (by simpa using ae),(key _ ⟨_,_,_,hu⟩ _ _ _ hu jW (Dz v rfl rfl)).2 rfl⟩
 ·rename_i zx l
  obtain⟨e4,cap,hu,_,ar⟩:=EI af
  split at h<;>simp only[bH.e0.injEq,reduceCtorEq]at h<;>subst h
  ·rename_i _ v jW
   exact⟨e4.isNone,fun ae=>ar (by simpa using ae),(key _ ⟨_,_,_,hu⟩ _ _ _ hu jW (Dz v rfl rfl)).1 rfl⟩
  ·rename_i _ v jW
   exact⟨!e4.isNone,fun ae=>ar (by simpa using ae),(key _ ⟨_,_,_,hu⟩ _ _ _ hu jW (Dz v rfl rfl)).2 rfl⟩
 all_goals
  first
  |(simp only[im]at h;split at h<;>cases h)
  |cases h
theorem Vt {op:UnOp}{cw:Operand}{tm:List J}{a:Act}(aA:dC (aI N ρ own) w ρ own tm a.tmps)
 {safe:List Prop} {v:J} {own':aB} (h:vh op (aS tm cw) own= .aR safe v own'):
 ∃u,own'=own/\(Op.unary op (a.eval cw)).run P w= .ok u w/\bz (aI N ρ own) w ρ own v u:=by
 have af:=dK aA cw
 generalize aS tm cw=x at*
 generalize a.eval cw=nV at*
 unfold vh at h
 split at h<;>simp only[bH.aR.injEq,reduceCtorEq]at h<;>obtain⟨rfl,rfl,rfl⟩:=h
 ·have:=iE af;subst this
  exact⟨_,rfl,by simp[Op.unary,Op.intArith],nq _ _⟩
 ·have:=iE af;subst this
  exact⟨_,rfl,by simp only[Op.unary,Op.intBits];rfl,nq _ _⟩
 ·have:=lW af;subst this
  exact⟨_,rfl,rfl,jq _⟩
 ·have af:nV= .bool true:=af
  subst af
  exact⟨_,rfl,rfl,rfl⟩
 ·have af:nV= .bool false:=af
  subst af
  exact⟨_,rfl,rfl,rfl⟩
theorem TZ {q4 cw cY:Operand}{tm:List J}{a:Act}(aA:dC (aI N ρ own) w ρ own tm a.tmps)
 {safe:List Prop} {v:J} {own':aB} (h:u1 (aS tm q4) (aS tm cw) (aS tm cY) own= .aR safe v own'):
 ∃b,own'=own/\a.eval q4= .bool b/\bz (aI N ρ own) w ρ own v (if b then a.eval cw else a.eval cY):=by
 have ay:=dK aA q4
 have af:=dK aA cw
 have a6:=dK aA cY
 generalize aS tm q4=c at*
 generalize aS tm cw=x at*
 generalize aS tm cY=y at*
 unfold u1 at h
 split at h
 ·simp only[bH.aR.injEq]at h;obtain⟨rfl,rfl,rfl⟩:=h
  exact⟨true,rfl,ay,by simpa using af⟩
 ·simp only[bH.aR.injEq]at h;obtain⟨rfl,rfl,rfl⟩:=h
  exact⟨false,rfl,ay,by simpa using a6⟩
 ·rename_i b
  have ae:=lW ay
  split at h
  ·simp only[bH.aR.injEq]at h;obtain⟨rfl,rfl,rfl⟩:=h
   refine⟨b,rfl,ae, ?_⟩
   rw[lW af,lW a6];cases b<;>exact jq _
  ·simp only[bH.aR.injEq]at h;obtain⟨rfl,rfl,rfl⟩:=h
   refine⟨b,rfl,ae, ?_⟩
   rw[show a.eval cw= .bool true from af,lW a6];cases b<;>exact jq _
  ·simp only[bH.aR.injEq]at h;obtain⟨rfl,rfl,rfl⟩:=h
   refine⟨b,rfl,ae, ?_⟩
   rw[lW af,show a.eval cY= .bool false from a6];cases b<;>exact jq _
  ·simp only[bH.aR.injEq]at h;obtain⟨rfl,rfl,rfl⟩:=h
   refine⟨b,rfl,ae, ?_⟩
   rw[show a.eval cw= .bool true from af,show a.eval cY= .bool false from a6];cases b<;>exact jq _
  ·split at h
   ·simp only[bH.aR.injEq]at h;obtain⟨rfl,rfl,rfl⟩:=h
    rename_i ab
    obtain rfl:=iS.1 ab
    refine⟨b,rfl,ae, ?_⟩
    rw[iE af,iE a6];cases b<;>exact nq _ _
   ·cases h
  ·cases h
 ·cases h
theorem T0 {cw:Operand}{n:Nat}{tm:List J}{a:Act}(aA:dC (aI N ρ own) w ρ own tm a.tmps){l:List J}(h:aS tm cw= .tup l):
 n<l.length->∃u,(Instr.extract (a.eval cw) n).run P w= .ok u w/\bz (aI N ρ own) w ρ own (bT .any l n) u:=by
 intro ar
 have af:=dK aA cw
 rw[h]at af
 obtain⟨arr,U,aa,al⟩:=af
 have bB:n<arr.size:=by rw[aa];exact ar
 refine⟨arr[n],by simp[Instr.extract,U,bB], ?_⟩
 have:=al n ar
 rw[dp]
 simp only[ass,asI ar,atv,asA,aud bB]at this⊢
 exact .gB this
theorem Vu {t:TypeId}{i:bQ}(hi:cE P t i=true){x:J}{u:Value}(af:bz (aI N ρ own) w ρ own x u){n:Nat}(h:tf i.ty x own=some n)(ts:List TypeId)(ty:TypeId):
 (Builtin.len_ (t::ts).toArray ty #[u]).run P w= .ok (.int .i64 n) w:=by
 unfold tf at h
 split at h
 ·split at h
  ·rename_i ao
   simp at h;subst h
   obtain⟨s,rfl,rfl⟩:=rf af
   have:=rh hi ao
   have aa:(Builtin.len_ (t::ts).toArray ty #[.string s]).run P w= .ok (goInt s.size) w:=by simp[Builtin.len_,underlying,this]
   rw[aa,goInt,asy,atu];rfl
  ·cases h
 ·split at h
  ·rename_i ao
   simp at h;subst h
   obtain⟨e4,cap,rfl,_⟩:=Ax af
   obtain⟨e,he⟩:=pR hi ao
   simp[Builtin.len_,underlying,he,goInt]
  ·cases h
 ·split at h
  ·rename_i ao
   simp at h;subst h
   obtain⟨e4,cap,rfl,_⟩:=EI af
   obtain⟨e,he⟩:=pR hi ao
   simp[Builtin.len_,underlying,he,goInt]
  ·cases h
 ·split at h
  ·rename_i ao
   simp at h;subst h
   obtain⟨loc,_,rfl,_⟩:=af
   obtain⟨e,he⟩:=pR hi ao
   simp[Builtin.len_,underlying,he,goInt]
  ·cases h
 ·split at h
  ·rename_i ao
   simp at h;subst h
   obtain⟨e4,rfl⟩:=af
   obtain⟨e,he⟩:=pR hi ao
   simp[Builtin.len_,underlying,he,goInt]
  ·cases h
 ·cases h
end
end Go.bG
end
section
namespace Go.bG
section
variable {P:Program} {N:Nat->Prop} {ρ:List Loc} {own:aB} {w:World}
theorem LO {t:aO}{o:ad}(h:iV t o=true):gq t o.data=true/\o.data.ch=o.ch/\o.data.len=o.len:=by
 cases t with
 |bS s=>cases o<;>cases s<;>simp_all [iV,gq,ad.data,R.ch,ad.ch,R.len,ad.len]
 |_=>cases o<;>simp[iV]at h
theorem Yn {id:Nat}{loc:Loc}{t:aO}(h:hD (aI N ρ own) w ρ own loc (ad.at own id))(aQ:iV t (ad.at own id)=true)(cV:0<(ad.at own id).len):
 ∃b,loc.a=some ⟨b,0,none⟩/\loc.bO=some b:=by
 cases aH:ad.at own id with
 |ints k l=>
  rw[aH]at h cV
  rcases h with⟨rfl,_⟩|⟨b,aG,e,U,aa,_⟩
  ·simp[ad.len]at cV
  ·exact⟨b,U,aa⟩
 |rows aj l=>
  rw[aH]at h cV
  rcases h with⟨rfl,_⟩|⟨b,aG,e,U,aa,_⟩
  ·simp[ad.len]at cV
  ·exact⟨b,U,aa⟩
 |_=>rw[aH]at aQ;simp[iV]at aQ
theorem run_indexAt_slice {t:TypeId}{e:TypeId}{g:TypeInfo}(hu:P.underlying t=some (.slice e))(aT:P.info? e=some g)(b off len cap:Nat)(k:IntKind)(n:Int)
 (aE:0<=n) (U:n<(len:Int)):
 (Instr.indexAt t (.slice (some ⟨b,off,none⟩) len cap) (.int k n)).run P w= .ok (.pointer (some ⟨b,off+n.toNat*g.size,none⟩)) w:=by
 simp[Instr.indexAt,asIntOf,underlying,hu,k_ aT,aE,U,mD]
theorem w1 {t:TypeId}{i:bQ}(hi:cE P t i=true){n:Nat}{e:aO}{cs:List b0}(h:i.ty= .arr n e cs):
 ∃el g,P.underlying t=some (.array n el)/\P.info? el=some g/\g.size=e.size:=by
 unfold cE at hi
 rw[h]at hi
 split at hi<;>simp_all
 rename_i el _ _ _
 obtain⟨g,aT⟩:=auA.1 hi.1.1.2
 exact⟨g,aT,by rw[<-hi.1.1.1.1.2];simp[Program.cellsOf,aT]⟩
theorem UI {t:TypeId}{i:bQ}(hi:cE P t i=true){n:Nat}{e:aO}{cs:List b0}(h:i.ty= .arr n e cs):
 ∃el g d,P.underlying t=some (.array n el)/\P.info? el=some g/\g.size=e.size/\P.underlying el=some d/\n8 d=e.isAgg:=by
 unfold cE at hi
 rw[h]at hi
 split at hi<;>simp_all
 rename_i el _ _ _
 obtain⟨g,aT⟩:=auA.1 hi.1.1.2
 obtain⟨d,aP⟩:=auA.1 hi.1.2
 refine⟨g,aT,by rw[<-hi.1.1.1.1.2];simp[Program.cellsOf,aT],d,aP, ?_⟩
 have:=hi.2
 simpa[Cw,aP]using this
theorem run_indexAt_array {t:TypeId}{m e:Nat}{g:TypeInfo}(hu:P.underlying t=some (.array m e))(aT:P.info? e=some g)(b off:Nat)(k:IntKind)(n:Int)
 (aE:0<=n) (U:n<(m:Int)):
 (Instr.indexAt t (.pointer (some ⟨b,off,none⟩)) (.int k n)).run P w= .ok (.pointer (some ⟨b,off+n.toNat*g.size,none⟩)) w:=by
 simp[Instr.indexAt,Instr.sureAddr,asIntOf,underlying,hu,k_ aT,aE,U,mD]
theorem Ay (j:Nat)(n:Int):placeOf j n=j+n.toNat:=by
 unfold placeOf
 split
 ·rename_i h;rw[ast h,as0]
 ·rfl
theorem Vw {t:TypeId}{i:bQ}(hi:cE P t i=true){x:J}{u:Value}(af:bz (aI N ρ own) w ρ own x u){k:IntKind}{n:Int}
 {safe:List Prop} {v:J} {own':aB} (h:oc i.ty x n own= .aR safe v own') (ao:∀p∈safe,p):
 ∃cy,own'=own/\(Instr.indexAt t u (.int k n)).run P w= .ok cy w/\bz (aI N ρ own) w ρ own v cy:=by
 unfold oc at h
 split at h
 ·rename_i m s cs bV
  obtain⟨el,g,q1,cb,cu⟩:=w1 hi bV
  have cu:g.size=1:=cu
  split at h
  ·rename_i id a j
   split at h
   ·rename_i aj l aH
    split at h
    ·rename_i ae
     have ae:j+m<=aj:=asV ae
     simp only[bH.aR.injEq]at h
     obtain⟨rfl,rfl,rfl⟩:=h
     have aE:0<=n:=ao _ (by simp)
     have U:n<(m:Int):=ao _ (by simp)
     obtain⟨loc,b,an,az,bK,cm,eL,hx⟩:=af
     have bc:(ad.at own id).ch=aj:=by rw[aH];rfl
     refine⟨_,rfl,by rw[cm];exact run_indexAt_array q1 cb b _ k n aE U, .cM ⟨loc,b,an,az,bK, ?_,eL,hx, ?_⟩⟩
     ·rw[cu,Ay];simp only[asY,atn]
     ·rw[bc,Ay];omega
    ·cases h
   ·cases h
  ·rename_i aj l a j
   split at h
   ·rename_i ae
    have ae:j+m<=aj:=asV ae
    simp only[bH.aR.injEq]at h
    obtain⟨rfl,rfl,rfl⟩:=h
    have aE:0<=n:=ao _ (by simp)
    have U:n<(m:Int):=ao _ (by simp)
    obtain⟨b,off,cap,an,az,bK,cm⟩:=af
    refine⟨_,rfl,by rw[cm];exact run_indexAt_array q1 cb b _ k n aE U, .cM ⟨b,off,cap,an,az,bK, ?_, ?_⟩⟩
    ·rw[Ay];show j+n.toNat<aj;omega
    ·rw[cu,Ay];simp only[asY,atn]
   ·cases h
  ·cases h
 ·cases h
theorem S_ {t:TypeId}{i:bQ}(hi:cE P t i=true)(bx:b4 N ρ own w){cw uj:Operand}{tm:List J}{a:Act}(aA:dC (aI N ρ own) w ρ own tm a.tmps)
 {safe:List Prop} {v:J} {own':aB} (h:pS i.ty (aS tm cw) (aS tm uj) own= .aR safe v own') (ao:∀p∈safe,p):
 ∃u,own'=own/\(Instr.indexAt t (a.eval cw) (a.eval uj)).run P w= .ok u w/\bz (aI N ρ own) w ρ own v u:=by
 have af:=dK aA cw
 have a6:=dK aA uj
 generalize aS tm cw=x at*
 generalize aS tm uj=y at*
 unfold pS at h
 split at h
 ·rename_i k n
  have an:=iE a6
  split at h
  ·rename_i x
   split at h
   ·rename_i aQ
    simp only[bH.aR.injEq]at h
    obtain⟨rfl,rfl,rfl⟩:=h
    have aE:0<=n:=ao _ (by simp)
    have U:n<(x.len:Int):=ao _ (by simp)
    have gJ:Reads (aI N ρ own) w x (a.eval cw):=af
    obtain⟨b,off,cap,hu⟩:=WX aQ gJ (by omega)
    obtain⟨e,g,he,aT,ca,nA,_⟩:=q9 hi aQ
    refine⟨.pointer (some ⟨b,off+n.toNat*g.size,none⟩),rfl, ?_, .cM ⟨b,off,cap,hu▸gJ,aE,U,by rw[ca];simp⟩⟩
    rw[hu,an]
    exact run_indexAt_slice he aT b off _ cap k n aE U
   ·cases h
  ·rename_i id
   split at h
   ·rename_i aQ
    simp only[bH.aR.injEq]at h
    obtain⟨rfl,rfl,rfl⟩:=h
    have aE:0<=n:=ao _ (by simp)
    have U:n<((ad.at own id).len:Int):=ao _ (by simp)
    obtain⟨loc,aq,hu,_⟩:=af
    obtain⟨b,fZ,dr⟩:=Yn (bx.ob id loc aq) aQ (by omega)
    obtain⟨tT,aak,_⟩:=LO aQ
    obtain⟨e,g,he,aT,ca,nA,_⟩:=q9 hi tT
    refine⟨.pointer (some ⟨b,0+n.toNat*g.size,none⟩),rfl, ?_, .cM ⟨loc,b,aq,fZ,dr,by rw[ca,aak];simp,aE,U⟩⟩
    rw[hu,an,fZ]
    exact run_indexAt_slice he aT b 0 _ _ k n aE U
   ·cases h
  ·simp only[bH.aR.injEq]at h
   obtain⟨rfl,_⟩:=h
   exact(ao False (by simp)).elim
  ·rw[an];exact Vw hi af h ao
 ·cases h
theorem sE {Z:Nat->Prop}{s:b0}{x:R}{u:Value}(h:Reads Z w x u)(aH:s.pa x):dE Z w ρ own (s.take x) u:=by
 cases s<;>cases x<;>simp only[b0.pa,R.isInt,R.isBool,R.isStr,R.eM,R.Qe]at aH<;>simp only[b0.take,R.toInt,R.toBool,R.toStr,R.b6,R.Qf]<;>
  first
  |exact h
  |(subst aH;exact h)
theorem T1 {Z:Nat->Prop}(x:R)(i:Nat)(u:Nat->Value):∀(cs:List b0) (j:Nat),(∀m,m<cs.length->Reads Z w (x.cell i (j+m)) (u (j+m)))->(∀p∈(qm cs x i j).1,p)->
 (qm cs x i j).2.length=cs.length/\∀m,m<cs.length->dE Z w ρ own ((qm cs x i j).2.getD m .un) (u (j+m)):=by
 intro cs
 induction cs with
 |nil=>intro j _ _;simp[qm]
 |cons s cB bA=>
  intro j ak ao
  simp only[qm]at ao⊢
  have aE:=ak 0 (by simp)
  have ev:=ao _ (auk ..)
  obtain⟨U,aa⟩:=bA (j+1) (fun m hm=>by have:=ak (m+1) (by simp;omega);rwa [show j+(m+1)=j+1+m by omega]at this) (fun p aw=>ao p (at3 _ aw))
  refine⟨by simpa using U,fun m hm=> ?_⟩
  cases m with
  |zero=>exact sE aE ev
  |succ m=>
   have:=aa m (by simpa using hm)
   rw[show j+(m+1)=j+1+m by omega]
   simpa using this
theorem pY {t:TypeId}{d:TypeDesc}(h:P.underlying t=some d):(isAgg t).run P w= .ok (n8 d) w:=by
 simp only[isAgg,Sem.run_bind,run_underlying h,Result.andThen_ok]
 cases d<;>rfl
theorem BP {t:TypeId}{i:bQ}(hi:cE P t i=true){s:b0}(ao:i.ty= .bS s)(b o:Nat){v:Value}(ay:w.cell? ⟨b,o,none⟩=some v):
 (loadVar t ⟨b,o,none⟩).run P w= .ok v w:=by
 have:∃d,P.underlying t=some d/\n8 d=false:=by
  unfold cE at hi
  rw[ao]at hi
  split at hi<;>simp_all [n8]
 obtain⟨d,U,aa⟩:=this
 simp[loadVar,pY U,aa,ay]
theorem XK {t:TypeId}{i:bQ}(hi:cE P t i=true){s:b0}(ao:i.ty= .bS s):∃g,P.info? t=some g/\g.size=1:=by
 unfold cE at hi
 rw[ao]at hi
 split at hi<;>simp_all
theorem uQ {t:TypeId}{i:bQ}(hi:cE P t i=true){cs:List b0}(ao:(∃bM,i.ty= .struct bM cs)\/∃n e,i.ty= .arr n e cs):
 ∃g d,P.info? t=some g/\g.size=cs.length/\P.underlying t=some d/\n8 d=true/\∃z,g.zero=some z/\lZ cs z.cells.toList=true:=by
 unfold cE at hi
 rcases ao with⟨bM,ao⟩|⟨n,e,ao⟩<;>rw[ao]at hi<;>split at hi<;>simp_all [n8,cf,m2]
 all_goals
  rename_i g _ _ _ _
  cases bc:g.zero<;>simp_all
theorem Bh {t:TypeId}{i:bQ}(hi:cE P t i=true){cs:List b0}(ao:(∃bM,i.ty= .struct bM cs)\/∃n e,i.ty= .arr n e cs)(b o:Nat)(u:Nat->Value)
 (ay:∀m,m<cs.length->w.cell? ⟨b,o+m,none⟩=some (u m)):(loadVar t ⟨b,o,none⟩).run P w= .ok (.agg ((List.range cs.length).map u).toArray) w:=by
 obtain⟨g,d,U,aa,al,aL,_⟩:=uQ hi ao
 have bo:=run_loadCells (P:=P) w ⟨b,o,none⟩ cs.length u (fun j aK=>by rw[mD];exact ay j aK)
 simp[loadVar,pY al,aL,k_ U,aa,bo]
theorem AK (u:Nat->Value)(n m:Nat)(h:m<n):((List.range n).map u).toArray.getD m undef=u m:=by
 simp[asA,h]
theorem EJ {r:List R}{j n aj:Nat}(ak:r.length=aj)(h:j+n<=aj):(kM r j n aj).length=n/\∀m,m<n->(kM r j n aj).getD m .undef=r.getD (j+m) .undef:=by
 unfold kM
 split
 ·rename_i aK
  obtain rfl:=ast aK
  split
  ·rename_i ar
   obtain rfl:=ast ar
   exact⟨ak,fun m _=>by rw[as0]⟩
  ·refine⟨by rw[asW];omega,fun m hm=> ?_⟩
   rw[ass,ath,asq hm,as0,ass]
 ·refine⟨by rw[asW,atA];omega,fun m hm=> ?_⟩
  rw[ass,ath,asq hm,atK,ass]
theorem OI {t:TypeId}{i:bQ}(hi:cE P t i=true){cs:List b0}(bV:(∃bM,i.ty= .struct bM cs)\/∃n e,i.ty= .arr n e cs){r:List R}{j aj:Nat}(ak:r.length=aj)(aK:j+cs.length<=aj)
 (b o:Nat) (u:Nat->Value) (ay:∀m,m<aj->w.cell? ⟨b,o+m,none⟩=some (u m)) (hu:∀m,m<aj->Reads (aI N ρ own) w (r.getD m .undef) (u m)):
 ∃v,(loadVar t ⟨b,o+j,none⟩).run P w= .ok v w/\bz (aI N ρ own) w ρ own (.rw cs.length (kM r j cs.length aj)) v:=by
 obtain⟨U,aa⟩:=EJ ak aK
 refine⟨_,Bh hi bV b (o+j) (fun m=>u (j+m)) (fun m hm=>by rw[atn];exact ay (j+m) (by omega)), .gB ⟨_,rfl,by simp,U,fun m hm=> ?_⟩⟩
 rw[AK _ _ _ hm,aa m hm]
 exact hu (j+m) (by omega)
theorem La {t:TypeId}{i:bQ}(hi:cE P t i=true){x:R}{n:Int}{j:Nat}{safe:List Prop}{v:J}{own':aB}
 (h:loadData i.ty x n j own= .aR safe v own') (ao:∀p∈safe,p) (b o:Nat) (u:Nat->Value)
 (ay:∀m,m<x.ch->w.cell? ⟨b,o+m,none⟩=some (u m)) (ak:∀m,m<x.ch->Reads (aI N ρ own) w (x.cell n.toNat m) (u m)):
 ∃u,own'=own/\(loadVar t ⟨b,o+j,none⟩).run P w= .ok u w/\bz (aI N ρ own) w ρ own v u:=by
 unfold loadData at h
 split at h
 ·rename_i k l
  split at h
  ·rename_i b3 bV vA
   obtain rfl:=ast vA
   split at h
   ·rename_i ab
    simp only[bH.aR.injEq]at h
    obtain⟨rfl,rfl,rfl⟩:=h
    obtain rfl:=iS.1 ab
    refine⟨u 0,rfl,BP hi bV b _ (ay 0 (by simp[R.ch])), ?_⟩
    have:=ak 0 (by simp[R.ch])
    exact .cM this
   ·cases h
  ·cases h
 ·rename_i aj l
  split at h
  ·rename_i ae
   have ae:j+i.ty.size<=aj:=asV ae
   have ca:(R.rows aj l).ch=aj:=rfl
   rw[ca]at ay ak
   split at h
   ·rename_i s bV
    simp only[bH.aR.injEq]at h
    obtain⟨rfl,rfl,rfl⟩:=h
    have aK:j<aj:=by rw[bV]at ae;simp[aO.size]at ae;omega
    exact⟨u j,rfl,BP hi bV b _ (ay j aK), .cM (sE (ak j aK) (ao _ (by simp)))⟩
   ·rename_i bM cs bV
    have aK:j+cs.length<=aj:=by rw[bV]at ae;simpa[aO.size,cf]using ae
    split at h
    ·simp only[bH.aR.injEq]at h
     obtain⟨rfl,rfl,rfl⟩:=h
     have hlen:(l.getD n.toNat []).length=aj:=ao _ (by simp)
     rw[cf]
     obtain⟨v,aU,a_⟩:=OI (P:=P) (N:=N) (ρ:=ρ) (own:=own) hi (.inl ⟨bM,bV⟩) hlen aK b o u ay ak
     exact⟨v,rfl,aU,a_⟩
    simp only[bH.aR.injEq]at h
    obtain⟨rfl,rfl,rfl⟩:=h
    obtain⟨U,aa⟩:=T1 (w:=w) (ρ:=ρ) (own:=own) (.rows aj l) n.toNat u cs j (fun m hm=>ak (j+m) (by omega)) ao
    refine⟨_,rfl,Bh hi (.inl ⟨bM,bV⟩) b (o+j) (fun m=>u (j+m)) (fun m hm=>by rw[atn];exact ay (j+m) (by omega)), .gB ⟨_,rfl,by simp[U],fun m hm=> ?_⟩⟩
    rw[U]at hm
    rw[AK _ _ _ hm]
    exact aa m hm
   ·rename_i n' e cs bV
    have aK:j+cs.length<=aj:=by rw[bV]at ae;simpa[aO.size,cf]using ae
    simp only[bH.aR.injEq]at h
    obtain⟨rfl,rfl,rfl⟩:=h
    have hlen:(l.getD n.toNat []).length=aj:=ao _ (by simp)
    rw[cf]
    obtain⟨v,aU,a_⟩:=OI (P:=P) (N:=N) (ρ:=ρ) (own:=own) hi (.inr ⟨n',e,bV⟩) hlen aK b o u ay ak
    exact⟨v,rfl,aU,a_⟩
   ·cases h
  ·cases h
 ·cases h
theorem Ex {Z:Nat->Prop}{x:R}{b off cap:Nat}(h:Reads Z w x (.slice (some ⟨b,off,none⟩) x.len cap))(n:Nat)(ar:n<x.len):
 ∃u:Nat->Value,(∀m,m<x.ch->w.cell? ⟨b,off+n*x.ch+m,none⟩=some (u m))/\∀m,m<x.ch->Reads Z w (x.cell n m) (u m):=by
 generalize kA:x.len=L at*
 cases h with
 |h4 a cap k=>simp[R.len]at kA;omega
 |ints k l n' b off cap aq bc ay gA=>
  refine⟨fun _=> .int k (l.getD n 0),fun m hm=> ?_,fun m hm=> .int _ _⟩
  simp only[R.ch]at hm⊢
  have:=gA n ar
  rw[show off+n*1+m=off+n by omega];exact this
 |jK a cap aj=>simp[R.len]at kA;omega
 |rows aj l n' b off cap u aq ca bc ay gA ak=>exact⟨fun m=>u n m,fun m hm=>gA n m ar hm,fun m hm=>ak n m ar hm⟩
 |undef v h=>simp[R.len]at kA;omega
theorem Np {Z:Nat->Prop}{loc:Loc}{o:ad}{b:Nat}(h:hD Z w ρ own loc o)(ae:loc.a=some ⟨b,0,none⟩)(n:Nat)(ar:n<o.data.len):
 ∃u:Nat->Value,(∀m,m<o.data.ch->w.cell? ⟨b,n*o.data.ch+m,none⟩=some (u m))/\∀m,m<o.data.ch->Reads Z w (o.data.cell n m) (u m):=by
 cases o with
 |gone=>simp[ad.data,R.len]at ar
 |dead _ _=>simp[ad.data,R.len]at ar
 |map _ _ _=>simp[ad.data,R.len]at ar
 |cells l=>simp[ad.data,R.len]at ar
 |ints k l=>
  simp only[ad.data,R.len,R.ch,R.cell]at*
  rcases h with⟨rfl,_⟩|⟨ee,aG,e,U,aa,al,aL,bo,bX⟩
  ·simp at ar
  ·rw[ae]at U;simp at U;subst U
   refine⟨fun _=> .int k (l.getD n 0),fun m hm=> ?_,fun m hm=> .int _ _⟩
   rw[show n*1+m=n by omega]
   simp[World.cell?,al,bX n ar]
 |rows aj l=>
  simp only[ad.data,R.len,R.ch,R.cell]at*
  rcases h with⟨rfl,_⟩|⟨ee,aG,e,U,aa,al,aL,bo,_,bX⟩
  ·simp at ar
  ·rw[ae]at U;simp at U;subst U
   refine⟨fun m=>aG.getD (n*aj+m) undef,fun m hm=> ?_,fun m hm=> ?_⟩
   ·obtain⟨v,aM,_⟩:=bX n m ar hm
    simp[World.cell?,al,asA,aM]
   ·obtain⟨v,aM,ak⟩:=bX n m ar hm
    simpa[asA,aM]using ak
theorem T2 {Z:Nat->Prop}{w:World}{ρ:List Loc}{own:aB}{v:J}{u:Value}(h:dE Z w ρ own v u):dE Z w ρ own (oa v) u:=by
 cases v<;>first|exact h|trivial
theorem Mr {t:TypeId}{i:bQ}(hi:cE P t i=true){x:R}{n:Int}{j:Nat}{safe:List Prop}{v:J}{own':aB}
 (h:loadAt i.ty x n j own= .aR safe v own') (ao:∀p∈safe,p) (aK:j<x.ch) (b o:Nat) (u:Nat->Value)
 (ay:∀m,m<x.ch->w.cell? ⟨b,o+m,none⟩=some (u m)) (ak:∀m,m<x.ch->Reads (aI N ρ own) w (x.cell n.toNat m) (u m)):
 ∃u,own'=own/\(loadVar t ⟨b,o+j,none⟩).run P w= .ok u w/\bz (aI N ρ own) w ρ own v u:=by
 unfold loadAt at h
 split at h
 ·rename_i aj l s bV
  simp only[bH.aR.injEq]at h
  obtain⟨rfl,rfl,rfl⟩:=h
  exact⟨u j,rfl,BP hi bV b _ (ay j aK), .cM (sE (ak j aK) (ao _ (by simp)))⟩
 ·cases h
theorem LP {t:TypeId}{i:bQ}(hi:cE P t i=true)(bx:b4 N ρ own w){op:Operand}{tm:List J}{a:Act}(aA:dC (aI N ρ own) w ρ own tm a.tmps)
 {safe:List Prop} {v:J} {own':aB} (h:hR i.ty (aS tm op) own= .aR safe v own') (ao:∀p∈safe,p):
 ∃u,own'=own/\(Instr.loadAt t (a.eval op)).run P w= .ok u w/\bz (aI N ρ own) w ρ own v u:=by
 have af:=dK aA op
 generalize aS tm op=x at*
 unfold hR at h
 split at h
 ·rename_i id off
  obtain⟨loc,b,aq,fZ,dr,hu⟩:=af
  have b1:=bx.ob id loc aq
  split at h
  ·rename_i l aH
   rw[aH]at b1
   obtain⟨ee,aG,e,aU,a_,bF,di,eB⟩:=b1
   rw[fZ]at aU;simp at aU;subst aU
   have gA:∀m,m<l.length->w.cell? ⟨b,m,none⟩=some (aG.getD m undef):=fun m hm=>by
    simp[World.cell?,bF,asA,show m<aG.size by omega]
   rw[hu]
   simp only[Instr.loadAt,Instr.sureAddr,Sem.run_bind,Sem.run_pure,Result.andThen_ok]
   split at h<;>simp only[bH.aR.injEq,reduceCtorEq]at h
   ·rename_i s bV hle
    obtain⟨rfl,rfl,rfl⟩:=h
    have hle:=asV hle
    rw[bV,cf]at hle
    have bB:off<l.length:=by simp[aO.size]at hle;omega
    refine⟨_,rfl,BP hi bV b off (gA off bB), ?_⟩
    rw[dp];exact .cM (T2 (eB off bB))
   ·rename_i bM cs bV hle
    obtain⟨rfl,rfl,rfl⟩:=h
    have hle:=asV hle
    rw[bV,cf]at hle
    have bB:off+cs.length<=l.length:=by simpa[aO.size,cf]using hle
    refine⟨_,rfl,Bh hi (.inl ⟨bM,bV⟩) b off (fun m=>aG.getD (off+m) undef) (fun m hm=>gA (off+m) (by omega)), .gB ⟨_,rfl, ?_,fun m hm=> ?_⟩⟩
    ·simp[kI,kH,cf];omega
    ·simp only[kI,kH,cf,asW,atA]at hm⊢
     rw[AK _ _ _ (by omega)]
     have:=eB (off+m) (by omega)
     simpa[ass,ath,show m<cs.length by omega]using this
   ·rename_i n' IY cs bV hle
    obtain⟨rfl,rfl,rfl⟩:=h
    have hle:=asV hle
    rw[bV,cf]at hle
    have bB:off+cs.length<=l.length:=by simpa[aO.size,cf]using hle
    refine⟨_,rfl,Bh hi (.inr ⟨n',IY,bV⟩) b off (fun m=>aG.getD (off+m) undef) (fun m hm=>gA (off+m) (by omega)), .gB ⟨_,rfl, ?_,fun m hm=> ?_⟩⟩
    ·simp[kI,kH,cf];omega
    ·simp only[kI,kH,cf,asW,atA]at hm⊢
     rw[AK _ _ _ (by omega)]
     have:=eB (off+m) (by omega)
     simpa[ass,ath,show m<cs.length by omega]using this
  ·cases h
 ·rename_i id n j
  obtain⟨loc,b,aq,fZ,dr,hu,aE,U⟩:=af
  have b1:=bx.ob id loc aq
  have aP:(ad.at own id).data.ch=(ad.at own id).ch/\(ad.at own id).data.len=(ad.at own id).len\/∀t n j,loadData t (ad.at own id).data n j own= .bad:=by
   cases ad.at own id<;>simp[ad.data,R.ch,ad.ch,R.len,ad.len,loadData]
  rcases aP with⟨jC,hH⟩|aP
  ·obtain⟨u,ay,ak⟩:=Np b1 fZ n.toNat (by rw[hH];omega)
   obtain⟨cy,aa,al,aL⟩:=La (P:=P) (N:=N) (ρ:=ρ) hi h ao b (n.toNat*(ad.at own id).data.ch) u ay ak
   refine⟨cy,aa, ?_,aL⟩
   rw[hu,<-jC]
   simpa[Instr.loadAt,Instr.sureAddr]using al
  ·rw[aP]at h;cases h
 ·rename_i x n j
  obtain⟨b,off,cap,yY,aE,U,hu⟩:=af
  obtain⟨u,ay,ak⟩:=Ex yY n.toNat (by omega)
  obtain⟨cy,aa,al,aL⟩:=La (P:=P) (N:=N) (ρ:=ρ) hi h ao b (off+n.toNat*x.ch) u ay ak
  refine⟨cy,aa, ?_,aL⟩
  rw[hu]
  simpa[Instr.loadAt,Instr.sureAddr]using al
 ·rename_i id n j
  obtain⟨loc,b,aq,fZ,dr,hu,aE,U,lS⟩:=af
  have b1:=bx.ob id loc aq
  have aP:(ad.at own id).data.ch=(ad.at own id).ch/\(ad.at own id).data.len=(ad.at own id).len\/∀t n j,loadAt t (ad.at own id).data n j own= .bad:=by
   cases ad.at own id<;>simp[ad.data,R.ch,ad.ch,R.len,ad.len,loadAt]
  rcases aP with⟨jC,hH⟩|aP
  ·obtain⟨u,ay,ak⟩:=Np b1 fZ n.toNat (by rw[hH];omega)
   obtain⟨cy,aa,al,aL⟩:=Mr (P:=P) (N:=N) (ρ:=ρ) hi h ao (by rw[jC];exact lS) b (n.toNat*(ad.at own id).data.ch) u ay ak
   refine⟨cy,aa, ?_,aL⟩
   rw[hu,<-jC]
   simpa[Instr.loadAt,Instr.sureAddr]using al
  ·rw[aP]at h;cases h
 ·rename_i x n j
  obtain⟨b,off,cap,yY,aE,U,lS,hu⟩:=af
  obtain⟨u,ay,ak⟩:=Ex yY n.toNat (by omega)
  obtain⟨cy,aa,al,aL⟩:=Mr (P:=P) (N:=N) (ρ:=ρ) hi h ao lS b (off+n.toNat*x.ch) u ay ak
  refine⟨cy,aa, ?_,aL⟩
  rw[hu]
  simpa[Instr.loadAt,Instr.sureAddr]using al
 ·cases h
end
end Go.bG
end
section
namespace Go.bG
section
variable {P:Program} {N:Nat->Prop} {ρ:List Loc} {own:aB} {w:World}
theorem EK {bM:List (Nat×Nat×aO)}{a:List Field}(h:oX P bM a=true)(f:Nat)(aQ:f<bM.length):
 ∃dv g,a[f]? =some dv/\P.info? dv.type=some g/\dv.offset=(bM.getD f (0,0, .no)).1/\g.size=(bM.getD f (0,0, .no)).2.2.size/\0<g.size/\
  ∃d,P.underlying dv.type=some d/\n8 d=(bM.getD f (0,0, .no)).2.2.isAgg:=by
 induction bM generalizing a f with
 |nil=>simp at aQ
 |cons x r bA=>
  obtain⟨o,n,t⟩:=x
  cases a with
  |nil=>simp[oX]at h
  |cons dv rest=>
   simp only[oX,asD]at h
   obtain⟨⟨⟨⟨⟨⟨⟨U,aa⟩,al⟩,aL⟩,bo⟩,RY⟩,bX⟩,fi⟩:=h
   cases f with
   |zero=>
    obtain⟨g,aT⟩:=auA.1 bo
    obtain⟨d,aP⟩:=auA.1 RY
    have az:=ast aa
    have bK:=ast al
    have cm:1<=n:=by simpa[Nat.blt]using aL
    have:P.cellsOf dv.type=g.size:=by simp[Program.cellsOf,aT]
    refine⟨dv,g,rfl,aT,(ast U).symm, ?_,by omega,d,aP,by simpa[Cw,aP]using bX⟩
    simp only[List.getD_cons_zero];omega
   |succ f=>
    obtain⟨aal,g,aU,a_⟩:=bA fi f (by simpa using aQ)
    exact⟨aal,g,by simpa using aU,by simpa using a_⟩
theorem wI {t:TypeId}{i:bQ}(hi:cE P t i=true){bM:List (Nat×Nat×aO)}{cs:List b0}(h:i.ty= .struct bM cs):
 ∃a,P.underlying t=some (.struct a)/\oX P bM a.toList=true:=by
 unfold cE at hi
 rw[h]at hi
 split at hi<;>simp_all
theorem T3 {s:TypeId}{i:bQ}(hi:cE P s i=true){bM:List (Nat×Nat×aO)}{cs:List b0}(h:i.ty= .struct bM cs)(f:Nat)(aQ:f<bM.length)(b o:Nat):
 (Instr.fieldAt s (.pointer (some ⟨b,o,none⟩)) f).run P w= .ok (.pointer (some ⟨b,o+eV i.ty f,none⟩)) w:=by
 obtain⟨a,U,aa⟩:=wI hi h
 obtain⟨dv,g,aU,a_,bF,di,eB,_⟩:=EK aa f aQ
 have sf:a[f]? =some dv:=by simpa using aU
 have:¬g.size=0:=by omega
 rw[h,eV,dp,<-bF]
 simp[Instr.fieldAt,underlying,U,sf,Instr.sureAddr,fieldPlace,k_ a_,this,mD]
theorem Vx {s:TypeId}{i:bQ}(hi:cE P s i=true){bM:List (Nat×Nat×aO)}{cs:List b0}(h:i.ty= .struct bM cs)(f:Nat)(aQ:f<bM.length)(l:List J){u:Value}
 (hu:bz (aI N ρ own) w ρ own (.agg l) u) (aq:eV i.ty f+(kg i.ty f).size<=l.length):
 ∃v,(Instr.field s u f).run P w= .ok v w/\
  bz (aI N ρ own) w ρ own (match kg i.ty f with| .bS _=>bT .un l (eV i.ty f)|t=> .agg (kp (ko l (eV i.ty f)) t.size)) v:=by
 obtain⟨a,U,aa⟩:=wI hi h
 obtain⟨dv,g,aU,a_,bF,di,eB,hb⟩:=EK aa f aQ
 have sf:a[f]? =some dv:=by simpa using aU
 obtain⟨arr,rfl,aC,ak⟩:=hu
 have HF:eV i.ty f=dv.offset:=by rw[h,eV,dp,<-bF]
 have bV:kg i.ty f=(bM.getD f (0,0, .no)).2.2:=by rw[h,kg,dp]
 rw[HF,bV]at aq⊢
 obtain⟨d,jC,hH⟩:=hb
 cases qp:(bM.getD f (0,0, .no)).2.2 with
 |bS st=>
  rw[qp]at aq hH di
  have bB:dv.offset<l.length:=by simp[aO.size]at aq;omega
  have js:dv.offset<arr.size:=by omega
  refine⟨arr[dv.offset], ?_, ?_⟩
  ·simp[Instr.field,underlying,U,sf,asAgg,part,pY jC,hH,aO.isAgg,js]
  ·have:=ak dv.offset bB
   simp only[dp]
   simp only[asA,aud js,atv]at this
   exact .cM this
 |no=>
  rw[qp]at aq di;simp[aO.size]at di;omega
 |struct DW jX=>
  rw[qp]at aq hH di
  refine⟨.agg (arr.extract dv.offset (dv.offset+g.size)),by simp[Instr.field,underlying,U,sf,asAgg,part,pY jC,hH,aO.isAgg,k_ a_], .gB ⟨_,rfl, ?_,fun m hm=> ?_⟩⟩
  ·simp[kI,kH,di];omega
  ·simp only[kI,kH,asW,atA]at hm⊢
   have:=ak (dv.offset+m) (by omega)
   have an:(arr.extract dv.offset (dv.offset+g.size)).getD m undef=arr.getD (dv.offset+m) undef:=by
    rw[asA,asA,Array.getElem?_extract,asq (by omega)]
   have az:(List.take (aO.struct DW jX).size (List.drop dv.offset l)).getD m .un=l.getD (dv.offset+m) .un:=by
    rw[ass,ass,ath,asq (by omega),atK]
   rw[an,az];exact this
 |arr n' cd jX=>
  rw[qp]at aq hH di
  refine⟨.agg (arr.extract dv.offset (dv.offset+g.size)),by simp[Instr.field,underlying,U,sf,asAgg,part,pY jC,hH,aO.isAgg,k_ a_], .gB ⟨_,rfl, ?_,fun m hm=> ?_⟩⟩
  ·simp[kI,kH,di];omega
  ·simp only[kI,kH,asW,atA]at hm⊢
   have:=ak (dv.offset+m) (by omega)
   have an:(arr.extract dv.offset (dv.offset+g.size)).getD m undef=arr.getD (dv.offset+m) undef:=by
    rw[asA,asA,Array.getElem?_extract,asq (by omega)]
   have az:(List.take (aO.arr n' cd jX).size (List.drop dv.offset l)).getD m .un=l.getD (dv.offset+m) .un:=by
    rw[ass,ass,ath,asq (by omega),atK]
   rw[an,az];exact this
theorem rm {n:Nat}{lo hi:Option Int}(h:∀p∈lA n lo hi,p):
 (∀a,lo=some a->0<=a/\a.toNat<=n)/\(∀b,hi=some b->0<=b/\b.toNat<=n)/\(lo.getD 0).toNat<=(hi.map Int.toNat).getD n:=by
 have hl:∀{q:Prop} {l:List Prop},(∀p∈q::l,p)->q/\∀p∈l,p:=fun h=>List.forall_mem_cons.1 h
 cases lo with
 |none=>
  cases hi with
  |none=>exact⟨(fun a h=>by cases h),(fun b h=>by cases h),by simp⟩
  |some b=>
   obtain⟨U,h⟩:=hl h
   obtain⟨aa,h⟩:=hl h
   refine⟨(fun a h=>by cases h),(fun ee ae=>by cases ae;exact⟨U,by omega⟩),by simp⟩
 |some a=>
  cases hi with
  |none=>
   obtain⟨U,h⟩:=hl h
   obtain⟨aa,h⟩:=hl h
   refine⟨(fun cI aC=>by cases aC;exact⟨U,by omega⟩),(fun b h=>by cases h), ?_⟩
   simp only[atv,Option.map_none,Option.getD_none];omega
  |some b=>
   obtain⟨U,h⟩:=hl h
   obtain⟨aa,h⟩:=hl h
   obtain⟨al,h⟩:=hl h
   refine⟨(fun cI aC=>by cases aC;exact⟨U,by omega⟩),(fun ee ae=>by cases ae;exact⟨by omega,by omega⟩), ?_⟩
   simp only[atv,ats];omega
theorem xe {α:Type}(l:List α)(lo hi:Option Int)(h:∀p∈lA l.length lo hi,p)(d:α):
 (jP l lo hi).length=(hi.map Int.toNat).getD l.length-(lo.getD 0).toNat/\
 ∀i,i<(jP l lo hi).length->(jP l lo hi).getD i d=l.getD ((lo.getD 0).toNat+i) d:=by
 obtain⟨U,aa,al⟩:=rm h
 cases lo with
 |none=>
  cases hi with
  |none=>simp[jP]
  |some b=>
   have:=aa b rfl
   simp only[jP,ats,atv,Option.getD_none,Int.toNat_zero,asW]
   refine⟨by omega,fun i hi=> ?_⟩
   simp[ass,show i<b.toNat by omega]
 |some a=>
  have aC:=U a rfl
  cases hi with
  |none=>
   simp only[jP,Option.map_none,atv,Option.getD_none,atA]
   refine⟨trivial,fun i hi=>by simp[ass]⟩
  |some b=>
   have:=aa b rfl
   simp only[atv,ats]at al
   simp only[jP,ats,atv,atA,asW]
   refine⟨by omega,fun i hi=>by simp[ass,show a.toNat+i<b.toNat by omega]⟩
theorem Vy {Z:Nat->Prop}{x y:R}{a:Option Addr}{len cap:Nat}(h:Reads Z w x (.slice a len cap))(aq:x.len=len)(lo m:Nat)(hm:lo+m<=len)
 (he:y.ch=x.ch) (a6:y.len=m) (ab:(∃k p q,x= .ints k p/\y= .ints k q/\∀i,i<m->q.getD i 0=p.getD (lo+i) 0)\/
   ∃aj p q,x= .rows aj p/\y= .rows aj q/\∀i,i<m->q.getD i []=p.getD (lo+i) []):
 Reads Z w y (.slice (if cap=lo then a else a.map (·.add (lo*x.ch))) m (cap-lo)):=by
 rcases ab with⟨k,p,q,rfl,rfl,aN⟩|⟨aj,p,q,rfl,rfl,aN⟩
 ·simp only[R.len,R.ch]at*
  cases vR:m with
  |zero=>
   rw[vR]at a6
   have:q=[]:=atc.1 a6
   subst this
   exact .h4 _ _ _
  |succ r=>
   cases h with
   |h4=>simp at hm;omega
   |ints _ _ n b off cap ar bc ay gA=>
    have cV:¬cap=lo:=by omega
    rw[asp cV]
    simp only[ats,mD]
    rw[<-vR]
    refine .ints k q m b _ _ a6 bc (by omega) fun i hi=> ?_
    rw[aN i hi,asY,atn]
    exact gA (lo+i) (by omega)
 ·simp only[R.len,R.ch]at*
  cases vR:m with
  |zero=>
   rw[vR]at a6
   have:q=[]:=atc.1 a6
   subst this
   exact .jK _ _ _
  |succ r=>
   cases h with
   |jK=>simp at hm;omega
   |rows _ _ n b off cap u ar ca bc ay gA ak=>
    have cV:¬cap=lo:=by omega
    rw[asp cV]
    simp only[ats,mD]
    rw[<-vR]
    refine .rows aj q m b _ _ (fun i j=>u (lo+i) j) a6 ca bc (by omega) (fun i j hi aK=> ?_) (fun i j hi aK=> ?_)
    ·have:=gA (lo+i) j (by omega) aK
     rwa [show off+lo*aj+i*aj+j=off+(lo+i)*aj+j by rw[asK];omega]
    ·rw[aN i hi];exact ak (lo+i) j (by omega) aK
theorem zK (y8:Bool)(n len cap:Nat)(ay:len<=cap)(lo hi:Option Value)(a b:Option Int)
 (h8:∀v,lo=some v->∃k z,v= .int k z/\a=some z) (Rh:lo=none->a=none) (lO:∀v,hi=some v->∃k z,v= .int k z/\b=some z) (Zd:hi=none->b=none)
 (fh:∀p∈lA n a b,p) (ar:n=len):
 (Instr.sliceBounds y8 len cap lo hi none).run P w= .ok ((a.getD 0).toNat,(b.map Int.toNat).getD len,cap) w:=by
 subst ar
 obtain⟨U,aa,al⟩:=rm fh
 have ae:∀(code:BoundsCode) (k:IntKind) (z:Int) (y:Nat),0<=z->z.toNat<=y->(Instr.sliceBound (.int k z) y code).run P w= .ok z.toNat w:=fun code k z y aE a6=>by
  simp[Instr.sliceBound,asIntOf,aE,show z<=(y:Int) by omega]
 cases hi with
 |none=>
  rw[Zd rfl]at al⊢
  cases lo with
  |none=>rw[Rh rfl];simp[Instr.sliceBounds]
  |some v=>
   obtain⟨k,z,rfl,rfl⟩:=h8 v rfl
   obtain⟨g1,g2⟩:=U z rfl
   simp[Instr.sliceBounds,ae _ k z n g1 g2]
 |some v=>
  obtain⟨k,z,rfl,rfl⟩:=lO v rfl
  obtain⟨g1,g2⟩:=aa z rfl
  have RZ:=fun c=>ae c k z cap g1 (by omega)
  cases lo with
  |none=>rw[Rh rfl];simp[Instr.sliceBounds,RZ]
  |some cO=>
   obtain⟨b3,SF,rfl,rfl⟩:=h8 cO rfl
   obtain⟨aam,ajp⟩:=U SF rfl
   simp only[atv,ats]at al
   simp[Instr.sliceBounds,RZ,ae _ b3 SF z.toNat aam al]
end
end Go.bG
end
section
namespace Go.bG
section
variable {P:Program} {N:Nat->Prop} {ρ:List Loc} {own:aB} {w:World}
theorem pU (h:b4 N ρ own w){id:Nat}{loc:Loc}(aq:ρ[id]? =some loc)(aQ:frozenAt own id=true){t:aO}(eo:iV t (ad.at own id)=true):
 Reads (aI N ρ own) w (ad.at own id).data (.slice loc.a (ad.at own id).len loc.cap):=by
 have b1:=h.ob id loc aq
 have bc:∀b,loc.bO=some b->¬aI N ρ own b:=fun b ae bc=>by
  rcases bc with ar|⟨j,b9,U,aa,al⟩
  ·exact h.fr id loc b aq ae ar
  ·have:=h.inj id j loc b9 b aq U ae aa (fun⟨_,n,aj,e⟩=>by rw[e]at eo;cases t<;>simp[iV]at eo) (np al)
   subst this
   rw[aQ]at al;cases al
 cases aH:ad.at own id with
 |ints k l=>
  rw[aH]at b1
  rcases b1 with⟨rfl,aa⟩|⟨b,aG,e,U,aa,al,aL,bo,bX⟩
  ·exact .h4 _ _ _
  ·rw[U]
   exact .ints k l _ b 0 _ rfl (bc b aa) aL fun i hi=>by simp[World.cell?,al,bX i hi]
 |rows aj l=>
  rw[aH]at b1
  rcases b1 with⟨rfl,aa⟩|⟨b,aG,e,U,aa,al,aL,bo,ca,bX⟩
  ·exact .jK _ _ _
  ·rw[U]
   refine .rows aj l _ b 0 _ (fun i j=>aG.getD (i*aj+j) undef) rfl ca (bc b aa) aL (fun i j hi aK=> ?_) (fun i j hi aK=> ?_)
   ·obtain⟨v,aM,_⟩:=bX i j hi aK
    simp[World.cell?,al,asA,aM]
   ·obtain⟨v,aM,ak⟩:=bX i j hi aK
    simpa[asA,aM]using ak
 |_=>rw[aH]at eo;cases t<;>simp[iV]at eo
theorem Nq {id:Nat}{u:Value}{k:IntKind}{l:List Int}(af:bz (aI N ρ own) w ρ own (.vec id) u)(h:ad.at own id= .ints k l):
 ∃loc,ρ[id]? =some loc/\u= .slice loc.a l.length loc.cap:=by
 obtain⟨loc,U,aa,_⟩:=af
 exact⟨loc,U,by rw[aa,h];rfl⟩
theorem ni {tm:List J}{a:Act}(aA:dC (aI N ρ own) w ρ own tm a.tmps)(o:Option Operand){z:Option Int}(h:ll (omap (aS tm) o)=some z):
 (∀v,o.map a.eval=some v->∃k y,v= .int k y/\z=some y)/\(o.map a.eval=none->z=none):=by
 cases o with
 |none=>simp[omap,ll]at h;subst h;simp
 |some x=>
  have af:=dK aA x
  simp only[omap]at h
  cases he:aS tm x with
  |d y=>
   rw[he]at h af
   cases y with
   |int k n=>
    simp[ll]at h;subst h
    have:=iE af
    exact⟨fun v aM=>by simp at aM;subst aM;exact⟨k,n,this,rfl⟩,fun aM=>by simp at aM⟩
   |_=>simp[ll]at h
  |_=>rw[he]at h;simp[ll]at h
theorem wF {t e:TypeId}{g:TypeInfo}(hu:P.underlying t=some (.slice e))(aT:P.info? e=some g)(a:Option Addr)(len cap:Nat)(lo hi cX:Option Value){l h m:Nat}
 (ae:(Instr.sliceBounds true len cap lo hi cX).run P w= .ok (l,h,m) w):
 (Instr.sliceAt t (.slice a len cap) lo hi cX).run P w= .ok (.slice (if m=l then a else a.map (·.add (l*g.size))) (h-l) (m-l)) w:=by
 simp[Instr.sliceAt,Instr.slice,underlying,hu,ae,k_ aT]
theorem Ms {t:TypeId}{i:bQ}(hi:cE P t i=true)(ao:h1 i.ty=true){e:TypeId}(he:P.underlying t=some (.slice e)):∃g,P.info? e=some g:=by
 have:∃x,gq i.ty x=true:=by
  cases bV:i.ty with
  |bS s=>
   rw[bV]at ao
   cases s with
   |sints k=>exact⟨.ints k [],iS.2 rfl⟩
   |srows aj=>exact⟨.rows aj [],ato aj⟩
   |_=>simp[h1]at ao
  |_=>rw[bV]at ao;simp[h1]at ao
 obtain⟨x,af⟩:=this
 obtain⟨cd,g,U,aa,_⟩:=q9 hi af
 rw[he]at U
 cases U
 exact⟨g,aa⟩
theorem Nr {t:aO}{o:ad}(h:gq t o.data=true):iV t o=true:=by
 cases t with
 |bS s=>cases o<;>cases s<;>simp_all [iV,gq,ad.data]
 |_=>cases o<;>simp[gq]at h
theorem Tv {t:TypeId}{i:bQ}(hi:cE P t i=true)(bx:b4 N ρ own w){cw:Operand}{lo dH cX:Option Operand}{tm:List J}{a:Act}
 (aA:dC (aI N ρ own) w ρ own tm a.tmps) {safe:List Prop} {v:J} {own':aB}
 (h:kf i.ty (aS tm cw) (omap (aS tm) lo) (omap (aS tm) dH) (omap (aS tm) cX) own= .aR safe v own') (ao:∀p∈safe,p):
 ∃u,(Instr.sliceAt t (a.eval cw) (lo.map a.eval) (dH.map a.eval) (cX.map a.eval)).run P w= .ok u w/\Step N ρ own w ρ own' w/\bz (aI N ρ own') w ρ own' v u:=by
 have af:=dK aA cw
 generalize aS tm cw=x at*
 unfold kf at h
 split at h
 ·rename_i qQ
  have yu:cX=none:=by cases cX<;>simp[omap]at qQ⊢
  subst yu
  split at h
  ·rename_i fa gd h8 lO
   obtain⟨cj,db⟩:=ni aA lo h8
   obtain⟨c3,cP⟩:=ni aA dH lO
   have bounds:∀(y8:Bool) (n cap:Nat),n<=cap->(∀p∈lA n fa gd,p)->
    (Instr.sliceBounds y8 n cap (lo.map a.eval) (dH.map a.eval) none).run P w= .ok ((fa.getD 0).toNat,(gd.map Int.toNat).getD n,cap) w:=
    fun y8 n cap ay fh=>zK y8 n n cap ay _ _ fa gd cj db c3 cP fh rfl
   have cut:∀(x y:R) (u:Value),Reads (aI N ρ own') w x u->gq i.ty x=true->(∀p∈lA x.len fa gd,p)->y.ch=x.ch->y.len=(gd.map Int.toNat).getD x.len-(fa.getD 0).toNat->
    ((∃k p q,x= .ints k p/\y= .ints k q/\∀i,i<y.len->q.getD i 0=p.getD ((fa.getD 0).toNat+i) 0)\/
      ∃aj p q,x= .rows aj p/\y= .rows aj q/\∀i,i<y.len->q.getD i []=p.getD ((fa.getD 0).toNat+i) [])->
    ∃cy,(Instr.sliceAt t u (lo.map a.eval) (dH.map a.eval) none).run P w= .ok cy w/\Reads (aI N ρ own') w y cy:=by
    intro x y u ak aQ fh he a6 ab
    obtain⟨e,g,m0,aT,ca,_⟩:=q9 hi aQ
    obtain⟨_,_,al⟩:=rm fh
    have tj:∃e4 cap,u= .slice e4 x.len cap/\x.len<=cap:=by
     cases ak with
     |h4 e4 cap k=>exact⟨e4,cap,rfl,by simp[R.len]⟩
     |ints k l n b off cap ar bc ay h=>exact⟨some ⟨b,off,none⟩,cap,by rw[show(R.ints k l).len=l.length from rfl,ar],by rw[show(R.ints k l).len=l.length from rfl,ar];exact ay⟩
     |jK e4 cap aj=>exact⟨e4,cap,rfl,by simp[R.len]⟩
     |rows aj l n b off cap u ar ca bc ay h ak=>exact⟨some ⟨b,off,none⟩,cap,by rw[show(R.rows aj l).len=l.length from rfl,ar],by rw[show(R.rows aj l).len=l.length from rfl,ar];exact ay⟩
     |_=>cases bV:i.ty<;>simp[bV,gq]at aQ
    obtain⟨e4,cap,rfl,rU⟩:=tj
    have ae:=bounds true x.len cap rU fh
    refine⟨_,wF m0 aT e4 x.len cap _ _ none ae, ?_⟩
    rw[ca]
    have Ze:(gd.map Int.toNat).getD x.len<=x.len:=by
     cases gd with
     |none=>simp
     |some z=>exact((rm fh).2.1 z rfl).2
    refine Vy ak rfl _ _ (by omega) he a6 ?_
    rw[a6]at ab
    exact ab
   split at h
   ·rename_i k l
    split at h
    ·rename_i aQ
     simp only[bH.aR.injEq]at h
     obtain⟨rfl,rfl,rfl⟩:=h
     obtain⟨dt,dD⟩:=xe l fa gd ao 0
     obtain⟨cy,aU,a_⟩:=cut (.ints k l) (.ints k (jP l fa gd)) _ af aQ ao rfl dt (.inl ⟨k,l,_,rfl,rfl,dD⟩)
     exact⟨cy,aU,Step.refl bx, .cM a_⟩
    ·cases h
   ·rename_i aj l
    split at h
    ·rename_i aQ
     simp only[bH.aR.injEq]at h
     obtain⟨rfl,rfl,rfl⟩:=h
     obtain⟨dt,dD⟩:=xe l fa gd ao []
     obtain⟨cy,aU,a_⟩:=cut (.rows aj l) (.rows aj (jP l fa gd)) _ af aQ ao rfl dt (.inr ⟨aj,l,_,rfl,rfl,dD⟩)
     exact⟨cy,aU,Step.refl bx, .cM a_⟩
    ·cases h
   ·rename_i l
    split at h
    ·rename_i bV
     simp only[bH.aR.injEq]at h
     obtain⟨rfl,rfl,rfl⟩:=h
     obtain⟨s,hu,aq⟩:=rf af
     have hlen:l.length=s.size:=by rw[aq,asy,atu];rfl
     have tB:=rh hi bV
     have ae:=bounds false s.size s.size (asz _) (by rw[<-hlen];exact ao)
     refine⟨.string (s.extract (fa.getD 0).toNat ((gd.map Int.toNat).getD s.size)), ?_,Step.refl bx, .cM (Reads.str _ _ ?_)⟩
     ·rw[hu]
      simp only[Instr.sliceAt,Sem.run_bind,run_underlying tB,Result.andThen_ok,Instr.slice,Option.map_none,Option.isSome_none,atF,if_false,ae,Sem.run_pure]
     ·obtain⟨dt,dD,iD⟩:=rm ao
      have an:(s.extract (fa.getD 0).toNat ((gd.map Int.toNat).getD s.size)).data.toList=(s.data.toList.take ((gd.map Int.toNat).getD s.size)).drop (fa.getD 0).toNat:=by
       rw[ByteArray.data_extract,Array.toList_extract,List.extract_eq_drop_take',List.drop_take]
      rw[an,aq]
      have ca:s.data.toList.length=s.size:=by rw[atu];rfl
      cases fa<;>cases gd<;>simp only[jP,Option.getD_none,atv,Option.map_none,ats,Int.toNat_zero,List.drop_zero,List.map_take,List.map_drop]
      ·rw[aul (by rw[asy,ca];exact asz _)]
      ·rw[aul (by rw[asy,ca];exact asz _)]
    ·cases h
   ·rename_i id
    have gJ:bz (aI N ρ own) w ρ own (.vec id) (a.eval cw):=af
    split at h
    ·rename_i k l aH
     split at h
     ·rename_i aQ
      simp only[bH.aR.injEq]at h
      obtain⟨rfl,rfl,rfl⟩:=h
      obtain⟨loc,aq,hu⟩:=Nq gJ aH
      have ct:=Step.shut bx id
      have eZ:own.set id (true,ad.at own id)=en own id:=by rw[en,ep]
      rw[eZ]at ct
      have cg:ad.at (en own id) id= .ints k l:=by rw[<-eZ,gx];split<;>simp[aH]
      have dy:frozenAt (en own id) id=true:=by rw[<-eZ,hS,asq ⟨rfl,bx.jz aq⟩]
      have ak:=pU ct.rel aq dy (t:=i.ty) (by rw[cg];exact Nr aQ)
      rw[cg]at ak
      obtain⟨dt,dD⟩:=xe l fa gd ao 0
      obtain⟨cy,aU,a_⟩:=cut (.ints k l) (.ints k (jP l fa gd)) _ ak aQ ao rfl dt (.inl ⟨k,l,_,rfl,rfl,dD⟩)
      exact⟨cy,by rw[hu];exact aU,ct, .cM a_⟩
     ·cases h
    ·rename_i aj l aH
     split at h
     ·rename_i aQ
      simp only[bH.aR.injEq]at h
      obtain⟨rfl,rfl,rfl⟩:=h
      obtain⟨loc,aq,hu,_⟩:=gJ
      have ct:=Step.shut bx id
      have eZ:own.set id (true,ad.at own id)=en own id:=by rw[en,ep]
      rw[eZ]at ct
      have cg:ad.at (en own id) id= .rows aj l:=by rw[<-eZ,gx];split<;>simp[aH]
      have dy:frozenAt (en own id) id=true:=by rw[<-eZ,hS,asq ⟨rfl,bx.jz aq⟩]
      have ak:=pU ct.rel aq dy (t:=i.ty) (by rw[cg];exact Nr aQ)
      rw[cg]at ak
      obtain⟨dt,dD⟩:=xe l fa gd ao []
      obtain⟨cy,aU,a_⟩:=cut (.rows aj l) (.rows aj (jP l fa gd)) _ ak aQ ao rfl dt (.inr ⟨aj,l,_,rfl,rfl,dD⟩)
      exact⟨cy,by rw[hu,aH];exact aU,ct, .cM a_⟩
     ·cases h
    ·cases h
   ·split at h
    ·rename_i aQ
     simp only[bH.aR.injEq]at h
     obtain⟨rfl,rfl,rfl⟩:=h
     obtain⟨e4,hu⟩:=af
     obtain⟨e,he⟩:=pR hi aQ
     obtain⟨g,aT⟩:=Ms hi aQ he
     have ae:=bounds true 0 0 (asz _) ao
     refine⟨_,by rw[hu];exact wF he aT e4 0 0 _ _ none ae,Step.refl bx, .cM ?_⟩
     have an:(gd.map Int.toNat).getD 0=0:=by
      cases gd with
      |none=>rfl
      |some z=>have:=((rm ao).2.1 z rfl).2;simp;omega
     have az:=(rm ao).2.2
     rw[an]at az⊢
     have bK:(fa.getD 0).toNat=0:=by omega
     rw[bK]
     exact⟨_,rfl⟩
    ·cases h
   ·cases h
  ·cases h
 ·rename_i k qQ
  obtain⟨wq,aan,Zf⟩:∃wq,cX=some wq/\aS tm wq= .d (.int k (.ofNat 0)):=by
   cases cX with
   |none=>simp[omap]at qQ
   |some wq=>simp only[omap,asM]at qQ;exact⟨wq,rfl,qQ⟩
  have hm:=dK aA wq
  rw[Zf]at hm
  have hm:=iE hm
  have key:∀(y:R),x= .d y->gq i.ty y=true->(lo.map a.eval=none\/∃b3,lo.map a.eval=some (.int b3 0))->(∃b3,dH.map a.eval=some (.int b3 0))->
   ∃u,(Instr.sliceAt t (a.eval cw) (lo.map a.eval) (dH.map a.eval) (cX.map a.eval)).run P w= .ok u w/\bz (aI N ρ own) w ρ own .emp u:=by
   intro y a6 aQ U ⟨a_,aa⟩
   subst a6
   obtain⟨e,g,he,aT,_⟩:=q9 hi aQ
   have tj:∃e4 n cap,a.eval cw= .slice e4 n cap:=by
    cases y with
    |ints zx l=>obtain⟨e4,cap,hu,_⟩:=Ax af;exact⟨e4,_,cap,hu⟩
    |rows aj l=>obtain⟨e4,cap,hu,_⟩:=EI af;exact⟨e4,_,cap,hu⟩
    |_=>cases bV:i.ty<;>simp[bV,gq]at aQ
   obtain⟨e4,n,cap,hu⟩:=tj
   rw[hu,aan,aa]
   simp only[ats,hm]
   have ae:(Instr.sliceBounds true n cap (lo.map a.eval) (some (.int a_ 0)) (some (.int k (Int.ofNat 0)))).run P w= .ok (0,0,0) w:=by
    rcases U with U|⟨b3,U⟩<;>rw[U]<;>simp[Instr.sliceBounds,Instr.sliceBound,asIntOf]
   exact⟨_,wF he aT e4 n cap _ _ _ ae, .cM ⟨_,rfl⟩⟩
  split at h
  ·rename_i h8 lO
   obtain⟨cj,db⟩:=ni aA lo h8
   obtain⟨c3,cP⟩:=ni aA dH lO
   split at h
   ·rename_i y aQ
    simp only[bH.aR.injEq]at h
    obtain⟨rfl,rfl,rfl⟩:=h
    obtain⟨u,aU,a_⟩:=key _ rfl aQ
     (by cases aq:lo.map a.eval with
       |none=>exact .inl rfl
       |some v=>obtain⟨_,_,_,b2⟩:=cj v aq;cases b2)
     (by cases aq:dH.map a.eval with
       |none=>have:=cP aq;cases this
       |some v=>obtain⟨b3,z,aM,b2⟩:=c3 v aq;cases b2;exact⟨b3,by rw[aM];rfl⟩)
    exact⟨u,aU,Step.refl bx,a_⟩
   ·cases h
  ·rename_i h8 lO
   obtain⟨cj,db⟩:=ni aA lo h8
   obtain⟨c3,cP⟩:=ni aA dH lO
   split at h
   ·rename_i y aQ
    simp only[bH.aR.injEq]at h
    obtain⟨rfl,rfl,rfl⟩:=h
    obtain⟨u,aU,a_⟩:=key _ rfl aQ
     (by cases aq:lo.map a.eval with
       |none=>exact .inl rfl
       |some v=>obtain⟨b3,z,aM,b2⟩:=cj v aq;cases b2;exact .inr ⟨b3,by rw[aM];rfl⟩)
     (by cases aq:dH.map a.eval with
       |none=>have:=cP aq;cases this
       |some v=>obtain⟨b3,z,aM,b2⟩:=c3 v aq;cases b2;exact⟨b3,by rw[aM];rfl⟩)
    exact⟨u,aU,Step.refl bx,a_⟩
   ·cases h
  ·cases h
 ·cases h
theorem Vz {Z:Nat->Prop}{aj:Nat}{l:List (List R)}{b off cap:Nat}(h:Reads Z w (.rows aj l) (.slice (some ⟨b,off,none⟩) l.length cap))(aE:0<l.length):¬Z b:=by
 generalize ar:l.length=n at h
 cases h with
 |jK a cap aj=>omega
 |rows aj l n b off cap u aq ca bc ay gA ak=>exact bc
theorem T4 {Z:Nat->Prop}{x:R}{u:Value}{k:IntKind}(h:Reads Z w x u)(ab:x.isInt k):u= .int k x.toInt:=by
 cases h with
 |int b3 n=>obtain rfl:b3=k:=ab;rfl
 |_=>exact ab.elim
theorem VA (L:List R)(i:Nat):(L.map R.toInt).getD i 0=(L.getD i .undef).toInt:=by
 simp only[ass,atl]
 cases L[i]? <;>rfl
theorem oR {α:Type}{L:List α}{i:Nat}(d:α)(h:i<L.length):L.getD i d∈L:=by
 rw[ass,asI h]
 exact atw h
theorem Tw {t:TypeId}{i:bQ}(hi:cE P t i=true)(bx:b4 N ρ own w){x:J}{u:Value}(af:bz (aI N ρ own) w ρ own x u){lo dH cX:Option Operand}{tm:List J}{a:Act}
 (aA:dC (aI N ρ own) w ρ own tm a.tmps) {safe:List Prop} {v:J} {own':aB}
 (h:oU i.ty x (omap (aS tm) lo) (omap (aS tm) dH) (omap (aS tm) cX) own= .aR safe v own') (ao:∀p∈safe,p):
 ∃cy,(Instr.sliceAt t u (lo.map a.eval) (dH.map a.eval) (cX.map a.eval)).run P w= .ok cy w/\Step N ρ own w ρ own' w/\bz (aI N ρ own') w ρ own' v cy:=by
 unfold oU at h
 split at h
 ·rename_i m k cs id n j bV qQ
  have yu:cX=none:=by cases cX<;>simp[omap]at qQ⊢
  subst yu
  split at h
  ·rename_i aj l fa gd aH h8 lO
   split at h
   ·rename_i ae
    have ae:j+m<=aj:=asV ae
    simp only[bH.aR.injEq]at h
    obtain⟨rfl,rfl,rfl⟩:=h
    have hlen:(l.getD n.toNat []).length=aj:=ao _ (by simp)
    have hint:∀x∈kM (l.getD n.toNat []) j m aj,x.isInt k:=ao _ (by simp)
    have vv:∀p∈lA m fa gd,p:=fun p aw=>ao p (by simp[aw])
    obtain⟨cj,db⟩:=ni aA lo h8
    obtain⟨c3,cP⟩:=ni aA dH lO
    have pC:(Instr.sliceBounds false m m (lo.map a.eval) (dH.map a.eval) none).run P w= .ok ((fa.getD 0).toNat,(gd.map Int.toNat).getD m,m) w:=zK false m m m (asz _) _ _ fa gd cj db c3 cP vv rfl
    obtain⟨el,g,q1,cb,cu⟩:=w1 hi bV
    have cu:g.size=1:=cu
    obtain⟨loc,b,an,az,bK,cm,eL,hx⟩:=af
    have ct:=Step.shut bx id
    have eZ:own.set id (true,ad.at own id)=en own id:=by rw[en,ep]
    rw[eZ]at ct
    have cg:ad.at (en own id) id= .rows aj l:=by rw[<-eZ,gx];split<;>simp[aH]
    have dy:frozenAt (en own id) id=true:=by rw[<-eZ,hS,asq ⟨rfl,bx.jz an⟩]
    have ak:=pU ct.rel an dy (t:= .bS (.srows aj)) (by rw[cg];exact ato aj)
    rw[cg]at ak
    have ak:Reads (aI N ρ (en own id)) w (.rows aj l) (.slice loc.a l.length loc.cap):=ak
    rw[az]at ak
    have kA:(ad.at own id).len=l.length:=by rw[aH];rfl
    have dj:(ad.at own id).ch=aj:=by rw[aH];rfl
    rw[kA]at hx
    have bc:=Vz ak (by omega)
    obtain⟨c,gR,jh⟩:=Ex ak n.toNat (show n.toNat<l.length by omega)
    have gR:∀m,m<aj->w.cell? ⟨b,0+n.toNat*aj+m,none⟩=some (c m):=gR
    have jh:∀m,m<aj->Reads (aI N ρ (en own id)) w ((l.getD n.toNat []).getD m .undef) (c m):=jh
    obtain⟨g1,g2⟩:=EJ hlen ae
    have SG:((kM (l.getD n.toNat []) j m aj).map R.toInt).length=m:=by rw[asy];exact g1
    obtain⟨bn,ba,cp⟩:=rm vv
    obtain⟨d1,d2⟩:=xe ((kM (l.getD n.toNat []) j m aj).map R.toInt) fa gd (by rw[SG];exact vv) 0
    rw[SG]at d1
    have Ze:(gd.map Int.toNat).getD m<=m:=by
     cases gd with
     |none=>simp
     |some z=>exact(ba z rfl).2
    refine⟨.slice (some (if m=(fa.getD 0).toNat then⟨b,n.toNat*aj+j,none⟩else(⟨b,n.toNat*aj+j,none⟩:Addr).add ((fa.getD 0).toNat*g.size))) ((gd.map Int.toNat).getD m-(fa.getD 0).toNat) (m-(fa.getD 0).toNat), ?_,ct, .cM ?_⟩
    ·rw[cm,dj]
     simp[Instr.sliceAt,Instr.sureAddr,underlying,q1,pC,k_ cb]
    ·show Reads _ w (.ints k _) _
     rw[cu,asY,mD]
     by_cases hm:m=(fa.getD 0).toNat
     ·rw[asq hm]
      have aE:(gd.map Int.toNat).getD m-(fa.getD 0).toNat=0:=by omega
      rw[aE]at d1⊢
      rw[aum d1]
      exact Reads.h4 _ _ _
     ·rw[asp hm]
      refine Reads.ints k _ _ b _ _ d1 bc (by omega) fun q aN=> ?_
      rw[d2 q (by rw[d1];exact aN)]
      have vI:(fa.getD 0).toNat+q<m:=by omega
      have nO:((kM (l.getD n.toNat []) j m aj).map R.toInt).getD ((fa.getD 0).toNat+q) 0=((l.getD n.toNat []).getD (j+((fa.getD 0).toNat+q)) .undef).toInt:=by
       rw[<-g2 _ vI,VA]
      rw[nO]
      have hl:(l.getD n.toNat []).getD (j+((fa.getD 0).toNat+q)) .undef∈kM (l.getD n.toNat []) j m aj:=by
       rw[<-g2 _ vI]
       exact oR _ (by omega)
      have:=gR (j+((fa.getD 0).toNat+q)) (by omega)
      rw[T4 (jh (j+((fa.getD 0).toNat+q)) (by omega)) (hint _ hl)]at this
      rw[<-this]
      congr 2
      omega
   ·cases h
  ·cases h
 ·cases h
theorem Tx {t:TypeId}{i:bQ}(hi:cE P t i=true)(bx:b4 N ρ own w){cw:Operand}{lo dH cX:Option Operand}{tm:List J}{a:Act}
 (aA:dC (aI N ρ own) w ρ own tm a.tmps) {safe:List Prop} {v:J} {own':aB}
 (h:rk i.ty (aS tm cw) (omap (aS tm) lo) (omap (aS tm) dH) (omap (aS tm) cX) own= .aR safe v own') (ao:∀p∈safe,p):
 ∃u,(Instr.sliceAt t (a.eval cw) (lo.map a.eval) (dH.map a.eval) (cX.map a.eval)).run P w= .ok u w/\Step N ρ own w ρ own' w/\bz (aI N ρ own') w ρ own' v u:=by
 unfold rk at h
 split at h
 ·exact Tw hi bx (dK aA cw) aA h ao
 ·exact Tv hi bx aA h ao
end
end Go.bG
end
section
namespace Go.bG
section
variable {P:Program} {N:Nat->Prop} {ρ:List Loc} {own:aB} {w:World}
theorem uu {t:J}{u:Value}(ao:t.nm=true)(h:bz (aI N ρ own) w ρ own t u):dE (aI N ρ own) w ρ own t u/\u.oneCell'=true:=by
 cases t with
 |d x=>exact⟨h,Reads.one h⟩
 |bt=>have h:u= .bool true:=h;subst h;exact⟨rfl,rfl⟩
 |bf=>have h:u= .bool false:=h;subst h;exact⟨rfl,rfl⟩
 |emp=>obtain⟨a,rfl⟩:=h;exact⟨⟨a,rfl⟩,rfl⟩
 |vec id=>obtain⟨loc,U,rfl,aa⟩:=h;exact⟨⟨loc,U,rfl,aa⟩,rfl⟩
 |ptr id off=>obtain⟨loc,b,U,aa,al,rfl⟩:=h;exact⟨⟨loc,b,U,aa,al,rfl⟩,rfl⟩
 |optr id i j=>obtain⟨loc,b,U,aa,al,rfl,aL⟩:=h;exact⟨⟨loc,b,U,aa,al,rfl,aL⟩,rfl⟩
 |rptr x i j=>obtain⟨b,off,cap,U,aa,al,rfl⟩:=h;exact⟨⟨b,off,cap,U,aa,al,rfl⟩,rfl⟩
 |vt=>have h:u= .pointer none:=h;subst h;exact⟨rfl,rfl⟩
 |fn f=>have h:u= .func (.func f) #[] #[]:=h;subst h;exact⟨rfl,rfl⟩
 |cls f c=>obtain⟨rfl,aa⟩:=h;exact⟨⟨rfl,aa⟩,rfl⟩
 |_=>simp[J.nm]at ao
theorem Eo {t:J}(h:t.gy=true):t.nm=true:=by cases t<;>simp_all [J.gy,J.nm]
theorem w2 {u:Value}(h:u.oneCell'=true):u.cells=#[u]:=by cases u<;>simp_all [Value.oneCell',Value.cells]
theorem sF {t:aO}{v:J}{u:Value}(aQ:v.fits t=true)(h:bz (aI N ρ own) w ρ own v u):
 u.cells.size=t.size/\v.cellsOf.length=t.size/\(∀x∈u.cells.toList,x.oneCell'=true)/\∀i,i<t.size->dE (aI N ρ own) w ρ own (v.cellsOf.getD i .un) (u.cells.getD i undef):=by
 have agg:∀(cs:List b0) (l:List J),v= .agg l->Nat.beq (bN l) (bN cs)=true->dq J.nm l=true->bN cs=t.size->
  u.cells.size=t.size/\v.cellsOf.length=t.size/\(∀x∈u.cells.toList,x.oneCell'=true)/\∀i,i<t.size->dE (aI N ρ own) w ρ own (v.cellsOf.getD i .un) (u.cells.getD i undef):=by
  intro cs l aM U aa al
  subst aM
  obtain⟨arr,rfl,aC,ak⟩:=h
  have U:=ast U
  rw[cf]at U
  rw[eW,asH]at aa
  simp only[Value.cells,J.cellsOf]
  refine⟨by omega,by omega,fun x af=> ?_,fun i hi=>ak i (by omega)⟩
  obtain⟨i,hi,rfl⟩:=List.mem_iff_getElem.1 af
  have dH:i<l.length:=by rw[<-aC];simpa using hi
  have tU:=ak i dH
  have aao:=aa l[i] (atw dH)
  have an:l.getD i .un=l[i]:=by simp[ass,dH]
  have az:arr.getD i undef=arr.toList[i]:=by simp[asA,show i<arr.size by omega]
  rw[an,az]at tU
  exact(uu aao (.cM tU)).2
 cases t with
 |bS s=>
  obtain⟨U,aa⟩:=uu aQ h
  have ay:=w2 aa
  have aM:v.cellsOf=[v]:=by cases v<;>first|rfl|simp[J.fits,J.nm]at aQ
  rw[ay,aM]
  refine⟨rfl,rfl,by simpa using aa,fun i hi=> ?_⟩
  have:i=0:=by simp[aO.size]at hi;omega
  subst this
  exact U
 |struct bM cs=>
  cases v<;>simp only[J.fits,atF]at aQ
  split at aQ
  ·rename_i l _ ae;exact agg cs l rfl ae aQ rfl
  ·cases aQ
 |arr n e cs=>
  cases v<;>simp only[J.fits,atF]at aQ
  split at aQ
  ·rename_i l _ ae;exact agg cs l rfl ae aQ rfl
  ·cases aQ
 |no=>cases v<;>simp[J.fits]at aQ
theorem uv (l:List J)(off:Nat)(aG:List J):(setCells l off aG).length=l.length:=by
 induction aG generalizing l off with
 |nil=>rfl
 |cons v r bA=>simp[setCells,bA,ep]
theorem Lb (l:List J)(off:Nat)(aG:List J)(k:Nat)(ab:k<l.length):
 (setCells l off aG).getD k .un=if off<=k/\k<off+aG.length then aG.getD (k-off) .un else l.getD k .un:=by
 induction aG generalizing l off with
 |nil=>rw[asp (by simp)];rfl
 |cons v r bA=>
  simp only[setCells,ep]
  rw[bA _ _ (by simpa using ab),ef]
  by_cases U:off+1<=k/\k<off+1+r.length
  ·rw[asq U,asq (by simp;omega)]
   rw[show k-off=(k-(off+1))+1 by omega];simp
  ·rw[asp U]
   by_cases aa:off=k
   ·subst aa;rw[asq ⟨rfl,ab⟩,asq (by simp)];simp
   ·rw[asp (by simp[aa]),asp (by simp;omega)]
theorem sB (cur:Array Value)(o:Nat)(aG:List Value)(h:o+aG.length<=cur.size)(k:Nat):
 (cur.toList.take o++aG++cur.toList.drop (o+aG.length)).toArray[k]? =if o<=k/\k<o+aG.length then aG[k-o]? else cur[k]? :=by
 have aq:(cur.toList.take o).length=o:=by simp;omega
 simp only[List.getElem?_toArray]
 rw[List.append_assoc,asS,aq]
 by_cases U:k<o
 ·rw[asq U,asp (by omega),ath,asq U];simp
 ·rw[asp U,asS]
  by_cases aa:k<o+aG.length
  ·rw[asq (by omega),asq (by omega)]
  ·rw[asp (by omega),asp (by omega),atK,show o+aG.length+(k-o-aG.length)=k by omega];simp
theorem uw (cur:Array Value)(o:Nat)(aG:List Value)(h:o+aG.length<=cur.size):(cur.toList.take o++aG++cur.toList.drop (o+aG.length)).toArray.size=cur.size:=by
 simp;omega
theorem Ac (_:b4 N ρ own w){id:Nat}{loc:Loc}{b:Nat}(de:ρ[id]? =some loc)(ae:loc.bO=some b)(aQ:frozenAt own id=false)(ob:ad)(cs:Array Value):
 ∀x u,Reads (aI N ρ own) w x u->Reads (aI N ρ (own.set id (false,ob))) (w.setRow b cs) x u:=fun x u ak=>
 ak.mono fun ee _ bc=>⟨setRow_other w b ee cs fun e=>bc (.inr ⟨id,loc,de,e▸ae,aQ⟩),fun cS=>bc (by
  rcases cS with ar|⟨i,l,U,aa,al⟩
  ·exact .inl ar
  ·refine .inr ⟨i,l,U,aa, ?_⟩
   rw[hS]at al
   by_cases e:id=i
   ·subst e;exact aQ
   ·rwa [asp (by simp[e])]at al)⟩
theorem UJ (id:Nat)(ob:ad)(de:id<own.length)(aq:ob.len=(ad.at own id).len)(he:ob.ch=(ad.at own id).ch)(i:Nat):
 eg ρ own ρ (own.set id (false,ob)) i:=fun l ia=>by
 refine⟨ia, ?_⟩
 rw[gx]
 by_cases e:id=i
 ·subst e;rw[asq ⟨rfl,de⟩];exact⟨aq,he⟩
 ·rw[asp (by simp[e])];exact⟨rfl,rfl⟩
theorem Ad {Z:Nat->Prop}{e5:J}{u:Value}(aP:e5.gy=true)(h:dE Z w ρ own e5 u):Reads Z w (e5.hn own) u/\∀s:b0,Reads Z w ((s.norm own e5).hn own) u:=by
 cases e5<;>simp only[J.gy,atF]at aP
 case d x=>exact⟨h,fun s=>by cases s<;>exact h⟩
 case bt=>have h:u= .bool true:=h;subst h;exact⟨.bool true,fun s=>by cases s<;>exact .bool true⟩
 case bf=>have h:u= .bool false:=h;subst h;exact⟨.bool false,fun s=>by cases s<;>exact .bool false⟩
 case emp=>
  obtain⟨a,rfl⟩:=h
  refine⟨.undef _ rfl,fun s=> ?_⟩
  cases s with
  |sints k=>exact .h4 _ _ _
  |srows aj=>exact .jK _ _ _
  |_=>exact .undef _ rfl
theorem w3 (cs:List b0)(aG:List J):(h3 own cs aG).length=aG.length:=by
 induction cs generalizing aG with
 |nil=>cases aG<;>rfl
 |cons s r bA=>cases aG with
  |nil=>rfl
  |cons v q=>simp[h3,bA]
theorem Ae {Z:Nat->Prop}(cs:List b0)(aG:List J)(us:Nat->Value)(aP:∀v∈aG,v.gy=true)(h:∀i,i<aG.length->dE Z w ρ own (aG.getD i .un) (us i)):
 ∀i,i<aG.length->Reads Z w ((lmap (J.hn own) (h3 own cs aG)).getD i .undef) (us i):=by
 induction cs generalizing aG us with
 |nil=>
  intro i hi
  have:h3 own [] aG=aG:=by cases aG<;>rfl
  rw[this,c5]
  have e:(aG.map (J.hn own)).getD i .undef=(aG.getD i .un).hn own:=by simp[ass,hi]
  rw[e]
  exact(Ad (by rw[ass,asI hi];exact aP _ (atw hi)) (h i hi)).1
 |cons s r bA=>
  intro i hi
  cases aG with
  |nil=>simp at hi
  |cons v q=>
   cases i with
   |zero=>exact(Ad (aP v (by simp)) (h 0 hi)).2 s
   |succ i=>
    have:=bA q (fun i=>us (i+1)) (fun x af=>aP x (by simp[af])) (fun i hi=>h (i+1) (by simpa using hi)) i (by simpa using hi)
    simpa[h3,lmap]using this
theorem Mt (r:List R)(j:Nat)(aG:List R)(k:Nat):
 (setRow r j aG).getD k .undef=if j<=k/\k<j+aG.length/\k<r.length then aG.getD (k-j) .undef else r.getD k .undef:=by
 induction aG generalizing r j with
 |nil=>rw[asp (by simp;omega)];rfl
 |cons v q bA=>
  simp only[setRow]
  rw[bA,asJ,ef]
  by_cases U:j+1<=k/\k<j+1+q.length/\k<r.length
  ·rw[asq U,asq (by simp;omega)]
   rw[show k-j=(k-(j+1))+1 by omega];simp
  ·rw[asp U]
   by_cases aa:j=k/\j<r.length
   ·obtain⟨rfl,aa⟩:=aa
    rw[asq ⟨rfl,aa⟩,asq (by simp;omega)];simp
   ·rw[asp aa,asp (by simp;omega)]
theorem sized {t:TypeId}{i:bQ}(hi:cE P t i=true)(ar:i.ty≠ .no):∃g,P.info? t=some g/\g.size=i.ty.size:=by
 cases bV:i.ty with
 |bS s=>obtain⟨g,U,aa⟩:=XK hi bV;exact⟨g,U,aa⟩
 |struct bM cs=>obtain⟨g,d,U,aa,_⟩:=uQ hi (.inl ⟨bM,bV⟩);exact⟨g,U,by rw[aa,aO.size,cf]⟩
 |arr n e cs=>obtain⟨g,d,U,aa,_⟩:=uQ hi (.inr ⟨n,e,bV⟩);exact⟨g,U,by rw[aa,aO.size,cf]⟩
 |no=>exact absurd bV ar
theorem PI {t:aO}{v:J}(h:v.fits t=true):t≠ .no:=by
 rintro rfl
 cases v<;>simp[J.fits]at h
theorem Ty {t:TypeId}{i:bQ}(hi:cE P t i=true){u:Value}(iM:i.ty≠ .no)(f1:u.cells.size=i.ty.size)(f3:∀x∈u.cells.toList,x.oneCell'=true)(b o:Nat)(cur:Array Value)(e:TypeId)
 (ae:w.heap[b]? =some (.cells cur e (0,0))) (ca:o+i.ty.size<=cur.size):
 (Instr.storeAt t (.pointer (some ⟨b,o,none⟩)) u).run P w= .ok () (w.setRow b (cur.toList.take o++u.cells.toList++cur.toList.drop (o+u.cells.toList.length)).toArray):=by
 obtain⟨g,U,aa⟩:=sized hi iM
 have ct:=run_storeCells_at P b o e u.cells.toList 0 cur w ae (by simp;omega) f3
 simp only[asN]at ct
 simp[Instr.storeAt,Instr.sureAddr,storeVar,k_ U,f1,aa,ct]
theorem EL {Z:Nat->Prop}:∀(cs:List b0) (r:List R) (j:Nat) (us:Nat->Value),(∀m,m<cs.length->Reads Z w (r.getD (j+m) .undef) (us m))->(∀p∈(mc cs r j).1,p)->
 (mc cs r j).2.length=cs.length/\∀m,m<cs.length->dE Z w ρ own ((mc cs r j).2.getD m .un) (us m)
 |[],r,j,us,_,_=>⟨rfl,fun m hm=>by simp at hm⟩
 |s::cB,r,j,us,h,ao=>by
  simp only[mc]at ao⊢
  obtain⟨U,aa⟩:=EL cB r (j+1) (fun m=>us (m+1)) (fun m hm=>by have:=h (m+1) (by simp;omega);rwa [show j+(m+1)=j+1+m by omega]at this) (fun p aw=>ao p (at3 _ aw))
  refine⟨by simpa using U,fun m hm=> ?_⟩
  cases m with
  |zero=>exact sE (h 0 (by simp)) (ao _ (auk ..))
  |succ m=>simpa using aa m (by simpa using hm)
theorem UK {r v:List R}{j n aj:Nat}(aM:v.length=n)(aK:j+n<=aj)(ak:(j=0/\n=aj)\/r.length=aj)(c:Nat)(ay:c<aj):
 (xv r j n aj v).getD c .undef=if j<=c/\c<j+n then v.getD (c-j) .undef else r.getD c .undef:=by
 have part:j=0->n≠aj->(v++r.drop n).getD c .undef=if j<=c/\c<j+n then v.getD (c-j) .undef else r.getD c .undef:=fun aE ar=>by
  subst aE
  simp only[ass,asS]
  by_cases h:c<n
  ·rw[asq (by omega),asq (by omega),Nat.sub_zero]
  ·rw[asp (by omega),asp (by omega),atK,show n+(c-v.length)=c by omega]
 unfold xv
 split
 ·rename_i aE
  have aE:=ast aE
  split
  ·rename_i ar
   have ar:=ast ar
   rw[asq (by omega),aE,Nat.sub_zero]
  ·rename_i ar
   exact part aE fun e=>by subst e;rw[ato]at ar;cases ar
 ·rename_i aE
  have aE:j≠0:=fun e=>by subst e;rw[ato]at aE;cases aE
  have ak:r.length=aj:=ak.resolve_left fun e=>aE e.1
  simp only[ass,asS,asW]
  by_cases U:c<j
  ·rw[asq (by omega),asp (by omega),ath,asq U]
  ·rw[asp (by omega)]
   by_cases aa:c<j+n
   ·rw[asq (by omega),asq (by omega),show c-min j r.length=c-j by omega]
   ·rw[asp (by omega),asp (by omega),atK]
    simp only[Nat.add_eq]
    congr 2
    omega
theorem Ns (bx:b4 N ρ own w){id:Nat}{loc:Loc}{b:Nat}(aq:ρ[id]? =some loc)(fZ:loc.a=some ⟨b,0,none⟩)(dr:loc.bO=some b)(dy:frozenAt own id=false){aj:Nat}{l:List (List R)}
 (aH:ad.at own id= .rows aj l) {n:Nat} (ar:n<l.length) {j:Nat} {us:List Value} (aK:j+us.length<=aj) (lV:List R)
 (ak:∀c,c<aj->if j<=c/\c<j+us.length then Reads (aI N ρ own) w (lV.getD c .undef) (us.getD (c-j) undef)else lV.getD c .undef=(l.getD n []).getD c .undef):
 ∃aG e,w.heap[b]? =some (.cells aG e (0,0))/\n*aj+j+us.length<=aG.size/\
  Step N ρ own w ρ (cH own id (false, .rows aj (l.set n lV))) (w.setRow b (aG.toList.take (n*aj+j)++us++aG.toList.drop (n*aj+j+us.length)).toArray):=by
 have bB:=bx.jz aq
 have b1:=bx.ob id loc aq
 rw[aH]at b1
 rcases b1 with⟨rfl,_⟩|⟨ee,aG,e,aU,a_,bF,di,eB,oL,hb⟩
 ·simp at ar
 rw[fZ]at aU;simp at aU;subst aU
 have hbound:n*aj+aj<=aG.size:=by
  have:(n+1)*aj<=loc.cap*aj:=asF _ (by omega)
  rw[asK]at this;omega
 refine⟨aG,e,bF,by omega, ?_⟩
 rw[ep]
 have eK:(ad.rows aj (l.set n lV)).len=(ad.at own id).len:=by rw[aH];simp[ad.len]
 have hJ:(ad.rows aj (l.set n lV)).ch=(ad.at own id).ch:=by rw[aH];rfl
 have hm:=Ac bx aq dr dy (ad.rows aj (l.set n lV)) ((aG.toList.take (n*aj+j)++us++aG.toList.drop (n*aj+j+us.length)).toArray)
 refine Step.write bx id loc b aq dr dy _ eK hJ _ (.inr ⟨b,_,e,fZ,dr,setRow_heap w b aG _ e (0,0) bF,by simpa using di, ?_,oL,fun q c aN ay=> ?_⟩)
 ·rw[uw _ _ _ (by omega)];exact eB
 ·simp only[asJ]at aN
  rw[sB _ _ _ (by omega),ef]
  by_cases eE:n*aj+j<=q*aj+c/\q*aj+c<n*aj+j+us.length
  ·have qR:q=n:=by
    rcases Nat.lt_trichotomy q n with js|rfl|aap
    ·have:(q+1)*aj<=n*aj:=asF _ (by omega)
     rw[asK]at this;omega
    ·rfl
    ·have:(n+1)*aj<=q*aj:=asF _ (by omega)
     rw[asK]at this;omega
   subst qR
   rw[asq eE,asq ⟨rfl,aN⟩]
   have:=ak c ay
   rw[asq (by omega)]at this
   refine⟨us.getD (c-j) undef, ?_,hm _ _ this⟩
   rw[show q*aj+c-(q*aj+j)=c-j by omega,asI (by omega)]
   simp[ass,show c-j<us.length by omega]
  ·rw[asp eE]
   obtain⟨pO,vV,ou⟩:=hb q c aN ay
   refine⟨pO,vV, ?_⟩
   by_cases qR:n=q
   ·subst qR
    have:=ak c ay
    rw[asp (by omega)]at this
    rw[asq ⟨rfl,aN⟩,this]
    exact hm _ _ ou
   ·rw[asp (by simp[qR])]
    exact hm _ _ ou
theorem Tz {t:TypeId}{i:bQ}(hi:cE P t i=true)(bx:b4 N ρ own w){x:J}{sz u:Value}(af:bz (aI N ρ own) w ρ own x sz){r:List R}(aM:bz (aI N ρ own) w ρ own (.rw i.ty.size r) u)
 {safe:List Prop} {v:J} {own':aB} (h:p1 i.ty x r own= .aR safe v own') (qq:∀p∈safe,p):
 ∃w',v= .un/\(Instr.storeAt t sz u).run P w= .ok () w'/\Step N ρ own w ρ own' w':=by
 obtain⟨a,rfl,DX,aaq,jd⟩:=aM
 unfold p1 at h
 split at h
 rotate_left
 ·cases h
 rename_i id n j mP
 have iM:i.ty≠ .no:=by intro e;rw[e]at mP;cases mP
 split at h
 rotate_left
 ·cases h
 rename_i aj l dy aH
 split at h
 rotate_left
 ·cases h
 rename_i hle
 simp only[bH.aR.injEq]at h
 obtain⟨rfl,rfl,rfl⟩:=h
 have hle:j+i.ty.size<=aj:=asV hle
 have yU:r.length=i.ty.size:=aaq
 have aar:(j=0/\i.ty.size=aj)\/(l.getD n.toNat []).length=aj:=by
  by_cases aN:Nat.beq j 0=true/\Nat.beq i.ty.size aj=true
  ·exact .inl ⟨ast aN.1,ast aN.2⟩
  ·refine .inr (qq _ ?_)
   unfold PE
   split
   ·rename_i U aa;exact(aN ⟨U,aa⟩).elim
   ·simp
 obtain⟨loc,b,aq,fZ,dr,hu,aE,U⟩:=af
 rw[aH]at U hu
 simp only[ad.len,ad.ch]at U hu
 have mU:(Value.agg a).cells.toList.length=i.ty.size:=by show a.toList.length=_;simp;omega
 have Iq:∀c,c<aj->if j<=c/\c<j+(Value.agg a).cells.toList.length then Reads (aI N ρ own) w ((xv (l.getD n.toNat []) j i.ty.size aj r).getD c .undef) ((Value.agg a).cells.toList.getD (c-j) undef)else(xv (l.getD n.toNat []) j i.ty.size aj r).getD c .undef=(l.getD n.toNat []).getD c .undef:=fun c ay=>by
  rw[UK yU hle aar c ay,mU]
  split
  ·have:=jd (c-j) (by omega)
   simpa[Value.cells,asA,ass]using this
  ·rfl
 obtain⟨aG,e,s1,s2,m7⟩:=Ns bx aq fZ dr dy aH (n:=n.toNat) (by omega) (by rw[mU];exact hle) _ Iq
 rw[mU]at s2
 have f1:(Value.agg a).cells.size=i.ty.size:=by rw[<-mU];simp
 have HG:∀y∈(Value.agg a).cells.toList,y.oneCell'=true:=fun y a6=>by
  simp only[Value.cells,Array.mem_toList_iff]at a6
  obtain⟨m,hm,rfl⟩:=Array.getElem_of_mem a6
  have:=(jd m (by omega)).one
  simpa[asA,hm]using this
 refine⟨_,rfl,by rw[hu];exact Ty (w:=w) hi iM f1 HG b (n.toNat*aj+j) aG e s1 s2,m7⟩
theorem ux {Z:Nat->Prop}{t:aO}{v:J}{u:Value}{r:List R}(h:n6 own t v=some r)(aM:bz Z w ρ own v u):bz Z w ρ own (.rw t.size r) u:=by
 unfold n6 at h
 split at h
 ·split at h
  ·rename_i ar
   obtain rfl:=asB h
   rw[<-ast ar];exact aM
  ·cases h
 ·rename_i l
  split at h
  ·rename_i mP ar aP
   obtain rfl:=asB h
   obtain⟨a,rfl,U,aa⟩:=aM
   have ca:l.length=t.size:=by
    have:=ast ar
    rw[cf,cf]at this
    rw[this]
    cases t<;>first|(simp[aO.cells,aO.size,cf];done)|cases mP
   rw[eW,asH]at aP
   have aq:(lz own t.cells (.agg l)).length=l.length:=by unfold lz;rw[c5,asy,w3];rfl
   refine⟨a,rfl,by rw[<-ca];exact U,by rw[aq];exact ca,fun m hm=> ?_⟩
   rw[<-ca]at hm
   exact Ae t.cells l (fun m=>a.getD m undef) aP aa m hm
  ·cases h
 ·cases h
theorem Af {t:TypeId}{i:bQ}(hi:cE P t i=true){v:J}{u:Value}(aQ:v.fits i.ty=true)(hu:bz (aI N ρ own) w ρ own v u)(b o:Nat)(cur:Array Value)(e:TypeId)
 (ae:w.heap[b]? =some (.cells cur e (0,0))) (ca:o+i.ty.size<=cur.size):
 (Instr.storeAt t (.pointer (some ⟨b,o,none⟩)) u).run P w= .ok () (w.setRow b (cur.toList.take o++u.cells.toList++cur.toList.drop (o+u.cells.toList.length)).toArray):=by
 obtain⟨g,U,aa⟩:=sized hi (PI aQ)
 obtain⟨f1,f2,f3,f4⟩:=sF aQ hu
 have ct:=run_storeCells_at P b o e u.cells.toList 0 cur w ae (by simp;omega) f3
 simp only[asN]at ct
 simp[Instr.storeAt,Instr.sureAddr,storeVar,k_ U,f1,aa,ct]
theorem Ta {t:TypeId}{i:bQ}(hi:cE P t i=true)(bx:b4 N ρ own w){id:Nat}{n:Int}{j:Nat}{sz u:Value}(af:bz (aI N ρ own) w ρ own (.oat id n j) sz){y:J}(aM:bz (aI N ρ own) w ρ own y u)
 {safe:List Prop} {v:J} {own':aB} (h:pX i.ty id n j y own= .aR safe v own'):
 ∃w',v= .un/\(Instr.storeAt t sz u).run P w= .ok () w'/\Step N ρ own w ρ own' w':=by
 unfold pX at h
 split at h
 rotate_left
 ·cases h
 rename_i s bV
 split at h
 rotate_left
 ·cases h
 rename_i aj l dy aH aP
 simp only[bH.aR.injEq]at h
 obtain⟨rfl,rfl,rfl⟩:=h
 obtain⟨loc,b,aq,fZ,dr,hu,aE,U,lS⟩:=af
 rw[aH]at U hu lS
 simp only[ad.len,ad.ch]at U hu lS
 have eo:J.fits i.ty y=true:=by rw[bV];cases y<;>first|rfl|cases aP
 obtain⟨f1,f2,f3,f4⟩:=sF eo aM
 have Ri:i.ty.size=1:=by rw[bV];rfl
 have a6:y.cellsOf=[y]:=by cases y<;>first|rfl|cases aP
 have mU:u.cells.toList.length=1:=by rw[Ri]at f1;simpa using f1
 have hY:Reads (aI N ρ own) w ((s.norm own y).hn own) (u.cells.getD 0 undef):=by
  have:=f4 0 (by omega)
  rw[a6]at this
  exact(Ad aP this).2 s
 have Iq:∀c,c<aj->if j<=c/\c<j+u.cells.toList.length then Reads (aI N ρ own) w (((l.getD n.toNat []).set j (J.hn own (s.norm own y))).getD c .undef) (u.cells.toList.getD (c-j) undef)else((l.getD n.toNat []).set j (J.hn own (s.norm own y))).getD c .undef=(l.getD n.toNat []).getD c .undef:=fun c ay=>by
  rw[mU,ef]
  by_cases e:j=c
  ·subst e
   rw[asq (by omega),Nat.sub_self]
   have az:u.cells.toList.getD 0 undef=u.cells.getD 0 undef:=by simp[asA,ass]
   rw[az]
   split
   ·exact hY
   ·rename_i iM
    have tB:(l.getD n.toNat []).getD j .undef= .undef:=by
     simp only[ass]at iM⊢
     rw[as5 (by simp at iM;simpa using iM)];rfl
    rw[tB]
    exact .undef _ hY.one
  ·rw[asp (by omega),asp (by simp[e])]
 obtain⟨aG,e,s1,s2,m7⟩:=Ns bx aq fZ dr dy aH (n:=n.toNat) (by omega) (by omega) _ Iq
 refine⟨_,rfl,by rw[hu];exact Af (w:=w) hi eo aM b (n.toNat*aj+j) aG e s1 (by omega),m7⟩
theorem TA {t:TypeId}{i:bQ}(hi:cE P t i=true)(bx:b4 N ρ own w){op kF:Operand}{tm:List J}{a:Act}(aA:dC (aI N ρ own) w ρ own tm a.tmps)
 {safe:List Prop} {v:J} {own':aB} (h:oT i.ty (aS tm op) (aS tm kF) own= .aR safe v own') (qq:∀p∈safe,p):
 ∃w',v= .un/\(Instr.storeAt t (a.eval op) (a.eval kF)).run P w= .ok () w'/\Step N ρ own w ρ own' w':=by
 have af:=dK aA op
 have aM:=dK aA kF
 generalize aS tm op=x at*
 generalize aS tm kF=y at*
 unfold oT at h
 split at h
 ·rename_i r ak
  exact Tz hi bx af (ux ak aM) h qq
 split at h
 ·exact Ta hi bx af aM h
 rename_i YN
 clear YN
 unfold sO at h
 split at h
 ·rename_i id off
  obtain⟨loc,b,aq,fZ,dr,hu⟩:=af
  have bB:=bx.jz aq
  split at h
  ·rename_i l dy aH eo
   split at h
   ·rename_i hle
    simp only[bH.aR.injEq]at h
    obtain⟨rfl,rfl,rfl⟩:=h
    have hle:=asV hle
    rw[cf]at hle
    simp only[Nat.add_eq]at hle
    have b1:=bx.ob id loc aq
    rw[aH]at b1
    obtain⟨ee,aG,e,aU,a_,bF,di,eB⟩:=b1
    rw[fZ]at aU;simp at aU;subst aU
    obtain⟨f1,f2,f3,f4⟩:=sF eo aM
    have hlen:(a.eval kF).cells.toList.length=i.ty.size:=by simpa using f1
    have eI:=Af (w:=w) hi eo aM b off aG e bF (by omega)
    refine⟨_,rfl,by rw[hu];exact eI, ?_⟩
    rw[ep]
    have eK:(ad.cells (setCells l off y.cellsOf)).len=(ad.at own id).len:=by rw[aH];simp[ad.len,uv]
    have hJ:(ad.cells (setCells l off y.cellsOf)).ch=(ad.at own id).ch:=by rw[aH];rfl
    refine Step.write bx id loc b aq dr dy _ eK hJ _ ⟨b,_,e,fZ,dr,setRow_heap w b aG _ e (0,0) bF, ?_,fun k ab=> ?_⟩
    ·rw[uw _ _ _ (by omega),di,uv]
    ·rw[uv]at ab
     have hm:∀(cs:Array Value) (e5:J) (pO:Value),dE (aI N ρ own) w ρ own e5 pO->
      dE (aI N ρ (own.set id (false, .cells (setCells l off y.cellsOf)))) (w.setRow b cs) ρ (own.set id (false, .cells (setCells l off y.cellsOf))) e5 pO:=fun cs e5 pO aE=>
      aE.mono (Ac bx aq dr dy (.cells (setCells l off y.cellsOf)) cs) (fun idx _=>UJ id (.cells (setCells l off y.cellsOf)) bB eK hJ idx)
     rw[Lb _ _ _ _ ab,asA,sB _ _ _ (by omega),hlen,f2]
     by_cases eE:off<=k/\k<off+i.ty.size
     ·rw[asq eE,asq eE]
      rw[show((a.eval kF).cells.toList[k-off]?).getD undef=(a.eval kF).cells.getD (k-off) undef by simp[asA]]
      exact hm _ _ _ (f4 (k-off) (by omega))
     ·rw[asp eE,asp eE]
      rw[show(aG[k]?).getD undef=aG.getD k undef by simp[asA]]
      exact hm _ _ _ (eB k ab)
   ·cases h
  ·cases h
 ·rename_i id n j
  obtain⟨loc,b,aq,fZ,dr,hu,aE,U⟩:=af
  have bB:=bx.jz aq
  have b1:=bx.ob id loc aq
  split at h
  ·rename_i k l dy aH eo
   split at h
   ·rename_i b3 z _
    split at h
    ·rename_i ab vA
     obtain rfl:=ast vA
     simp only[bH.aR.injEq]at h
     obtain⟨rfl,rfl,rfl⟩:=h
     obtain rfl:=iS.1 ab
     have DY:=iE aM
     rw[aH]at b1 U hu
     simp only[ad.len,ad.ch,asY,asN]at U hu
     rcases b1 with⟨rfl,_⟩|⟨ee,aG,e,aU,a_,bF,di,eB,hb⟩
     ·simp at U;omega
     ·rw[fZ]at aU;simp at aU;subst aU
      obtain⟨f1,f2,f3,f4⟩:=sF eo aM
      have pB:(a.eval kF).cells.toList=[.int k z]:=by rw[DY];rfl
      have Ri:i.ty.size=1:=by rw[<-f1,DY];rfl
      have eI:=Af (w:=w) hi eo aM b n.toNat aG e bF (by omega)
      refine⟨_,rfl,by rw[hu];exact eI, ?_⟩
      rw[ep]
      have eK:(ad.ints k (l.set n.toNat z)).len=(ad.at own id).len:=by rw[aH];simp[ad.len]
      have hJ:(ad.ints k (l.set n.toNat z)).ch=(ad.at own id).ch:=by rw[aH];rfl
      refine Step.write bx id loc b aq dr dy _ eK hJ _ (.inr ⟨b,_,e,fZ,dr,setRow_heap w b aG _ e (0,0) bF,by simpa using di, ?_,fun q aN=> ?_⟩)
      ·rw[uw _ _ _ (by rw[pB];simp;omega)];exact eB
      ·simp only[asJ]at aN
       rw[sB _ _ _ (by rw[pB];simp;omega),pB,ef]
       by_cases eE:n.toNat=q
       ·subst eE
        rw[asq (by simp),asq ⟨rfl,aN⟩];simp
       ·rw[asp (by simp;omega),asp (by simp[eE])]
        exact hb q aN
    ·cases h
   ·cases h
  ·rename_i aj l dy aH eo
   split at h
   ·rename_i hle DA
    simp only[bH.aR.injEq]at h
    obtain⟨rfl,rfl,rfl⟩:=h
    have hle:=asV hle
    simp only[Nat.add_eq]at hle
    rw[eW,asH]at DA
    rw[aH]at b1 U hu
    simp only[ad.len,ad.ch]at U hu
    rcases b1 with⟨rfl,_⟩|⟨ee,aG,e,aU,a_,bF,di,eB,oL,hb⟩
    ·simp at U;omega
    ·rw[fZ]at aU;simp at aU;subst aU
     obtain⟨f1,f2,f3,f4⟩:=sF eo aM
     have hlen:(a.eval kF).cells.toList.length=i.ty.size:=by simpa using f1
     have kv:n.toNat<l.length:=by omega
     have hbound:n.toNat*aj+aj<=aG.size:=by
      have:(n.toNat+1)*aj<=loc.cap*aj:=asF _ (by omega)
      rw[asK]at this;omega
     have eI:=Af (w:=w) hi eo aM b (n.toNat*aj+j) aG e bF (by omega)
     refine⟨_,rfl,by rw[hu];exact eI, ?_⟩
     rw[ep]
     have vw:∃ws:List R,lmap (J.hn own) (i.ty.norm own y).cellsOf=ws/\ws.length=i.ty.size/\
      ∀m,m<i.ty.size->Reads (aI N ρ own) w (ws.getD m .undef) ((a.eval kF).cells.getD m undef):=by
      refine⟨_,rfl, ?_⟩
      have vx:∀(cs:List b0) (q:List J),y.cellsOf=q->(i.ty.norm own y).cellsOf=h3 own cs q->
       (lmap (J.hn own) (i.ty.norm own y).cellsOf).length=i.ty.size/\
       ∀m,m<i.ty.size->Reads (aI N ρ own) w ((lmap (J.hn own) (i.ty.norm own y).cellsOf).getD m .undef) ((a.eval kF).cells.getD m undef):=by
       intro cs q aN ar
       rw[ar]
       refine⟨by rw[c5,asy,w3,<-aN,f2],fun m hm=> ?_⟩
       rw[aN]at DA f2 f4
       exact Ae cs q (fun m=>(a.eval kF).cells.getD m undef) DA (fun pL dH=>f4 pL (by omega)) m (by omega)
      cases bV:i.ty with
      |bS s=>
       rw[bV]at eo vx
       have a6:y.cellsOf=[y]:=by cases y<;>first|rfl|simp[J.fits,J.nm]at eo
       have aP:=DA y (by rw[a6];simp)
       refine vx [s] [y] a6 ?_
       simp only[aO.norm,h3]
       cases y<;>simp only[J.gy,atF]at aP<;>cases s<;>rfl
      |struct bM cs=>
       rw[bV]at eo vx
       cases y<;>simp only[J.fits,atF]at eo
       exact vx cs _ rfl rfl
      |arr n' cd cs=>
       rw[bV]at eo vx
       cases y<;>simp only[J.fits,atF]at eo
       exact vx cs _ rfl rfl
      |no=>rw[bV]at eo;exact absurd rfl (PI eo)
     obtain⟨ws,aas,ajq,Ie⟩:=vw
     rw[aas]
     have eK:(ad.rows aj (l.set n.toNat (setRow (l.getD n.toNat []) j ws))).len=(ad.at own id).len:=by rw[aH];simp[ad.len]
     have hJ:(ad.rows aj (l.set n.toNat (setRow (l.getD n.toNat []) j ws))).ch=(ad.at own id).ch:=by rw[aH];rfl
     have hm:=Ac bx aq dr dy (ad.rows aj (l.set n.toNat (setRow (l.getD n.toNat []) j ws)))
      ((aG.toList.take (n.toNat*aj+j)++(a.eval kF).cells.toList++aG.toList.drop (n.toNat*aj+j+(a.eval kF).cells.toList.length)).toArray)
     refine Step.write bx id loc b aq dr dy _ eK hJ _ (.inr ⟨b,_,e,fZ,dr,setRow_heap w b aG _ e (0,0) bF,by simpa using di, ?_,oL,fun q r aN ak=> ?_⟩)
     ·rw[uw _ _ _ (by omega)];exact eB
     ·simp only[asJ]at aN
      rw[sB _ _ _ (by omega),hlen,ef]
      rw[hlen]at hm
      by_cases eE:n.toNat*aj+j<=q*aj+r/\q*aj+r<n.toNat*aj+j+i.ty.size
      ·
       have qR:q=n.toNat:=by
        rcases Nat.lt_trichotomy q n.toNat with js|rfl|aap
        ·have:(q+1)*aj<=n.toNat*aj:=asF _ (by omega)
         rw[asK]at this;omega
        ·rfl
        ·have:(n.toNat+1)*aj<=q*aj:=asF _ (by omega)
         rw[asK]at this;omega
       subst qR
       rw[asq eE,asq ⟨rfl,aN⟩]
       have aat:r-j<i.ty.size:=by omega
       have YO:(a.eval kF).cells.toList[n.toNat*aj+r-(n.toNat*aj+j)]? =some ((a.eval kF).cells.getD (r-j) undef):=by
        rw[show n.toNat*aj+r-(n.toNat*aj+j)=r-j by omega]
        simp[asA,show r-j<(a.eval kF).cells.size by omega]
       refine⟨_,YO, ?_⟩
       rw[Mt]
       have:=hm _ _ (Ie (r-j) aat)
       split
       ·exact this
       ·rename_i iM
        have Zg:¬r<(l.getD n.toNat []).length:=by omega
        have tB:(l.getD n.toNat []).getD r .undef= .undef:=by simp only[ass]at Zg⊢;rw[as5 (by omega)];rfl
        rw[tB]
        exact .undef _ this.one
      ·rw[asp eE]
       obtain⟨pO,vV,ou⟩:=hb q r aN ak
       refine⟨pO,vV, ?_⟩
       by_cases qR:n.toNat=q
       ·subst qR
        rw[asq ⟨rfl,aN⟩,Mt,asp (by omega)]
        exact hm _ _ ou
       ·rw[asp (by simp[qR])]
        exact hm _ _ ou
   ·cases h
  ·cases h
 ·cases h
end
end Go.bG
end
section
namespace Go.bG
section
variable {P:Program} {N:Nat->Prop} {ρ:List Loc} {own:aB} {w:World}
theorem nh (w:World)(o:Obj):(w.alloc o).heap[w.heap.size]? =some o:=heap_alloc_new w o
theorem Ag (h:b4 N ρ own w)(loc:Loc)(ae:loc.bO=some w.heap.size\/loc.bO=none)(p:Bool×ad)(o:Obj):
 ∀x u,Reads (aI N ρ own) w x u->Reads (aI N (ρ++[loc]) (own++[p])) (w.alloc o) x u:=fun x u ak=>
 ak.mono fun b bB bc=>⟨heap_alloc_old w o b bB,fun cS=>by
  rcases cS with ar|⟨i,l,U,aa,al⟩
  ·exact bc (.inl ar)
  ·rw[asS]at U
   by_cases hi:i<ρ.length
   ·rw[asq hi]at U
    rw[kn,asp (by rw[<-h.len];omega)]at al
    exact bc (.inr ⟨i,l,U,aa,al⟩)
   ·rw[asp hi]at U
    cases aP:i-ρ.length with
    |zero=>
     simp[aP]at U;subst U
     rcases ae with ae|ae<;>rw[ae]at aa
     ·simp at aa;omega
     ·cases aa
    |succ n=>simp[aP]at U⟩
theorem EM (h:b4 N ρ own w)(loc:Loc)(p:Bool×ad)(id:Nat):eg ρ own (ρ++[loc]) (own++[p]) id:=fun l aq=>by
 have:=h.jz aq
 refine⟨by rw[atp (by rw[h.len];exact this)];exact aq, ?_⟩
 rw[gw,asp (by omega)];exact⟨rfl,rfl⟩
theorem p3 (h:b4 N ρ own w)(loc:Loc):(ρ++[loc])[own.length]? =some loc:=by rw[<-h.len];simp
theorem PJ (h:b4 N ρ own w)(elem:TypeId)(l:List J)(cs:Array Value)(ao:cs.size=l.length)(ak:∀i,i<l.length->dE (aI N ρ own) w ρ own (l.getD i .un) (cs.getD i undef)):
 ∃ρ',Step N ρ own w ρ' (own++[(false, .cells l)]) (w.alloc (.cells cs elem))/\
  bz (aI N ρ' (own++[(false, .cells l)])) (w.alloc (.cells cs elem)) ρ' (own++[(false, .cells l)]) (.ptr own.length 0) (.pointer (some ⟨w.heap.size,0,none⟩)):=by
 refine⟨_,Step.alloc h false (.cells l) (.cells cs elem) 0 ⟨w.heap.size,cs,elem,rfl,rfl,nh w _,ao,fun i hi=> ?_⟩, .cM ⟨_,w.heap.size,p3 h _,rfl,rfl,rfl⟩⟩
 exact(ak i hi).mono (Ag h _ (.inl rfl) _ _) (fun id _=>EM h _ _ id)
theorem Mu {Z:Nat->Prop}{s:b0}{v:Value}(h:xy s v=true):dE Z w ρ own s.zero v:=by
 cases s<;>cases v<;>simp only[xy,atF,asD]at h<;>simp only[b0.zero]
 case int.int k b3 n=>
  obtain⟨U,aa⟩:=h
  obtain rfl:=iS.1 U
  cases n with
  |ofNat m=>cases m with
   |zero=>exact .int _ _
   |succ m=>exact absurd aa atB
  |negSucc m=>exact absurd aa atB
 case bool.bool b=>cases b<;>simp at h;exact .bool _
 case str.string s=>
  have aE:=ast h
  refine .str s [] ?_
  have:s.data.toList=[]:=atc.1 (by rw[atu];exact aE)
  rw[this];rfl
 case sints.slice k a l c=>cases a<;>cases l<;>cases c<;>simp at h;exact⟨none,rfl⟩
 case srows.slice k a l c=>cases a<;>cases l<;>cases c<;>simp at h;exact⟨none,rfl⟩
 all_goals trivial
theorem Ey {Z:Nat->Prop}{w:World}{ρ:List Loc}{own:aB}:∀{cs:List b0} {aG:List Value},lZ cs aG=true->aG.length=cs.length/\∀i,i<cs.length->dE Z w ρ own ((lmap b0.zero cs).getD i .un) (aG.getD i undef)
 |[],[],_=>⟨rfl,fun i hi=>by simp at hi⟩
 |[],_::_,h=>by simp[lZ]at h
 |_::_,[],h=>by simp[lZ]at h
 |s::cB,v::aG,h=>by
  simp only[lZ,asD]at h
  obtain⟨U,aa⟩:=Ey (Z:=Z) (w:=w) (ρ:=ρ) (own:=own) h.2
  refine⟨by simp[U],fun i hi=> ?_⟩
  cases i with
  |zero=>exact Mu h.1
  |succ i=>have:=aa i (by simpa using hi);simpa[lmap]using this
theorem XL {t:TypeId}{i:bQ}(hi:cE P t i=true)(ar:i.ty≠ .no):∃g cs,P.info? t=some g/\m2 g.zero cs=true/\lmap b0.zero cs=i.ty.zero:=by
 unfold cE at hi
 split at hi
 ·rename_i h;exact absurd h ar
 all_goals first
  |cases hi
  |(rename_i U aa al
    simp only[asD]at hi
    refine⟨_, ?_,aa, ?_, ?_⟩
    rotate_left
    ·first|exact hi.2|exact hi.1.2|exact hi.1.1.2|exact hi.1.1.1.2|exact hi.1.1.1.1.2|exact hi.1.1.1.1.1.2
    ·rw[U];rfl)
theorem Fa {t:TypeId}{i:bQ}(hi:cE P t i=true)(ar:i.ty≠ .no):∃g z,P.info? t=some g/\g.zero=some z/\
 z.cells.size=i.ty.zero.length/\∀(Z:Nat->Prop) k,k<i.ty.zero.length->dE Z w ρ own (i.ty.zero.getD k .un) (z.cells.getD k undef):=by
 obtain⟨g,cs,aT,bc,ay⟩:=XL hi ar
 unfold m2 at bc
 cases jU:g.zero with
 |none=>rw[jU]at bc;cases bc
 |some z=>
  rw[jU]at bc
  refine⟨g,z,aT,jU, ?_,fun Z k ab=> ?_⟩
  ·obtain⟨U,_⟩:=Ey (Z:=fun _=>False) (w:=w) (ρ:=ρ) (own:=own) bc
   rw[<-ay,c5,asy,<-U];simp
  ·obtain⟨U,aa⟩:=Ey (Z:=Z) (w:=w) (ρ:=ρ) (own:=own) bc
   rw[<-ay]at ab⊢
   have:=aa k (by simpa[c5]using ab)
   simpa[asA,ass]using this
theorem VB {t:TypeId}{i:bQ}(hi:cE P t i=true)(ar:i.ty≠ .no)(h:b4 N ρ own w):
 ∃u w' ρ',(Instr.alloc t true (.tuple #[])).run P w= .ok u w'/\Step N ρ own w ρ' (own++[(false, .cells i.ty.zero)]) w'/\
  bz (aI N ρ' (own++[(false, .cells i.ty.zero)])) w' ρ' (own++[(false, .cells i.ty.zero)]) (.ptr own.length 0) u:=by
 obtain⟨g,z,U,aa,al,aL⟩:=Fa (w:=w) (ρ:=ρ) (own:=own) hi ar
 obtain⟨ρ',aU,a_⟩:=PJ h t i.ty.zero z.cells al (fun k ab=>aL _ k ab)
 exact⟨_,_,ρ',by simp[Instr.alloc,zeroValue,typeInfo,U,aa,newVar,newRow],aU,a_⟩
theorem XM (t:TypeId)(h:b4 N ρ own w){cw:Operand}{tm:List J}{a:Act}(aA:dC (aI N ρ own) w ρ own tm a.tmps)(ao:dq J.nm (aS tm cw).cellsOf=true):
 ∃u w' ρ',(Instr.box t (a.eval cw)).run P w= .ok u w'/\Step N ρ own w ρ' (own++[(false, .cells (aS tm cw).cellsOf)]) w'/\
  bz (aI N ρ' (own++[(false, .cells (aS tm cw).cellsOf)])) w' ρ' (own++[(false, .cells (aS tm cw).cellsOf)]) (.ptr own.length 0) u:=by
 have af:=dK aA cw
 generalize aS tm cw=x at*
 have ay:(a.eval cw).cells.size=x.cellsOf.length/\∀i,i<x.cellsOf.length->dE (aI N ρ own) w ρ own (x.cellsOf.getD i .un) ((a.eval cw).cells.getD i undef):=by
  cases x with
  |agg l=>
   obtain⟨arr,U,aa,al⟩:=af
   rw[U];exact⟨aa,al⟩
  |_=>
   simp only[J.cellsOf,dq]at ao⊢
   split at ao
   ·rename_i ev
    obtain⟨U,aa⟩:=uu ev af
    rw[w2 aa]
    refine⟨rfl,fun i hi=> ?_⟩
    have:i=0:=by simp at hi;omega
    subst this;exact U
   ·cases ao
 obtain⟨ρ',aU,a_⟩:=PJ h t x.cellsOf (a.eval cw).cells ay.1 ay.2
 exact⟨_,_,ρ',by simp[Instr.box,newVar,newRow],aU,a_⟩
theorem Lc {Z:Nat->Prop}{s:b0}{v:Value}(h:xy s v=true):Reads Z w s.ir v:=by
 have:=Mu (w:=w) (ρ:=[]) (own:=[]) (Z:=Z) h
 cases s with
 |int k=>exact this
 |bool=>exact this
 |str=>exact this
 |sints k=>obtain⟨a,rfl⟩:=this;exact .h4 _ _ _
 |srows aj=>obtain⟨a,rfl⟩:=this;exact .jK _ _ _
 |other=>exact .undef _ h
theorem q6 {Z:Nat->Prop}{w:World}:∀{cs:List b0} {aG:List Value},lZ cs aG=true->aG.length=cs.length/\∀i,i<cs.length->Reads Z w ((lmap b0.ir cs).getD i .undef) (aG.getD i undef)
 |[],[],_=>⟨rfl,fun i hi=>by simp at hi⟩
 |[],_::_,h=>by simp[lZ]at h
 |_::_,[],h=>by simp[lZ]at h
 |s::cB,v::aG,h=>by
  simp only[lZ,asD]at h
  obtain⟨U,aa⟩:=q6 (Z:=Z) (w:=w) h.2
  refine⟨by simp[U],fun i hi=> ?_⟩
  cases i with
  |zero=>exact Lc h.1
  |succ i=>have:=aa i (by simpa using hi);simpa[lmap]using this
theorem VC {t:aO}(h:t.jj=true):t.size=t.cells.length/\lmap b0.zero t.cells=t.zero/\t≠ .no:=by
 cases t with
 |struct bM cs=>exact⟨by simp[aO.size,aO.cells,cf],rfl,by simp⟩
 |arr n e cs=>exact⟨by simp[aO.size,aO.cells,cf],rfl,by simp⟩
 |_=>cases h
theorem Mv (h:b4 N ρ own w)(elem:TypeId){n:Nat}(ar:0<n)(r:List R)(cs:Array Value)(ao:cs.size=n)(ak:∀i,i<n->Reads (aI N ρ own) w (r.getD i .undef) (cs.getD i undef)):
 ∃ρ',Step N ρ own w ρ' (own++[(false, .rows n [r])]) (w.alloc (.cells cs elem))/\
  bz (aI N ρ' (own++[(false, .rows n [r])])) (w.alloc (.cells cs elem)) ρ' (own++[(false, .rows n [r])]) (.optr own.length 0 0) (.pointer (some ⟨w.heap.size,0,none⟩)):=by
 have cg:ad.at (own++[(false, .rows n [r])]) own.length= .rows n [r]:=by rw[gw,asq rfl]
 refine⟨_,Step.alloc h false (.rows n [r]) (.cells cs elem) 1 (.inr ⟨w.heap.size,cs,elem,rfl,rfl,nh w _,by simp,by simp[ao],ar,fun i j hi aK=> ?_⟩),
  .cM ⟨_,w.heap.size,p3 h _,rfl,rfl,by simp,by simp,by rw[cg];simp[ad.len]⟩⟩
 have hi:i=0:=by simpa using hi
 subst hi
 refine⟨cs.getD j undef,by simp[asA,show j<cs.size by omega],Ag h _ (.inl rfl) _ _ _ _ (ak j aK)⟩
theorem TB {t:TypeId}{i:bQ}(hi:cE P t i=true)(h:b4 N ρ own w){safe:List Prop}{v:J}{own':aB}(he:xc i.ty own= .aR safe v own'):
 ∃u w' ρ',(Instr.alloc t true (.tuple #[])).run P w= .ok u w'/\Step N ρ own w ρ' own' w'/\bz (aI N ρ' own') w' ρ' own' v u:=by
 unfold xc at he
 split at he
 ·rename_i ae
  split at he
  ·rename_i ar
   simp only[bH.aR.injEq]at he
   obtain⟨rfl,rfl,rfl⟩:=he
   obtain⟨cn,cF,hN⟩:=VC ae
   have ar:0<i.ty.size:=by have:0+1<=i.ty.size:=asV ar;omega
   have tj:(∃bM,i.ty= .struct bM i.ty.cells)\/∃n e,i.ty= .arr n e i.ty.cells:=by
    cases bV:i.ty with
    |struct bM cs=>exact .inl ⟨bM,rfl⟩
    |arr n e cs=>exact .inr ⟨n,e,rfl⟩
    |_=>rw[bV]at ae;cases ae
   obtain⟨g,d,aT,_,_,_,z,jU,pB⟩:=uQ hi tj
   obtain⟨oI,z2⟩:=q6 (Z:=aI N ρ own) (w:=w) pB
   have iN:z.cells.size=i.ty.size:=by rw[cn,<-oI];simp
   obtain⟨ρ',aU,a_⟩:=Mv h t ar (lmap b0.ir i.ty.cells) z.cells iN (fun k ab=>by
    have:=z2 k (by omega)
    simpa[asA,ass]using this)
   rw[fu,cf]
   exact⟨_,_,ρ',by simp[Instr.alloc,zeroValue,typeInfo,aT,jU,newVar,newRow],aU,a_⟩
  ·cases he
 ·split at he
  ·cases he
  ·rename_i ar
   simp only[bH.aR.injEq]at he
   obtain⟨rfl,rfl,rfl⟩:=he
   rw[fu,cf]
   exact VB hi ar h
theorem UL {t:TypeId}{i:bQ}(h:b4 N ρ own w){cw:Operand}{tm:List J}{a:Act}(aA:dC (aI N ρ own) w ρ own tm a.tmps){safe:List Prop}{v:J}{own':aB}(he:xw i.ty (aS tm cw) own= .aR safe v own'):
 ∃u w' ρ',(Instr.box t (a.eval cw)).run P w= .ok u w'/\Step N ρ own w ρ' own' w'/\bz (aI N ρ' own') w' ρ' own' v u:=by
 unfold xw at he
 split at he
 ·split at he
  ·rename_i r ak ar
   simp only[bH.aR.injEq]at he
   obtain⟨rfl,rfl,rfl⟩:=he
   have ar:0<i.ty.size:=by have:0+1<=i.ty.size:=asV ar;omega
   obtain⟨arr,U,aa,al,aL⟩:=ux ak (dK aA cw)
   obtain⟨ρ',aU,a_⟩:=Mv h t ar r (a.eval cw).cells (by rw[U];exact aa) (fun k ab=>by rw[U];exact aL k ab)
   rw[fu,cf]
   exact⟨_,_,ρ',by simp[Instr.box,newVar,newRow],aU,a_⟩
  ·cases he
 ·split at he
  ·rename_i ao
   simp only[bH.aR.injEq]at he
   obtain⟨rfl,rfl,rfl⟩:=he
   rw[fu,cf]
   exact XM t h aA ao
  ·cases he
theorem foldl_push (l:List Int)(s:ByteArray):(l.foldl (fun r n=>r.push (UInt8.ofNat n.toNat)) s).data.toList=s.data.toList++l.map fun n=>UInt8.ofNat n.toNat:=by
 induction l generalizing s with
 |nil=>simp
 |cons x r bA=>rw[List.foldl_cons,bA];simp
theorem Nt (off:Nat):∀(l:List (Value×Nat)) (cs:Array Value),(l.foldl (fun cs (c,j)=>cs.setIfInBounds (off+j) c) cs).size=cs.size
 |[],cs=>rfl
 |x::r,cs=>by rw[List.foldl_cons,Nt off r];simp
theorem OJ (off:Nat):∀(l:List Value) (n:Nat) (cs:Array Value) (k:Nat),off+n+l.length<=cs.size->
 ((l.zipIdx n).foldl (fun cs (c,j)=>cs.setIfInBounds (off+j) c) cs)[k]? =if off+n<=k/\k<off+n+l.length then l[k-(off+n)]? else cs[k]?
 |[],n,cs,k,_=>by rw[asp (by simp)];rfl
 |x::r,n,cs,k,h=>by
  simp only[atf]at h
  rw[List.zipIdx_cons,List.foldl_cons,OJ off r (n+1) _ k (by simp;omega)]
  by_cases U:off+(n+1)<=k/\k<off+(n+1)+r.length
  ·rw[asq U,asq (by simp;omega),show k-(off+n)=(k-(off+(n+1)))+1 by omega];simp
  ·rw[asp U,auj]
   by_cases aa:off+n=k
   ·subst aa;rw[asq rfl,asq (by omega),asq (by simp)];simp
   ·rw[asp aa,asp (by simp;omega)]
theorem AL (place:Nat->Option (Nat×Nat))(cells:Array Value)(i:Nat)(v:Value)(rest:List (Nat×Value))(off size:Nat)(aw:place i=some (off,size))(ao:v.cells.size=size)(ae:off+size<=cells.size):
 ∃dM,Instr.fill place cells ((i,v)::rest)=Instr.fill place dM rest/\dM.size=cells.size/\
  ∀k,dM[k]? =if off<=k/\k<off+size then v.cells[k-off]? else cells[k]? :=by
 refine⟨_,by simp only[Instr.fill,aw,ao];rw[asp (by simp;omega)], ?_,fun k=> ?_⟩
 ·rw[<-Array.foldl_toList]
  exact Nt off _ cells
 ·rw[<-Array.foldl_toList,Array.toList_zipIdx]
  have:=OJ off v.cells.toList 0 cells k (by simp;omega)
  simp only[asN,atu,ao]at this
  rw[this]
  split<;>simp
theorem Gn {Z:Nat->Prop}(place:Nat->Option (Nat×Nat))(oM:Nat->Nat):∀(parts:List (Nat×J)) (vals:List (Nat×Value)) (cells:Array Value) (l:List J),
 parts.length=vals.length->cells.size=l.length->(∀k,k<l.length->dE Z w ρ own (l.getD k .un) (cells.getD k undef))->
 (∀(m:Nat) (p:Nat×J) (q:Nat×Value),parts[m]? =some p->vals[m]? =some q->p.1=q.1/\place p.1=some (oM p.1,p.2.cellsOf.length)/\q.2.cells.size=p.2.cellsOf.length/\oM p.1+p.2.cellsOf.length<=l.length/\
   ∀k,k<p.2.cellsOf.length->dE Z w ρ own (p.2.cellsOf.getD k .un) (q.2.cells.getD k undef))->
 ∃dM,Instr.fill place cells vals=some dM/\dM.size=(uA parts oM l).length/\
  ∀k,k<(uA parts oM l).length->dE Z w ρ own ((uA parts oM l).getD k .un) (dM.getD k undef)
 |[],[],cells,l,_,ao,ak,_=>⟨cells,rfl,ao,ak⟩
 |[],_::_,_,_,h,_,_,_=>by simp at h
 |_::_,[],_,_,h,_,_,_=>by simp at h
 |(i,v)::ps,(pL,u)::nc,cells,l,aq,ao,ak,aw=>by
  obtain⟨U,aa,al,aL,bo⟩:=aw 0 (i,v) (pL,u) rfl rfl
  simp only at U aa al aL bo
  subst U
  obtain⟨rH,aU,a_,bF⟩:=AL place cells i u nc (oM i) _ aa al (by omega)
  have gS:rH.size=(setCells l (oM i) v.cellsOf).length:=by rw[uv,a_,ao]
  obtain⟨dM,an,az,bK⟩:=Gn place oM ps nc rH (setCells l (oM i) v.cellsOf) (by simpa using aq) gS
   (fun k ab=>by
     rw[uv]at ab
     rw[Lb _ _ _ _ ab,asA,bF k]
     by_cases eE:oM i<=k/\k<oM i+v.cellsOf.length
     ·rw[asq eE,asq eE,<-asA];exact bo _ (by omega)
     ·rw[asp eE,asp eE,<-asA];exact ak k ab)
   (fun m p q hm aN=>by
     have:=aw (m+1) p q hm aN
     rw[uv];exact this)
  exact⟨dM,by rw[aU,an],az,bK⟩
theorem Cz {tm:List J}{a:Act}(parts:Array (Nat×Operand)):(lmap (fun p=>(p.1,aS tm p.2)) parts.toList).length=((parts.map fun(i,x)=>(i,a.eval x)).toList).length:=by simp[c5]
theorem LQ {t:aO}{parts:List (Nat×J)}(h:u3 t parts=true)(m:Nat)(p:Nat×J)(hm:parts[m]? =some p):
 (∃bM cs,t= .struct bM cs/\p.1<bM.length/\eV t p.1+(kg t p.1).size<=cs.length/\p.2.fits (kg t p.1)=true)\/
 ∃n e cs,t= .arr n e cs/\p.1<n/\eV t p.1+e.size<=cs.length/\p.2.fits e=true:=by
 induction parts generalizing m with
 |nil=>simp at hm
 |cons x r bA=>
  obtain⟨i,v⟩:=x
  unfold u3 at h
  cases t with
  |struct bM cs=>
   simp only at h
   split at h
   ·rename_i U aa al
    cases m with
    |zero=>
     simp at hm;subst hm
     refine .inl ⟨bM,cs,rfl, ?_, ?_,al⟩
     ·have:i+1<=bN bM:=by simpa[Nat.blt]using U
      rw[cf]at this;omega
     ·have:=asV aa;rwa [cf]at this
    |succ m=>exact bA h m (by simpa using hm)
   ·cases h
  |arr n e cs=>
   simp only at h
   split at h
   ·rename_i U aa al
    cases m with
    |zero=>
     simp at hm;subst hm
     refine .inr ⟨n,e,cs,rfl, ?_, ?_,al⟩
     ·have:i+1<=n:=by simpa[Nat.blt]using U
      omega
     ·have:=asV aa;rwa [cf]at this
    |succ m=>exact bA h m (by simpa using hm)
   ·cases h
  |_=>simp at h
theorem Fb {bM:List (Nat×Nat×aO)}:∀{a:List Field},oX P bM a=true->a.mapM (fun(f:Field)=>(P.info? f.type).map fun i=>(f.offset,i.size))=some (bM.map fun f=>(f.1,f.2.2.size)):=by
 induction bM with
 |nil=>intro a h;cases a with
  |nil=>rfl
  |cons _ _=>simp[oX]at h
 |cons x r bA=>
  intro a h
  obtain⟨o,n,t⟩:=x
  cases a with
  |nil=>simp[oX]at h
  |cons dv rest=>
   have aE:=h
   simp only[oX,asD]at h
   obtain⟨⟨⟨⟨⟨⟨⟨U,aa⟩,al⟩,aL⟩,bo⟩,RY⟩,bX⟩,fi⟩:=h
   obtain⟨g,aT⟩:=auA.1 bo
   have an:=ast U
   have az:=ast aa
   have bK:=ast al
   have:P.cellsOf dv.type=g.size:=by simp[Program.cellsOf,aT]
   simp[aT,bA fi,<-an,show g.size=t.size by omega]
theorem VD {t:TypeId}{i:bQ}(hi:cE P t i=true){tm:List J}{a:Act}(aA:dC (aI N ρ own) w ρ own tm a.tmps)(parts:Array (Nat×Operand))
 (aw:u3 i.ty (lmap (fun p=>(p.1,aS tm p.2)) parts.toList)=true) (ar:∃cs,(∃bM,i.ty= .struct bM cs)\/∃n e,i.ty= .arr n e cs):
 ∃u,(Instr.build t (parts.map fun(i,x)=>(i,a.eval x))).run P w= .ok u w/\
  bz (aI N ρ own) w ρ own (.agg (uA (lmap (fun p=>(p.1,aS tm p.2)) parts.toList) (eV i.ty) i.ty.zero)) u:=by
 have iM:i.ty≠ .no:=by rcases ar with⟨cs,⟨bM,h⟩|⟨n,e,h⟩⟩<;>rw[h]<;>simp
 obtain⟨g,z,aT,bc,iN,DZ⟩:=Fa (w:=w) (ρ:=ρ) (own:=own) hi iM
 have pG:i.ty.zero.length=i.ty.size:=by cases i.ty<;>simp[aO.zero,aO.size,c5,cf]
 have hl:∀(m:Nat) (p:Nat×J) (q:Nat×Value),(lmap (fun p=>(p.1,aS tm p.2)) parts.toList)[m]? =some p->((parts.map fun(i,x)=>(i,a.eval x)).toList)[m]? =some q->
  p.1=q.1/\bz (aI N ρ own) w ρ own p.2 q.2:=by
  intro m p q U aa
  rw[c5]at U
  simp only[atl,Array.toList_map]at U aa
  cases y9:parts.toList[m]? with
  |none=>simp[y9]at U
  |some x=>
   simp[y9]at U aa
   subst U aa
   exact⟨rfl,dK aA _⟩
 rcases ar with⟨cs,⟨bM,bV⟩|⟨n,e,bV⟩⟩
 ·obtain⟨dv,hu,D0⟩:=wI hi bV
  have hX:=run_places (P:=P) w dv.toList _ (Fb D0)
  obtain⟨dM,U,aa,al⟩:=Gn (Z:=aI N ρ own) (w:=w) (ρ:=ρ) (own:=own) (fun(x:Nat)=>(bM.map fun f=>(f.1,f.2.2.size))[x]?) (eV i.ty)
   (lmap (fun p=>(p.1,aS tm p.2)) parts.toList) ((parts.map fun(i,x)=>(i,a.eval x)).toList) z.cells i.ty.zero (Cz parts) iN (fun k ab=>DZ _ k ab)
   (fun m p q hm aN=>by
     obtain⟨an,az⟩:=hl m p q hm aN
     rcases LQ aw m p hm with⟨DW,jX,k7,aU,a_,bF⟩|⟨n',cd,jX,k7,_⟩
     ·rw[bV]at k7
      obtain⟨rfl,rfl⟩:=by simpa using k7
      obtain⟨f1,f2,f3,f4⟩:=sF bF az
      refine⟨an, ?_,by rw[f1,f2], ?_,fun k ab=>f4 k (by omega)⟩
      ·rw[f2,bV]
       simp[eV,kg,dp,ass,aU]
      ·rw[f2,pG,bV,aO.size,cf];rw[bV]at a_;exact a_
     ·rw[bV]at k7;cases k7)
  refine⟨.agg dM, ?_, .gB ⟨dM,rfl,aa,fun k ab=>al k ab⟩⟩
  refine run_build w t _ dM ?_
  unfold Program.built
  simp only[aT,hu,bc,Fb D0]
  have he:(fun(x:Nat)=>(bM.map fun f=>(f.1,f.2.2.size)).toArray[x]?)=fun(x:Nat)=>(bM.map fun f=>(f.1,f.2.2.size))[x]? :=by funext x;simp
  rw[he];exact U
 ·obtain⟨el,ue,hu,aau,ca⟩:=w1 hi bV
  obtain⟨dM,U,aa,al⟩:=Gn (Z:=aI N ρ own) (w:=w) (ρ:=ρ) (own:=own) (fun i=>some (i*ue.size,ue.size)) (eV i.ty)
   (lmap (fun p=>(p.1,aS tm p.2)) parts.toList) ((parts.map fun(i,x)=>(i,a.eval x)).toList) z.cells i.ty.zero (Cz parts) iN (fun k ab=>DZ _ k ab)
   (fun m p q hm aN=>by
     obtain⟨an,az⟩:=hl m p q hm aN
     rcases LQ aw m p hm with⟨DW,jX,k7,_⟩|⟨n',cd,jX,k7,aU,a_,bF⟩
     ·rw[bV]at k7;cases k7
     ·rw[bV]at k7
      obtain⟨rfl,rfl,rfl⟩:=by simpa using k7
      obtain⟨f1,f2,f3,f4⟩:=sF bF az
      refine⟨an, ?_,by rw[f1,f2], ?_,fun k ab=>f4 k (by omega)⟩
      ·rw[f2,bV,ca];rfl
      ·rw[f2,pG,bV,aO.size,cf];rw[bV]at a_;exact a_)
  refine⟨.agg dM, ?_, .gB ⟨dM,rfl,aa,fun k ab=>al k ab⟩⟩
  refine run_build w t _ dM ?_
  unfold Program.built
  simp only[aT,hu,bc,aau]
  exact U
theorem Er {Z:Nat->Prop}{t:aO}{v:J}{u:Value}{r:List R}(h:nu own t v=some r)(ar:t≠ .no)(aM:bz (aI N ρ own) w ρ own v u):
 r.length=t.size/\u.cells.size=t.size/\∀c,c<t.size->Reads (aI N ρ own) w (r.getD c .undef) (u.cells.getD c undef):=by
 unfold nu at h
 split at h
 ·rename_i s
  split at h
  ·rename_i aP
   obtain rfl:=asB h
   obtain⟨U,aa⟩:=uu (Eo aP) aM
   rw[w2 aa]
   refine⟨rfl,rfl,fun c ay=> ?_⟩
   have:c=0:=by simp[aO.size]at ay;omega
   subst this
   exact(Ad aP U).2 s
  ·cases h
 ·split at h
  ·split at h
   ·rename_i hm
    obtain rfl:=asB h
    obtain⟨a,rfl,U,aa,al⟩:=aM
    have hm:=ast hm
    exact⟨by omega,by show a.size=_;omega,fun c ay=>al c (by omega)⟩
   ·cases h
  ·rename_i l
   split at h
   ·rename_i hm aP
    obtain rfl:=asB h
    have hm:=ast hm
    rw[cf]at hm
    obtain⟨a,rfl,U,aa⟩:=aM
    rw[eW,asH]at aP
    have aq:(lz own t.cells (.agg l)).length=l.length:=by unfold lz;rw[c5,asy,w3];rfl
    exact⟨by omega,by show a.size=_;omega,fun c ay=>Ae t.cells l (fun m=>a.getD m undef) aP aa c (by omega)⟩
   ·cases h
  ·cases h
theorem OK (place:Nat->Option (Nat×Nat))(S:Nat->Value->Prop):∀(vals:List (Nat×Value)) (cells:Array Value),
 (∀q∈vals,∃o n,place q.1=some (o,n)/\q.2.cells.size=n/\o+n<=cells.size/\∀c,c<n->S (o+c) (q.2.cells.getD c undef))->
 (∀p,p<cells.size->(∃q∈vals,∃o n,place q.1=some (o,n)/\o<=p/\p<o+n)\/S p (cells.getD p undef))->
 ∃dM,Instr.fill place cells vals=some dM/\dM.size=cells.size/\∀p,p<cells.size->S p (dM.getD p undef)
 |[],cells,_,ay=>⟨cells,rfl,rfl,fun p aw=>(ay p aw).resolve_left fun⟨q,aN,_⟩=>absurd aN atW⟩
 |(i,u)::nc,cells,h,ay=>by
  obtain⟨o,n,U,aa,al,aL⟩:=h _ (auk ..)
  obtain⟨rH,aU,a_,bF⟩:=AL place cells i u nc o n U aa al
  obtain⟨dM,an,az,bK⟩:=OK place S nc rH (fun q aN=>by rw[a_];exact h q (at3 _ aN)) (fun p aw=>by
   rw[a_]at aw
   rw[asA,bF p]
   by_cases eE:o<=p/\p<o+n
   ·rw[asq eE,<-asA]
    have:=aL (p-o) (by omega)
    rw[show o+(p-o)=p by omega]at this
    exact .inr this
   ·rw[asp eE,<-asA]
    rcases ay p aw with⟨q,aN,bZ,n',g1,g2,g3⟩|k4
    ·rcases asP.1 aN with rfl|aN
     ·rw[U]at g1
      injection g1 with g1;injection g1 with g4 g5
      omega
     ·exact .inl ⟨q,aN,bZ,n',g1,g2,g3⟩
    ·exact .inr k4)
  exact⟨dM,by rw[aU,an],by omega,fun p aw=>bK p (by omega)⟩
theorem Ez {f:Nat×Nat×aO}{r:List (Nat×Nat×aO)}{o n:Nat}(h:rC (f::r) o n=true):f.1=o/\f.2.2≠ .no/\rC r (o+f.2.2.size) n=true:=by
 unfold rC at h
 split at h
 ·cases h
 ·rename_i U aa
  exact⟨ast U,aa,h⟩
 ·cases h
theorem Nu:∀(bM:List (Nat×Nat×aO)) (o n:Nat),rC bM o n=true->o<=n
 |[],o,n,h=>Nat.le_of_eq (ast h)
 |f::r,o,n,h=>by have:=Nu r _ n (Ez h).2.2;omega
theorem Ld {cs:List b0}{parts:List (Nat×J)}:∀(bM:List (Nat×Nat×aO)) (k o n:Nat) (r:List R),rC bM o n=true->n<=cs.length->p2 own cs parts k bM=some r->
 (∀(j:Nat) (f:Nat×Nat×aO) (v:J),bM[j]? =some f->eN (k+j) parts=some v->∀x,nu own f.2.2 v=some x->x.length=f.2.2.size)->
 r.length+o=n/\(∀(j:Nat) (f:Nat×Nat×aO),bM[j]? =some f->o<=f.1/\f.1+f.2.2.size<=n/\f.2.2≠ .no)/\
 (∀(j:Nat) (f:Nat×Nat×aO) (v:J),bM[j]? =some f->eN (k+j) parts=some v->∃x,nu own f.2.2 v=some x/\∀c,c<f.2.2.size->r.getD (f.1-o+c) .undef=x.getD c .undef)/\
 (∀p,o<=p->p<n->∃j f,bM[j]? =some f/\f.1<=p/\p<f.1+f.2.2.size/\(eN (k+j) parts=none->r.getD (p-o) .undef=(lmap b0.ir cs).getD p .undef))
 |[],k,o,n,r,ay,ar,h,_=>by
  have:=ast (show Nat.beq o n=true from ay)
  simp[p2]at h
  subst h
  exact⟨by simpa using this,fun j f aQ=>by simp at aQ,fun j f v aQ=>by simp at aQ,fun p U aa=>by omega⟩
 |f::r,k,o,n,row,ay,ar,h,af=>by
  obtain⟨dt,dD,iD⟩:=Ez ay
  have ajr:=Nu r _ n iD
  unfold p2 at h
  split at h
  ·rename_i x y an az
   obtain⟨i1,i2,i3,i4⟩:=Ld r (k+1) (o+f.2.2.size) n y iD ar az (fun j g v aT aM=>af (j+1) g v (by simpa using aT) (by rw[show k+(j+1)=k+1+j by omega];exact aM))
   have tH:x.length=f.2.2.size:=by
    split at an
    ·rename_i v aM;exact af 0 f v rfl aM x an
    ·obtain rfl:=asB an
     rw[c5,asy,kI,kH,asW,atA]
     omega
   have l9:row=x++y:=by
    cases r with
    |nil=>simp[p2]at az;subst az;simpa using(asB h).symm
    |cons _ _=>exact(asB h).symm
   subst l9
   have left:∀c,c<f.2.2.size->(x++y).getD c .undef=x.getD c .undef:=fun c ay=>by
    simp only[ass];rw[atp (by omega)]
   have right:∀c,f.2.2.size<=c->(x++y).getD c .undef=y.getD (c-f.2.2.size) .undef:=fun c ay=>by
    simp only[ass];rw[atC (by omega),tH]
   refine⟨by simp;omega,fun j g aT=> ?_,fun j g v aT aM=> ?_,fun p U aa=> ?_⟩
   ·cases j with
    |zero=>obtain rfl:f=g:=by simpa using aT
           exact⟨by omega,by omega,dD⟩
    |succ j=>obtain⟨q1,cb,cu⟩:=i2 j g (by simpa using aT);exact⟨by omega,cb,cu⟩
   ·cases j with
    |zero=>
     obtain rfl:f=g:=by simpa using aT
     rw[asN]at aM
     rw[aM]at an
     exact⟨x,an,fun c ay=>by rw[dt,Nat.sub_self,as0];exact left c ay⟩
    |succ j=>
     obtain⟨q1,cb,cu⟩:=i2 j g (by simpa using aT)
     obtain⟨hP,oI,z2⟩:=i3 j g v (by simpa using aT) (by rw[show k+1+j=k+(j+1) by omega];exact aM)
     refine⟨hP,oI,fun c ay=> ?_⟩
     rw[right _ (by omega),<-z2 c ay]
     congr 1;omega
   ·by_cases aw:p<o+f.2.2.size
    ·refine⟨0,f,rfl,by omega,by omega,fun tk=> ?_⟩
     rw[asN]at tk
     rw[tk]at an
     obtain rfl:=asB an
     rw[left _ (by omega)]
     simp only[c5,kI,kH,ass,atl,ath,atK,dt]
     rw[asq (by omega),show o+(p-o)=p by omega]
    ·obtain⟨j,g,q1,cb,cu,fM⟩:=i4 p (by omega) aa
     refine⟨j+1,g,by simpa using q1,cb,cu,fun tk=> ?_⟩
     rw[right _ (by omega),<-fM (by rw[show k+1+j=k+(j+1) by omega];exact tk)]
     congr 1;omega
  ·cases h
theorem Le:∀{parts:List (Nat×J)} {n:Nat},BO n parts=true->∀p∈parts,p.1<n/\eN p.1 parts=some p.2
 |[],_,_,p,aw=>absurd aw atW
 |q::r,n,h,p,aw=>by
  unfold BO at h
  split at h
  ·rename_i U aa
   have U:q.1+1<=n:=asV U
   rcases asP.1 aw with rfl|aw
   ·exact⟨by omega,by unfold eN;rw[ato]⟩
   ·obtain⟨aU,a_⟩:=Le h p aw
    refine⟨aU, ?_⟩
    unfold eN
    split
    ·rename_i e
     rw[ast e,a_]at aa
     cases aa
    ·exact a_
  ·cases h
theorem Es:∀{parts:List (Nat×J)} {k:Nat} {v:J},eN k parts=some v->(k,v)∈parts
 |[],_,_,h=>by cases h
 |(i,x)::r,k,v,h=>by
  unfold eN at h
  split at h
  ·rename_i e
   obtain rfl:=ast e
   obtain rfl:=asB h
   exact auk ..
  ·exact at3 _ (Es h)
theorem TC {t:TypeId}{i:bQ}(hi:cE P t i=true){tm:List J}{a:Act}(aA:dC (aI N ρ own) w ρ own tm a.tmps)(parts:Array (Nat×Operand)){safe:List Prop}{v:J}{own':aB}
 (he:oV i.ty (lmap (fun p=>(p.1,aS tm p.2)) parts.toList) own= .aR safe v own'):
 ∃u,own'=own/\(Instr.build t (parts.map fun(i,x)=>(i,a.eval x))).run P w= .ok u w/\bz (aI N ρ own) w ρ own v u:=by
 unfold oV at he
 split at he
 rotate_left
 ·split at he
  ·rename_i aw aC
   simp only[bH.aR.injEq]at he
   obtain⟨rfl,rfl,rfl⟩:=he
   have tj:∃cs,(∃bM,i.ty= .struct bM cs)\/∃n e,i.ty= .arr n e cs:=by
    cases bV:i.ty with
    |struct bM cs=>exact⟨cs, .inl ⟨bM,rfl⟩⟩
    |arr n e cs=>exact⟨cs, .inr ⟨n,e,rfl⟩⟩
    |_=>rw[bV]at aC;cases aC
   obtain⟨u,U,aa⟩:=VD hi aA parts aw tj
   exact⟨u,rfl,U,aa⟩
  ·cases he
 split at he
 rotate_left
 ·rename_i m e cs bV
  split at he
  rotate_left
  ·cases he
  rename_i je
  simp only[bH.aR.injEq]at he
  obtain⟨rfl,rfl,rfl⟩:=he
  have tL:parts=#[]:=by
   rw[c5]at je
   rw[<-Array.toList_inj]
   exact List.map_eq_nil_iff.1 je
  subst tL
  obtain⟨g,d,aT,sb,jC,_,z,bc,Ir⟩:=uQ hi (.inr ⟨m,e,bV⟩)
  obtain⟨el,ue,q1,cb,cu⟩:=w1 hi bV
  obtain⟨IZ,I0⟩:=q6 (Z:=aI N ρ own) (w:=w) Ir
  have iN:z.cells.size=(lmap b0.ir cs).length:=by rw[<-atu,IZ,c5];simp
  refine⟨.agg z.cells,rfl,by simp[Instr.build,zeroValue,typeInfo,aT,bc,underlying,q1,k_ cb,Instr.fill], .gB ⟨_,rfl, ?_, ?_,fun k ab=> ?_⟩⟩
  ·rw[iN,c5,cf];simp
  ·rw[c5,cf];simp
  ·have:=I0 k (by rw[cf]at ab;exact ab)
   simpa[asA,ass]using this
 ·cases he
 rename_i bM cs bV
 split at he
 rotate_left
 ·cases he
 rename_i r tC nM l9
 simp only[bH.aR.injEq]at he
 obtain⟨rfl,rfl,rfl⟩:=he
 obtain⟨g,d,aT,sb,jC,_,z,bc,Ir⟩:=uQ hi (.inl ⟨bM,bV⟩)
 obtain⟨dv,hu,D0⟩:=wI hi bV
 have hX:=Fb D0
 rw[cf]at tC
 obtain⟨IZ,I0⟩:=q6 (Z:=aI N ρ own) (w:=w) Ir
 have iN:z.cells.size=cs.length:=by rw[<-IZ];simp
 have hl:∀q∈(parts.map fun(i,x)=>(i,a.eval x)).toList,∃v,(q.1,v)∈lmap (fun p=>(p.1,aS tm p.2)) parts.toList/\bz (aI N ρ own) w ρ own v q.2:=fun q aN=>by
  rw[Array.toList_map]at aN
  obtain⟨x,af,rfl⟩:=asL.1 aN
  exact⟨aS tm x.2,by rw[c5];exact asL.2 ⟨x,af,rfl⟩,dK aA _⟩
 have xU:∀k v,(k,v)∈lmap (fun p=>(p.1,aS tm p.2)) parts.toList->∃u,(k,u)∈(parts.map fun(i,x)=>(i,a.eval x)).toList/\bz (aI N ρ own) w ρ own v u:=fun k v ab=>by
  rw[c5]at ab
  obtain⟨x,af,e⟩:=asL.1 ab
  injection e with an az
  refine⟨a.eval x.2, ?_,by rw[<-az];exact dK aA _⟩
  rw[Array.toList_map]
  exact asL.2 ⟨x,af,by rw[<-an]⟩
 generalize lmap (fun p=>(p.1,aS tm p.2)) parts.toList=ps at nM l9 hl xU
 have Zh:∀(j:Nat) (f:Nat×Nat×aO),bM[j]? =some f->f.2.2≠ .no:=by
  have key:∀(bM:List (Nat×Nat×aO)) (o n:Nat),rC bM o n=true->∀(j:Nat) (f:Nat×Nat×aO),bM[j]? =some f->f.2.2≠ .no:=by
   intro bM
   induction bM with
   |nil=>intro o n _ j f aQ;simp at aQ
   |cons f r bA=>
    intro o n ay j g aT
    obtain⟨_,dD,iD⟩:=Ez ay
    cases j with
    |zero=>obtain rfl:f=g:=by simpa using aT
           exact dD
    |succ j=>exact bA _ _ iD j g (by simpa using aT)
  exact key bM 0 _ tC
 obtain⟨cn,cF,hN,q3⟩:=Ld (own:=own) (parts:=ps) bM 0 0 cs.length r tC (asz _) l9 (fun j f v aQ aM x af=>by
  rw[as0]at aM
  obtain⟨u,vV,ou⟩:=xU j v (Es aM)
  exact(Er (Z:=aI N ρ own) af (Zh j f aQ) ou).1)
 have Qn:∀(j:Nat) (f:Nat×Nat×aO),bM[j]? =some f->(bM.map fun f=>(f.1,f.2.2.size))[j]? =some (f.1,f.2.2.size):=fun j f aQ=>by rw[atl,aQ];rfl
 have Zi:∀q∈(parts.map fun(i,x)=>(i,a.eval x)).toList,∃f,bM[q.1]? =some f/\q.2.cells.size=f.2.2.size/\f.1+f.2.2.size<=cs.length/\∀c,c<f.2.2.size->Reads (aI N ρ own) w (r.getD (f.1+c) .undef) (q.2.cells.getD c undef):=fun q aN=>by
  obtain⟨v,mY,lJ⟩:=hl q aN
  obtain⟨aU,a_⟩:=Le nM _ mY
  rw[cf]at aU
  have aQ:bM[q.1]? =some bM[q.1]:=asI aU
  obtain⟨x,nQ,fG⟩:=hN q.1 _ v aQ (by rw[as0];exact a_)
  obtain⟨sv,uh,D_⟩:=cF q.1 _ aQ
  obtain⟨g_,j3,sw⟩:=Er (Z:=aI N ρ own) nQ D_ lJ
  refine⟨_,aQ,j3,uh,fun c ay=> ?_⟩
  have:=fG c ay
  rw[Nat.sub_zero]at this
  rw[this]
  exact sw c ay
 obtain⟨dM,f1,f2,f3⟩:=OK (fun(x:Nat)=>(bM.map fun f=>(f.1,f.2.2.size))[x]?) (fun p u=>Reads (aI N ρ own) w (r.getD p .undef) u) (parts.map fun(i,x)=>(i,a.eval x)).toList z.cells
  (fun q aN=>by
    obtain⟨f,q1,cb,cu,fM⟩:=Zi q aN
    exact⟨f.1,f.2.2.size,Qn _ _ q1,cb,by omega,fM⟩)
  (fun p aw=>by
    rw[iN]at aw
    obtain⟨j,f,Eb,dW,abw,SH⟩:=q3 p (atD _) aw
    rw[as0,Nat.sub_zero]at SH
    cases aq:eN j ps with
    |some v=>
     obtain⟨u,vV,ou⟩:=xU j v (Es aq)
     exact .inl ⟨_,vV,f.1,f.2.2.size,Qn _ _ Eb,dW,abw⟩
    |none=>
     rw[SH aq]
     have:=I0 p aw
     exact .inr (by simpa[asA,ass]using this))
 rw[cf]
 refine⟨.agg dM,rfl, ?_, .gB ⟨dM,rfl,by omega,by omega,fun k ab=>f3 k (by omega)⟩⟩
 refine run_build w t _ dM ?_
 unfold Program.built
 simp only[aT,hu,bc,hX]
 have he:(fun(x:Nat)=>(bM.map fun f=>(f.1,f.2.2.size)).toArray[x]?)=fun(x:Nat)=>(bM.map fun f=>(f.1,f.2.2.size))[x]? :=by funext x;simp
 rw[he];exact f1
end
end Go.bG
end
section
namespace Go.bG
section
variable {P:Program} {N:Nat->Prop} {ρ:List Loc} {own:aB} {w:World}
theorem XN {k:IntKind}{z:Option Value}(h:HB k z=true):z=some (.int k 0):=by
 unfold HB at h
 split at h
 ·obtain rfl:=iS.1 h;rfl
 ·cases h
theorem EN {t:TypeId}{i:bQ}(hi:cE P t i=true){k:IntKind}(h:i.ty= .bS (.sints k)):
 ∃e g,P.underlying t=some (.slice e)/\P.info? e=some g/\g.size=1/\g.bytes=i.bytes/\g.zero=some (.int k 0):=by
 unfold cE at hi
 rw[h]at hi
 split at hi<;>simp_all
 split at hi<;>simp_all
 exact XN hi.2.2
theorem uB {t:TypeId}{i:bQ}(hi:cE P t i=true){aj:Nat}(h:i.ty= .bS (.srows aj)):
 ∃e g z,P.underlying t=some (.slice e)/\P.info? e=some g/\g.size=aj/\g.bytes=i.bytes/\0<aj/\i.hC.length=aj/\g.zero=some z/\lZ i.hC z.cells.toList=true:=by
 unfold cE at hi
 rw[h]at hi
 split at hi<;>simp_all
 split at hi<;>simp_all [m2,cf]
 rename_i g d _ _
 cases jU:TypeInfo.zero g with
 |none=>simp[jU]at hi
 |some z=>simp[jU]at hi;exact⟨z,rfl,hi.2.1.2⟩
theorem OL (z:Array Value)(m k:Nat)(ab:k<m):(madeCells z m)[k]? =some z[k%z.size]! :=by
 simp[madeCells,ab]
theorem T5 {t:TypeId}{i:bQ}(hi:cE P t i=true)(bx:b4 N ρ own w){on q4:Operand}{tm:List J}{a:Act}(aA:dC (aI N ρ own) w ρ own tm a.tmps)
 {safe:List Prop} {v:J} {own':aB} (h:u2 i (aS tm on) (aS tm q4) own= .aR safe v own') (ao:∀p∈safe,p):
 ∃u w' ρ',(Instr.makeSlice t (a.eval on) (a.eval q4)).run P w= .ok u w'/\Step N ρ own w ρ' own' w'/\bz (aI N ρ' own') w' ρ' own' v u:=by
 have ar:=dK aA on
 have ay:=dK aA q4
 generalize aS tm on=x at*
 generalize aS tm q4=y at*
 unfold u2 at h
 split at h
 ·rename_i n c
  split at h
  ·rename_i ae jW
   simp only[bH.aR.injEq]at h
   obtain⟨rfl,rfl,rfl⟩:=h
   have an:=iE ar
   have az:=iE ay
   have aE:0<=n:=ao _ (by simp)
   have U:n<=c:=ao _ (by simp)
   have aa:c*i.bytes<=281474976710656:=ao _ (by simp)
   have gT:(1:Int)<=i.bytes:=by
    have:1<=i.bytes:=by simpa[Nat.blt]using ae
    omega
   have vW:c<=9223372036854775807:=by
    have:c*1<=c*i.bytes:=Int.mul_le_mul_of_nonneg_left gT (by omega)
    omega
   rw[an,az]
   cases bV:i.ty with
   |bS s=>
    rw[bV]at jW
    cases s with
    |sints k=>
     obtain⟨e,g,q1,cb,cu,fM,dm⟩:=EN hi bV
     have eI:=run_make (P:=P) w t e g (.int k 0) q1 cb dm .i64 .i64 n c aE U (by rw[fM,Int.mul_comm];exact aa) vW
     rw[cu,asY]at eI
     have HH:madeOf i n.toNat= .ints k (List.replicate n.toNat 0):=by simp[madeOf,bV]
     rw[HH,fu,cf]
     refine⟨_,_,_,eI,Step.alloc bx false (.ints k (List.replicate n.toNat 0)) _ c.toNat (.inr ⟨w.heap.size,_,e,rfl,rfl,nh w _,by simp;omega,by simp[size_madeCells],fun q aN=> ?_⟩), .cM ⟨_,p3 bx _, ?_⟩⟩
     ·simp only[List.length_replicate]at aN
      rw[OL _ _ _ (by omega)]
      simp[Value.cells,Nat.mod_one,ass,aN]
     ·rw[gw,asq rfl];simp[ad.len]
    |srows aj=>
     obtain⟨e,g,z,q1,cb,cu,fM,dm,hO,gm,nb⟩:=uB hi bV
     have eI:=run_make (P:=P) w t e g z q1 cb gm .i64 .i64 n c aE U (by rw[fM,Int.mul_comm];exact aa) vW
     rw[cu]at eI
     obtain⟨oI,z2⟩:=q6 (Z:=aI N (ρ++[⟨some ⟨w.heap.size,0,none⟩,c.toNat,some w.heap.size⟩]) (own++[(false,madeOf i n.toNat)]))
      (w:=w.alloc (.cells (madeCells z.cells (c.toNat*aj)) e)) nb
     have HH:madeOf i n.toNat= .rows aj (List.replicate n.toNat (lmap b0.ir i.hC)):=by simp[madeOf,bV]
     rw[HH]at z2⊢
     rw[fu,cf]
     have iN:z.cells.size=aj:=by rw[<-atu,oI,hO]
     refine⟨_,_,_,eI,Step.alloc bx false (.rows aj (List.replicate n.toNat (lmap b0.ir i.hC))) _ c.toNat (.inr ⟨w.heap.size,_,e,rfl,rfl,nh w _,by simp;omega,by simp[size_madeCells],dm,fun q r aN ak=> ?_⟩), .cM ⟨_,p3 bx _, ?_⟩⟩
     ·simp only[List.length_replicate]at aN
      have bB:q*aj+r<c.toNat*aj:=by
       have:(q+1)*aj<=c.toNat*aj:=asF _ (by omega)
       rw[asK]at this;omega
      refine⟨_,OL _ _ _ bB, ?_⟩
      have HI:(q*aj+r)%z.cells.size=r:=by rw[iN,asT,aun,ati ak]
      rw[HI]
      have:=z2 r (by omega)
      have bK:z.cells[r]! =z.cells.toList.getD r undef:=by
       have:r<z.cells.size:=by omega
       simp[ass,this]
      rw[bK]
      have cm:(List.replicate n.toNat (lmap b0.ir i.hC)).getD q []=lmap b0.ir i.hC:=by simp[ass,aN]
      rw[cm];exact this
     ·rw[gw,asq rfl];simp[ad.len]
    |_=>simp[h1]at jW
   |_=>rw[bV]at jW;simp[h1]at jW
  ·cases h
 ·cases h
theorem Lf {k:IntKind}{Z:Nat->Prop}:∀(parts:List (Nat×J)) (vals:List (Nat×Value)) (i n:Nat) (l:List Int) (cells:Array Value),n3.go k i n parts=some l->
 parts.length=vals.length->(∀(m:Nat) (p:Nat×J) (q:Nat×Value),parts[m]? =some p->vals[m]? =some q->p.1=q.1/\bz Z w ρ own p.2 q.2)->i+n<=cells.size->
 ∃dM,Instr.fill (fun i=>some (i*1,1)) cells vals=some dM/\dM.size=cells.size/\l.length=n/\(∀m,m<n->dM[i+m]? =some (.int k (l.getD m 0)))/\∀q,q<i->dM[q]? =cells[q]?
 |[],[],i,0,l,cells,h,_,_,_=>by
  simp[n3.go]at h;subst h
  exact⟨cells,rfl,rfl,rfl,fun m hm=>by omega,fun _ _=>rfl⟩
 |[],[],i,n+1,l,cells,h,_,_,_=>by simp[n3.go]at h
 |[],_::_,_,_,_,_,_,h,_,_=>by simp at h
 |_::_,[],_,_,_,_,_,h,_,_=>by simp at h
 |(j,v)::ps,_::nc,i,0,l,cells,h,_,_,_=>by simp[n3.go]at h
 |(j,v)::ps,(fk,u)::nc,i,n+1,l,cells,h,aq,aw,ae=>by
  have aM:∃b3 x,v= .d (.int b3 x):=by
   cases v with
   |d y=>
    cases y with
    |int b3 x=>exact⟨b3,x,rfl⟩
    |_=>simp[n3.go]at h
   |_=>simp[n3.go]at h
  obtain⟨b3,x,rfl⟩:=aM
  simp only[n3.go]at h
  ·split at h
   ·rename_i U aa
    obtain rfl:=ast U
    obtain rfl:=iS.1 aa
    obtain⟨an,az⟩:=aw 0 _ _ rfl rfl
    simp only at an az
    subst an
    have bK:=iE az
    subst bK
    cases aT:n3.go k (Nat.succ i) n ps with
    |none=>rw[aT]at h;cases h
    |some c2=>
     rw[aT]at h
     simp at h;subst h
     obtain⟨rH,aU,a_,bF⟩:=AL (fun i=>some (i*1,1)) cells i (.int k x) nc (i*1) 1 rfl rfl (by omega)
     obtain⟨dM,gD,ha,jE,lT,j4⟩:=Lf ps nc (i+1) n c2 rH aT (by simpa using aq) (fun m p q hm aN=>aw (m+1) p q hm aN) (by omega)
     refine⟨dM,by rw[aU];exact gD,by omega,by simp[jE],fun m hm=> ?_,fun q aN=> ?_⟩
     ·cases m with
      |zero=>
       rw[asN,j4 i (by omega),bF i,asq (by omega)]
       simp[Value.cells]
      |succ m=>
       rw[show i+(m+1)=i+1+m by omega,lT m (by omega)];simp
     ·rw[j4 q (by omega),bF q,asp (by omega)]
   ·cases h
theorem TD {aj:Nat}{cs:List b0}{i n j:Nat}{v:J}{ps:List (Nat×J)}{l:List (List R)}(h:hB.go own aj cs i (n+1) ((j,v)::ps)=some l):
 ∃x c2,i=j/\l=x::c2/\hB.go own aj cs (i+1) n ps=some c2/\(v= .rw aj x\/(v.cellsOf.length=aj/\(∀y∈v.cellsOf,y.gy=true)/\x=lz own cs v)):=by
 have gen:(∀m x,v≠ .rw m x)->hB.go own aj cs i (n+1) ((j,v)::ps)=(match Nat.beq i j,Nat.beq (bN v.cellsOf) aj,dq J.gy v.cellsOf with
  |true,true,true=>(match hB.go own aj cs (Nat.succ i) n ps with|some l=>some (lz own cs v::l)|none=>none)
  |_,_,_=>none):=fun aM=>by cases v<;>first|rfl|exact absurd rfl (aM _ _)
 by_cases aM:∃m x,v= .rw m x
 ·obtain⟨m,x,rfl⟩:=aM
  simp only[hB.go]at h
  split at h
  ·rename_i U aa
   obtain rfl:=ast U
   obtain rfl:=ast aa
   cases aT:hB.go own m cs (Nat.succ i) n ps with
   |none=>rw[aT]at h;cases h
   |some c2=>
    rw[aT]at h
    simp at h;subst h
    exact⟨x,c2,rfl,rfl,rfl, .inl rfl⟩
  ·cases h
 ·rw[gen fun m x e=>aM ⟨m,x,e⟩]at h
  split at h
  ·rename_i U aa al
   obtain rfl:=ast U
   have aa:=ast aa
   rw[cf]at aa
   rw[eW,asH]at al
   cases aT:hB.go own aj cs (Nat.succ i) n ps with
   |none=>rw[aT]at h;cases h
   |some c2=>
    rw[aT]at h
    simp at h;subst h
    exact⟨_,c2,rfl,rfl,rfl, .inr ⟨aa,al,rfl⟩⟩
  ·cases h
theorem Tb {aj:Nat}{cs:List b0}{v:J}{u:Value}{x:List R}(h:v= .rw aj x\/(v.cellsOf.length=aj/\(∀y∈v.cellsOf,y.gy=true)/\x=lz own cs v))(aM:bz (aI N ρ own) w ρ own v u):
 u.cells.size=aj/\∀r,r<aj->Reads (aI N ρ own) w (x.getD r .undef) (u.cells.getD r undef):=by
 rcases h with rfl|⟨aa,al,rfl⟩
 ·obtain⟨a,rfl,a1,a2,a3⟩:=aM
  exact⟨a1,a3⟩
 ·have ay:u.cells.size=aj/\∀i,i<aj->dE (aI N ρ own) w ρ own (v.cellsOf.getD i .un) (u.cells.getD i undef):=by
   cases v with
   |agg q=>
    obtain⟨arr,rfl,a2,a3⟩:=aM
    exact⟨by rw[<-aa];exact a2,fun i hi=>a3 i (by rw[<-aa]at hi;exact hi)⟩
   |_=>
    simp only[J.cellsOf]at aa al⊢
    have ct:=Eo (al _ (atr.2 rfl))
    obtain⟨q1,cb⟩:=uu ct aM
    rw[w2 cb,<-aa]
    refine⟨rfl,fun i hi=> ?_⟩
    have:i=0:=by simp at hi;omega
    subst this;exact q1
  refine⟨ay.1,fun r ak=>Ae cs v.cellsOf (fun m=>u.cells.getD m undef) al (fun pL dH=>ay.2 pL (by omega)) r (by omega)⟩
theorem Lg {aj:Nat}{cs:List b0}:∀(parts:List (Nat×J)) (vals:List (Nat×Value)) (i n:Nat) (l:List (List R)) (cells:Array Value),hB.go own aj cs i n parts=some l->
 parts.length=vals.length->(∀(m:Nat) (p:Nat×J) (q:Nat×Value),parts[m]? =some p->vals[m]? =some q->p.1=q.1/\bz (aI N ρ own) w ρ own p.2 q.2)->(i+n)*aj<=cells.size->
 ∃dM,Instr.fill (fun i=>some (i*aj,aj)) cells vals=some dM/\dM.size=cells.size/\l.length=n/\
  (∀m j,m<n->j<aj->∃v,dM[(i+m)*aj+j]? =some v/\Reads (aI N ρ own) w ((l.getD m []).getD j .undef) v)/\∀q,q<i*aj->dM[q]? =cells[q]?
 |[],[],i,0,l,cells,h,_,_,_=>by
  simp[hB.go]at h;subst h
  exact⟨cells,rfl,rfl,rfl,fun m j hm=>by omega,fun _ _=>rfl⟩
 |[],[],i,n+1,l,cells,h,_,_,_=>by simp[hB.go]at h
 |[],_::_,_,_,_,_,_,h,_,_=>by simp at h
 |_::_,[],_,_,_,_,_,h,_,_=>by simp at h
 |(j,v)::ps,_::nc,i,0,l,cells,h,_,_,_=>by simp[hB.go]at h
 |(j,v)::ps,(fk,u)::nc,i,n+1,l,cells,h,aq,aw,ae=>by
  obtain⟨x,c2,rfl,rfl,aT,af⟩:=TD h
  obtain⟨an,az⟩:=aw 0 _ _ rfl rfl
  simp only at an az
  subst an
  obtain⟨dt,dD⟩:=Tb af az
  have hmul:(i+1)*aj<=(i+(n+1))*aj:=asF _ (by omega)
  obtain⟨rH,aU,a_,bF⟩:=AL (fun i=>some (i*aj,aj)) cells i u nc (i*aj) aj rfl dt (by rw[asK]at hmul;omega)
  obtain⟨dM,gD,ha,jE,lT,j4⟩:=Lg ps nc (i+1) n c2 rH aT (by simpa using aq) (fun m p q hm aN=>aw (m+1) p q hm aN) (by rw[show i+1+n=i+(n+1) by omega];omega)
  refine⟨dM,by rw[aU];exact gD,by omega,by simp[jE],fun m r hm ak=> ?_,fun q aN=> ?_⟩
  ·cases m with
   |zero=>
    rw[asN,j4 _ (by rw[asK];omega),bF,asq (by omega),show i*aj+r-i*aj=r by omega]
    exact⟨u.cells.getD r undef,by simp[asA,show r<u.cells.size by omega],dD r ak⟩
   |succ m=>
    obtain⟨ew,mY,lJ⟩:=lT m r (by omega) ak
    exact⟨ew,by rw[show i+(m+1)=i+1+m by omega];exact mY,by simpa using lJ⟩
  ·rw[j4 q (by rw[asK];omega),bF q,asp (by omega)]
end
end Go.bG
end
section
namespace Go.bG
section
variable {P:Program} {N:Nat->Prop} {ρ:List Loc} {own:aB} {w:World}
theorem Nv {tm:List J}{a:Act}(aA:dC (aI N ρ own) w ρ own tm a.tmps)(parts:Array (Nat×Operand)):
 ∀(m:Nat) (p:Nat×J) (q:Nat×Value),(lmap (fun p=>(p.1,aS tm p.2)) parts.toList)[m]? =some p->((parts.map fun(i,x)=>(i,a.eval x)).toList)[m]? =some q->
  p.1=q.1/\bz (aI N ρ own) w ρ own p.2 q.2:=by
 intro m p q U aa
 rw[c5]at U
 simp only[atl,Array.toList_map]at U aa
 cases y9:parts.toList[m]? with
 |none=>simp[y9]at U
 |some x=>
  simp[y9]at U aa
  subst U aa
  exact⟨rfl,dK aA _⟩
theorem JZ {t e:TypeId}{g:TypeInfo}{z:Value}(q1:P.underlying t=some (.slice e))(cb:P.info? e=some g)(dm:g.zero=some z)(n:Nat)(parts:Array (Nat×Value))(dM:Array Value)
 (mP:¬n*g.size>2^24) (aQ:Instr.fill (fun i=>some (i*g.size,g.size)) (madeCells (if n*g.size=0 then#[]else z.cells) (n*g.size)) parts.toList=some dM):
 (Instr.buildSlice t n parts).run P w= .ok (.slice (some ⟨w.heap.size,0,none⟩) n n) (w.alloc (.cells dM e)):=by
 unfold Instr.buildSlice
 by_cases aE:n*g.size=0
 ·rw[asq aE]at aQ
  have tT:Instr.fill (fun i=>some (i*g.size,g.size)) ((Array.range (n*g.size)).map ((#[]:Array Value)[·%(#[]:Array Value).size]!)) parts.toList=some dM:=aQ
  simp only[Sem.run_bind,run_underlying q1,Result.andThen_ok,k_ cb,Sem.run_ite,asp mP,asq aE,Sem.run_pure,tT]
  simp[newRow]
 ·rw[asp aE]at aQ
  have tT:Instr.fill (fun i=>some (i*g.size,g.size)) ((Array.range (n*g.size)).map (z.cells[·%z.cells.size]!)) parts.toList=some dM:=aQ
  have DZ:(zeroValue e).run P w= .ok z w:=by simp[zeroValue,typeInfo,cb,dm]
  simp only[Sem.run_bind,run_underlying q1,Result.andThen_ok,k_ cb,Sem.run_ite,asp mP,asp aE,DZ,Sem.run_pure,tT]
  simp[newRow]
theorem Lh {t:TypeId}{i:bQ}(hi:cE P t i=true)(bx:b4 N ρ own w){tm:List J}{a:Act}(aA:dC (aI N ρ own) w ρ own tm a.tmps)(parts:Array (Nat×Operand))(n:Nat)
 {k:IntKind} (bV:i.ty= .bS (.sints k)) {l:List Int} (aq:n3 k n (lmap (fun p=>(p.1,aS tm p.2)) parts.toList)=some l) (ar:n<=65536):
 ∃u w' ρ',(Instr.buildSlice t n (parts.map fun(i,x)=>(i,a.eval x))).run P w= .ok u w'/\Step N ρ own w ρ' (own++[(false, .ints k l)]) w'/\
  bz (aI N ρ' (own++[(false, .ints k l)])) w' ρ' (own++[(false, .ints k l)]) (.vec own.length) u:=by
 obtain⟨e,g,q1,cb,cu,fM,dm⟩:=EN hi bV
 obtain⟨dM,f1,f2,f3,f4,_⟩:=Lf (w:=w) (ρ:=ρ) (own:=own) (Z:=aI N ρ own) _ _ 0 n l (madeCells (if n*g.size=0 then#[]else(Value.int k 0).cells) (n*g.size)) aq (Cz (tm:=tm) (a:=a) parts) (Nv aA parts) (by rw[size_madeCells,cu];omega)
 have eI:(Instr.buildSlice t n (parts.map fun(i,x)=>(i,a.eval x))).run P w= .ok (.slice (some ⟨w.heap.size,0,none⟩) n n) (w.alloc (.cells dM e)):=by
  have mP:¬n*g.size>2^24:=by rw[cu];omega
  exact JZ q1 cb dm n _ dM mP (by rw[cu]at f1⊢;exact f1)
 refine⟨_,_,_,eI,Step.alloc bx false (.ints k l) _ n (.inr ⟨w.heap.size,dM,e,rfl,rfl,nh w _,by simp[f3],by rw[f2,size_madeCells,cu];simp,fun q aN=> ?_⟩), .cM ⟨_,p3 bx _, ?_⟩⟩
 ·have:=f4 q (by omega)
  simpa using this
 ·rw[gw,asq rfl];simp[ad.len,f3]
theorem Li {t:TypeId}{i:bQ}(hi:cE P t i=true)(bx:b4 N ρ own w){tm:List J}{a:Act}(aA:dC (aI N ρ own) w ρ own tm a.tmps)(parts:Array (Nat×Operand))(n:Nat)
 {aj:Nat} (bV:i.ty= .bS (.srows aj)) {l:List (List R)} (aq:hB own aj i.hC n (lmap (fun p=>(p.1,aS tm p.2)) parts.toList)=some l) (ar:n*aj<=65536):
 ∃u w' ρ',(Instr.buildSlice t n (parts.map fun(i,x)=>(i,a.eval x))).run P w= .ok u w'/\Step N ρ own w ρ' (own++[(false, .rows aj l)]) w'/\
  bz (aI N ρ' (own++[(false, .rows aj l)])) w' ρ' (own++[(false, .rows aj l)]) (.vec own.length) u:=by
 obtain⟨e,g,z,q1,cb,cu,fM,dm,hO,gm,nb⟩:=uB hi bV
 obtain⟨dM,f1,f2,f3,f4,_⟩:=Lg (w:=w) (ρ:=ρ) (own:=own) (N:=N) _ _ 0 n l (madeCells (if n*g.size=0 then#[]else z.cells) (n*g.size)) aq (Cz (tm:=tm) (a:=a) parts) (Nv aA parts) (by rw[size_madeCells,cu];simp)
 have eI:(Instr.buildSlice t n (parts.map fun(i,x)=>(i,a.eval x))).run P w= .ok (.slice (some ⟨w.heap.size,0,none⟩) n n) (w.alloc (.cells dM e)):=by
  have mP:¬n*g.size>2^24:=by rw[cu];omega
  exact JZ q1 cb gm n _ dM mP (by rw[cu]at f1⊢;exact f1)
 refine⟨_,_,_,eI,Step.alloc bx false (.rows aj l) _ n (.inr ⟨w.heap.size,dM,e,rfl,rfl,nh w _,by simp[f3],by rw[f2,size_madeCells,cu];simp,dm,fun q r aN ak=> ?_⟩), .cM ⟨_,p3 bx _, ?_⟩⟩
 ·obtain⟨v,mY,lJ⟩:=f4 q r (by omega) ak
  exact⟨v,by simpa using mY,Ag bx _ (.inl rfl) _ _ _ _ lJ⟩
 ·rw[gw,asq rfl];simp[ad.len,f3]
theorem OM {k9 cd:TypeId}(ab:P.underlying k9=some (.slice cd)){t:aO}{x:R}{u:Value}(aQ:gq t x=true)(h:Reads (aI N ρ own) w x u):
 ∃news:List Value,Src P x.ch k9 u x.len news w/\(∀i j,i<x.len->j<x.ch->∃v,news[i*x.ch+j]? =some v/\Reads (aI N ρ own) w (x.cell i j) v):=by
 cases h with
 |h4 a cap k=>
  refine⟨[], ?_,fun i j hi=>by simp[R.len]at hi⟩
  cases a with
  |none=>exact Src.ofNil w ab cap
  |some a=>exact Src.ofSlice w ab a 0 cap [] (by simp) (fun j u h=>by simp at h) (fun u h=>by cases h)
 |ints k l n b off cap ar bc ay gA=>
  refine⟨l.map (Value.int k), ?_,fun i j hi aK=> ?_⟩
  ·have:=Src.ofSlice (P:=P) (size:=1) w ab ⟨b,off,none⟩ n cap (l.map (Value.int k)) (by simp[ar]) (fun j u h=>by
    rw[atl]at h
    have aK:j<l.length:=by
     cases jY:l[j]? with
     |none=>simp[jY]at h
     |some z=>exact(atg.1 jY).1
    rw[mD,gA j (by omega)]
    simp[asI aK]at h
    simp[ass,aK,h]) (fun u h=>by obtain⟨z,_,rfl⟩:=asL.1 h;rfl)
   simpa[R.len,R.ch,ar]using this
  ·simp only[R.len,R.ch,R.cell]at hi aK⊢
   have:j=0:=by omega
   subst this
   exact⟨.int k (l.getD i 0),by simp[ass,hi], .int _ _⟩
 |jK a cap aj=>
  refine⟨[], ?_,fun i j hi=>by simp[R.len]at hi⟩
  cases a with
  |none=>exact Src.ofNil w ab cap
  |some a=>exact Src.ofSlice w ab a 0 cap [] (by simp) (fun j u h=>by simp at h) (fun u h=>by cases h)
 |rows aj l n b off cap pO ar ca bc ay gA ak=>
  simp only[R.len,R.ch,R.cell]
  have nA:0<aj:=ca
  refine⟨(List.range (n*aj)).map fun m=>pO (m/aj) (m%aj), ?_,fun i j hi aK=> ?_⟩
  ·rw[ar]
   refine Src.ofSlice (P:=P) w ab ⟨b,off,none⟩ n cap _ (by simp) (fun j v h=> ?_) (fun v h=> ?_)
   ·rw[atl]at h
    have aK:j<n*aj:=by
     cases jY:(List.range (n*aj))[j]? with
     |none=>simp[jY]at h
     |some z=>have:=(atg.1 jY).1;simpa using this
    simp[aK]at h
    subst h
    have U:j/aj<n:=aue (by rw[asT];exact aK)
    have:=gA (j/aj) (j%aj) U (as6 _ nA)
    rw[mD]
    rwa [show off+j/aj*aj+j%aj=off+j by rw[atn,asT,at4]]at this
   ·obtain⟨m,hm,rfl⟩:=asL.1 h
    have hm:m<n*aj:=by simpa using hm
    exact(ak (m/aj) (m%aj) (aue (by rw[asT];exact hm)) (as6 _ nA)).one
  ·rw[ar]at hi
   have bB:i*aj+j<n*aj:=by
    have:(i+1)*aj<=n*aj:=asF _ (by omega)
    rw[asK]at this;omega
   have U:(i*aj+j)/aj=i:=by rw[asT,Nat.mul_add_div nA,at5 aK,asN]
   have aa:(i*aj+j)%aj=j:=by rw[asT,aun,ati aK]
   refine⟨pO i j,by simp[bB,U,aa],ak i j hi aK⟩
 |_=>cases t<;>simp[gq]at aQ
theorem zS {t k9 ty e:TypeId}{g:TypeInfo}(aA:P.underlying t=some (.slice e))(aT:P.info? e=some g)(base:Option Addr)(oi tD:Nat)(hle:oi<=tD){x:Value}(ao:Src P g.size k9 x 0 [] w):
 (Builtin.append_ #[t,k9] ty #[.slice base oi tD,x]).run P w= .ok (.slice base oi tD) w:=by
 have ay:=ao.cells
 have ct:∀q:Addr,(storeCells q []).run P w= .ok () w:=fun q=>rfl
 rcases ao.kind with⟨cd,ab⟩|ab<;>cases base<;>simp[Builtin.append_,run_underlying aA,run_underlying ab,sizeOf,typeInfo,aT,ao.len,hle,ay,ct]
theorem T6 {t k9 ty e az:TypeId}{g:TypeInfo}(aA:P.underlying t=some (.slice e))(aT:P.info? e=some g)(b oi tD n:Nat){x:Value}{news:List Value}(ao:Src P g.size k9 x n news w)
 (cur:Array Value) (ae:w.heap[b]? =some (.cells cur az (0,0))) (xV:oi+n<=tD) (eo:oi*g.size+news.length<=cur.size):
 (Builtin.append_ #[t,k9] ty #[.slice (some ⟨b,0,none⟩) oi tD,x]).run P w=
   .ok (.slice (some ⟨b,0,none⟩) (oi+n) tD) (w.setRow b (cur.toList.take (oi*g.size)++news++cur.toList.drop (oi*g.size+news.length)).toArray):=by
 have ct:=run_storeCells_at P b (oi*g.size) az news 0 cur w ae (by simpa using eo) ao.one
 simp only[asN]at ct
 rcases ao.kind with⟨cd,ab⟩|ab<;>simp[Builtin.append_,run_underlying aA,run_underlying ab,sizeOf,typeInfo,aT,ao.len,xV,ao.cells,Addr.add_lit,ct]
theorem Kk (size:Nat)(a:Option Addr)(c:Nat)(w:World):(Builtin.firstCells size 0 (.slice a 0 c)).run P w= .ok #[] w:=by
 cases a with
 |none=>rfl
 |some a=>simp only[Builtin.firstCells,atL];rfl
theorem Step.nil (h:b4 N ρ own w)(f:Bool)(ob:ad)(a:Option Addr)(aH:ob= .gone\/(∃k,ob= .ints k [])\/∃aj,ob= .rows aj []):
 Step N ρ own w (ρ++[⟨a,0,none⟩]) (own++[(f,ob)]) w:=by
 have iu:∀b,fU (ρ++[⟨a,0,none⟩]) (own++[(f,ob)]) b->fU ρ own b:=fun b ⟨i,loc,U,aa,al⟩=>by
  rw[asS]at U
  by_cases hi:i<ρ.length
  ·rw[asq hi]at U
   rw[kn,asp (by rw[<-h.len];omega)]at al
   exact⟨i,loc,U,aa,al⟩
  ·rw[asp hi]at U
   cases aP:i-ρ.length with
   |zero=>simp[aP]at U;subst U;cases aa
   |succ n=>simp[aP]at U
 have cr:Fr ρ own w (ρ++[⟨a,0,none⟩]) (own++[(f,ob)]) w:=⟨rfl,rfl,rfl,asz _,fun _ _ _=>rfl,fun b ae=> .inl (iu b ae)⟩
 have ey:=EM h ⟨a,0,none⟩ (f,ob)
 refine{cr with rel:=h.se cr (by simp[h.len]) (fun _ _ _ _ id _ _=>ey id) (fun i loc aq=> ?_),same:=ey}
 rw[asS]at aq
 by_cases hi:i<ρ.length
 ·rw[asq hi]at aq
  exact .inl ⟨aq,by rw[gw,asp (by rw[<-h.len];omega)],fun af=>by rwa [kn,asp (by rw[<-h.len];omega)]at af,fun _ _=>rfl⟩
 ·rw[asp hi]at aq
  cases aP:i-ρ.length with
  |succ n=>simp[aP]at aq
  |zero=>
   simp[aP]at aq
   subst aq
   have dH:i=own.length:=by rw[<-h.len];omega
   refine .inr ⟨fun b ae=>(by cases ae), ?_⟩
   rw[dH,gw,asq rfl]
   rcases aH with rfl|⟨k,rfl⟩|⟨aj,rfl⟩
   ·trivial
   ·exact .inl ⟨rfl,rfl⟩
   ·exact .inl ⟨rfl,rfl⟩
theorem ON (w:World)(HJ k0:Nat)(e:TypeId):HJ<=grownCap w HJ k0 e:=grownCap_ge w HJ k0 e
theorem zL (z:Array Value)(n:Nat):(Builtin.zeroCells z n).size=n*z.size:=by simp[Builtin.zeroCells]
theorem Nw {e:TypeId}{g:TypeInfo}{i:bQ}{t:TypeId}(hi:cE P t i=true)(ao:h1 i.ty=true)(he:P.underlying t=some (.slice e))(aT:P.info? e=some g):
 ∃z,g.zero=some z/\z.cells.size=g.size/\0<g.size:=by
 cases bV:i.ty with
 |bS s=>
  rw[bV]at ao
  cases s with
  |sints k=>
   obtain⟨cd,ue,q1,cb,cu,fM,dm⟩:=EN hi bV
   rw[he]at q1;cases q1;rw[aT]at cb;cases cb
   exact⟨_,dm,by rw[cu];rfl,by omega⟩
  |srows aj=>
   obtain⟨cd,ue,z,q1,cb,cu,fM,dm,hO,gm,nb⟩:=uB hi bV
   rw[he]at q1;cases q1;rw[aT]at cb;cases cb
   have:=(q6 (Z:=fun _=>False) (w:=default) nb).1
   exact⟨z,gm,by rw[cu,<-hO,<-this];simp,by omega⟩
  |_=>simp[h1]at ao
 |_=>rw[bV]at ao;simp[h1]at ao
theorem Mw {t:aO}{x:R}(h:gq t x=true):h1 t=true:=by
 cases t with
 |bS s=>cases x<;>cases s<;>simp_all [gq,h1]
 |_=>cases x<;>simp[gq]at h
theorem AM (ks news:List Value)(Z:Array Value)(k:Nat)(v:Value)(h:(ks++news)[k]? =some v):((ks++news).toArray++Z)[k]? =some v:=by
 have ab:=(atg.1 h).1
 rw[auO (by simpa using ab)];simpa using h
theorem Nx {a b:Nat}(h:(a:Int)*b<=70368744177664):a*b<=70368744177664:=by
 have:((a*b:Nat):Int)<=((70368744177664:Nat):Int):=by rw[atE];exact h
 exact Int.ofNat_le.1 this
theorem KB {t k9 ty:TypeId}{i:bQ}(hi:cE P t i=true)(bx:b4 N ρ own w){cd:TypeId}(ab:P.underlying k9=some (.slice cd)){x:R}{nV pN:Value}(af:∃a,nV= .slice a 0 0)
 (a6:Reads (aI N ρ own) w x pN) (aQ:gq i.ty x=true) (ob:ad) (b1:(∃k l,x= .ints k l/\ob= .ints k l)\/∃aj l,x= .rows aj l/\ob= .rows aj l)
 (qK:0<i.bytes) (ae:(x.len:Int)*i.bytes<=70368744177664):
 ∃u w' ρ',(Builtin.append_ #[t,k9] ty #[nV,pN]).run P w= .ok u w'/\Step N ρ own w ρ' (own++[(false,ob)]) w'/\bz (aI N ρ' (own++[(false,ob)])) w' ρ' (own++[(false,ob)]) (.vec own.length) u:=by
 obtain⟨a,rfl⟩:=af
 obtain⟨e,g,he,aT,ca,nA,qM⟩:=q9 hi aQ
 obtain⟨z,bc,iN,_⟩:=Nw hi (Mw aQ) he aT
 obtain⟨news,fD,tl⟩:=OM (ρ:=ρ) (own:=own) (N:=N) ab aQ a6
 have hlen:ob.len=x.len:=by rcases b1 with⟨k,l,rfl,rfl⟩|⟨aj,l,rfl,rfl⟩<;>rfl
 rw[<-ca]at fD tl
 by_cases ar:x.len=0
 ·have kv:news=[]:=by have:=fD.newsLen;rw[ar]at this;exact atc.1 (by simpa using this)
  rw[ar,kv]at fD
  refine⟨_,w,_,zS he aT a 0 0 (asz _) fD,Step.nil bx false ob a ?_, .cM ⟨_,p3 bx _, ?_⟩⟩
  ·rcases b1 with⟨k,l,rfl,rfl⟩|⟨aj,l,rfl,rfl⟩
   ·exact .inr (.inl ⟨k,by rw[atc.1 ar]⟩)
   ·exact .inr (.inr ⟨aj,by rw[atc.1 ar]⟩)
  ·rw[gw,asq rfl,hlen,ar];exact⟨rfl,fun _=>rfl⟩
 ·have DT:x.len*g.bytes<=70368744177664:=by rw[qM];exact Nx ae
  have vW:((0+x.len:Nat):Int)<=9223372036854775807:=by
   have U:x.len*1<=x.len*g.bytes:=as1 _ (by omega)
   omega
  have eI:=run_append_grow_src (P:=P) w t k9 ty e g z he aT bc a 0 0 [] (Kk g.size a 0 w.drew) pN x.len news fD (by omega) vW (growslice_fits (by omega) (by rw[as0];omega))
  have iz:=ON w (0+x.len) 0 e
  generalize grownCap w (0+x.len) 0 e=cap at eI iz
  have aP:=Step.drew bx (w':=w.drew) rfl rfl rfl rfl
  have rL:w.drew.heap.size=w.heap.size:=rfl
  have ct:=Step.alloc aP.rel false ob (.cells (([]++news).toArray++Builtin.zeroCells z.cells (cap-(0+x.len))) e) cap (by
   rcases b1 with⟨k,l,rfl,rfl⟩|⟨aj,l,rfl,rfl⟩
   ·refine .inr ⟨_,_,e,rfl,rfl,nh _ _,by simp only[R.len]at iz⊢;omega, ?_,fun q aN=> ?_⟩
    ·simp only[R.len,R.ch]at ca iz fD⊢
     simp[zL,iN,ca,fD.newsLen];omega
    ·obtain⟨v,aM,ak⟩:=tl q 0 (by simpa[R.len]using aN) (by omega)
     simp only[R.ch]at ca
     rw[ca,asY,asN]at aM
     simp only[R.cell]at ak
     have:v= .int k (l.getD q 0):=by cases ak;rfl
     subst this
     have vG:q<news.length:=(atg.1 aM).1
     exact AM [] news _ q _ (by simpa using aM)
   ·refine .inr ⟨_,_,e,rfl,rfl,nh _ _,by simp only[R.len]at iz⊢;omega, ?_,by simpa[R.ch]using nA,fun q r aN ak=> ?_⟩
    ·simp only[R.len,R.ch]at ca iz fD⊢
     have an:(cap-(0+l.length))*aj=cap*aj-l.length*aj:=by rw[as0,Nat.sub_mul]
     have az:l.length*aj<=cap*aj:=asF _ (by omega)
     simp[zL,iN,ca,fD.newsLen];rw[Nat.sub_mul];omega
    ·simp only[R.ch]at ca ak
     obtain⟨v,aM,Is⟩:=tl q r (by simpa[R.len]using aN) (by omega)
     rw[ca]at aM
     simp only[R.cell]at Is
     have vG:q*aj+r<news.length:=(atg.1 aM).1
     refine⟨v,AM [] news _ _ _ (by simpa using aM), ?_⟩
     exact Ag aP.rel _ (.inl rfl) _ _ _ _ (aP.toFr.reads Is))
  refine⟨_,_,_,eI,aP.trans ct, .cM ⟨_,p3 aP.rel _, ?_⟩⟩
  rw[gw,asq rfl,hlen,as0];exact⟨rfl,fun h=>by cases h⟩
end
end Go.bG
end
section
namespace Go.bG
section
variable {P:Program} {N:Nat->Prop} {ρ:List Loc} {own:aB} {w:World}
theorem Mx {Z Z':Nat->Prop}{w w':World}(ab:∀b,b<w.heap.size->¬Z b->w'.heap[b]? =w.heap[b]?)(bc:∀b,b<w.heap.size->¬Z b->¬Z' b):
 ∀x u,Reads Z w x u->Reads Z' w' x u:=fun _ _ h=>h.mono fun b ae ar=>⟨ab b ae ar,bc b ae ar⟩
theorem KC {t k9 ty:TypeId}{i:bQ}(hi:cE P t i=true)(bx:b4 N ρ own w){cd:TypeId}(aaz:P.underlying k9=some (.slice cd)){x:R}{id:Nat}{nV pN:Value}
 (af:bz (aI N ρ own) w ρ own (.vec id) nV) (a6:Reads (aI N ρ own) w x pN) (aQ:gq i.ty x=true) (dy:frozenAt own id=false) (ob:ad)
 (b1:(∃k l m,x= .ints k l/\ad.at own id= .ints k m/\ob= .ints k (m++l))\/∃aj l m,x= .rows aj l/\ad.at own id= .rows aj m/\ob= .rows aj (m++l))
 (qK:0<i.bytes) (ae:(((ad.at own id).len:Int)+x.len)*i.bytes<=70368744177664):
 ∃u w' ρ',(Builtin.append_ #[t,k9] ty #[nV,pN]).run P w= .ok u w'/\
  (let own':=fN id (own.set id (false,ob))
   b4 N ρ' own' w'/\Fr ρ own w ρ' own' w'/\(∀i,i≠id->eg ρ own ρ' own' i)/\bz (aI N ρ' own') w' ρ' own' (.vec id) u):=by
 obtain⟨loc,aq,hu,zc⟩:=af
 have de:=bx.jz aq
 obtain⟨e,g,he,aT,ca,nA,qM⟩:=q9 hi aQ
 obtain⟨z,bc,iN,aiP⟩:=Nw hi (Mw aQ) he aT
 obtain⟨news,fD,tl⟩:=OM (ρ:=ρ) (own:=own) (N:=N) aaz aQ a6
 rw[<-ca]at fD tl
 have GF:ob.len=(ad.at own id).len+x.len:=by
  rcases b1 with⟨k,l,m,rfl,aa,rfl⟩|⟨aj,l,m,rfl,aa,rfl⟩<;>rw[aa]<;>simp[ad.len,R.len]
 have DB:ob.kill id=ob:=by rcases b1 with⟨k,l,m,rfl,aa,rfl⟩|⟨aj,l,m,rfl,aa,rfl⟩<;>rfl
 have eZ:((ad.at own id).len=0/\loc.cap=0)\/∃b aG az,loc.a=some ⟨b,0,none⟩/\loc.bO=some b/\w.heap[b]? =some (.cells aG az (0,0))/\(ad.at own id).len<=loc.cap/\loc.cap*g.size<=aG.size/\
  ∀q r,q<(ad.at own id).len->r<g.size->∃v,aG[q*g.size+r]? =some v/\Reads (aI N ρ own) w ((ad.at own id).data.cell q r) v:=by
  have b2:=bx.ob id loc aq
  rcases b1 with⟨k,l,m,rfl,aa,rfl⟩|⟨aj,l,m,rfl,aa,rfl⟩
  ·rw[aa]at b2⊢
   simp only[R.ch]at ca
   rcases b2 with⟨rfl,ay⟩|⟨b,aG,az,aU,a_,bF,di,eB,hb⟩
   ·exact .inl ⟨rfl,ay⟩
   ·refine .inr ⟨b,aG,az,aU,a_,bF,di,by rw[ca,asY];exact eB,fun q r aN ak=>⟨.int k (m.getD q 0), ?_, .int _ _⟩⟩
    have:r=0:=by omega
    subst this
    rw[ca,asY,asN];exact hb q aN
  ·rw[aa]at b2⊢
   simp only[R.ch]at ca
   rcases b2 with⟨rfl,ay⟩|⟨b,aG,az,aU,a_,bF,di,eB,oL,hb⟩
   ·exact .inl ⟨rfl,ay⟩
   ·exact .inr ⟨b,aG,az,aU,a_,bF,di,by rw[ca];exact eB,fun q r aN ak=>by rw[ca]at ak⊢;exact hb q r aN ak⟩
 have vw:∀(Z:Nat->Prop) (w':World) (kr:List Loc) (fK:aB) (iy:Loc) (b:Nat) (tW:Array Value) (az:TypeId),(∀x u,Reads (aI N ρ own) w x u->Reads Z w' x u)->
  iy.a=some ⟨b,0,none⟩->iy.bO=some b->w'.heap[b]? =some (.cells tW az (0,0))->(ad.at own id).len+x.len<=iy.cap->iy.cap*g.size<=tW.size->
  (∀q r,q<(ad.at own id).len->r<g.size->∃v,tW[q*g.size+r]? =some v/\Reads (aI N ρ own) w ((ad.at own id).data.cell q r) v)->
  (∀q r,q<x.len->r<g.size->∃v,tW[((ad.at own id).len+q)*g.size+r]? =some v/\Reads (aI N ρ own) w (x.cell q r) v)->hD Z w' kr fK iy ob:=by
  intro Z w' kr fK iy b tW az ak a1 a2 a3 a4 a5 nS wx
  rcases b1 with⟨k,l,m,rfl,aa,rfl⟩|⟨aj,l,m,rfl,aa,rfl⟩
  ·rw[aa]at a4 nS wx
   simp only[R.ch,ad.len,R.len,ad.data,R.cell]at ca a4 nS wx
   refine .inr ⟨b,tW,az,a1,a2,a3,by simpa using a4,by rw[ca,asY]at a5;exact a5,fun q aN=> ?_⟩
   simp only[as2]at aN
   by_cases tX:q<m.length
   ·obtain⟨v,aM,ky⟩:=nS q 0 tX (by omega)
    rw[ca,asY,asN]at aM
    have:v= .int k (m.getD q 0):=by cases ky;rfl
    rw[aM,this];simp[ass,asS,tX]
   ·obtain⟨v,aM,ky⟩:=wx (q-m.length) 0 (by omega) (by omega)
    rw[ca,asY,asN,show m.length+(q-m.length)=q by omega]at aM
    have:v= .int k (l.getD (q-m.length) 0):=by cases ky;rfl
    rw[aM,this];simp[ass,asS,tX]
  ·rw[aa]at a4 nS wx
   simp only[R.ch,ad.len,R.len,ad.data,R.cell]at ca a4 nS wx
   refine .inr ⟨b,tW,az,a1,a2,a3,by simpa using a4,by rw[ca]at a5;exact a5,by omega,fun q r aN Is=> ?_⟩
   simp only[as2]at aN
   by_cases tX:q<m.length
   ·obtain⟨v,aM,ky⟩:=nS q r tX (by omega)
    rw[ca]at aM
    refine⟨v,aM,ak _ _ ?_⟩
    have:(m++l).getD q []=m.getD q []:=by simp[ass,asS,tX]
    rw[this];exact ky
   ·obtain⟨v,aM,ky⟩:=wx (q-m.length) r (by omega) (by omega)
    rw[ca,show m.length+(q-m.length)=q by omega]at aM
    refine⟨v,aM,ak _ _ ?_⟩
    have:(m++l).getD q []=l.getD (q-m.length) []:=by simp[ass,asS,tX]
    rw[this];exact ky
 have x7:∀(ρ':List Loc) (own':aB),own'=fN id (own.set id (false,ob))->ad.at own' id=ob:=by
  rintro ρ' own' rfl
  rw[Gm,gx,asq ⟨rfl,de⟩];exact DB
 by_cases xV:(ad.at own id).len+x.len<=loc.cap
 ·rcases eZ with⟨aE,ay⟩|⟨b,aG,az,a1,a2,a3,a4,a5,nS⟩
  ·
   have Ix:x.len=0:=by omega
   have kv:news=[]:=by have:=fD.newsLen;rw[Ix]at this;exact atc.1 (by simpa using this)
   rw[Ix,kv]at fD
   have eI:=zS (P:=P) (w:=w) (ty:=ty) he aT loc.a (ad.at own id).len loc.cap (by omega) fD
   have gO:ρ.set id loc=ρ:=by
    apply List.ext_getElem?
    intro j
    rw[ata]
    split
    ·rename_i aK;subst aK;rw[asq (by rw[bx.len];exact de),aq]
    ·rfl
   obtain⟨c3,cP,cJ⟩:=FK bx id loc de ob DB dy (w':=w) rfl rfl rfl (asz _) (fun _ _ _=>rfl)
    (fun b ae=>⟨bx.lt id loc b aq ae,bx.fr id loc b aq ae, .inr ⟨loc,aq,ae⟩⟩)
    (fun Z kr fK _=>by
      have:ob.len=0:=by omega
      rcases b1 with⟨k,l,m,rfl,aa,rfl⟩|⟨aj,l,m,rfl,aa,rfl⟩
      ·exact .inl ⟨atc.1 this,ay⟩
      ·exact .inl ⟨atc.1 this,ay⟩)
   refine⟨_,w,ρ.set id loc,by rw[hu];exact eI,c3,cP,cJ, .cM ⟨loc,by rw[gO];exact aq, ?_⟩⟩
   rw[x7 (ρ.set id loc) _ rfl,GF,Ix];exact⟨rfl,zc⟩
  ·
   have eo:(ad.at own id).len*g.size+news.length<=aG.size:=by
    rw[fD.newsLen,<-asK]
    exact asZ (asF _ xV) a5
   have eI:=T6 (P:=P) (w:=w) (ty:=ty) he aT b (ad.at own id).len loc.cap x.len fD aG a3 xV eo
   have gO:ρ.set id loc=ρ:=by
    apply List.ext_getElem?
    intro j
    rw[ata]
    split
    ·rename_i aK;subst aK;rw[asq (by rw[bx.len];exact de),aq]
    ·rfl
   have lp:∀ee,ee≠b->(w.setRow b (aG.toList.take ((ad.at own id).len*g.size)++news++aG.toList.drop ((ad.at own id).len*g.size+news.length)).toArray).heap[ee]? =w.heap[ee]? :=
    fun ee gT=>setRow_other w b ee _ gT
   obtain⟨c3,cP,cJ⟩:=FK bx id loc de ob DB dy
    (w':=w.setRow b (aG.toList.take ((ad.at own id).len*g.size)++news++aG.toList.drop ((ad.at own id).len*g.size+news.length)).toArray) rfl rfl rfl (by simp)
    (fun ee _ cV=>lp ee fun h=>cV loc aq (h▸a2))
    (fun ee gT=>⟨by simpa using bx.lt id loc ee aq gT,bx.fr id loc ee aq gT, .inr ⟨loc,aq,gT⟩⟩)
    (fun Z kr fK jU=>by
      refine vw Z _ kr fK loc b _ az (Mx (fun ee gT ar=>lp ee fun h=>ar (.inr ⟨id,loc,aq,h▸a2,dy⟩)) jU) a1 a2 (setRow_heap w b aG _ az (0,0) a3) xV (by rw[uw _ _ _ eo];exact a5) (fun q r aN ak=> ?_) (fun q r aN ak=> ?_)
      ·rw[sB _ _ _ eo]
       have:(q+1)*g.size<=(ad.at own id).len*g.size:=asF _ (by omega)
       rw[asK]at this
       rw[asp (by omega)]
       exact nS q r aN ak
      ·rw[sB _ _ _ eo]
       obtain⟨v,aM,ky⟩:=tl q r aN ak
       have bB:=(atg.1 aM).1
       rw[asq (by rw[asK];omega)]
       refine⟨v, ?_,ky⟩
       rw[show((ad.at own id).len+q)*g.size+r-(ad.at own id).len*g.size=q*g.size+r by rw[asK];omega]
       exact aM)
   refine⟨_,_,ρ.set id loc,by rw[hu,a1];exact eI,c3,cP,cJ, .cM ⟨loc,by rw[gO];exact aq, ?_⟩⟩
   rw[x7 (ρ.set id loc) _ rfl,GF,a1];exact⟨rfl,fun h=>by cases h⟩
 ·
  have DT:((ad.at own id).len+x.len)*g.bytes<=70368744177664:=by rw[qM];exact Nx (by rw[auB];exact ae)
  have vW:(((ad.at own id).len+x.len:Nat):Int)<=9223372036854775807:=by
   have U:((ad.at own id).len+x.len)*1<=((ad.at own id).len+x.len)*g.bytes:=as1 _ (by omega)
   omega
  have hold:∃ks:List Value,(Builtin.firstCells g.size (ad.at own id).len (.slice loc.a (ad.at own id).len loc.cap)).run P w.drew= .ok ks.toArray w.drew/\ks.length=(ad.at own id).len*g.size/\
   ∀q r,q<(ad.at own id).len->r<g.size->∃v,ks[q*g.size+r]? =some v/\Reads (aI N ρ own) w ((ad.at own id).data.cell q r) v:=by
   rcases eZ with⟨aE,ay⟩|⟨b,aG,az,a1,a2,a3,a4,a5,nS⟩
   ·exact⟨[],by rw[aE];exact Kk _ _ _ _,by simp[aE],fun q r aN=>by omega⟩
   ·have hle:(ad.at own id).len*g.size<=aG.size:=asZ (asF _ a4) a5
    refine⟨aG.toList.take ((ad.at own id).len*g.size), ?_,by simp;omega,fun q r aN ak=> ?_⟩
    ·rw[a1]
     exact run_firstCells_some w.drew g.size _ ⟨b,0,none⟩ _ _ _ (by simp;omega) (fun j v aK=>by
      rw[mD,as0]
      have hZ:j<(ad.at own id).len*g.size:=by
       have:=(atg.1 aK).1
       simp at this;omega
      rw[ath,asq hZ]at aK
      have aaA:w.drew.heap[b]? =some (.cells aG az (0,0)):=a3
      simp only[World.cell?,aaA]
      simpa using aK)
    ·obtain⟨v,aM,ky⟩:=nS q r aN ak
     have bB:q*g.size+r<(ad.at own id).len*g.size:=by
      have:(q+1)*g.size<=(ad.at own id).len*g.size:=asF _ (by omega)
      rw[asK]at this;omega
     exact⟨v,by rw[ath,asq bB];simpa using aM,ky⟩
  obtain⟨ks,Iy,zd,aaB⟩:=hold
  have eI:=run_append_grow_src (P:=P) w t k9 ty e g z he aT bc loc.a (ad.at own id).len loc.cap ks Iy pN x.len news fD (by omega) vW (growslice_fits (by omega) (by omega))
  have iz:=ON w ((ad.at own id).len+x.len) loc.cap e
  generalize grownCap w ((ad.at own id).len+x.len) loc.cap e=cap at eI iz
  have lp:∀ee,ee<w.heap.size->(w.drew.alloc (.cells ((ks++news).toArray++Builtin.zeroCells z.cells (cap-((ad.at own id).len+x.len))) e)).heap[ee]? =w.heap[ee]? :=
   fun ee gT=>heap_alloc_old w.drew _ ee gT
  obtain⟨c3,cP,cJ⟩:=FK bx id ⟨some ⟨w.heap.size,0,none⟩,cap,some w.heap.size⟩ de ob DB dy
   (w':=w.drew.alloc (.cells ((ks++news).toArray++Builtin.zeroCells z.cells (cap-((ad.at own id).len+x.len))) e)) rfl rfl rfl (by simp)
   (fun ee gT _=>lp ee gT)
   (fun ee gT=>by
     simp at gT;subst gT
     exact⟨by simp,fun ar=>absurd (bx.fE _ ar) (by omega), .inl (asz _)⟩)
   (fun Z kr fK jU=>by
     refine vw Z _ kr fK _ w.heap.size _ e (Mx (fun ee gT _=>lp ee gT) jU) rfl rfl (nh w.drew _) iz ?_ (fun q r aN ak=> ?_) (fun q r aN ak=> ?_)
     ·have an:((ad.at own id).len+x.len)*g.size<=cap*g.size:=asF _ iz
      simp only[Array.size_append,List.size_toArray,as2,zL,iN,zd,fD.newsLen,Nat.sub_mul]
      rw[asK]at an⊢;omega
     ·obtain⟨v,aM,ky⟩:=aaB q r aN ak
      have bB:=(atg.1 aM).1
      exact⟨v,AM ks news _ _ _ (by rw[atp bB];exact aM),ky⟩
     ·obtain⟨v,aM,ky⟩:=tl q r aN ak
      refine⟨v,AM ks news _ _ _ ?_,ky⟩
      rw[atC (by rw[zd,asK];omega),zd,show((ad.at own id).len+q)*g.size+r-(ad.at own id).len*g.size=q*g.size+r by rw[asK];omega]
      exact aM)
  refine⟨_,_,ρ.set id ⟨some ⟨w.heap.size,0,none⟩,cap,some w.heap.size⟩,by rw[hu];exact eI,c3,cP,cJ, .cM ⟨_,by rw[ata,asq rfl,asq (by rw[bx.len];exact de)], ?_⟩⟩
  rw[x7 (ρ.set id loc) _ rfl,GF];exact⟨rfl,fun h=>by cases h⟩
theorem EA {Z:Nat->Prop}{l:List Int}{u:Value}(h:Reads Z w (.ints .u8 l) u)(ak:∀x∈l,0<=x/\x<256):
 ∃s:ByteArray,(Conv.bytesToString u).run P w= .ok (.string s) w/\l=s.data.toList.map fun b=>(b.toNat:Int):=by
 have Zj:∀(s:ByteArray),s.data.toList=(l.map fun n=>UInt8.ofNat n.toNat)->l=s.data.toList.map fun b=>(b.toNat:Int):=by
  intro s ao
  rw[ao,atM]
  have:∀x∈l,((fun b:UInt8=>(b.toNat:Int))∘fun n:Int=>UInt8.ofNat n.toNat) x=x:=by
   intro x af
   obtain⟨aE,U⟩:=ak x af
   simp only[Function.comp,UInt8.toNat_ofNat']
   omega
  rw[auC this,List.map_id']
 cases h with
 |h4 a cap=>
  refine⟨ByteArray.empty, ?_,rfl⟩
  cases a with
  |none=>rfl
  |some a=>
   have:=run_bytesToString (P:=P) w a 0 cap [] rfl
   simpa using this
 |ints _ _ n b off cap ar bc ay gA=>
  have YP:(loadCells ⟨b,off,none⟩ n).run P w= .ok (l.map (Value.int .u8)).toArray w:=by
   have:=run_loadCells_list (P:=P) w ⟨b,off,none⟩ (l.map (Value.int .u8)) (fun j v aK=>by
    rw[atl]at aK
    have hZ:j<l.length:=by
     cases jY:l[j]? with
     |none=>simp[jY]at aK
     |some z=>exact(atg.1 jY).1
    rw[mD,gA j (by omega)]
    simp[asI hZ]at aK
    simp[ass,hZ,aK])
   simpa[ar]using this
  exact⟨_,run_bytesToString (P:=P) w _ n cap l YP,Zj _ (by rw[foldl_push];rfl)⟩
end
end Go.bG
end
section
namespace Go.bG
section
variable {P:Program} {N:Nat->Prop} {ρ:List Loc} {own:aB} {w:World}
theorem ij (h:b4 N ρ own w){s:Sem Value}{u:Value}{v:J}(ao:s.run P w= .ok u w)(aM:bz (aI N ρ own) w ρ own v u){my:Sem Next}(ar:my=do pure (.value (<-s))):
 Good P N ρ own w my v own:=by subst ar;exact .Ym h ao aM
theorem ng {s:Sem Value}{u:Value}{v:J}{w':World}{ρ':List Loc}{own':aB}(ao:s.run P w= .ok u w')(ct:Step N ρ own w ρ' own' w')
 (aM:bz (aI N ρ' own') w' ρ' own' v u) {my:Sem Next} (ar:my=do pure (.value (<-s))):Good P N ρ own w my v own':=by
 subst ar
 exact⟨.value u,w',ρ',u,by simp[ao], .inl rfl,ct,aM⟩
theorem VH (bx:b4 N ρ own w){id:Nat}{loc:Loc}(aq:ρ[id]? =some loc){k:IntKind}{l:List Int}(aH:ad.at own id= .ints k l):
 Reads (fun _=>False) w (.ints k l) (.slice loc.a l.length loc.cap):=by
 have h:=bx.ob id loc aq
 rw[aH]at h
 rcases h with⟨rfl,aa⟩|⟨b,aG,e,U,aa,al,aL,bo,bX⟩
 ·exact .h4 _ _ _
 ·rw[U];exact .ints k l _ b 0 _ rfl (fun h=>h) aL fun i hi=>by simp[World.cell?,al,bX i hi]
theorem EB {Z:Nat->Prop}(f:Int->Int->Int)(ha:Value->Value->Sem Value)(hm:∀(k b3:IntKind) x y,ha (.int k x) (.int b3 y)=pure (.int k (f x y)))(k:IntKind):
 ∀(l:List J) (us:List Value) (a m:Int),rq f a l=some m->l.length=us.length->(∀i,i<l.length->bz Z w ρ own (l.getD i .un) (us.getD i undef))->
  (us.foldlM ha (Value.int k a)).run P w= .ok (.int k m) w
 |[],[],a,m,h,_,_=>by simp[rq]at h;subst h;rfl
 |[],_::_,_,_,_,h,_=>by simp at h
 |_::_,[],_,_,_,h,_=>by simp at h
 |t::r,u::us,a,m,h,aq,ak=>by
  have aE:=ak 0 (by simp)
  simp only[List.getD_cons_zero]at aE
  have aA:∃b3 b,t= .d (.int b3 b):=by
   cases t with
   |d x=>cases x with
    |int b3 b=>exact⟨b3,b,rfl⟩
    |_=>simp[rq]at h
   |_=>simp[rq]at h
  obtain⟨b3,b,rfl⟩:=aA
  have:=iE aE
  subst this
  simp only[rq]at h
  rw[List.foldlM_cons,hm,pure_bind]
  exact EB f ha hm k r us (f a b) m h (by simpa using aq) (fun i hi=>by have:=ak (i+1) (by simpa using hi);simpa using this)
theorem Gp {tm:List J}{a:Act}(aA:dC (aI N ρ own) w ρ own tm a.tmps)(args:Array Operand):
 (lmap (aS tm) args.toList).length=((args.map a.eval).toList).length/\∀i,i<(lmap (aS tm) args.toList).length->bz (aI N ρ own) w ρ own ((lmap (aS tm) args.toList).getD i .un) ((args.map a.eval).toList.getD i undef):=by
 rw[c5]
 refine⟨by simp,fun i hi=> ?_⟩
 simp only[asy,atu]at hi
 have:=dK aA args[i]
 simpa[ass,hi]using this
theorem W2 {src dst:TypeId}{i j:bQ}(hi:cE P src i=true)(aK:cE P dst j=true)(bx:b4 N ρ own w){cw:Operand}{tm:List J}{a:Act}(aA:dC (aI N ρ own) w ρ own tm a.tmps)
 {safe:List Prop} {v:J} {own':aB} (h:nt i.ty j.ty (aS tm cw) own= .aR safe v own') (ao:∀p∈safe,p):
 ∃u,own'=own/\(convert src dst (a.eval cw)).run P w= .ok u w/\bz (aI N ρ own) w ρ own v u:=by
 have af:=dK aA cw
 generalize aS tm cw=x at*
 generalize a.eval cw=nV at*
 have hint:∀{t:TypeId} {i:bQ} {k:IntKind},cE P t i=true->i.ty= .bS (.int k)->P.underlying t=some (.int k):=by
  intro t i k hi h
  unfold cE at hi
  rw[h]at hi
  split at hi<;>simp_all
  exact(iS.1 hi.1.1).symm
 have GG:i.ty= .bS (.sints .u8)->∃e,P.underlying src=some (.slice e)/\P.underlying e=some (.int .u8):=by
  intro h
  unfold cE at hi
  rw[h]at hi
  split at hi<;>simp_all
  split at hi<;>simp_all
  exact(iS.1 hi.2.1.1.1).symm
 unfold nt at h
 split at h
 ·rename_i k b3 n qy
  split at h
  ·rename_i ajP fD
   simp only[bH.aR.injEq]at h
   obtain⟨rfl,rfl,rfl⟩:=h
   have:=iE af;subst this
   have U:=hint hi fD
   have aa:=hint aK qy
   exact⟨_,rfl,by simp[convert,run_underlying U,run_underlying aa,Conv.intToInt],nq _ _⟩
  ·cases h
 ·rename_i l qy
  split at h
  ·rename_i fD
   simp only[bH.aR.injEq]at h
   obtain⟨rfl,rfl,rfl⟩:=h
   obtain⟨s,rfl,aq⟩:=rf af
   have U:=rh hi fD
   have aa:=rh aK qy
   exact⟨.string s,rfl,by simp[convert,run_underlying U,run_underlying aa],af⟩
  ·cases h
 ·rename_i l qy
  split at h
  ·rename_i fD
   simp only[bH.aR.injEq]at h
   obtain⟨rfl,rfl,rfl⟩:=h
   obtain⟨e,U,al⟩:=GG fD
   have aa:=rh aK qy
   obtain⟨e4,cap,hu,_⟩:=Ax af
   obtain⟨s,gb,k1⟩:=EA (P:=P) (w:=w) af (ao _ (by simp))
   refine⟨.string s,rfl, ?_, .cM (Reads.str s _ k1)⟩
   rw[hu]at gb⊢
   simp[convert,run_underlying U,run_underlying aa,run_underlying al,gb]
  ·cases h
 ·rename_i id qy
  split at h
  ·rename_i l aH fD
   simp only[bH.aR.injEq]at h
   obtain⟨rfl,rfl,rfl⟩:=h
   obtain⟨e,U,al⟩:=GG fD
   have aa:=rh aK qy
   obtain⟨loc,aq,hu⟩:=Nq af aH
   obtain⟨s,gb,k1⟩:=EA (P:=P) (w:=w) (VH bx aq aH) (ao _ (by simp))
   refine⟨.string s,rfl, ?_, .cM (Reads.str s _ k1)⟩
   rw[hu]
   simp[convert,run_underlying U,run_underlying aa,run_underlying al,gb]
  ·cases h
 ·rename_i qy
  split at h
  ·rename_i fD
   simp only[bH.aR.injEq]at h
   obtain⟨rfl,rfl,rfl⟩:=h
   obtain⟨e,U,al⟩:=GG fD
   have aa:=rh aK qy
   obtain⟨e4,rfl⟩:=af
   obtain⟨s,gb,k1⟩:=EA (P:=P) (w:=w) (Z:=fun _=>False) (l:=[]) (.h4 e4 0 .u8) (fun x af=>by cases af)
   refine⟨.string s,rfl, ?_, .cM (Reads.str s _ k1)⟩
   simp[convert,run_underlying U,run_underlying aa,run_underlying al,gb]
  ·cases h
 ·cases h
theorem Lk {a:Act}{o:Oper}{c:Call}{b:Builtin}(aH:o.op= .call c)(ay:c.callee= .builtin b):
 ∃consts,execOp a.eval o=builtin b c.argTypes o.type consts (c.args.map a.eval):=by
 unfold execOp
 rw[aH]
 simp only[resolve,ay,pure_bind,invoke]
 exact⟨_,rfl⟩
theorem uz {α:Type}(x:Array α)(l:List α)(h:x.toList=l):x=l.toArray:=by subst h;simp
theorem Rk {α:Type}:∀{l:List α},l.length=2->∃a b,l=[a,b]
 |[a,b],_=>⟨a,b,rfl⟩
theorem FO {tm:List J}{args:Array Operand}{x y:J}(h:lmap (aS tm) args.toList=[x,y]):∃p q,args=#[p,q]/\aS tm p=x/\aS tm q=y:=by
 rw[c5]at h
 have aq:args.toList.length=2:=by have:=asQ List.length h;simpa using this
 obtain⟨p,q,qI⟩:=Rk aq
 rw[qI]at h
 simp at h
 exact⟨p,q,uz _ _ qI,h.1,h.2⟩
theorem PL {tm:List J}{args:Array Operand}{x:J}(h:lmap (aS tm) args.toList=[x]):∃p,args=#[p]/\aS tm p=x:=by
 rw[c5]at h
 have aq:args.toList.length=1:=by have:=asQ List.length h;simpa using this
 obtain⟨p,qI⟩:=List.length_eq_one_iff.1 aq
 rw[qI]at h
 simp at h
 exact⟨p,uz _ _ qI,h⟩
theorem OS {tm:List J}{args:Array Operand}{x:J}{r:List J}(h:lmap (aS tm) args.toList=x::r):∃p ps,args=(p::ps).toArray/\aS tm p=x/\lmap (aS tm) ps=r:=by
 cases aq:args.toList with
 |nil=>rw[aq]at h;simp[lmap]at h
 |cons p ps=>
  rw[aq]at h
  simp only[lmap,auc]at h
  exact⟨p,ps,uz _ _ aq,h.1,h.2⟩
theorem Ll {tys:Array TypeId}(h:bN tys.toList=2):tys=#[bT 0 tys.toList 0,bT 0 tys.toList 1]:=by
 rw[cf]at h
 obtain⟨p,q,qI⟩:=Rk h
 rw[qI]
 exact uz _ _ qI
theorem FP {y:J}{u:Value}(bx:b4 N ρ own w)(a6:bz (aI N ρ own) w ρ own y u):
 Step N ρ own w ρ (kJ own y) w/\bz (aI N ρ (kJ own y)) w ρ (kJ own y) (rJ own y) u:=by
 cases y with
 |vec id=>
  have ct:=Step.shut bx id
  have eZ:own.set id (true,ad.at own id)=en own id:=by rw[en,ep]
  rw[eZ]at ct
  refine⟨ct, ?_⟩
  unfold rJ kJ
  simp only
  obtain⟨loc,aq,hu,_⟩:=a6
  have dy:frozenAt (en own id) id=true:=by rw[<-eZ,hS,asq ⟨rfl,bx.jz aq⟩]
  have cg:ad.at (en own id) id=ad.at own id:=by rw[<-eZ,gx];split<;>simp
  cases aH:ad.at own id with
  |ints k l=>
   have ak:=pU ct.rel aq dy (t:= .bS (.sints k)) (by rw[cg,aH];exact iS.2 rfl)
   rw[cg,aH]at ak
   rw[hu,aH]
   exact .cM ak
  |rows aj l=>
   have ak:=pU ct.rel aq dy (t:= .bS (.srows aj)) (by rw[cg,aH];exact ato aj)
   rw[cg,aH]at ak
   rw[hu,aH]
   exact .cM ak
  |_=>trivial
 |_=>exact⟨Step.refl bx,a6⟩
theorem VI {Z:Nat->Prop}{w:World}{ρ:List Loc}{own:aB}{t:J}{v:Value}(h:dE Z w ρ own t v){id:Nat}(ar:t.kO id):id<ρ.length:=by
 have key:∀{loc:Loc},ρ[id]? =some loc->id<ρ.length:=fun h=>(atg.1 h).1
 cases t<;>simp only[J.kO]at ar
 case vec i=>subst ar;obtain⟨loc,U,_⟩:=h;exact key U
 case ptr i o=>subst ar;obtain⟨loc,b,U,_⟩:=h;exact key U
 case optr i x j=>subst ar;obtain⟨loc,b,U,_⟩:=h;exact key U
 case oat i x j=>subst ar;obtain⟨loc,b,U,_⟩:=h;exact key U
 case mp i=>subst ar;obtain⟨loc,b,U,_⟩:=h;exact key U
 case tail i x=>subst ar;obtain⟨loc,b,U,_⟩:=h;exact key U
theorem forget {ρ':List Loc}{w':World}{ob:ad}{u:Value}(bx:b4 N ρ own w)(ct:Step N ρ own w ρ' (own++[(false,ob)]) w')
 (aM:bz (aI N ρ' (own++[(false,ob)])) w' ρ' (own++[(false,ob)]) (.vec own.length) u) (b1:(∃k l,ob= .ints k l)\/∃aj l,ob= .rows aj l):
 Step N ρ own w ρ own w'/\Reads (aI N ρ own) w' ob.data u:=by
 have hlen:ρ'.length=own.length+1:=by rw[ct.rel.len];simp
 have hold:∀(i:Nat) (loc:Loc),ρ[i]? =some loc->ρ'[i]? =some loc:=fun i loc h=>(ct.same i loc h).1
 have bB:∀(i:Nat) (loc:Loc),ρ[i]? =some loc->i<own.length:=fun i loc h=>by
  have:=(atg.1 h).1
  rw[bx.len]at this;exact this
 have cg:∀i,i<own.length->ad.at (own++[(false,ob)]) i=ad.at own i:=fun i hi=>by
  rw[gw,asp (by omega)]
 have dy:∀i,i<own.length->frozenAt (own++[(false,ob)]) i=frozenAt own i:=fun i hi=>by
  unfold frozenAt
  rw[dp,dp]
  simp only[ass]
  rw[atp hi]
 have xW:∀b,aI N ρ own b->aI N ρ' (own++[(false,ob)]) b:=fun b ae=>by
  rcases ae with ae|⟨i,loc,U,aa,al⟩
  ·exact .inl ae
  ·exact .inr ⟨i,loc,hold i loc U,aa,by rw[dy i (bB i loc U)];exact al⟩
 have s7:∀x u,Reads (aI N ρ' (own++[(false,ob)])) w' x u->Reads (aI N ρ own) w' x u:=fun x u af=>af.mono fun b _ bc=>⟨rfl,fun ae=>bc (xW b ae)⟩
 have YQ:b4 N ρ own w':=
  {len:=bx.len
   fE:=ct.rel.fE
   lt:=fun i loc b U aa=>ct.rel.lt i loc b (hold i loc U) aa
   inj:=fun i j li b9 b U aa al aL s1 s2=>ct.rel.inj i j li b9 b (hold i li U) (hold j b9 aa) al aL (fun⟨a,n,aj,e⟩=>s1 ⟨by rw[<-dy i (bB i li U)];exact a,n,aj,by rw[<-cg i (bB i li U)];exact e⟩) (fun⟨a,n,aj,e⟩=>s2 ⟨by rw[<-dy j (bB j b9 aa)];exact a,n,aj,by rw[<-cg j (bB j b9 aa)];exact e⟩)
   fr:=fun i loc b U aa=>ct.rel.fr i loc b (hold i loc U) aa
   ob:=fun i loc U=>by
    have aa:=ct.rel.ob i loc (hold i loc U)
    have al:=bx.ob i loc U
    rw[cg i (bB i loc U)]at aa
    refine aa.mono (fun b _=>rfl) s7 fun l aq k id ab ar=> ?_
    rw[aq]at al
    obtain⟨_,aG,_,_,_,_,_,aL⟩:=al
    have de:=VI (aL k ab) ar
    intro iy ia
    have an:ρ[id]? =some ρ[id]:=by simp[de]
    have az:=hold id _ an
    rw[az]at ia
    obtain rfl:=asB ia
    rw[cg id (by rw[<-bx.len];exact de)]
    exact⟨an,rfl,rfl⟩}
 refine⟨{ct.toFr with alive:=fun b h=> .inl h,rel:=YQ,same:=eg.refl ρ own}, ?_⟩
 obtain⟨k1,lJ⟩:=FP ct.rel aM
 have aP:rJ (own++[(false,ob)]) (.vec own.length)= .d ob.data:=by
  have aC:ad.at (own++[(false,ob)]) own.length=ob:=by rw[gw,asq rfl]
  unfold rJ
  simp only[aC]
  rcases b1 with⟨k,l,rfl⟩|⟨aj,l,rfl⟩<;>rfl
 rw[aP]at lJ
 have HT:Reads (aI N ρ' (kJ (own++[(false,ob)]) (.vec own.length))) w' ob.data u:=lJ
 refine HT.mono fun b _ bc=>⟨rfl,fun ae=>bc ?_⟩
 rcases ae with ae|⟨i,loc,U,aa,al⟩
 ·exact .inl ae
 ·refine .inr ⟨i,loc,hold i loc U,aa, ?_⟩
  have hi:=bB i loc U
  show frozenAt (en (own++[(false,ob)]) own.length) i=false
  rw[en,ep,hS,asp (by omega),dy i hi];exact al
theorem VJ {P:Program}{N:Nat->Prop}{ρ:List Loc}{own cx:aB}{w:World}{s:Sem Next}{v:J}{own':aB}(h:Step N ρ own w ρ cx w)(k:Good P N ρ cx w s v own'):Good P N ρ own w s v own':=by
 obtain⟨my,w',ρ',u,U,aa,al,aL⟩:=k
 exact⟨my,w',ρ',u,U,aa,h.trans al,aL⟩
theorem KT (z:Array Value)(n k:Nat)(ab:k<n*z.size):(Builtin.zeroCells z n)[k]? =some z[k%z.size]! :=by
 simp[Builtin.zeroCells,ab]
theorem VK {t ty:TypeId}{i:bQ}(hi:cE P t i=true)(bx:b4 N ρ own w){x:J}{u:Value}(af:bz (aI N ρ own) w ρ own x u){safe:List Prop}{v:J}{own':aB}
 (h:uO i x own= .aR safe v own'):∃w',v= .any/\(Builtin.clear_ #[t] ty #[u]).run P w= .ok (.tuple #[]) w'/\Step N ρ own w ρ own' w':=by
 unfold uO at h
 split at h
 rotate_left
 ·cases h
 rename_i id a
 split at h
 rotate_left
 ·cases h
 rename_i aj l dy aH eo
 simp only[bH.aR.injEq]at h
 obtain⟨rfl,rfl,rfl⟩:=h
 obtain⟨loc,b,aq,fZ,dr,hu,aE,U⟩:=af
 rw[aH]at U hu eo
 simp only[ad.len,ad.ch]at U hu
 have bV:i.ty= .bS (.srows aj):=by
  cases bV:i.ty with
  |bS s=>rw[bV]at eo;cases s<;>simp[iV]at eo;rw[eo]
  |_=>rw[bV]at eo;simp[iV]at eo
 obtain⟨e,g,z,q1,cb,cu,fM,dm,hO,gm,nb⟩:=uB hi bV
 obtain⟨oI,z2⟩:=q6 (Z:=aI N ρ own) (w:=w) nb
 have iN:z.cells.size=aj:=by rw[<-atu,oI,hO]
 have b1:=bx.ob id loc aq
 rw[aH]at b1
 rcases b1 with⟨rfl,_⟩|⟨ee,aG,az,aU,a_,bF,di,eB,oL,hb⟩
 ·simp at U;omega
 rw[fZ]at aU;simp at aU;subst aU
 generalize ar:a.toNat=n at*
 have kv:n<l.length:=by omega
 have pG:(Builtin.zeroCells z.cells (l.length-n)).toList.length=(l.length-n)*aj:=by rw[atu,zL,iN]
 have l8:n*aj+(l.length-n)*aj=l.length*aj:=by rw[<-asK];congr 1;omega
 have rU:l.length*aj<=loc.cap*aj:=asF _ di
 have HG:∀x∈(Builtin.zeroCells z.cells (l.length-n)).toList,x.oneCell'=true:=fun x af=>by
  obtain⟨k,e⟩:=List.mem_iff_getElem?.1 af
  have ab:=(atg.1 e).1
  rw[pG]at ab
  have aT:=KT z.cells (l.length-n) k (by rw[iN];exact ab)
  rw[auD,aT]at e
  obtain rfl:=asB e
  have hm:k%z.cells.size<aj:=by rw[iN];exact as6 _ dm
  have:=(z2 (k%z.cells.size) (by omega)).one
  have bK:z.cells[k%z.cells.size]! =z.cells.toList.getD (k%z.cells.size) undef:=by
   have:k%z.cells.size<z.cells.size:=by omega
   simp[ass,this]
  rw[bK];exact this
 have ct:=run_storeCells_at P b (n*aj) az (Builtin.zeroCells z.cells (l.length-n)).toList 0 aG w bF (by rw[pG];omega) HG
 simp only[asN]at ct
 have DY:(zeroValue e).run P w= .ok z w:=by simp[zeroValue,typeInfo,cb,gm]
 have nA:l.length-n≠0:=by omega
 have eI:(Builtin.clear_ #[t] ty #[u]).run P w= .ok (.tuple #[]) (w.setRow b (aG.toList.take (n*aj)++(Builtin.zeroCells z.cells (l.length-n)).toList++aG.toList.drop (n*aj+(Builtin.zeroCells z.cells (l.length-n)).toList.length)).toArray):=by
  rw[hu]
  obtain⟨m,hm⟩:∃m,l.length-n=m+1:=⟨l.length-n-1,by omega⟩
  rw[hm]at ct⊢
  simp[Builtin.clear_,run_underlying q1,DY,ct]
 refine⟨_,rfl,eI, ?_⟩
 ·rw[ep]
  have eK:(ad.rows aj (l.take n++List.replicate (l.length-n) (lmap b0.ir i.hC))).len=(ad.at own id).len:=by rw[aH];simp[ad.len];omega
  have hJ:(ad.rows aj (l.take n++List.replicate (l.length-n) (lmap b0.ir i.hC))).ch=(ad.at own id).ch:=by rw[aH];rfl
  have hm:=Ac bx aq dr dy (ad.rows aj (l.take n++List.replicate (l.length-n) (lmap b0.ir i.hC)))
   ((aG.toList.take (n*aj)++(Builtin.zeroCells z.cells (l.length-n)).toList++aG.toList.drop (n*aj+(Builtin.zeroCells z.cells (l.length-n)).toList.length)).toArray)
  refine Step.write bx id loc b aq dr dy _ eK hJ _ (.inr ⟨b,_,az,fZ,dr,setRow_heap w b aG _ az (0,0) bF,by simp;omega, ?_,oL,fun q r aN ak=> ?_⟩)
  ·rw[uw _ _ _ (by rw[pG];omega)];exact eB
  ·have aN:q<l.length:=by simp at aN;omega
   rw[sB _ _ _ (by rw[pG];omega),pG]
   rw[pG]at hm
   have Iz:q*aj+r<l.length*aj:=by
    have:(q+1)*aj<=l.length*aj:=asF _ (by omega)
    rw[asK]at this;omega
   by_cases eE:q<n
   ·have:(q+1)*aj<=n*aj:=asF _ (by omega)
    rw[asK]at this
    rw[asp (by omega)]
    obtain⟨v,aM,pv⟩:=hb q r aN ak
    refine⟨v,aM, ?_⟩
    have an:(l.take n++List.replicate (l.length-n) (lmap b0.ir i.hC)).getD q []=l.getD q []:=by
     simp only[ass]
     rw[atp (by simp;omega),ath,asq eE]
    rw[an];exact hm _ _ pv
   ·have:n*aj<=q*aj:=asF _ (by omega)
    rw[asq (by omega)]
    have ab:q*aj+r-n*aj<(l.length-n)*z.cells.size:=by rw[iN];omega
    refine⟨z.cells[(q*aj+r-n*aj)%z.cells.size]!,by rw[auD,KT _ _ _ ab], ?_⟩
    have HI:(q*aj+r-n*aj)%z.cells.size=r:=by
     rw[iN,show q*aj+r-n*aj=aj*(q-n)+r by rw[asT aj,Nat.sub_mul];omega,aun,ati ak]
    rw[HI]
    have an:(l.take n++List.replicate (l.length-n) (lmap b0.ir i.hC)).getD q []=lmap b0.ir i.hC:=by
     simp only[ass]
     rw[atC (by simp;omega),atN,asq (by simp;omega)];rfl
    rw[an]
    have bK:z.cells[r]! =z.cells.toList.getD r undef:=by
     have:r<z.cells.size:=by omega
     simp[ass,this]
    rw[bK]
    exact hm _ _ (z2 r (by omega))
theorem Td {tb:TypeId->bQ}(bj:∀t,cE P t (tb t)=true){b:Builtin}{tys:Array TypeId}{args:Array Operand}{tm:List J}{a:Act}(bx:b4 N ρ own w)(aA:dC (aI N ρ own) w ρ own tm a.tmps)
 {safe:List Prop} {v:J} {own':aB} (h:j_ tb b tys.toList (lmap (aS tm) args.toList) own= .aR safe v own') (ao:∀p∈safe,p) (ty:TypeId) (consts:Array Bool):
 Good P N ρ own w (builtin b tys ty consts (args.map a.eval)) v own':=by
 unfold j_ at h
 split at h
 ·rename_i x fA
  obtain⟨p,rfl,aw⟩:=PL fA
  have af:=dK aA p
  rw[aw]at af
  split at h
  ·cases h
  rename_i t r r0
  have tE:=uz _ _ r0
  subst tE
  split at h
  ·rename_i n ar
   simp only[bH.aR.injEq]at h
   obtain⟨rfl,rfl,rfl⟩:=h
   have:=Vu (w:=w) (ρ:=ρ) (own:=own) (N:=N) (bj t) af ar r ty
   exact ij bx this (nq _ _) (by simp[builtin])
  ·cases h
 ·rename_i x y fA
  obtain⟨p,q,rfl,aw,aN⟩:=FO fA
  have af:=dK aA p
  have a6:=dK aA q
  rw[aw]at af
  rw[aN]at a6
  clear fA aw aN
  obtain⟨ct,a6⟩:=FP bx a6
  replace af:=ct.km af
  refine VJ ct ?_
  replace bx:=ct.rel
  clear ct aA
  generalize kJ own y=cx at*
  generalize rJ own y=sv at*
  split at h
  ·rename_i n jW ae
   split at h
   ·rename_i mS
    have mS:=ast mS
    have tE:=Ll (tys:=tys) (by omega)
    obtain⟨cd,ab⟩:=pR (bj _) jW
    have qK:0<(tb (bT 0 tys.toList 0)).bytes:=by
     have:1<=(tb (bT 0 tys.toList 0)).bytes:=by simpa[Nat.blt]using ae
     omega
    have ny:∀(u:Value) (w':World),(Builtin.append_ #[bT 0 tys.toList 0,bT 0 tys.toList 1] ty #[a.eval p,a.eval q]).run P w= .ok u w'->
     (Builtin.append_ tys ty (#[p,q].map a.eval)).run P w= .ok u w':=by
     intro u w' ak;rw[tE];simpa using ak
    unfold rb at h
    split at h
    ·split at h
     ·rename_i Rl
      simp only[bH.aR.injEq]at h
      obtain⟨rfl,rfl,rfl⟩:=h
      have lH:=af
      obtain⟨a1,DX⟩:=af
      obtain⟨a2,jd⟩:=a6
      obtain⟨e,he⟩:=pR (bj _) Rl
      obtain⟨g,aT⟩:=Ms (bj _) Rl he
      have fD:Src P g.size (bT 0 tys.toList 1) (a.eval q) 0 [] w:=by
       rw[jd]
       cases a2 with
       |none=>exact Src.ofNil w ab 0
       |some a2=>exact Src.ofSlice w ab a2 0 0 [] (by simp) (fun j u h=>by simp at h) (fun u h=>by cases h)
      have ak:=zS (P:=P) (w:=w) (ty:=ty) he aT a1 0 0 (asz _) fD
      rw[<-DX]at ak
      exact ij bx (ny _ _ ak) lH rfl
     ·cases h
    ·rename_i x
     split at h
     ·rename_i aQ
      split at h
      ·rename_i k l
       simp only[bH.aR.injEq]at h
       obtain⟨rfl,rfl,rfl⟩:=h
       obtain⟨u,w',ρ',U,aa,al⟩:=KB (P:=P) (N:=N) (ρ:=ρ) (own:=cx) (w:=w) (ty:=ty) (bj _) bx ab af a6 aQ (.ints k l) (.inl ⟨k,l,rfl,rfl⟩) qK (by have:=ao _ (atr.2 rfl);exact this)
       rw[fu,cf]
       exact ng (ny _ _ U) aa al rfl
      ·rename_i aj l
       simp only[bH.aR.injEq]at h
       obtain⟨rfl,rfl,rfl⟩:=h
       obtain⟨u,w',ρ',U,aa,al⟩:=KB (P:=P) (N:=N) (ρ:=ρ) (own:=cx) (w:=w) (ty:=ty) (bj _) bx ab af a6 aQ (.rows aj l) (.inr ⟨aj,l,rfl,rfl⟩) qK (by have:=ao _ (atr.2 rfl);exact this)
       rw[fu,cf]
       exact ng (ny _ _ U) aa al rfl
      ·cases h
     ·cases h
    ·rename_i id
     split at h
     ·rename_i aQ
      simp only[bH.aR.injEq]at h
      obtain⟨rfl,rfl,rfl⟩:=h
      have gJ:=af
      obtain⟨loc,aq,hu,_⟩:=gJ
      obtain⟨a2,jd⟩:=a6
      obtain⟨tT,_,_⟩:=LO aQ
      obtain⟨e,g,he,aT,ca,_⟩:=q9 (bj _) tT
      have fD:Src P g.size (bT 0 tys.toList 1) (a.eval q) 0 [] w:=by
       rw[jd]
       cases a2 with
       |none=>exact Src.ofNil w ab 0
       |some a2=>exact Src.ofSlice w ab a2 0 0 [] (by simp) (fun j u h=>by simp at h) (fun u h=>by cases h)
      have hle:(ad.at cx id).len<=loc.cap:=by
       have b1:=bx.ob id loc aq
       cases aH:ad.at cx id with
       |ints k l=>
        rw[aH]at b1
        rcases b1 with⟨rfl,_⟩|⟨b,aG,e,_,_,_,aL,_⟩
        ·simp[ad.len]
        ·exact aL
       |rows aj l=>
        rw[aH]at b1
        rcases b1 with⟨rfl,_⟩|⟨b,aG,e,_,_,_,aL,_⟩
        ·simp[ad.len]
        ·exact aL
       |_=>rw[aH]at aQ;cases bV:(tb (bT 0 tys.toList 0)).ty<;>simp[bV,iV]at aQ
      have ak:=zS (P:=P) (w:=w) (ty:=ty) he aT loc.a _ loc.cap hle fD
      rw[<-hu]at ak
      exact ij bx (ny _ _ ak) af rfl
     ·cases h
    ·split at h
     ·split at h
      ·split at h<;>cases h
      ·split at h<;>cases h
      ·cases h
     ·cases h
    ·cases h
   ·cases h
  ·cases h
 ·rename_i k m r fA
  obtain⟨p,ps,rfl,aw,je⟩:=OS fA
  split at h
  ·rename_i I1 hm
   simp only[bH.aR.injEq]at h
   obtain⟨rfl,rfl,rfl⟩:=h
   have af:=dK aA p
   rw[aw]at af
   have:=iE af
   have xX:=EB (P:=P) (w:=w) (ρ:=ρ) (own:=own) (Z:=aI N ρ own) (fun x y=>if y>x then y else x) Builtin.max2 (fun k b3 x y=>rfl) k r (ps.map a.eval) m I1 hm (by rw[<-je,c5];simp)
    (fun i hi=>by
      rw[<-je,c5]at hi⊢
      simp only[asy]at hi
      have:=dK aA ps[i]
      simpa[ass,hi]using this)
   refine ij bx (s:=Builtin.max_ tys ty ((p::ps).toArray.map a.eval)) ?_ (nq _ _) rfl
   simp only[Builtin.max_,auE,asX,this]
   exact xX
  ·cases h
 ·rename_i k m r fA
  obtain⟨p,ps,rfl,aw,je⟩:=OS fA
  split at h
  ·rename_i I1 hm
   simp only[bH.aR.injEq]at h
   obtain⟨rfl,rfl,rfl⟩:=h
   have af:=dK aA p
   rw[aw]at af
   have:=iE af
   have xX:=EB (P:=P) (w:=w) (ρ:=ρ) (own:=own) (Z:=aI N ρ own) (fun x y=>if y<x then y else x) Builtin.min2 (fun k b3 x y=>rfl) k r (ps.map a.eval) m I1 hm (by rw[<-je,c5];simp)
    (fun i hi=>by
      rw[<-je,c5]at hi⊢
      simp only[asy]at hi
      have:=dK aA ps[i]
      simpa[ass,hi]using this)
   refine ij bx (s:=Builtin.min_ tys ty ((p::ps).toArray.map a.eval)) ?_ (nq _ _) rfl
   simp only[Builtin.min_,auE,asX,this]
   exact xX
  ·cases h
 ·rename_i x fA
  obtain⟨p,rfl,aw⟩:=PL fA
  have af:=dK aA p
  rw[aw]at af
  split at h
  rotate_left
  ·cases h
  rename_i t r0
  have tE:=uz _ _ r0
  subst tE
  obtain⟨w',rfl,U,aa⟩:=VK (P:=P) (ty:=ty) (bj t) bx af h
  exact ng (s:=Builtin.clear_ #[t] ty #[a.eval p]) U aa (v:= .any) trivial (by simp[builtin])
 ·cases h
end
end Go.bG
end
