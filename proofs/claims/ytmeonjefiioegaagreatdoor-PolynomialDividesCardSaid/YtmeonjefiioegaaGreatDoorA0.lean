/- Helpers for the statements: conditions under which code does what is wanted, and proofs that they suffice. Condition: none. -/
import Derived.Calls
import Derived.KernelRfl
import Derived.Laws.Sem
import Derived.Below
import Derived.Laws.AppendOwn
import Derived.Laws.CopyRow
import Derived.Laws.Rows
import Derived.Laws.Tables
import Derived.Laws.Cells
import Derived.Scope
import Derived.Laws.Strings
import Derived.Laws.Small
import Derived.Laws.Cover3
import Derived.Laws.IdiomCopy
import Derived.Laws.MakeOwn
import Derived.Laws.BytesString
import Derived.Deep.AppendSrc
import Derived.WideKeyArr
abbrev aoJ:=@Array.getD_eq_getD_getElem?
abbrev aq2:=@Array.getElem?_append_left
abbrev aqo:=@Array.getElem?_eq_getElem
abbrev aqS:=@Array.getElem?_eq_some_iff
abbrev aqE:=@Array.getElem?_modify
abbrev aqy:=@Array.getElem?_setIfInBounds
abbrev aqP:=@Array.getElem?_toList
abbrev apH:=@Array.length_toList
abbrev aqw:=@BitVec.ofInt_natCast
abbrev aqI:=@BitVec.toNat_ofNat
abbrev aoM:=@Bool.and_eq_true
abbrev apU:=@Bool.false_eq_true
abbrev apD:=@Bool.false_ne_true
abbrev apE:=@Bool.not_eq_true'
abbrev ap8:=@Bool.or_eq_true
abbrev aqt:=@Bool.true_and
abbrev aq3:=@Classical.choose_spec
abbrev aps:=@Iff.rfl
abbrev aqW:=@Int.emod_eq_of_lt
abbrev aoI:=@Int.eq_ofNat_of_zero_le
abbrev apk:=@Int.fdiv_eq_ediv_of_nonneg
abbrev ap3:=@Int.le_trans
abbrev aqm:=@Int.natAbs_mul
abbrev aqN:=@Int.natCast_add
abbrev aqu:=@Int.natCast_ediv
abbrev aqH:=@Int.natCast_emod
abbrev apK:=@Int.natCast_mul
abbrev apz:=@Int.natCast_nonneg
abbrev ap_:=@Int.ofNat_lt
abbrev aqX:=@Int.tdiv_eq_ediv_of_nonneg
abbrev aqY:=@Int.tmod_eq_emod_of_nonneg
abbrev aoD:=@Int.toNat_natCast
abbrev aqd:=@List.all_cons
abbrev aoU:=@List.all_eq_true
abbrev aqq:=@List.append_assoc
abbrev aqc:=@List.append_nil
abbrev aqn:=@List.cons.injEq
abbrev ap0:=@List.cons_append
abbrev apZ:=@List.drop_eq_getElem_cons
abbrev aqx:=@List.drop_eq_nil_of_le
abbrev aqp:=@List.eq_nil_of_length_eq_zero
abbrev aqQ:=@List.ext_getElem
abbrev aqT:=@List.filter_append
abbrev aqM:=@List.foldl_cons
abbrev aq1:=@List.getD_cons_zero
abbrev aoC:=@List.getD_eq_getElem?_getD
abbrev ao7:=@List.getElem?_append
abbrev apy:=@List.getElem?_append_left
abbrev apQ:=@List.getElem?_append_right
abbrev ap4:=@List.getElem?_drop
abbrev aoQ:=@List.getElem?_eq_getElem
abbrev api:=@List.getElem?_eq_none
abbrev apt:=@List.getElem?_eq_some_iff
abbrev apv:=@List.getElem?_map
abbrev ap6:=@List.getElem?_replicate
abbrev apo:=@List.getElem?_set
abbrev apu:=@List.getElem?_take
abbrev apJ:=@List.getElem_mem
abbrev aqj:=@List.getElem_of_mem
abbrev ao1:=@List.length_append
abbrev apj:=@List.length_cons
abbrev apP:=@List.length_drop
abbrev apl:=@List.length_eq_zero_iff
abbrev aoK:=@List.length_map
abbrev aoT:=@List.length_set
abbrev apL:=@List.length_singleton
abbrev apf:=@List.length_take
abbrev apn:=@List.map_append
abbrev aqO:=@List.map_congr_left
abbrev ape:=@List.map_cons
abbrev ap5:=@List.map_map
abbrev aqs:=@List.map_set
abbrev aqA:=@List.map_take
abbrev aqD:=@List.map_toArray
abbrev apM:=@List.mem_append
abbrev aoW:=@List.mem_cons
abbrev aqa:=@List.mem_cons_of_mem
abbrev aqz:=@List.mem_cons_self
abbrev apW:=@List.mem_filter
abbrev aoO:=@List.mem_map
abbrev aq4:=@List.mem_map_of_mem
abbrev ap7:=@List.mem_of_getElem?
abbrev aqU:=@List.mem_or_eq_of_mem_set
abbrev apr:=@List.mem_singleton
abbrev aqR:=@List.nodup_cons
abbrev apV:=@List.not_mem_nil
abbrev apT:=@List.pairwise_cons
abbrev aqK:=@List.take_add_one
abbrev ap2:=@List.take_length
abbrev aqB:=@List.take_of_length_le
abbrev apA:=@Nat.add_assoc
abbrev aoX:=@Nat.add_mul
abbrev ao0:=@Nat.add_zero
abbrev apB:=@Nat.beq_refl
abbrev aqe:=@Nat.div_add_mod
abbrev aqf:=@Nat.div_eq_of_lt
abbrev aqZ:=@Nat.div_le_self
abbrev aqr:=@Nat.div_lt_of_lt_mul
abbrev aqF:=@Nat.div_lt_self
abbrev aoE:=@Nat.eq_of_beq_eq_true
abbrev ap9:=@Nat.eq_zero_or_pos
abbrev ao9:=@Nat.le_of_ble_eq_true
abbrev aqh:=@Nat.le_of_lt
abbrev aoH:=@Nat.le_refl
abbrev aoV:=@Nat.le_trans
abbrev apN:=@Nat.lt_of_le_of_lt
abbrev aoZ:=@Nat.lt_of_lt_of_le
abbrev ap1:=@Nat.lt_of_mul_lt_mul_left
abbrev aqg:=@Nat.lt_or_ge
abbrev aqV:=@Nat.min_eq_left
abbrev apw:=@Nat.mod_eq_of_lt
abbrev apm:=@Nat.mod_lt
abbrev aoS:=@Nat.mul_add
abbrev aqC:=@Nat.mul_add_mod
abbrev ao4:=@Nat.mul_assoc
abbrev apa:=@Nat.mul_comm
abbrev apG:=@Nat.mul_le_mul
abbrev ao3:=@Nat.mul_le_mul_left
abbrev aoR:=@Nat.mul_le_mul_right
abbrev apF:=@Nat.mul_left_comm
abbrev aqJ:=@Nat.mul_lt_mul_of_pos_right
abbrev aq0:=@Nat.mul_ne_zero
abbrev ao_:=@Nat.mul_one
abbrev ao6:=@Nat.mul_zero
abbrev apX:=@Nat.one_mul
abbrev aqG:=@Nat.pos_of_ne_zero
abbrev aph:=@Nat.pow_add
abbrev apd:=@Nat.pow_le_pow_right
abbrev ao2:=@Nat.pow_succ
abbrev aqb:=@Nat.pow_zero
abbrev apx:=@Nat.two_pow_pos
abbrev ao8:=@Nat.zero_add
abbrev apR:=@Nat.zero_le
abbrev apY:=@Nat.zero_mul
abbrev apq:=@Ne.symm
abbrev apC:=@Option.getD_some
abbrev aqL:=@Option.isSome_iff_exists
abbrev apI:=@Option.map_some
abbrev aoL:=@Option.some.inj
abbrev aoY:=@Option.some.injEq
abbrev ao5:=@Prod.mk.injEq
abbrev apO:=@Rat.add_assoc
abbrev aql:=@Rat.mul_assoc
abbrev aqk:=@Rat.zero_add
abbrev apg:=@congrArg
abbrev aqv:=@decide_eq_decide
abbrev apS:=@decide_eq_false
abbrev aoF:=@decide_eq_false_iff_not
abbrev aqi:=@decide_eq_true
abbrev aoG:=@decide_eq_true_eq
abbrev apb:=@decide_eq_true_iff
abbrev aoA:=@if_neg
abbrev aoB:=@if_pos
abbrev apc:=@if_true
abbrev aoP:=@of_decide_eq_false
abbrev aoN:=@of_decide_eq_true
section
namespace Go.aj
inductive U:Type where
 |int (k:IntKind) (n:Int)
 |bool (b:Bool)
 |str (l:List Int)
 |af (k:IntKind) (l:List Int)
 |av (an:Nat) (l:List (List U))
 |undef
 deriving Inhabited
def U.dg:U->IntKind->Prop
 | .int k _,cz=>k=cz
 |_,_=>False
def U.toInt:U->Int
 | .int _ n=>n
 |_=>0
def U.isBool:U->Prop
 | .bool _=>True
 |_=>False
def U.toBool:U->Bool
 | .bool b=>b
 |_=>false
def U.isStr:U->Prop
 | .str _=>True
 |_=>False
def U.toStr:U->List Int
 | .str l=>l
 |_=>[]
def U.eQ:U->IntKind->Prop
 | .af k _,cz=>k=cz
 |_,_=>False
def U.bX:U->List Int
 | .af _ l=>l
 |_=>[]
def U.Rp:U->Nat->Prop
 | .av an _,ib=>an=ib
 |_,_=>False
def U.Rq:U->List (List U)
 | .av _ l=>l
 |_=>[]
def U.len:U->Nat
 | .af _ l=>l.length
 | .av _ l=>l.length
 | .str l=>l.length
 |_=>0
def U.cL:U->Nat
 | .av an _=>an
 |_=>1
def U.cell:U->Nat->Nat->U
 | .af k l,i,_=> .int k (l.getD i 0)
 | .av _ l,i,j=>(l.getD i []).getD j .undef
 |_,_,_=> .undef
inductive R:Type where
 |d (x:U)
 |bt
 |bf
 |emp
 |vec (id:Nat)
 |ptr (id off:Nat)
 |optr (id:Nat) (i:Int) (j:Nat)
 |rptr (x:U) (i:Int) (j:Nat)
 |oat (id:Nat) (i:Int) (j:Nat)
 |rat (x:U) (i:Int) (j:Nat)
 |mp (id:Nat)
 |tail (id:Nat) (i:Int)
 |xj
 |fn (f:FuncId)
 |cls (f:FuncId) (anQ:List R)
 |agg (l:List R)
 |tup (l:List R)
 |rw(n:Nat) (r:List U)
 |un
 |any
 deriving Inhabited
inductive ag:Type where
 |cells (l:List R)
 |af (k:IntKind) (l:List Int)
 |av (an:Nat) (l:List (List U))
 |map (tH an:Nat) (l:List (List U))
 |dead (n an:Nat)
 |gone
 deriving Inhabited
abbrev aF:=List (Bool×ag)
def ag.len:ag->Nat
 | .af _ l=>l.length
 | .av _ l=>l.length
 | .cells l=>l.length
 | .map _ _ _=>0
 | .dead n _=>n
 | .gone=>0
def ag.cL:ag->Nat
 | .av an _=>an
 | .map _ an _=>an
 | .dead _ an=>an
 |_=>1
def ag.data:ag->U
 | .af k l=> .af k l
 | .av an l=> .av an l
 |_=> .undef
inductive b6:Type where
 |int (k:IntKind)
 |bool
 |str
 |cv (k:IntKind)
 |ee (an:Nat)
 |other
 deriving Inhabited
inductive bb:Type where
 |aE (s:b6)
 |struct (fields:List (Nat×Nat×bb)) (cells:List b6)
 |arr (n:Nat) (elem:bb) (cells:List b6)
 |no
 deriving Inhabited
structure b4 where
 ty:bb
 elem:TypeId:=0
 bytes:Nat:=0
 f_:List b6:=[]
 lit:Bool:=false
 cut:Bool:=false
 mp:Option (Nat×TypeId×TypeId):=none
 deriving Inhabited
def b6.take:b6->U->R
 | .int k,x=> .d (.int k x.toInt)
 | .bool,x=> .d (.bool x.toBool)
 | .str,x=> .d (.str x.toStr)
 | .cv k,x=> .d (.af k x.bX)
 | .ee an,x=> .d (.av an x.Rq)
 | .other,x=> .d x
def b6.p3:b6->U->Prop
 | .int k,x=>x.dg k
 | .bool,x=>x.isBool
 | .str,x=>x.isStr
 | .cv k,x=>x.eQ k
 | .ee an,x=>x.Rp an
 | .other,_=>True
end Go.aj
end
section
namespace Go.aj
def b8 {α:Type}(d:α):List α->Nat->α
 |[],_=>d
 |x::_,0=>x
 |_::r,n+1=>b8 d r n
def c0 {α:Type}:List α->Nat->α->List α
 |[],_,_=>[]
 |_::r,0,v=>v::r
 |x::r,n+1,v=>x::c0 r n v
def bz {α β:Type}(f:α->β):List α->List β
 |[]=>[]
 |x::r=>f x::bz f r
def eS {α:Type}:List α->List α->List α
 |[],y=>y
 |x::r,y=>x::eS r y
def bV {α:Type}:List α->Nat
 |[]=>0
 |_::r=>Nat.succ (bV r)
def kM {α:Type}:List α->Nat->List α
 |l,0=>l
 |[],_+1=>[]
 |_::r,n+1=>kM r n
def kN {α:Type}:List α->Nat->List α
 |_,0=>[]
 |[],_+1=>[]
 |x::r,n+1=>x::kN r n
def uT {α:Type}(v:α):Nat->List α
 |0=>[]
 |n+1=>v::uT v n
def ef {α:Type}(f:α->Bool):List α->Bool
 |[]=>true
 |x::r=>match f x with|true=>ef f r|false=>false
def omap {α β:Type}(f:α->β):Option α->Option β
 |none=>none
 |some x=>some (f x)
def pad:Nat->List R->List R
 |0,l=>l
 |n+1,[]=> .un::pad n []
 |n+1,v::r=>v::pad n r
def fz {α:Type}(j:Nat):List (Nat×α)->Option α
 |[]=>none
 |(i,x)::r=>match Nat.beq i j with|true=>some x|false=>fz j r
def o9:Value->R
 | .int k n=> .d (.int k n)
 | .bool true=> .bt
 | .bool false=> .bf
 | .string s=> .d (.str (bz (fun b=>Int.ofNat b.toNat) s.data.toList))
 | .slice none 0 0=> .emp
 | .pointer none=> .xj
 |_=> .any
def tI:Value->R
 | .agg cs=> .agg (bz o9 cs.toList)
 |v=>o9 v
def a_ (tm:List R):Operand->R
 | .tmp t=>b8 .un tm t
 | .const v=>tI v
 | .global _=> .any
 | .func f=> .fn f
def put (tm:List R):Option Tmp->R->List R
 |some d,v=>c0 tm d v
 |none,_=>tm
def ag.at (I:aF)(id:Nat):ag:=(b8 (true, .gone) I id).2
def cw (I:aF)(id:Nat):Bool:=(b8 (true, .gone) I id).1
def R.hR (I:aF):R->U
 | .d x=>x
 | .bt=> .bool true
 | .bf=> .bool false
 | .vec id=>(ag.at I id).data
 |_=> .undef
def b6.norm (I:aF):b6->R->R
 | .cv k, .emp=> .d (.af k [])
 | .cv _, .vec id=> .d (ag.at I id).data
 | .ee an, .emp=> .d (.av an [])
 | .ee _, .vec id=> .d (ag.at I id).data
 | .bool, .bt=> .d (.bool true)
 | .bool, .bf=> .d (.bool false)
 |_,v=>v
def iF (I:aF):List b6->List R->List R
 |s::dL,v::aI=>s.norm I v::iF I dL aI
 |_,aI=>aI
def bb.norm (I:aF):bb->R->R
 | .aE s,v=>s.norm I v
 | .struct _ cs, .agg aI=> .agg (iF I cs aI)
 | .arr _ _ cs, .agg aI=> .agg (iF I cs aI)
 |_,v=>v
def e7 (I:aF)(id:Nat):aF:=c0 I id (true,ag.at I id)
def lr (I:aF):R->aF
 | .vec id=>e7 I id
 |_=>I
def ur (I:aF):List R->aF
 |[]=>I
 |v::aI=>ur (lr I v) aI
def freeze (I:aF):R->aF
 | .vec id=>e7 I id
 | .agg l=>ur I l
 |_=>I
def cD (I:aF):List R->aF
 |[]=>I
 |v::aI=>cD (freeze I v) aI
def fI (id:Nat):R->R
 | .vec i=>match Nat.beq i id with|true=> .any|false=> .vec i
 | .optr i x y=>match Nat.beq i id with|true=> .any|false=> .optr i x y
 | .ptr i x=>match Nat.beq i id with|true=> .any|false=> .ptr i x
 | .oat i x y=>match Nat.beq i id with|true=> .any|false=> .oat i x y
 | .mp i=>match Nat.beq i id with|true=> .any|false=> .mp i
 | .tail i x=>match Nat.beq i id with|true=> .any|false=> .tail i x
 |v=>v
def ep (id:Nat):R->R
 | .agg l=> .agg (bz (fI id) l)
 | .tup _=> .any
 |v=>fI id v
def ag.kill (id:Nat):ag->ag
 | .cells l=> .cells (bz (fI id) l)
 |o=>o
def gH (id:Nat)(I:aF):aF:=bz (fun p=>(p.1,p.2.kill id)) I
inductive bT:Type where
 |bad
 |a6 (ch:List Prop) (v:R) (I:aF)
 |grow (ch:List Prop) (v:R) (I:aF) (id:Nat)
 |fJ (p:Bool->Prop)
 |call (f:FuncId) (args:List R) (tys:List TypeId)
def gO:List Prop->Prop->Prop
 |[],q=>q
 |p::ps,q=>p/\gO ps q
def cP (op:BinOp)(k:IntKind)(a b:Int):Int:=
 let x:=BitVec.ofInt k.bits a
 let y:=BitVec.ofInt k.bits b
 match op with
 | .and=>k.wrap (x&&&y).toNat
 | .or=>k.wrap (x|||y).toNat
 | .xor=>k.wrap (x^^^y).toNat
 |_=>k.wrap (x&&&~~~y).toNat
def isNeg:Int->Bool
 | .ofNat _=>false
 | .negSucc _=>true
def CB (o:Operand)(b:Int):List Prop:=
 match o with
 | .const (.int _ n)=>match isNeg n with|true=>[False]|false=>[]
 |_=>[0<=b]
def DQ (o:Operand)(b:Int):List Prop:=
 match o with
 | .const (.int _ (.ofNat (_+1)))=>[]
 |_=>[b≠0]
def n9 (op:BinOp)(dC:Operand)(k:IntKind)(a b:Int)(I:aF):bT:=
 match op with
 | .add=> .a6 [] (.d (.int k (k.wrap (a+b)))) I
 | .sub=> .a6 [] (.d (.int k (k.wrap (a-b)))) I
 | .mul=> .a6 [] (.d (.int k (k.wrap (a*b)))) I
 | .quo=> .a6 (DQ dC b) (.d (.int k (k.wrap (a.tdiv b)))) I
 | .rem=> .a6 (DQ dC b) (.d (.int k (a.tmod b))) I
 | .and=> .a6 [] (.d (.int k (cP .and k a b))) I
 | .or=> .a6 [] (.d (.int k (cP .or k a b))) I
 | .xor=> .a6 [] (.d (.int k (cP .xor k a b))) I
 | .andNot=> .a6 [] (.d (.int k (cP .andNot k a b))) I
 | .eql=> .a6 [] (.d (.bool (decide (a=b)))) I
 | .neq=> .a6 [] (.d (.bool (!decide (a=b)))) I
 | .lss=> .a6 [] (.d (.bool (decide (a<b)))) I
 | .leq=> .a6 [] (.d (.bool (decide (a<=b)))) I
 | .gtr=> .a6 [] (.d (.bool (decide (b<a)))) I
 | .geq=> .a6 [] (.d (.bool (decide (b<=a)))) I
 |_=> .bad
def jy:IntKind->IntKind->Bool
 | .i8, .i8| .i16, .i16| .i32, .i32| .i64, .i64| .u8, .u8| .u16, .u16| .u32, .u32| .u64, .u64=>true
 |_,_=>false
def wO:List Int->List Int->Bool
 |_,[]=>false
 |[],_::_=>true
 |a::x,b::y=>decide (a<b)||(decide (a=b)&&wO x y)
def Rr (a b:Bool):Bool:=a==b
def hg:bb->U->Bool
 | .aE (.cv k), .af cz _=>jy k cz
 | .aE (.ee an), .av ib _=>Nat.beq an ib
 |_,_=>false
def jz:bb->ag->Bool
 | .aE (.cv k), .af cz _=>jy k cz
 | .aE (.ee an), .av ib _=>Nat.beq an ib
 |_,_=>false
def iB:bb->Bool
 | .aE (.cv _)=>true
 | .aE (.ee _)=>true
 |_=>false
def jw (op:BinOp)(t:bb)(a b:Bool)(I:aF):bT:=
 match op,t with
 | .eql, .aE .bool=> .a6 [] (.d (.bool (Rr a b))) I
 | .neq, .aE .bool=> .a6 [] (.d (.bool (!Rr a b))) I
 |_,_=> .bad
def oR (op:BinOp)(t:bb)(dC:Operand)(x y:R)(I:aF):bT:=
 match x,y with
 | .d (.int k a), .d (.int cz b)=>
  match op with
  | .shl=> .a6 (CB dC b) (.d (.int k (k.wrap (a*2^min b.toNat k.bits)))) I
  | .shr=> .a6 (CB dC b) (.d (.int k (a.fdiv (2^min b.toNat k.bits)))) I
  |_=>match jy k cz with|true=>n9 op dC k a b I|false=> .bad
 | .d (.str a), .d (.str b)=>
  match op with
  | .add=> .a6 [(a.length:Int)+b.length<=9223372036854775807] (.d (.str (a++b))) I
  | .eql=> .a6 [] (.d (.bool (decide (a=b)))) I
  | .neq=> .a6 [] (.d (.bool (!decide (a=b)))) I
  | .lss=> .a6 [] (.d (.bool (wO a b))) I
  |_=> .bad
 | .d (.af _ l), .emp=>
  match op,iB t,dC with
  | .eql,true, .const _=> .fJ fun b=>b=true->l=[]
  | .neq,true, .const _=> .fJ fun b=>b=false->l=[]
  |_,_,_=> .bad
 | .d (.av _ l), .emp=>
  match op,iB t,dC with
  | .eql,true, .const _=> .fJ fun b=>b=true->l=[]
  | .neq,true, .const _=> .fJ fun b=>b=false->l=[]
  |_,_,_=> .bad
 | .d (.bool a), .d (.bool b)=>jw op t a b I
 | .d (.bool a), .bt=>jw op t a true I
 | .d (.bool a), .bf=>jw op t a false I
 | .bt, .d (.bool a)=>jw op t true a I
 | .bf, .d (.bool a)=>jw op t false a I
 | .bt, .bt=>jw op t true true I
 | .bt, .bf=>jw op t true false I
 | .bf, .bt=>jw op t false true I
 | .bf, .bf=>jw op t false false I
 |_,_=> .bad
def w9 (op:UnOp)(x:R)(I:aF):bT:=
 match op,x with
 | .neg, .d (.int k n)=> .a6 [] (.d (.int k (k.wrap (0-n)))) I
 | .xor, .d (.int k n)=> .a6 [] (.d (.int k (cP .xor k (if k.signed then-1 else k.max) n))) I
 | .not, .d (.bool b)=> .a6 [] (.d (.bool (!b))) I
 | .not, .bt=> .a6 [] .bf I
 | .not, .bf=> .a6 [] .bt I
 |_,_=> .bad
def wP (c x y:R)(I:aF):bT:=
 match c with
 | .bt=> .a6 [] x I
 | .bf=> .a6 [] y I
 | .d (.bool b)=>
  match x,y with
  | .d (.bool p), .d (.bool q)=> .a6 [] (.d (.bool (if b then p else q))) I
  | .bt, .d (.bool q)=> .a6 [] (.d (.bool (if b then true else q))) I
  | .d (.bool p), .bf=> .a6 [] (.d (.bool (if b then p else false))) I
  | .bt, .bf=> .a6 [] (.d (.bool b)) I
  | .d (.int k p), .d (.int cz q)=>match jy k cz with|true=> .a6 [] (.d (.int k (if b then p else q))) I|false=> .bad
  |_,_=> .bad
 |_=> .bad
def n3 (src dst:bb)(x:R)(I:aF):bT:=
 match dst,x with
 | .aE (.int k), .d (.int _ n)=>(match src with| .aE (.int _)=> .a6 [] (.d (.int k (k.wrap n))) I|_=> .bad)
 | .aE .str, .d (.str l)=>(match src with| .aE .str=> .a6 [] (.d (.str l)) I|_=> .bad)
 | .aE .str, .d (.af .u8 l)=>(match src with| .aE (.cv .u8)=> .a6 [∀x∈l,0<=x/\x<256] (.d (.str l)) I|_=> .bad)
 | .aE .str, .vec id=>
  match ag.at I id,src with
  | .af .u8 l, .aE (.cv .u8)=> .a6 [∀x∈l,0<=x/\x<256] (.d (.str l)) I
  |_,_=> .bad
 | .aE .str, .emp=>(match src with| .aE (.cv .u8)=> .a6 [] (.d (.str [])) I|_=> .bad)
 |_,_=> .bad
def rk (cs:List b6)(x:U)(i j:Nat):List Prop×List R:=
 match cs with
 |[]=>([],[])
 |s::dL=>(s.p3 (x.cell i j)::(rk dL x i (Nat.succ j)).1,s.take (x.cell i j)::(rk dL x i (Nat.succ j)).2)
def bb.size:bb->Nat
 | .aE _=>1
 | .struct _ cs| .arr _ _ cs=>bV cs
 | .no=>0
def bb.HO:bb->Bool
 | .arr ..=>true
 |_=>false
def bb.ja:bb->Bool
 | .arr ..=>true
 | .struct _ cs=>Nat.blt 8 (bV cs)
 |_=>false
def bb.cells:bb->List b6
 | .struct _ cs=>cs
 | .arr _ _ cs=>cs
 |_=>[]
def lu (r:List U)(j n an:Nat):List U:=
 match Nat.beq j 0 with
 |true=>(match Nat.beq n an with|true=>r|false=>r.take n)
 |false=>(r.drop j).take n
def zb (r:List U)(j n an:Nat)(v:List U):List U:=
 match Nat.beq j 0 with
 |true=>(match Nat.beq n an with|true=>v|false=>v++r.drop n)
 |false=>r.take j++(v++r.drop (Nat.add j n))
def loadData (t:bb)(x:U)(i:Int)(j:Nat)(I:aF):bT:=
 match x with
 | .af k l=>
  (match t,Nat.beq j 0 with
  | .aE (.int cz),true=>match jy k cz with|true=> .a6 [] (.d (.int k (l.getD i.toNat 0))) I|false=> .bad
  |_,_=> .bad)
 | .av an l=>
  (match Nat.ble (Nat.add j t.size) an with
  |true=>
   (match t with
   | .aE s=> .a6 [s.p3 (U.cell (.av an l) i.toNat j)] (s.take (U.cell (.av an l) i.toNat j)) I
   | .struct _ cs=>
    (match Nat.blt 8 (bV cs)with
    |true=> .a6 [(l.getD i.toNat []).length=an] (.rw (bV cs) (lu (l.getD i.toNat []) j (bV cs) an)) I
    |false=> .a6 (rk cs (.av an l) i.toNat j).1 (.agg (rk cs (.av an l) i.toNat j).2) I)
   | .arr _ _ cs=> .a6 [(l.getD i.toNat []).length=an] (.rw (bV cs) (lu (l.getD i.toNat []) j (bV cs) an)) I
   | .no=> .bad)
  |false=> .bad)
 |_=> .bad
def loadAt (t:bb)(x:U)(i:Int)(j:Nat)(I:aF):bT:=
 match x,t with
 | .av _ l, .aE s=> .a6 [s.p3 ((l.getD i.toNat []).getD j .undef)] (s.take ((l.getD i.toNat []).getD j .undef)) I
 |_,_=> .bad
def oY:R->R
 | .agg _=> .any
 | .tup _=> .any
 |v=>v
def h7 (t:bb)(p:R)(I:aF):bT:=
 match p with
 | .ptr id off=>
  match ag.at I id with
  | .cells l=>
   (match t,Nat.ble (Nat.add off t.size) (bV l)with
   | .aE _,true=> .a6 [] (oY (b8 .un l off)) I
   | .struct _ cs,true=> .a6 [] (.agg (kN (kM l off) (bV cs))) I
   | .arr _ _ cs,true=> .a6 [] (.agg (kN (kM l off) (bV cs))) I
   |_,_=> .bad)
  |_=> .bad
 | .optr id i j=>loadData t (ag.at I id).data i j I
 | .rptr x i j=>loadData t x i j I
 | .oat id i j=>loadAt t (ag.at I id).data i j I
 | .rat x i j=>loadAt t x i j I
 |_=> .bad
def setCells (l:List R)(off:Nat):List R->List R
 |[]=>l
 |v::aI=>setCells (c0 l off v) (Nat.succ off) aI
def setRow (r:List U)(j:Nat):List U->List U
 |[]=>r
 |v::aI=>setRow (r.set j v) (j+1) aI
def R.cellsOf:R->List R
 | .agg l=>l
 |v=>[v]
def R.nW:R->Bool
 | .any=>false
 | .un=>false
 | .rw _ _=>false
 | .oat ..=>false
 | .rat ..=>false
 | .mp _=>false
 | .tail ..=>false
 | .tup _=>false
 | .agg _=>false
 |_=>true
def R.fits:bb->R->Bool
 | .aE _,v=>v.nW
 | .struct _ cs, .agg l=>match Nat.beq (bV l) (bV cs)with|true=>ef R.nW l|false=>false
 | .arr _ _ cs, .agg l=>match Nat.beq (bV l) (bV cs)with|true=>ef R.nW l|false=>false
 |_,_=>false
def R.hj:R->Bool
 | .d _=>true
 | .bt=>true
 | .bf=>true
 | .emp=>true
 |_=>false
def mZ:List b6->List U->Nat->List Prop×List R
 |[],_,_=>([],[])
 |s::dL,r,j=>(s.p3 (r.getD j .undef)::(mZ dL r (Nat.succ j)).1,s.take (r.getD j .undef)::(mZ dL r (Nat.succ j)).2)
def mn (I:aF)(cs:List b6)(v:R):List U:=bz (R.hR I) (iF I cs v.cellsOf)
def oS (I:aF)(t:bb)(v:R):Option (List U):=
 match v with
 | .rw n r=>(match Nat.beq n t.size with|true=>some r|false=>none)
 | .agg l=>(match t.ja,Nat.beq (bV l) (bV t.cells),ef R.hj l with|true,true,true=>some (mn I t.cells (.agg l))|_,_,_=>none)
 |_=>none
def Qu (r:List U)(j n an:Nat):List Prop:=match Nat.beq j 0,Nat.beq n an with|true,true=>[]|_,_=>[r.length=an]
def qX (t:bb)(p:R)(r:List U)(I:aF):bT:=
 match t.ja,p with
 |true, .optr id i j=>
  (match cw I id,ag.at I id with
  |false, .av an l=>
   (match Nat.ble (Nat.add j t.size) an with
   |true=> .a6 (Qu (l.getD i.toNat []) j t.size an) .un (c0 I id (false, .av an (l.set i.toNat (zb (l.getD i.toNat []) j t.size an r))))
   |false=> .bad)
  |_,_=> .bad)
 |_,_=> .bad
def qQ (t:bb)(id:Nat)(i:Int)(j:Nat)(v:R)(I:aF):bT:=
 match t with
 | .aE s=>
  (match cw I id,ag.at I id,v.hj with
  |false, .av an l,true=> .a6 [] .un (c0 I id (false, .av an (l.set i.toNat ((l.getD i.toNat []).set j (R.hR I (s.norm I v))))))
  |_,_,_=> .bad)
 |_=> .bad
def ug (t:bb)(p v:R)(I:aF):bT:=
 match p with
 | .ptr id off=>
  match cw I id,ag.at I id,v.fits t with
  |false, .cells l,true=>match Nat.ble (Nat.add off t.size) (bV l)with|true=> .a6 [] .un (c0 I id (false, .cells (setCells l off v.cellsOf)))|false=> .bad
  |_,_,_=> .bad
 | .optr id i j=>
  match cw I id,ag.at I id,v.fits t with
  |false, .af k l,true=>
   (match v with
   | .d (.int cz n)=>match jy k cz,Nat.beq j 0 with|true,true=> .a6 [] .un (c0 I id (false, .af k (l.set i.toNat n)))|_,_=> .bad
   |_=> .bad)
  |false, .av an l,true=>
   match Nat.ble (Nat.add j t.size) an,ef R.hj v.cellsOf with
   |true,true=> .a6 [] .un (c0 I id (false, .av an (l.set i.toNat (setRow (l.getD i.toNat []) j (bz (R.hR I) (t.norm I v).cellsOf)))))
   |_,_=> .bad
  |_,_,_=> .bad
 |_=> .bad
def pN (t:bb)(p v:R)(I:aF):bT:=
 match oS I t v with
 |some r=>qX t p r I
 |none=>(match p with| .oat id i j=>qQ t id i j v I|_=>ug t p v I)
def b6.zero:b6->R
 | .int k=> .d (.int k 0)
 | .bool=> .d (.bool false)
 | .str=> .d (.str [])
 | .cv _=> .emp
 | .ee _=> .emp
 | .other=> .any
def b6.ga:b6->U
 | .int k=> .int k 0
 | .bool=> .bool false
 | .str=> .str []
 | .cv k=> .af k []
 | .ee an=> .av an []
 | .other=> .undef
def bb.zero:bb->List R
 | .aE s=>[s.zero]
 | .struct _ cs| .arr _ _ cs=>bz b6.zero cs
 | .no=>[]
def wm (bN:List (Nat×R))(place:Nat->Nat)(cells:List R):List R:=
 match bN with
 |[]=>cells
 |(i,v)::r=>wm r place (setCells cells (place i) v.cellsOf)
def fG (t:bb)(f:Nat):Nat:=
 match t with
 | .struct bW _=>(b8 (0,0, .no) bW f).1
 | .arr _ e _=>Nat.mul f e.size
 |_=>0
def kE (t:bb)(f:Nat):bb:=
 match t with
 | .struct bW _=>(b8 (0,0, .no) bW f).2.2
 |_=> .no
def placeOf (j:Nat)(n:Int):Nat:=match Nat.beq j 0 with|true=>n.toNat|false=>j+n.toNat
def oZ (t:bb)(x:R)(n:Int)(I:aF):bT:=
 match t with
 | .arr m (.aE _) _=>
  (match x with
  | .optr id a j=>
   (match ag.at I id with
   | .av an _=>(match Nat.ble (Nat.add j m) an with|true=> .a6 [0<=n,n<(m:Int)] (.oat id a (placeOf j n)) I|false=> .bad)
   |_=> .bad)
  | .rptr (.av an l) a j=>(match Nat.ble (Nat.add j m) an with|true=> .a6 [0<=n,n<(m:Int)] (.rat (.av an l) a (placeOf j n)) I|false=> .bad)
  |_=> .bad)
 |_=> .bad
def qM (t:bb)(x i:R)(I:aF):bT:=
 match i with
 | .d (.int _ n)=>
  match x with
  | .d a=>match hg t a with|true=> .a6 [0<=n,n<(a.len:Int)] (.rptr a n 0) I|false=> .bad
  | .vec id=>match jz t (ag.at I id)with|true=> .a6 [0<=n,n<((ag.at I id).len:Int)] (.optr id n 0) I|false=> .bad
  | .emp=> .a6 [False] .any I
  |x=>oZ t x n I
 |_=> .bad
def yJ (t:bb)(x i:R)(I:aF):bT:=
 match i with
 | .d (.int _ n)=>
  match t,x with
  | .aE .str, .d (.str l)=> .a6 [0<=n,n<(l.length:Int)] (.d (.int .u8 (l.getD n.toNat 0))) I
  | .arr m (.aE s) _, .rw z r=>(match Nat.beq z m with|true=> .a6 [0<=n,n<(m:Int),s.p3 (r.getD n.toNat .undef)] (s.take (r.getD n.toNat .undef)) I|false=> .bad)
  |_,_=> .bad
 |_=> .bad
def uI (t:bb)(x:R)(I:aF):Option Nat:=
 match x with
 | .d (.str l)=>(match t with| .aE .str=>some l.length|_=>none)
 | .d (.af _ l)=>match iB t with|true=>some l.length|false=>none
 | .d (.av _ l)=>match iB t with|true=>some l.length|false=>none
 | .vec id=>match iB t with|true=>some (ag.at I id).len|false=>none
 | .emp=>match iB t with|true=>some 0|false=>none
 |_=>none
def madeOf (t:b4)(n:Nat):ag:=
 match t.ty with
 | .aE (.cv k)=> .af k (List.replicate n 0)
 | .aE (.ee an)=> .av an (List.replicate n (bz b6.ga t.f_))
 |_=> .gone
def wQ (t:b4)(len cap:R)(I:aF):bT:=
 match len,cap with
 | .d (.int .i64 n), .d (.int .i64 c)=>
  match Nat.blt 0 t.bytes,iB t.ty with
  |true,true=> .a6 [0<=n,n<=c,c*t.bytes<=281474976710656] (.vec (bV I)) (eS I [(false,madeOf t n.toNat)])
  |_,_=> .bad
 |_,_=> .bad
def mf:Option R->Option (Option Int)
 |none=>some none
 |some (.d (.int _ n))=>some (some n)
 |_=>none
def kg {α:Type}(l:List α)(lo hi:Option Int):List α:=
 match lo,hi with
 |none,none=>l
 |some a,none=>l.drop a.toNat
 |none,some b=>l.take b.toNat
 |some a,some b=>(l.take b.toNat).drop a.toNat
def mo (n:Nat)(lo hi:Option Int):List Prop:=
 match lo,hi with
 |none,none=>[]
 |some a,none=>[0<=a,a<=(n:Int)]
 |none,some b=>[0<=b,b<=(n:Int)]
 |some a,some b=>[0<=a,a<=b,b<=(n:Int)]
def kD (t:bb)(x:R)(lo hi dr:Option R)(I:aF):bT:=
 match dr with
 |none=>
  match mf lo,mf hi with
  |some a,some b=>
   (match x with
   | .d (.af k l)=>match hg t (.af k l)with|true=> .a6 (mo l.length a b) (.d (.af k (kg l a b))) I|false=> .bad
   | .d (.av an l)=>match hg t (.av an l)with|true=> .a6 (mo l.length a b) (.d (.av an (kg l a b))) I|false=> .bad
   | .d (.str l)=>(match t with| .aE .str=> .a6 (mo l.length a b) (.d (.str (kg l a b))) I|_=> .bad)
   | .vec id=>
    (match ag.at I id with
    | .af k l=>match hg t (.af k l)with|true=> .a6 (mo l.length a b) (.d (.af k (kg l a b))) (e7 I id)|false=> .bad
    | .av an l=>match hg t (.av an l)with|true=> .a6 (mo l.length a b) (.d (.av an (kg l a b))) (e7 I id)|false=> .bad
    |_=> .bad)
   | .emp=>match iB t with|true=> .a6 (mo 0 a b) .emp I|false=> .bad
   |_=> .bad)
  |_,_=> .bad
 |some (.d (.int _ (.ofNat 0)))=>
  match mf lo,mf hi,x with
  |some none,some (some (.ofNat 0)), .d a=>match hg t a with|true=> .a6 [] .emp I|false=> .bad
  |some (some (.ofNat 0)),some (some (.ofNat 0)), .d a=>match hg t a with|true=> .a6 [] .emp I|false=> .bad
  |_,_,_=> .bad
 |_=> .bad
def pO (t:bb)(x:R)(lo hi dr:Option R)(I:aF):bT:=
 match t,x,dr with
 | .arr m (.aE (.int k)) _, .optr id i j,none=>
  (match ag.at I id,mf lo,mf hi with
  | .av an l,some a,some b=>
   (match Nat.ble (Nat.add j m) an with
   |true=> .a6 (((l.getD i.toNat []).length=an)::(∀x∈lu (l.getD i.toNat []) j m an,x.dg k)::mo m a b) (.d (.af k (kg ((lu (l.getD i.toNat []) j m an).map U.toInt) a b))) (e7 I id)
   |false=> .bad)
  |_,_,_=> .bad)
 |_,_,_=> .bad
def sn (t:bb)(x:R)(lo hi dr:Option R)(I:aF):bT:=match t.HO with|true=>pO t x lo hi dr I|false=>kD t x lo hi dr I
def B3 (t:b4)(x:R)(lo hi dr:Option R)(I:aF):bT:=
 match x,dr with
 | .vec id,none=>
  (match cw I id,ag.at I id,jz t.ty (ag.at I id),mf lo,mf hi with
  |false, .av an l,true,some none,some (some b)=> .a6 [0<=b,b<=(l.length:Int)] (.vec (bV I)) (eS (c0 I id (true, .dead l.length an)) [(false, .av an (l.take b.toNat))])
  |false, .av _ l,true,some (some a),some none=> .a6 [0<=a,a<(l.length:Int)] (.tail id a) I
  |_,_,_,_,_=> .bad)
 |_,_=> .bad
def uu (t:b4)(x:R)(lo hi dr:Option R)(I:aF):bT:=match t.cut with|true=>B3 t x lo hi dr I|false=>sn t.ty x lo hi dr I
def wD (t:b4)(x:R)(I:aF):bT:=
 match x with
 | .tail id a=>
  (match cw I id,ag.at I id,jz t.ty (ag.at I id)with
  |false, .av an l,true=> .a6 [] .any (c0 I id (false, .av an (l.take a.toNat++List.replicate (l.length-a.toNat) (bz b6.ga t.f_))))
  |_,_,_=> .bad)
 |_=> .bad
def sk (t:b4)(x y:R)(I:aF):bT:=
 match x,y with
 | .emp, .emp=>match iB t.ty with|true=> .a6 [] .emp I|false=> .bad
 | .emp, .d a=>
  match hg t.ty a with
  |true=>(match a with
   | .af k l=> .a6 [(l.length:Int)*t.bytes<=70368744177664] (.vec (bV I)) (eS I [(false, .af k l)])
   | .av an l=> .a6 [(l.length:Int)*t.bytes<=70368744177664] (.vec (bV I)) (eS I [(false, .av an l)])
   |_=> .bad)
  |false=> .bad
 | .vec id, .emp=>match jz t.ty (ag.at I id)with|true=> .a6 [] (.vec id) I|false=> .bad
 | .vec id, .d a=>
  match hg t.ty a,cw I id with
  |true,false=>(match a,ag.at I id with
   | .af k l, .af cz m=>(match jy k cz with
    |true=> .grow [((m.length:Int)+l.length)*t.bytes<=70368744177664] (.vec id) (c0 I id (false, .af k (m++l))) id
    |false=> .bad)
   | .av an l, .av ib m=>(match Nat.beq an ib with
    |true=> .grow [((m.length:Int)+l.length)*t.bytes<=70368744177664] (.vec id) (c0 I id (false, .av an (m++l))) id
    |false=> .bad)
   |_,_=> .bad)
  |_,_=> .bad
 |_,_=> .bad
def sR (I:aF):R->R
 | .vec id=>(match ag.at I id with| .af k l=> .d (.af k l)| .av an l=> .d (.av an l)|_=> .any)
 |v=>v
def sy (f:Int->Int->Int):Int->List R->Option Int
 |a,[]=>some a
 |a, .d (.int _ b)::r=>sy f (f a b) r
 |_,_=>none
def sz (t:bb)(f:Nat):Bool:=
 match t with
 | .struct bW _=>Nat.blt f (bV bW)
 |_=>false
def kB (tb:TypeId->b4)(b:Builtin)(tys:List TypeId)(args:List R)(I:aF):bT:=
 match b,args with
 | .len,[x]=>
  match tys with
  |[]=> .bad
  |t::_=>
   match uI (tb t).ty x I with
   |some n=> .a6 [] (.d (.int .i64 n)) I
   |none=> .bad
 | .append,[x,y]=>match iB (tb (b8 0 tys 1)).ty,Nat.blt 0 (tb (b8 0 tys 0)).bytes,bV tys with|true,true,n=>(match Nat.beq n 2 with|true=>sk (tb (b8 0 tys 0)) x (sR I y) (lr I y)|false=> .bad)|_,_,_=> .bad
 | .max, .d (.int k a)::r=>
  match sy (fun x y=>if y>x then y else x) a r with
  |some m=> .a6 [] (.d (.int k m)) I
  |none=> .bad
 | .min, .d (.int k a)::r=>
  match sy (fun x y=>if y<x then y else x) a r with
  |some m=> .a6 [] (.d (.int k m)) I
  |none=> .bad
 | .clear,[x]=>(match tys with|[t]=>wD (tb t) x I|_=> .bad)
 |_,_=> .bad
def bb.acX:bb->Bool
 | .struct ..=>true
 | .arr ..=>true
 |_=>false
def wR (t:bb):List (Nat×R)->Bool
 |[]=>true
 |(i,v)::r=>
  match t with
  | .struct bW cs=>(match Nat.blt i (bV bW),Nat.ble (Nat.add (fG t i) (kE t i).size) (bV cs),v.fits (kE t i)with|true,true,true=>wR t r|_,_,_=>false)
  | .arr n e cs=>(match Nat.blt i n,Nat.ble (Nat.add (fG t i) e.size) (bV cs),v.fits e with|true,true,true=>wR t r|_,_,_=>false)
  |_=>false
def oP (k:IntKind):Nat->List (Nat×R)->Option (List Int):=fun n bN=>go 0 n bN
  where
 go:Nat->Nat->List (Nat×R)->Option (List Int)
 |_,0,[]=>some []
 |i,n+1,(j, .d (.int cz x))::r=>
  match Nat.beq i j,jy k cz with
  |true,true=>(match go (Nat.succ i) n r with|some l=>some (x::l)|none=>none)
  |_,_=>none
 |_,_,_=>none
def hP (I:aF)(an:Nat)(cs:List b6):Nat->List (Nat×R)->Option (List (List U)):=fun n bN=>go 0 n bN
  where
 go:Nat->Nat->List (Nat×R)->Option (List (List U))
 |_,0,[]=>some []
 |i,n+1,(j, .rw m x)::r=>
  match Nat.beq i j,Nat.beq m an with
  |true,true=>(match go (Nat.succ i) n r with|some l=>some (x::l)|none=>none)
  |_,_=>none
 |i,n+1,(j,v)::r=>
  match Nat.beq i j,Nat.beq (bV v.cellsOf) an,ef R.hj v.cellsOf with
  |true,true,true=>(match go (Nat.succ i) n r with|some l=>some (mn I cs v::l)|none=>none)
  |_,_,_=>none
 |_,_,_=>none
def sG (b:Bool)(ob:ag)(I:aF):bT:=
 match b with
 |true=> .a6 [] (.d ob.data) I
 |false=> .a6 [] (.vec (bV I)) (eS I [(false,ob)])
def w_:R->Value
 | .d (.int k n)=> .int k n
 | .d (.bool b)=> .bool b
 | .bt=> .bool true
 | .bf=> .bool false
 |_=>undef
def uU:R->Value
 | .agg l=> .agg (bz w_ l).toArray
 |v=>w_ v
def xk:R->Bool
 | .d (.int _ _)=>true
 | .d (.bool _)=>true
 | .bt=>true
 | .bf=>true
 |_=>false
def xw:R->Bool
 | .agg l=>ef xk l
 |v=>xk v
def y0 (fn:Fn)(first cap:List R)(I:aF):bT:=
 match fn,cap with
 | .func f,[]=>
  (match first with
  |[]=> .a6 [] (.fn f) I
  |l=>match ef xw l with|true=> .a6 [] (.cls f l) I|false=> .bad)
 |_,_=> .bad
def sA (v:R)(args:List R)(tys:List TypeId):bT:=
 match v with
 | .fn f=> .call f args tys
 | .cls f l=> .call f (eS l args) tys
 |_=> .bad
def uh (t:bb)(I:aF):bT:=
 match t.ja with
 |true=>(match Nat.blt 0 t.size with|true=> .a6 [] (.optr (bV I) 0 0) (eS I [(false, .av t.size [bz b6.ga t.cells])])|false=> .bad)
 |false=>(match t with| .no=> .bad|ty=> .a6 [] (.ptr (bV I) 0) (eS I [(false, .cells ty.zero)]))
def zc (t:bb)(v:R)(I:aF):bT:=
 match t.ja with
 |true=>(match oS I t v,Nat.blt 0 t.size with|some r,true=> .a6 [] (.optr (bV I) 0 0) (eS I [(false, .av t.size [r])])|_,_=> .bad)
 |false=>(match ef R.nW v.cellsOf with|true=> .a6 [] (.ptr (bV I) 0) (eS I [(false, .cells v.cellsOf)])|false=> .bad)
def n4 (I:aF)(t:bb)(v:R):Option (List U):=
 match t with
 | .aE s=>(match v.hj with|true=>some [R.hR I (s.norm I v)]|false=>none)
 |t=>
  (match v with
  | .rw n r=>(match Nat.beq n t.size with|true=>some r|false=>none)
  | .agg l=>(match Nat.beq (bV l) t.size,ef R.hj l with|true,true=>some (mn I t.cells (.agg l))|_,_=>none)
  |_=>none)
def qY (I:aF)(cs:List b6)(bN:List (Nat×R)):Nat->List (Nat×Nat×bb)->Option (List U)
 |_,[]=>some []
 |k,f::r=>
  match(match fz k bN with|some v=>n4 I f.2.2 v|none=>some (bz b6.ga (kN (kM cs f.1) f.2.2.size))),qY I cs bN (Nat.succ k) r with
  |some x,some y=>some (match r with|[]=>x|_=>x++y)
  |_,_=>none
def sH:List (Nat×Nat×bb)->Nat->Nat->Bool
 |[],o,n=>Nat.beq o n
 |f::r,o,n=>match Nat.beq f.1 o,f.2.2 with|true, .no=>false|true,t=>sH r (Nat.add o t.size) n|false,_=>false
def CC (n:Nat):List (Nat×R)->Bool
 |[]=>true
 |p::r=>match Nat.blt p.1 n,fz p.1 r with|true,none=>CC n r|_,_=>false
def pP (t:bb)(bN:List (Nat×R))(I:aF):bT:=
 match t.ja with
 |true=>
  (match t with
  | .struct bW cs=>
   (match sH bW 0 (bV cs),CC (bV bW) bN,qY I cs bN 0 bW with
   |true,true,some r=> .a6 [] (.rw (bV cs) r) I
   |_,_,_=> .bad)
  | .arr _ _ cs=>(match bN with|[]=> .a6 [] (.rw (bV cs) (bz b6.ga cs)) I|_=> .bad)
  |_=> .bad)
 |false=>(match wR t bN,t.acX with|true,true=> .a6 [] (.agg (wm bN (fG t) t.zero)) I|_,_=> .bad)
def pQ (t:bb)(f:Nat)(v:R)(I:aF):bT:=
 match sz t f with
 |false=> .bad
 |true=>
  match v with
  | .agg l=>
   (match Nat.ble (Nat.add (fG t f) (kE t f).size) (bV l)with
   |true=> .a6 [] (match kE t f with| .aE _=>b8 .un l (fG t f)|t'=> .agg (kN (kM l (fG t f)) t'.size)) I
   |false=> .bad)
  | .rw n r=>
   (match Nat.ble (Nat.add (fG t f) (kE t f).size) n,Nat.beq n t.size with
   |true,true=>
    (match kE t f with
    | .aE s=> .a6 [s.p3 (r.getD (fG t f) .undef)] (s.take (r.getD (fG t f) .undef)) I
    |t'=>
     (match t'.ja with
     |true=> .a6 [] (.rw t'.size (lu r (fG t f) t'.size n)) I
     |false=> .a6 (mZ t'.cells r (fG t f)).1 (.agg (mZ t'.cells r (fG t f)).2) I))
   |_,_=> .bad)
  |_=> .bad
def p4 (op:BinOp)(t:bb)(x y:R)(I:aF):bT:=
 match t with
 | .arr _ (.aE (.int k)) _=>
  (match oS I t x,oS I t y with
  |some a,some b=>
   (match op with
   | .eql=> .a6 [∀x∈a,x.dg k,∀x∈b,x.dg k] (.d (.bool (decide (a.map U.toInt=b.map U.toInt)))) I
   | .neq=> .a6 [∀x∈a,x.dg k,∀x∈b,x.dg k] (.d (.bool (!decide (a.map U.toInt=b.map U.toInt)))) I
   |_=> .bad)
  |_,_=> .bad)
 |_=> .bad
def zd (op:BinOp)(t:bb)(dC:Operand)(x y:R)(I:aF):bT:=match t.HO with|true=>p4 op t x y I|false=>oR op t dC x y I
def ji (n:Nat)(r:List U):List Int:=(r.take n).map U.toInt
def mR (n:Nat):List (List U)->List Int->Bool
 |[],_=>false
 |r::l,k=>if ji n r=k then true else mR n l k
def dy (n:Nat)(z:List U):List (List U)->List Int->List U
 |[],_=>z
 |r::l,k=>if ji n r=k then r.drop n else dy n z l k
def mg (n:Nat)(key v:List U):List (List U)->List (List U)
 |[]=>[key++v]
 |r::l=>if ji n r=key.map U.toInt then(key++v)::l else r::mg n key v l
def kd (key:List U):Prop:=∀x∈key,x.dg .i64/\-9223372036854775808<=x.toInt/\x.toInt<=9223372036854775807
def pU:bb->List U
 | .aE s=>[s.ga]
 |t=>bz b6.ga t.cells
def C8 (t:bb)(r:List U):Option (List Prop×R):=
 match t with
 | .aE s=>some ([s.p3 (r.getD 0 .undef)],s.take (r.getD 0 .undef))
 | .struct _ cs=>(match t.ja with|false=>some ((mZ cs r 0).1, .agg (mZ cs r 0).2)|true=>none)
 |_=>none
def yp (tb:TypeId->b4)(t:b4)(I:aF):bT:=
 match t.mp with
 |some (n,_,e)=> .a6 [] (.mp (bV I)) (eS I [(false, .map n (Nat.add n (tb e).ty.size) [])])
 |none=> .bad
def oL (tb:TypeId->b4)(t:b4)(m k:R)(c:Bool)(I:aF):bT:=
 match t.mp,m with
 |some (n,hN,e), .mp id=>
  (match ag.at I id,oS I (tb hN).ty k with
  | .map n' an l,some key=>
   (match Nat.beq n' n,Nat.beq an (Nat.add n (tb e).ty.size),Nat.beq (tb hN).ty.size n,C8 (tb e).ty (dy n (pU (tb e).ty) l (key.map U.toInt))with
   |true,true,true,some v=> .a6 (kd key::v.1) (match c with|true=> .tup [v.2, .d (.bool (mR n l (key.map U.toInt)))]|false=>v.2) I
   |_,_,_,_=> .bad)
  |_,_=> .bad)
 |_,_=> .bad
def sf (tb:TypeId->b4)(t:b4)(m k v:R)(I:aF):bT:=
 match t.mp,m with
 |some (n,hN,e), .mp id=>
  (match cw I id,ag.at I id,oS I (tb hN).ty k,n4 I (tb e).ty v with
  |false, .map n' an l,some key,some r=>
   (match Nat.beq n' n,Nat.beq an (Nat.add n (tb e).ty.size),Nat.beq (tb hN).ty.size n with
   |true,true,true=> .a6 [kd key] .un (c0 I id (false, .map n an (mg n key r l)))
   |_,_,_=> .bad)
  |_,_,_,_=> .bad)
 |_,_=> .bad
def bb.isAgg:bb->Bool
 | .aE _=>false
 |_=>true
def e4 (tb:TypeId->b4)(o:Oper)(tm:List R)(I:aF):bT:=
 match o.op with
 | .move x| .assign x=> .a6 [] (a_ tm x) I
 | .pick c a b=>wP (a_ tm c) (a_ tm a) (a_ tm b) I
 | .alloc t=>uh (tb t).ty I
 | .box t x=>zc (tb t).ty (a_ tm x) I
 | .build t bN=>pP (tb t).ty (bz (fun p=>(p.1,a_ tm p.2)) bN.toList) I
 | .buildSlice t n bN=>
  match(tb t).ty with
  | .aE (.cv k)=>
   (match oP k n (bz (fun p=>(p.1,a_ tm p.2)) bN.toList),Nat.ble n 65536 with
   |some l,true=>sG (tb t).lit (.af k l) I
   |_,_=> .bad)
  | .aE (.ee an)=>
   (match hP I an (tb t).f_ n (bz (fun p=>(p.1,a_ tm p.2)) bN.toList),Nat.ble (Nat.mul n an) 65536 with
   |some l,true=>sG (tb t).lit (.av an l) I
   |_,_=> .bad)
  |_=> .bad
 | .load t p=>h7 (tb t).ty (a_ tm p) I
 | .store t p v=>pN (tb t).ty (a_ tm p) (a_ tm v) I
 | .nilCheck x=>
  match a_ tm x with
  | .ptr i j=> .a6 [] (.ptr i j) I
  | .optr i a b=> .a6 [] (.optr i a b) I
  | .rptr a i b=> .a6 [] (.rptr a i b) I
  |_=> .bad
 | .binOp op t x y _=>zd op (tb t).ty y (a_ tm x) (a_ tm y) I
 | .unOp op _ x=>w9 op (a_ tm x) I
 | .convert src dst x=>n3 (tb src).ty (tb dst).ty (a_ tm x) I
 | .extract x i=>
  match a_ tm x with
  | .tup l=>match Nat.blt i (bV l)with|true=> .a6 [] (b8 .any l i) I|false=> .bad
  |_=> .bad
 | .fieldAddr s x f=>
  match sz (tb s).ty f with
  |false=> .bad
  |true=>
  match a_ tm x with
  | .ptr id off=> .a6 [] (.ptr id (Nat.add off (fG (tb s).ty f))) I
  | .optr id i j=> .a6 [] (.optr id i (Nat.add j (fG (tb s).ty f))) I
  | .rptr a i j=> .a6 [] (.rptr a i (Nat.add j (fG (tb s).ty f))) I
  |_=> .bad
 | .field s x f=>pQ (tb s).ty f (a_ tm x) I
 | .indexAddr t x i=>qM (tb t).ty (a_ tm x) (a_ tm i) I
 | .index t x i=>yJ (tb t).ty (a_ tm x) (a_ tm i) I
 | .makeSlice t n c=>wQ (tb t) (a_ tm n) (a_ tm c) I
 | .slice t x lo hi dr=>uu (tb t) (a_ tm x) (omap (a_ tm) lo) (omap (a_ tm) hi) (omap (a_ tm) dr) I
 | .call c=>
  match c.callee with
  | .builtin b=>kB tb b c.argTypes.toList (bz (a_ tm) c.args.toList) I
  | .value (.func f)=> .call f (bz (a_ tm) c.args.toList) c.argTypes.toList
  | .value (.tmp t)=>sA (b8 .un tm t) (bz (a_ tm) c.args.toList) c.argTypes.toList
  |_=> .bad
 | .makeFunc fn first cap=>y0 fn (bz (a_ tm) first.toList) (bz (a_ tm) cap.toList) I
 | .makeMap t none=>yp tb (tb t) I
 | .lookup t m k c=>oL tb (tb t) (a_ tm m) (a_ tm k) c I
 | .mapUpdate t m k v=>sf tb (tb t) (a_ tm m) (a_ tm k) (a_ tm v) I
 | .panic _=> .a6 [False] .any I
 |_=> .bad
abbrev gA:=List R->aF->(R->aF->Prop)->Prop
structure fQ where
 tm:List R
 I:aF
def l_:List Oper->Nat->Option Tmp
 |[],_=>none
 |o::_,0=>o.dst
 |_::r,n+1=>l_ r n
def sS (i:b4)(n:Nat)(ps:List (Nat×R))(I:aF):Option ag:=
 match i.ty with
 | .aE (.cv k)=>(match oP k n ps,Nat.ble n 65536 with|some l,true=>some (.af k l)|_,_=>none)
 | .aE (.ee an)=>(match hP I an i.f_ n ps,Nat.ble (Nat.mul n an) 65536 with|some l,true=>some (.av an l)|_,_=>none)
 |_=>none
def pW (tb:TypeId->b4)(o:Op):Bool:=
 match o with
 | .alloc _=>true
 | .buildSlice t _ _=> !(tb t).lit
 |_=>false
def cN (tb:TypeId->b4)(aJ:List (Tmp×Nat))(o:Oper)(tm:List R)(I:aF):bT:=
 match o.op,o.dst with
 | .alloc t,some d=>
  (match fz d aJ with
  |some id=>(match(tb t).ty.ja,(tb t).ty,cw I id with|false, .no,_=> .bad|false,_,true=> .bad|false,ty,false=> .a6 [] (.ptr id 0) (c0 I id (false, .cells ty.zero))|true,_,true=> .bad|true,ty,false=>(match Nat.blt 0 ty.size with|true=> .a6 [] (.optr id 0 0) (c0 I id (false, .av ty.size [bz b6.ga ty.cells]))|false=> .bad))
  |none=>e4 tb o tm I)
 | .buildSlice t n bN,some d=>
  (match(tb t).lit,fz d aJ with
  |false,some id=>(match sS (tb t) n (bz (fun p=>(p.1,a_ tm p.2)) bN.toList) I,cw I id with|some ob,false=> .a6 [] (.vec id) (c0 I id (false,ob))|_,_=> .bad)
  |_,_=>e4 tb o tm I)
 |_,_=>e4 tb o tm I
def dF (tb:TypeId->b4)(bx:FuncId->gA)(aJ:List (Tmp×Nat))(all:List Oper):List Oper->List R->aF->(List R->aF->Prop)->Prop
 |[],tm,I,K=>K tm I
 |o::bQ,tm,I,K=>
  let run (tm:List R):Prop:=
   match cN tb aJ o tm I with
   | .bad=>False
   | .a6 ch v al=>gO ch (dF tb bx aJ all bQ (put tm o.dst v) al K)
   | .grow ch v al id=>gO ch (dF tb bx aJ all bQ (put (bz (ep id) tm) o.dst v) (gH id al) K)
   | .fJ p=>∀b:Bool,p b->dF tb bx aJ all bQ (put tm o.dst (.d (.bool b))) I K
   | .call f args _=>bx f args I fun v al=>dF tb bx aJ all bQ (put tm o.dst v) al K
  let skip (tm:List R):Prop:=dF tb bx aJ all bQ (put tm o.dst .un) I K
  match o.guard with
  |none=>run tm
  |some (j,want)=>
   match l_ all j with
   |none=>skip tm
   |some g=>
    match b8 .un tm g with
    | .bt=>match want with|true=>run tm|false=>skip tm
    | .bf=>match want with|true=>skip tm|false=>run tm
    | .un=>skip tm
    | .d (.bool b)=>
     (b=true->match want with|true=>run (c0 tm g .bt)|false=>skip (c0 tm g .bt))/\
     (b=false->match want with|true=>skip (c0 tm g .bf)|false=>run (c0 tm g .bf))
    |_=>False
def fA (tb:TypeId->b4)(o:Op):Nat:=
 match o with
 | .move _| .assign _| .pick ..| .binOp ..| .unOp ..| .extract ..| .fieldAddr ..| .field ..| .nilCheck _| .index ..| .build ..| .makeFunc ..=>0
 | .load ..| .indexAddr ..| .lookup ..=>1
 | .convert s _ _=>(match(tb s).ty with| .aE (.int _)=>0|_=>1)
 | .store ..| .makeSlice ..| .alloc _| .slice ..| .mapUpdate ..=>2
 | .box ..=>2
 | .buildSlice t _ _=>(match(tb t).lit with|true=>0|false=>2)
 | .call c=>
  (match c.callee with
  | .builtin .len=>1
  | .builtin .max=>1
  | .builtin .min=>1
  | .value (.func _)=>2
  |_=>3)
 |_=>3
def Bm:Operand->Bool
 | .const (.slice ..)=>true
 |_=>false
def oT (o:Op):Bool:=
 match o with
 | .binOp _ _ _ y _=>Bm y
 |_=>false
def q4 (t:Tmp):List Operand->Bool
 |[]=>false
 | .tmp u::r=>match Nat.beq u t with|true=>true|false=>q4 t r
 |_::r=>q4 t r
def fY:Option Tmp->Option Tmp->Bool
 |some a,some b=>Nat.beq a b
 |_,_=>false
def ma (o:Oper):Option Tmp->Bool
 |some t=>q4 t o.op.operands.toList
 |none=>false
def p5 (a b:Nat):Bool:=
 match Nat.ble a 1,Nat.ble b 1 with
 |true,true=>true
 |true,false=>Nat.beq a 0&&Nat.beq b 2
 |false,true=>Nat.beq a 2&&Nat.beq b 0
 |false,false=>false
def iR (all:List Oper)(o:Oper):Option Tmp:=
 match o.guard with
 |none=>none
 |some (j,_)=>l_ all j
def mM (all:List Oper)(a i:Oper):Bool:=
 match iR all a with
 |none=>true
 |some g=> !fY (some g) i.dst&&(!q4 g i.op.operands.toList||fY (iR all i) (some g))
def pX (tb:TypeId->b4)(a i:Oper):Bool:=
 p5 (fA tb a.op) (fA tb i.op)&& !oT a.op&& !oT i.op&& !fY a.dst i.dst&& !ma i a.dst&& !ma a i.dst
def R.jB:R->List Nat
 | .vec i=>[i]
 | .ptr i _=>[i]
 | .optr i _ _=>[i]
 | .oat i _ _=>[i]
 | .mp i=>[i]
 | .tail i _=>[i]
 |_=>[]
def s5:List R->List Nat
 |[]=>[]
 |v::r=>eS v.jB (s5 r)
def R.aJ:R->List Nat
 | .agg l=>s5 l
 |v=>v.jB
def gP:List R->List Nat
 |[]=>[]
 |v::r=>eS v.aJ (gP r)
structure gW where
 ok:Bool
 call:Bool
 r:List Nat
 w:List Nat
 ext:Bool
 soft:Bool
 DR:Bool
def mS:gW:=⟨false,false,[],[],false,false,false⟩
def ra:R->Bool
 | .ptr _ _=>true
 |_=>false
def rb:R->Bool
 | .d (.int _ _)=>true
 |_=>false
def kG (tb:TypeId->b4)(o:Op)(tm:List R):Bool:=
 match o with
 | .load _ p=>ra (a_ tm p)
 | .fieldAddr _ x _=>ra (a_ tm x)
 | .buildSlice t _ bN=>(match(tb t).lit with|true=>ef (fun p=>rb (a_ tm p.2)) bN.toList|false=>false)
 |_=>false
def kF:List R->Bool
 |[.vec _, .d (.af _ _)]=>true
 |[.vec _, .d (.av _ _)]=>true
 |_=>false
def cB (tb:TypeId->b4)(data:FuncId->Nat)(aJ:List (Tmp×Nat))(n:Nat)(o:Oper)(tm:List R):gW:=
 match o.op with
 | .load _ p=>⟨true,false,(a_ tm p).aJ,[],false,kG tb o.op tm,false⟩
 | .store _ p _=>⟨true,false,(a_ tm p).aJ,(a_ tm p).aJ,false,false,false⟩
 | .indexAddr _ x _=>⟨true,false,(a_ tm x).aJ,[],false,false,false⟩
 | .slice t x _ _ _=>(match(tb t).cut with|true=>mS|false=>⟨true,false,(a_ tm x).aJ,(a_ tm x).aJ,false,false,false⟩)
 | .lookup _ m _ _=>⟨true,false,(a_ tm m).aJ,[],false,false,false⟩
 | .mapUpdate _ m _ _=>⟨true,false,(a_ tm m).aJ,(a_ tm m).aJ,false,false,false⟩
 | .convert _ _ x=>⟨true,false,(a_ tm x).aJ,[],false,false,false⟩
 | .alloc _=>(match o.dst with|some d=>(match fz d aJ with|some id=>⟨true,false,[id],[id],false,false,false⟩|none=>mS)|none=>mS)
 | .buildSlice t _ _=>(match(tb t).lit with|true=>⟨true,false,[],[],false,kG tb o.op tm,false⟩|false=>(match o.dst with|some d=>(match fz d aJ with|some id=>⟨true,false,[id],[id],false,false,false⟩|none=>mS)|none=>mS))
 | .call c=>
  (match c.callee with
  | .builtin .len=>⟨true,false,gP (bz (a_ tm) c.args.toList),[],false,false,false⟩
  | .builtin .append=>⟨false,false,[],[],false,false,kF (bz (a_ tm) c.args.toList)⟩
  | .value (.func f)=>(match data f with|1=>⟨true,true,gP (bz (a_ tm) c.args.toList),gP (bz (a_ tm) c.args.toList),false,false,false⟩|2=>⟨true,true,gP (bz (a_ tm) c.args.toList),n::gP (bz (a_ tm) c.args.toList),true,false,false⟩|_=>mS)
  |_=>mS)
 |o=>⟨Nat.beq (fA tb o) 0&& !oT o,false,[],[],false,kG tb o tm,false⟩
def p9 (x:Nat):List Nat->Bool
 |[]=>false
 |y::r=>match Nat.beq x y with|true=>true|false=>p9 x r
def uV:List Nat->List Nat->Bool
 |[],_=>true
 |x::r,l=>match p9 x l with|true=>false|false=>uV r l
def s6 (a i:gW):Bool:=a.ok&&i.ok&& !(a.call&&i.call)&&uV a.w i.w&&uV a.w i.r&&uV i.w a.r
def uv (a i:Oper):Bool:= !fY a.dst i.dst&& !ma i a.dst&& !ma a i.dst
def bare (o:Oper):Bool:=
 match o.guard with
 |none=>true
 |some _=>false
def so (a:Oper)(gf:gW)(i:Oper)(ha:gW):Bool:=gf.DR&&ha.soft&&uv a i&&bare a&&bare i
def nv (tb:TypeId->b4)(all:List Oper)(a:Oper)(gf:gW)(i:Oper)(ha:gW):Bool:=mM all a i&&mM all i a&&uv a i&&(pX tb a i||s6 gf ha)
def sI (tab:List Nat):List Edge->Nat
 |[]=>0
 |e::r=>match Region.binds .any e with|true=>Nat.lor (Nat.lor (Nat.pow 2 e.on) (b8 0 tab e.on)) (sI tab r)|false=>sI tab r
def uw:List Oper->List Nat->List Nat
 |[],acc=>acc
 |o::r,acc=>uw r (eS acc [sI acc o.after.toList])
def bit (tab:List Nat)(n m:Nat):Bool:=Nat.beq (Nat.land (Nat.shiftRight (b8 0 tab n) m) 1) 1
def sJ (tb:TypeId->b4)(all:List Oper)(tab:List Nat)(n:Nat)(o:Oper)(f:gW)(p:Nat×Oper×gW):Bool:=
 (match Nat.blt p.1 n with|true=>bit tab n p.1|false=>bit tab p.1 n)||nv tb all p.2.1 p.2.2 o f||(match Nat.blt p.1 n with|true=>so p.2.1 p.2.2 o f|false=>so o f p.2.1 p.2.2)
def kV (tb:TypeId->b4)(all:List Oper)(tab:List Nat)(n:Nat)(o:Oper)(f:gW)(e3:List (Nat×Oper×gW)):Bool:=ef (sJ tb all tab n o f) e3
def gk (tb:TypeId->b4)(bx:FuncId->gA)(data:FuncId->Nat)(aJ:List (Tmp×Nat))(all:List Oper)(tab:List Nat):List (Nat×Oper×gW)->List (Nat×Oper)->List R->aF->(List R->aF->Prop)->Prop
 |_,[],tm,I,K=>K tm I
 |e3,x::bQ,tm,I,K=>
  match kV tb all tab x.1 x.2 (cB tb data aJ (bV I) x.2 tm) e3 with
  |false=>False
  |true=>dF tb bx aJ all [x.2] tm I fun ev al=>gk tb bx data aJ all tab ((x.1,x.2,cB tb data aJ (bV I) x.2 tm)::e3) bQ ev al K
def oN (tb:TypeId->b4):List Oper->List Tmp
 |[]=>[]
 |o::r=>match pW tb o.op,o.guard,o.dst with|true,none,some d=>d::oN tb r|_,_,_=>oN tb r
def ui:List Tmp->Nat->List (Tmp×Nat)
 |[],_=>[]
 |d::r,n=>(d,n)::ui r (Nat.succ n)
def nZ (d:Tmp):List Oper->Nat
 |[]=>0
 |o::r=>match fY (some d) o.dst with|true=>Nat.succ (nZ d r)|false=>nZ d r
def indexed:List Oper->Nat->List (Nat×Oper)
 |[],_=>[]
 |o::r,n=>(n,o)::indexed r (Nat.succ n)
def y1 (tb:TypeId->b4)(ops:List Oper):Bool:=ef (fun x=>x.2.after.toList.all fun e=> !Region.binds .any e||Nat.blt e.on x.1) (indexed ops 0)&&ef (fun d=>Nat.beq (nZ d ops) 1) (oN tb ops)
inductive h_ where
 |normal
 |exit (id:Nat)
 |goto (l:Nat)
 |ret
inductive vB:Type where
 |aE (s:b6)
 |agg (cs:List b6)
 |ar
inductive ta:Type where
 |ar
 |af (k:IntKind)
 |av (an:Nat)
 |map (tH an:Nat)
 |cells (cs:List b6)
structure Head where
 conv:List (Tmp×b6):=[]
 bO:List (Tmp×vB):=[]
 I:List ta:=[]
def b6.T:b6->Type
 | .int _=>Int
 | .bool=>Bool
 | .str=>List Int
 | .cv _=>List Int
 | .ee _=>List (List U)
 | .other=>U
def b6.mk:(s:b6)->s.T->R
 | .int k,x=> .d (.int k x)
 | .bool,x=> .d (.bool x)
 | .str,x=> .d (.str x)
 | .cv k,x=> .d (.af k x)
 | .ee an,x=> .d (.av an x)
 | .other,x=> .d x
def dv:List b6->Type
 |[]=>Unit
 |s::dL=>s.T×dv dL
def lJ:List b6->Type->Type
 |[],α=>α
 |s::dL,α=>s.T->lJ dL α
def lJ.app {α:Type}:(dL:List b6)->lJ dL α->dv dL->α
 |[],f,_=>f
 |_::dL,f,(x,r)=>lJ.app dL (f x) r
def DS:(dL:List b6)->(dv dL->Prop)->Prop
 |[],f=>f ()
 |s::dL,f=>∀x:s.T,DS dL fun r=>f (x,r)
def dv.append:(a b:List b6)->dv a->dv b->dv (eS a b)
 |[],_,_,y=>y
 |_::dL,b,(x,r),y=>(x,dv.append dL b r y)
def dv.left:(a b:List b6)->dv (eS a b)->dv a
 |[],_,_=>()
 |_::dL,b,(x,r)=>(x,dv.left dL b r)
def dv.right:(a b:List b6)->dv (eS a b)->dv b
 |[],_,r=>r
 |_::dL,b,(_,r)=>dv.right dL b r
def vB.ps:vB->List b6
 | .aE s=>[s]
 | .agg cs=>cs
 | .ar=>[]
def ta.ps:ta->List b6
 | .ar=>[]
 | .af k=>[.cv k]
 | .av an=>[.ee an]
 | .map _ an=>[.ee an]
 | .cells cs=>cs
def lx:List (Tmp×vB)->List b6
 |[]=>[]
 |(_,s)::r=>eS s.ps (lx r)
def ke:List ta->List b6
 |[]=>[]
 |s::r=>eS s.ps (ke r)
def Head.ps (h:Head):List b6:=eS (lx h.bO) (ke h.I)
def sB:(cs:List b6)->dv cs->List R
 |[],_=>[]
 |s::dL,(x,r)=>s.mk x::sB dL r
def b6.rl (I:aF):(s:b6)->R->(List Prop×s.T)
 | .int k, .d (.int cz n)=>(match jy k cz with|true=>[]|false=>[False],n)
 | .int _,_=>([False],(0:Int))
 | .bool, .d (.bool b)=>([],b)
 | .bool, .bt=>([],true)
 | .bool, .bf=>([],false)
 | .bool,_=>([False],false)
 | .str, .d (.str l)=>([],l)
 | .str,_=>([False],([]:List Int))
 | .cv k, .d (.af cz l)=>(match jy k cz with|true=>[]|false=>[False],l)
 | .cv _, .emp=>([],([]:List Int))
 | .cv k, .vec id=>
  match ag.at I id with
  | .af cz l=>(match jy k cz,cw I id with|true,true=>[]|_,_=>[False],l)
  |_=>([False],([]:List Int))
 | .cv _,_=>([False],([]:List Int))
 | .ee an, .d (.av ib l)=>(match Nat.beq an ib with|true=>[]|false=>[False],l)
 | .ee _, .emp=>([],([]:List (List U)))
 | .ee an, .vec id=>
  match ag.at I id with
  | .av ib l=>(match Nat.beq an ib,cw I id with|true,true=>[]|_,_=>[False],l)
  |_=>([False],([]:List (List U)))
 | .ee _,_=>([False],([]:List (List U)))
 | .other, .d x=>([],x)
 | .other,_=>([False],U.undef)
def yw (I:aF):(cs:List b6)->List R->(dv cs->Prop)->Prop
 |[],[],k=>k ()
 |s::dL,v::aI,k=>gO (s.rl I v).1 (yw I dL aI fun h=>k ((s.rl I v).2,h))
 |_,_,_=>False
def R.uD:R->R->Bool
 | .vec a, .vec b=>Nat.beq a b
 | .ptr a x, .ptr b y=>Nat.beq a b&&Nat.beq x y
 | .optr a (.ofNat 0) x, .optr b (.ofNat 0) y=>Nat.beq a b&&Nat.beq x y
 | .mp a, .mp b=>Nat.beq a b
 | .emp, .emp=>true
 | .xj, .xj=>true
 | .bt, .bt=>true
 | .bf, .bf=>true
 | .fn f, .fn g=>Nat.beq f g
 |_,_=>false
def Code.e8:Code->Tmp->Bool
 | .region _ ops _,t=>ops.toList.any fun o=>match o.dst with|some d=>Nat.beq d t|none=>false
 | .seq a b,t=>Code.e8 a t||Code.e8 b t
 | .cond _ a b,t=>Code.e8 a t||Code.e8 b t
 | .block _ c,t=>Code.e8 c t
 | .loop c,t=>Code.e8 c t
 | .scope c,t=>Code.e8 c t
 | .rangeFunc ..,_=>true
 |_,_=>false
def R.re:R->Bool
 | .d _=>true
 | .bt=>true
 | .bf=>true
 | .emp=>true
 | .xj=>true
 | .fn _=>true
 | .rptr ..=>true
 | .cls ..=>true
 | .un=>true
 | .any=>true
 |_=>false
def R.plain:R->Bool
 | .agg l=>ef R.re l
 | .rw _ _=>true
 |v=>v.re
def R.n_ (n:Nat):R->Bool
 | .vec i=>Nat.blt i n
 | .ptr i _=>Nat.blt i n
 | .optr i _ _=>Nat.blt i n
 | .oat i _ _=>Nat.blt i n
 | .mp i=>Nat.blt i n
 | .tail i _=>Nat.blt i n
 | .agg _=>false
 | .tup _=>false
 |_=>true
def R.under (n:Nat):R->Bool
 | .agg l=>ef (R.n_ n) l
 |v=>v.n_ n
def ag.under (n:Nat):ag->Bool
 | .cells l=>ef (R.n_ n) l
 |_=>true
def Rs (n:Nat)(w:Bool)(v0 v:R):Bool:=
 match v0.under n with
 |false=>false
 |true=>
  match w,v0.plain with
  |false,true=>true
  |_,_=>v.uD v0
def sl (n:Nat)(w:Tmp->Bool)(I:aF)(dB:List R):(dL:List (Tmp×vB))->List R->(dv (lx dL)->Prop)->Prop
 |[],_,k=>k ()
 |(t, .aE s)::r,tm,k=>gO (s.rl I (b8 .un tm t)).1 (sl n w I dB r tm fun h=>k ((s.rl I (b8 .un tm t)).2,h))
 |(t, .agg cs)::r,tm,k=>
  match b8 .un tm t with
  | .agg aI=>yw I cs aI fun a=>sl n w I dB r tm fun h=>k (dv.append cs (lx r) a h)
  |_=>False
 |(t, .ar)::r,tm,k=>match Rs n (w t) (b8 .un dB t) (b8 .un tm t)with|true=>sl n w I dB r tm k|false=>False
def n5 (n:Nat)(ea:aF):(os:List ta)->Nat->aF->(dv (ke os)->Prop)->Prop
 |[],_,_,k=>k ()
 | .ar::r,i,I,k=>match(b8 (true, .gone) ea i).2.under n with|true=>b8 (true, .gone) I i=b8 (true, .gone) ea i/\n5 n ea r (Nat.succ i) I k|false=>False
 | .af k4::r,i,I,k=>
  match b8 (true, .gone) I i with
  |(false, .af a7 l)=>match jy k4 a7 with|true=>n5 n ea r (Nat.succ i) I fun h=>k (l,h)|false=>False
  |_=>False
 | .av vC::r,i,I,k=>
  match b8 (true, .gone) I i with
  |(false, .av s1 l)=>match Nat.beq vC s1 with|true=>n5 n ea r (Nat.succ i) I fun h=>k (l,h)|false=>False
  |_=>False
 | .map xY vC::r,i,I,k=>
  match b8 (true, .gone) I i with
  |(false, .map eY s1 l)=>match Nat.beq xY eY,Nat.beq vC s1 with|true,true=>n5 n ea r (Nat.succ i) I fun h=>k (l,h)|_,_=>False
  |_=>False
 | .cells cs::r,i,I,k=>
  match b8 (true, .gone) I i with
  |(false, .cells aI)=>yw I cs aI fun a=>n5 n ea r (Nat.succ i) I fun h=>k (dv.append cs (ke r) a h)
  |_=>False
def sq (w:Tmp->Bool)(h:Head)(xZ S:fQ)(k:dv h.ps->Prop):Prop:=
 sl (bV h.I) w S.I xZ.tm h.bO S.tm fun a=>n5 (bV h.I) xZ.I h.I 0 S.I fun b=>k (dv.append (lx h.bO) (ke h.I) a b)
def ux (dB:List R):(dL:List (Tmp×vB))->dv (lx dL)->List R->List R
 |[],_,tm=>tm
 |(t, .aE s)::r,(x,h),tm=>c0 (ux dB r h tm) t (s.mk x)
 |(t, .agg cs)::r,h,tm=>c0 (ux dB r (dv.right cs (lx r) h) tm) t (.agg (sB cs (dv.left cs (lx r) h)))
 |(t, .ar)::r,h,tm=>c0 (ux dB r h tm) t (b8 .un dB t)
def mq (ea:aF):(os:List ta)->Nat->dv (ke os)->aF
 |[],_,_=>[]
 | .ar::r,i,h=>b8 (true, .gone) ea i::mq ea r (Nat.succ i) h
 | .af k::r,i,(x,h)=>(false, .af k x)::mq ea r (Nat.succ i) h
 | .av an::r,i,(x,h)=>(false, .av an x)::mq ea r (Nat.succ i) h
 | .map n an::r,i,(x,h)=>(false, .map n an x)::mq ea r (Nat.succ i) h
 | .cells cs::r,i,h=>(false, .cells (sB cs (dv.left cs (ke r) h)))::mq ea r (Nat.succ i) (dv.right cs (ke r) h)
def mh (h:Head)(xZ:fQ)(x:dv h.ps):fQ:=
 ⟨ux xZ.tm h.bO (dv.left (lx h.bO) (ke h.I) x) (uT .any (bV xZ.tm)),mq xZ.I h.I 0 (dv.right (lx h.bO) (ke h.I) x)⟩
def uy:b6->ag
 | .cv k=> .af k []
 | .ee an=> .av an []
 |_=> .gone
def iT:List (Tmp×b6)->fQ->fQ
 |[],S=>S
 |(t,s)::r,S=>
  match b8 .un S.tm t,s with
  | .vec id, .other=>iT r ⟨S.tm,e7 S.I id⟩
  |_, .other=>iT r S
  | .emp,s=>iT r ⟨c0 S.tm t (.vec (bV S.I)),eS S.I [(false,uy s)]⟩
  |_,_=>iT r S
def np:List (Tmp×b6)->fQ->fQ
 |[],S=>S
 |(t,s)::r,S=>
  match b8 .un S.tm t,s with
  | .vec id, .other=>np r ⟨S.tm,e7 S.I id⟩
  |_,_=>np r S
def oU:TypeDesc->Bool
 | .struct _=>true
 | .array _ _=>true
 |_=>false
def ze:b6->Value->Bool
 | .int k, .int cz n=>jy k cz&&(match n with| .ofNat 0=>true|_=>false)
 | .bool, .bool false=>true
 | .str, .string s=>Nat.beq s.data.size 0
 | .cv _, .slice none 0 0=>true
 | .ee _, .slice none 0 0=>true
 | .other,v=>v.oneCell'
 |_,_=>false
def mO:List b6->List Value->Bool
 |[],[]=>true
 |s::dL,v::aI=>ze s v&&mO dL aI
 |_,_=>false
def nA (z:Option Value)(cs:List b6):Bool:=match z with|some v=>mO cs v.cells.toList|none=>false
def IJ (k:IntKind):Option Value->Bool
 |some (.int cz (.ofNat 0))=>jy k cz
 |_=>false
def C9 (P:Program)(t:TypeId):Bool:=match P.underlying t with|some d=>oU d|none=>true
def pR (P:Program):List (Nat×Nat×bb)->List Field->Bool
 |[],[]=>true
 |(o,n,t)::r,f::bW=>Nat.beq o f.offset&&Nat.beq n (P.cellsOf f.type)&&Nat.beq t.size n&&Nat.blt 0 n&&(P.info? f.type).isSome&&(P.underlying f.type).isSome&&(C9 P f.type==t.isAgg)&&pR P r bW
 |_,_=>false
def c4 (P:Program)(t:TypeId)(i:b4):Bool:=
 match i.ty,P.info? t,P.underlying t with
 | .no,_,_=>true
 | .aE (.int k),some f,some (.int cz)=>jy k cz&&Nat.beq f.size 1&&nA f.zero [.int k]
 | .aE .bool,some f,some .bool=>Nat.beq f.size 1&&nA f.zero [.bool]
 | .aE .str,some f,some .string=>Nat.beq f.size 1&&nA f.zero [.str]
 | .aE (.cv k),some f,some (.slice e)=>Nat.beq f.size 1&&nA f.zero [.cv k]&&Nat.beq e i.elem&&
  (match P.info? e,P.underlying e with
  |some g,some (.int cz)=>jy k cz&&Nat.beq g.size 1&&Nat.beq g.bytes i.bytes&&IJ k g.zero
  |_,_=>false)
 | .aE (.ee an),some f,some (.slice e)=>Nat.beq f.size 1&&nA f.zero [.ee an]&&Nat.beq e i.elem&&Nat.blt 0 an&&Nat.beq (bV i.f_) an&&
  (match P.info? e,P.underlying e with
  |some g,some d=>Nat.beq g.size an&&Nat.beq g.bytes i.bytes&&nA g.zero i.f_&&(match d with| .int _=>false|_=>true)
  |_,_=>false)
 | .aE .other,some f,some d=> !oU d&&Nat.beq f.size 1&&nA f.zero [.other]
 | .struct bW cs,some f,some (.struct a)=>Nat.beq f.size (bV cs)&&nA f.zero cs&&pR P bW a.toList
 | .arr n e cs,some f,some (.array m el)=>Nat.beq n m&&Nat.beq f.size (bV cs)&&nA f.zero cs&&Nat.beq (P.cellsOf el) e.size&&Nat.blt 0 e.size&&(P.info? el).isSome&&(P.underlying el).isSome&&(C9 P el==e.isAgg)
 |_,_,_=>false
def uJ:bb->Bool
 | .aE _=>true
 | .struct _ cs=>(match Nat.blt 8 (bV cs),Nat.beq (bV cs) 1 with|false,false=>true|_,_=>false)
 |_=>false
def IK:bb->Option Value->Bool
 | .aE s,some v=>ze s v
 | .struct _ cs,some (.agg aI)=>mO cs aI.toList
 |_,_=>false
def sK (P:Program)(tb:TypeId->b4)(t:TypeId):Bool:=
 match(tb t).mp with
 |none=>true
 |some (n,hN,e)=>
  match P.underlying t,P.underlying hN with
  |some (.map k v),some (.array m q)=>Nat.beq k hN&&Nat.beq v e&&Nat.beq m n&&Nat.beq (P.cellsOf q) 1&&Nat.beq (P.cellsOf hN) n&&(match P.underlying q with|some (.int .i64)=>true|_=>false)&&Nat.blt 0 P.types.size&&Nat.blt 0 (tb e).ty.size&&uJ (tb e).ty&&(match P.info? e with|some g=>IK (tb e).ty g.zero|none=>false)
  |_,_=>false
def zf (P:Program)(i:b4)(t:TypeId):Bool:=
 match i.ty with
 | .arr n (.aE (.int k)) cs=>
  (match P.underlying t,Nat.beq (bV cs) n with
  |some (.array _ q),true=>(match P.underlying q with|some (.int cz)=>jy k cz|_=>false)
  |_,_=>false)
 |_=>true
def pV (P:Program)(tb:TypeId->b4)(t:TypeId):Bool:=match sK P tb t with|true=>zf P (tb t) t|false=>false
structure bD where
 tys:List (Nat×b4)
 cons:List (Nat×gA)
 uK:List (Nat×Head)
 meets:List (Nat×Head)
 data:List Nat:=[]
 fresh:List Nat:=[]
def bD.kind (E:bD)(f:FuncId):Nat:=match p9 f E.data with|true=>1|false=>(match p9 f E.fresh with|true=>2|false=>0)
def bD.tb (E:bD)(t:TypeId):b4:=match fz t E.tys with|some i=>i|none=>{ty:= .no}
def R5:gA:=fun _ _ _=>False
def bD.bx (E:bD)(f:FuncId):gA:=match fz f E.cons with|some c=>c|none=>R5
def bD.loops (E:bD)(b:Nat):Head:=match fz b E.uK with|some h=>h|none=>{}
def bD.aeL (E:bD)(t:Tmp):Option Head:=fz t E.meets
def Qv:Code->Option Tmp
 | .cond (.tmp t) _ _=>some t
 | .seq _ b=>Qv b
 | .block id _=>some (Nat.add 100000 id)
 |_=>none
def aeb (j:Tmp->Option Head):Option Tmp->Option Head
 |none=>none
 |some t=>j t
def hT (E:bD):Code->Nat->fQ->(h_->fQ->Prop)->Prop
 | .skip,_,S,K=>K .normal S
 | .label _,_,S,K=>K .normal S
 | .region _ ops draw,_,S,K=>
  match draw with
  |false=>dF E.tb E.bx [] ops.toList ops.toList S.tm S.I fun tm I=>K .normal ⟨tm,I⟩
  |true=>
   (match y1 E.tb ops.toList with
   |true=>gk E.tb E.bx E.kind (ui (oN E.tb ops.toList) (bV S.I)) ops.toList (uw ops.toList []) [] (indexed ops.toList 0) S.tm (eS S.I (uT (false, .gone) (bV (oN E.tb ops.toList)))) fun tm I=>K .normal ⟨tm,I⟩
   |false=>False)
 | .seq a b,bE,S,K=>
  match aeb E.aeL (Qv a)with
  |none=>hT E a bE S fun e S'=>match e with| .normal=>hT E b bE S' K|e=>K e S'
  |some h=>
   let fE:=iT h.conv S
   ∃J:lJ h.ps Prop,
    hT E a bE fE (fun e S'=>match e with| .normal=>sq (Code.e8 a) h fE (np h.conv S') (lJ.app h.ps J)|e=>K e S')/\
    DS h.ps fun x=>lJ.app h.ps J x->hT E b bE (mh h fE x) K
 | .cond c a b,bE,S,K=>
  match a_ S.tm c with
  | .bt=>hT E a bE S K
  | .bf=>hT E b bE S K
  | .d (.bool x)=>
   (match c with
   | .tmp t=>(x=true->hT E a bE ⟨c0 S.tm t .bt,S.I⟩ K)/\(x=false->hT E b bE ⟨c0 S.tm t .bf,S.I⟩ K)
   |_=>False)
  |_=>False
 | .block id c,_,S,K=>hT E c id S fun e S'=>match e with| .exit i=>(match Nat.beq i id with|true=>K .normal S'|false=>K (.exit i) S')|e=>K e S'
 | .loop c,bE,S,K=>
  let h:=E.loops bE
  let fE:=iT h.conv S
  ∃aQ:lJ h.ps Prop,∃m:lJ h.ps Nat,sq (fun _=>false) h fE fE (lJ.app h.ps aQ)/\
   DS h.ps fun x=>lJ.app h.ps aQ x->hT E c bE (mh h fE x) fun e S'=>
    match e with
    | .normal=>sq (Code.e8 c) h fE (np h.conv S') fun y=>lJ.app h.ps aQ y/\lJ.app h.ps m y<lJ.app h.ps m x
    |e=>K e S'
 | .exit id,_,S,K=>K (.exit id) S
 | .goto l,_,S,K=>K (.goto l) S
 | .ret,_,S,K=>K .ret S
 | .scope c,bE,S,K=>hT E c bE S fun e S'=>match e with| .goto _=>False|e=>K e S'
 | .refuse _,_,_,_=>False
 | .rangeFunc ..,_,_,_=>False
def gU (tb:TypeId->b4)(tm:List R)(I:aF):List ResultVar->List R
 |[]=>[]
 | .tmp t::r=>b8 .un tm t::gU tb tm I r
 | .cell a t::r=>(match h7 (tb t).ty (b8 .un tm a) I with| .a6 _ v _=>v|_=> .any)::gU tb tm I r
def jV (tb:TypeId->b4)(tm:List R)(I:aF):List ResultVar->List Prop
 |[]=>[]
 | .tmp _::r=>jV tb tm I r
 | .cell a t::r=>(match h7 (tb t).ty (b8 .un tm a) I with| .a6 s _ _=>eS s (jV tb tm I r)|_=>jV tb tm I r)
def q5 (tb:TypeId->b4)(tm:List R)(I:aF):List ResultVar->Bool
 |[]=>true
 | .tmp _::r=>q5 tb tm I r
 | .cell a t::r=>match b8 .un tm a,h7 (tb t).ty (b8 .un tm a) I with| .ptr _ _, .a6 [] _ _=>q5 tb tm I r|_,_=>false
def ln (tb:TypeId->b4)(tm:List R)(I:aF):List ResultVar->Bool
 |[]=>true
 | .tmp _::r=>ln tb tm I r
 | .cell a t::r=>match b8 .un tm a,h7 (tb t).ty (b8 .un tm a) I with| .ptr _ _, .a6 _ _ _=>ln tb tm I r| .optr _ _ _, .a6 _ _ _=>ln tb tm I r|_,_=>false
def one:List R->R
 |[x]=>x
 |l=> .tup l
def mP (E:bD)(ntmps:Nat)(results:List ResultVar)(c:Code)(args:List R)(I:aF)(K:R->aF->Prop):Prop:=
 hT E c 1000000 ⟨pad ntmps args,I⟩ fun e S=>
  match e with
  | .normal| .ret=>(match ln E.tb S.tm S.I results with|true=>gO (jV E.tb S.tm S.I results) (K (one (gU E.tb S.tm S.I results)) S.I)|false=>False)
  |_=>False
def bb.eV (I:aF):List bb->List R->List R
 |t::ts,v::aI=>t.norm I v::bb.eV I ts aI
 |_,_=>[]
def mi (I:aF)(ts:List bb)(v:R):R:=
 match ts,v with
 |[t],v=>t.norm I v
 |ts, .tup aI=> .tup (bb.eV I ts aI)
 |_,v=>v
end Go.aj
end
section
namespace Go.aj
theorem cO {α:Type}(l:List α):bV l=l.length:=by induction l<;>simp_all [bV]
theorem d_ {α:Type}(d:α):∀(l:List α) (i:Nat),b8 d l i=l.getD i d
 |[],i=>by simp[b8]
 |x::r,0=>by simp[b8]
 |x::r,n+1=>by simp[b8,d_ d r n]
theorem e2 {α:Type}:∀(l:List α) (i:Nat) (v:α),c0 l i v=l.set i v
 |[],i,v=>by simp[c0]
 |x::r,0,v=>by simp[c0]
 |x::r,n+1,v=>by simp[c0,e2 r n v]
theorem dP {α β:Type}(f:α->β)(l:List α):bz f l=l.map f:=by induction l<;>simp_all [bz]
theorem fZ {α:Type}(a b:List α):eS a b=a++b:=by induction a<;>simp_all [eS]
theorem lp {α:Type}:∀(l:List α) (n:Nat),kM l n=l.drop n
 |l,0=>by simp[kM]
 |[],n+1=>by simp[kM]
 |x::r,n+1=>by simp[kM,lp r n]
theorem lq {α:Type}:∀(l:List α) (n:Nat),kN l n=l.take n
 |l,0=>by simp[kN]
 |[],n+1=>by simp[kN]
 |x::r,n+1=>by simp[kN,lq r n]
theorem HP {α:Type}(v:α)(n:Nat):uT v n=List.replicate n v:=by induction n<;>simp_all [uT,List.replicate]
theorem sL:∀(n:Nat) (l:List R),pad n l=l++List.replicate (n-l.length) .un
 |0,l=>by simp[pad]
 |n+1,[]=>by simp[pad,sL n [],List.replicate]
 |n+1,v::r=>by simp[pad,sL n r,Nat.add_sub_add_right]
theorem e1 {α:Type}(l:List α)(i j:Nat)(v d:α):(l.set i v).getD j d=if i=j/\i<l.length then v else l.getD j d:=by
 simp only[aoC,apo]
 by_cases h:i=j
 ·subst h
  by_cases az:i<l.length<;>simp[az]
 ·simp[h]
theorem fH {α:Type}(f:α->Bool)(l:List α):ef f l=l.all f:=by
 induction l with
 |nil=>rfl
 |cons x r bM=>simp only[ef,aqd];cases f x<;>simp[bM]
theorem ho (ps:List Prop)(q:Prop):gO ps q↔(∀p∈ps,p)/\q:=by
 induction ps with
 |nil=>simp[gO]
 |cons p r bM=>rw[gO,bM,List.forall_mem_cons,and_assoc]
theorem wu {ps:List Prop}{q nK:Prop}(h:q->nK):gO ps q->gO ps nK:=by
 rw[ho,ho];exact fun⟨a,b⟩=>⟨a,h b⟩
structure Loc where
 a:Option Addr
 cap:Nat
 bE:Option Nat
inductive bA (Z:Nat->Prop) (w:World):U->Value->Prop
 |int (k:IntKind) (n:Int):bA Z w (.int k n) (.int k n)
 |bool (b:Bool):bA Z w (.bool b) (.bool b)
 |str (s:ByteArray) (l:List Int) (h:l=s.data.toList.map fun b=>(b.toNat:Int)):bA Z w (.str l) (.string s)
 |jj (a:Option Addr) (cap:Nat) (k:IntKind):bA Z w (.af k []) (.slice a 0 cap)
 |af (k:IntKind) (l:List Int) (n b off cap:Nat) (aB:l.length=n) (bm:¬Z b) (aC:n<=cap)
  (h:∀i,i<n->w.cell? ⟨b,off+i,none⟩=some (.int k (l.getD i 0))):
  bA Z w (.af k l) (.slice (some ⟨b,off,none⟩) n cap)
 |kO (a:Option Addr) (cap:Nat) (an:Nat):bA Z w (.av an []) (.slice a 0 cap)
 |av (an:Nat) (l:List (List U)) (n b off cap:Nat) (u:Nat->Nat->Value) (aB:l.length=n) (cr:0<an) (bm:¬Z b) (aC:n<=cap)
  (h:∀i j,i<n->j<an->w.cell? ⟨b,off+i*an+j,none⟩=some (u i j))
  (ao:∀i j,i<n->j<an->bA Z w ((l.getD i []).getD j .undef) (u i j)):
  bA Z w (.av an l) (.slice (some ⟨b,off,none⟩) n cap)
 |undef (v:Value) (h:v.oneCell'=true):bA Z w .undef v
theorem bA.one {Z:Nat->Prop}{w:World}{x:U}{v:Value}(h:bA Z w x v):v.oneCell'=true:=by
 cases h<;>first|rfl|assumption
theorem Pd {w:World}{b o:Nat}{v:Value}(h:w.cell? ⟨b,o,none⟩=some v):b<w.heap.size:=World.block_lt_of_cell? w _ h
theorem bA.mono {Z Z':Nat->Prop}{w w':World}{x:U}{v:Value}(h:bA Z w x v)
 (key:∀b,b<w.heap.size->¬Z b->w'.heap[b]? =w.heap[b]? /\¬Z' b):bA Z' w' x v:=by
 induction h with
 |int k n=>exact .int k n
 |bool b=>exact .bool b
 |str s l h=>exact .str s l h
 |jj a cap k=>exact .jj a cap k
 |af k l n b off cap aB bm aC hp=>
  cases l with
  |nil=>subst aB;exact .jj _ _ _
  |cons y r=>
   have bG:b<w.heap.size:=Pd (hp 0 (by rw[<-aB];simp));refine .af k _ n b off cap aB (key b bG bm).2 aC fun i hi=> ?_;rw[World.cell?_of_block (w:=w) (w':=w') (a:=⟨b,off+i,none⟩) (key b bG bm).1];exact hp i hi
 |kO a cap an=>exact .kO a cap an
 |av an l n b off cap u aB cr bm aC hp ao bM=>
  cases l with
  |nil=>subst aB;exact .kO _ _ _
  |cons y r=>
   have bG:b<w.heap.size:=Pd (hp 0 0 (by rw[<-aB];simp) cr);refine .av _ _ n b off cap u aB cr (key b bG bm).2 aC (fun i j hi aK=> ?_) bM;rw[World.cell?_of_block (w:=w) (w':=w') (a:=⟨b,off+i*an+j,none⟩) (key b bG bm).1];exact hp i j hi aK
 |undef v h=>exact .undef v h
def gJ (ρ:List Loc)(I:aF)(b:Nat):Prop:=∃i aw,ρ[i]? =some aw/\aw.bE=some b/\cw I i=false
def aL (N:Nat->Prop)(ρ:List Loc)(I:aF)(b:Nat):Prop:=N b\/gJ ρ I b
def eE (Z:Nat->Prop)(w:World)(ρ:List Loc)(I:aF):R->Value->Prop
 | .d x,v=>bA Z w x v
 | .bt,v=>v= .bool true
 | .bf,v=>v= .bool false
 | .emp,v=>∃a,v= .slice a 0 0
 | .vec id,v=>∃aw,ρ[id]? =some aw/\v= .slice aw.a (ag.at I id).len aw.cap/\(aw.a=none->aw.cap=0)
 | .ptr id off,v=>∃aw b,ρ[id]? =some aw/\aw.a=some ⟨b,0,none⟩/\aw.bE=some b/\v= .pointer (some ⟨b,off,none⟩)
 | .optr id i j,v=>∃aw b,ρ[id]? =some aw/\aw.a=some ⟨b,0,none⟩/\aw.bE=some b/\
  v= .pointer (some ⟨b,i.toNat*(ag.at I id).cL+j,none⟩)/\0<=i/\i<((ag.at I id).len:Int)
 | .rptr x i j,v=>∃b off cap,bA Z w x (.slice (some ⟨b,off,none⟩) x.len cap)/\0<=i/\i<(x.len:Int)/\
  v= .pointer (some ⟨b,off+i.toNat*x.cL+j,none⟩)
 | .oat id i j,v=>∃aw b,ρ[id]? =some aw/\aw.a=some ⟨b,0,none⟩/\aw.bE=some b/\
  v= .pointer (some ⟨b,i.toNat*(ag.at I id).cL+j,none⟩)/\0<=i/\i<((ag.at I id).len:Int)/\j<(ag.at I id).cL
 | .rat x i j,v=>∃b off cap,bA Z w x (.slice (some ⟨b,off,none⟩) x.len cap)/\0<=i/\i<(x.len:Int)/\j<x.cL/\
  v= .pointer (some ⟨b,off+i.toNat*x.cL+j,none⟩)
 | .mp id,v=>∃aw b,ρ[id]? =some aw/\aw.bE=some b/\v= .map (some b)
 | .tail id i,v=>∃aw b,ρ[id]? =some aw/\aw.a=some ⟨b,0,none⟩/\aw.bE=some b/\
  v= .slice (some ⟨b,i.toNat*(ag.at I id).cL,none⟩) ((ag.at I id).len-i.toNat) (aw.cap-i.toNat)/\0<=i/\i<((ag.at I id).len:Int)
 | .xj,v=>v= .pointer none
 | .fn f,v=>v= .func (.func f) #[] #[]
 | .cls f l,v=>v= .func (.func f) (bz uU l).toArray #[]/\ef xw l=true
 | .un,v=>v=undef
 | .any,_=>True
 |_,_=>False
def iq (Z:Nat->Prop)(w:World)(ρ:List Loc)(I:aF):R->Value->Prop
 | .agg l,v=>∃a:Array Value,v= .agg a/\a.size=l.length/\∀i,i<l.length->eE Z w ρ I (l.getD i .un) (a.getD i undef)
 | .rw n r,v=>∃a:Array Value,v= .agg a/\a.size=n/\r.length=n/\∀i,i<n->bA Z w (r.getD i .undef) (a.getD i undef)
 |t,v=>eE Z w ρ I t v
def bF (Z:Nat->Prop)(w:World)(ρ:List Loc)(I:aF):R->Value->Prop
 | .tup l,v=>∃a:Array Value,v= .tuple a/\a.size=l.length/\∀i,i<l.length->iq Z w ρ I (l.getD i .un) (a.getD i undef)
 |t,v=>iq Z w ρ I t v
def nX (Z:Nat->Prop)(w:World)(r:List U)(v:Value):Prop:=∃a:Array Value,v= .agg a/\a.size=r.length/\∀j,j<r.length->bA Z w (r.getD j .undef) (a.getD j undef)
def q6 (Z:Nat->Prop)(w:World)(r:List U)(v:Value):Prop:=(∃x,r=[x]/\bA Z w x v)\/(r.length≠1/\nX Z w r v)
theorem nX.mono {Z Z':Nat->Prop}{w w':World}{r:List U}{v:Value}(h:nX Z w r v)(ao:∀x u,bA Z w x u->bA Z' w' x u):nX Z' w' r v:=by
 obtain⟨a,aa,ad,ax⟩:=h;exact⟨a,aa,ad,fun j aK=>ao _ _ (ax j aK)⟩
theorem q6.mono {Z Z':Nat->Prop}{w w':World}{r:List U}{v:Value}(h:q6 Z w r v)(ao:∀x u,bA Z w x u->bA Z' w' x u):q6 Z' w' r v:=by
 rcases h with⟨x,aa,ad⟩|⟨aa,ad⟩
 ·exact .inl ⟨x,aa,ao _ _ ad⟩
 ·exact .inr ⟨aa,ad.mono ao⟩
def h9 (Z:Nat->Prop)(w:World)(ρ:List Loc)(I:aF)(aw:Loc):ag->Prop
 | .gone=>True
 | .dead _ _=>True
 | .map tH an l=>∃b es c,aw.bE=some b/\w.heap[b]? =some (.map es c)/\es.size=l.length/\tH<an/\(l.map (ji tH)).Nodup/\
  ∀i,i<l.length->∃e,es[i]? =some e/\(l.getD i []).length=an/\kd ((l.getD i []).take tH)/\nX Z w ((l.getD i []).take tH) e.key/\q6 Z w ((l.getD i []).drop tH) e.val
 | .cells l=>∃b aI e,aw.a=some ⟨b,0,none⟩/\aw.bE=some b/\w.heap[b]? =some (.cells aI e (0,0))/\aI.size=l.length/\
  ∀i,i<l.length->eE Z w ρ I (l.getD i .un) (aI.getD i undef)
 | .af k l=>(l=[]/\aw.cap=0)\/∃b aI e,aw.a=some ⟨b,0,none⟩/\aw.bE=some b/\w.heap[b]? =some (.cells aI e (0,0))/\
  l.length<=aw.cap/\aw.cap<=aI.size/\∀i,i<l.length->aI[i]? =some (.int k (l.getD i 0))
 | .av an l=>(l=[]/\aw.cap=0)\/∃b aI e,aw.a=some ⟨b,0,none⟩/\aw.bE=some b/\w.heap[b]? =some (.cells aI e (0,0))/\
  l.length<=aw.cap/\aw.cap*an<=aI.size/\0<an/\∀i j,i<l.length->j<an->∃v,aI[i*an+j]? =some v/\bA Z w ((l.getD i []).getD j .undef) v
def hq (I:aF)(i:Nat):Prop:=cw I i=true/\∃n an,ag.at I i= .dead n an
theorem nY {I:aF}{i:Nat}(h:cw I i=false):¬hq I i:=fun⟨aa,_⟩=>by rw[h]at aa;cases aa
structure ct (N:Nat->Prop)(ρ:List Loc)(I:aF)(w:World):Prop where
 len:ρ.length=I.length
 fC:∀b,N b->b<w.heap.size
 lt:∀(i:Nat) (aw:Loc) (b:Nat),ρ[i]? =some aw->aw.bE=some b->b<w.heap.size
 inj:∀(i j:Nat) (li cF:Loc) (b:Nat),ρ[i]? =some li->ρ[j]? =some cF->li.bE=some b->cF.bE=some b->¬hq I i->¬hq I j->i=j
 fR:∀(i:Nat) (aw:Loc) (b:Nat),ρ[i]? =some aw->aw.bE=some b->¬N b
 ob:∀(i:Nat) (aw:Loc),ρ[i]? =some aw->h9 (aL N ρ I) w ρ I aw (ag.at I i)
structure Fr (ρ:List Loc)(I:aF)(w:World)(ρ':List Loc)(al:aF)(w':World):Prop where
 os:w'.os=w.os
 tape:w'.tape=w.tape
 output:w'.output=w.output
 size:w.heap.size<=w'.heap.size
 ar:∀b,b<w.heap.size->¬gJ ρ I b->w'.heap[b]? =w.heap[b]?
 alive:∀b,gJ ρ' al b->gJ ρ I b\/w.heap.size<=b
theorem Fr.refl (ρ:List Loc)(I:aF)(w:World):Fr ρ I w ρ I w:=⟨rfl,rfl,rfl,aoH _,fun _ _ _=>rfl,fun _ h=> .inl h⟩
theorem Fr.trans {ρ eH dN:List Loc}{I c1 m0:aF}{w w1 dq:World}(h:Fr ρ I w eH c1 w1)(k:Fr eH c1 w1 dN m0 dq):Fr ρ I w dN m0 dq:=by
 refine⟨k.os.trans h.os,k.tape.trans h.tape,k.output.trans h.output,aoV h.size k.size,fun b ah aS=> ?_,fun b ah=> ?_⟩
 ·have aa:=h.ar b ah aS
  have ad:¬gJ eH c1 b:=fun ak=>by
   rcases h.alive b ak with ax|ax
   ·exact aS ax
   ·omega
  rw[k.ar b (aoZ ah h.size) ad,aa]
 ·rcases k.alive b ah with aa|aa
  ·exact h.alive b aa
  ·exact .inr (aoV h.size aa)
theorem Fr.reads {N:Nat->Prop}{ρ ρ':List Loc}{I al:aF}{w w':World}(h:Fr ρ I w ρ' al w'){x:U}{v:Value}
 (ao:bA (aL N ρ I) w x v):bA (aL N ρ' al) w' x v:=
 ao.mono fun b bG bm=>⟨h.ar b bG fun aS=>bm (.inr aS),fun dn=>by
  rcases dn with aB|aS
  ·exact bm (.inl aB)
  ·rcases h.alive b aS with aa|aa
   ·exact bm (.inr aa)
   ·omega⟩
def R.ly (id:Nat):R->Prop
 | .vec i=>i=id
 | .ptr i _=>i=id
 | .optr i _ _=>i=id
 | .oat i _ _=>i=id
 | .mp i=>i=id
 | .tail i _=>i=id
 |_=>False
def eR (ρ:List Loc)(I:aF)(ρ':List Loc)(al:aF)(id:Nat):Prop:=
 ∀aw,ρ[id]? =some aw->ρ'[id]? =some aw/\(ag.at al id).len=(ag.at I id).len/\(ag.at al id).cL=(ag.at I id).cL
theorem eE.mono {Z Z':Nat->Prop}{w w':World}{ρ ρ':List Loc}{I al:aF}{t:R}{v:Value}(h:eE Z w ρ I t v)
 (ao:∀x u,bA Z w x u->bA Z' w' x u) (ay:∀id,t.ly id->eR ρ I ρ' al id):eE Z' w' ρ' al t v:=by
 cases t<;>simp only[eE]at h⊢<;>try exact h
 case d x=>exact ao _ _ h
 case vec id=>
  obtain⟨aw,aa,ad⟩:=h;obtain⟨a7,bl,_⟩:=ay id rfl aw aa;exact⟨aw,a7,by rw[bl];exact ad⟩
 case ptr id off=>
  obtain⟨aw,b,aa,ad⟩:=h;exact⟨aw,b,(ay id rfl aw aa).1,ad⟩
 case optr id i j=>
  obtain⟨aw,b,aa,ad,ax,aV,bp⟩:=h;obtain⟨a7,bl,bH⟩:=ay id rfl aw aa;exact⟨aw,b,a7,ad,ax,by rw[bH];exact aV,by rw[bl];exact bp⟩
 case rptr x i j=>
  obtain⟨b,off,cap,aa,ad⟩:=h;exact⟨b,off,cap,ao _ _ aa,ad⟩
 case oat id i j=>
  obtain⟨aw,b,aa,ad,ax,aV,bp,b1,fM⟩:=h;obtain⟨a7,bl,bH⟩:=ay id rfl aw aa;exact⟨aw,b,a7,ad,ax,by rw[bH];exact aV,bp,by rw[bl];exact b1,by rw[bH];exact fM⟩
 case rat x i j=>
  obtain⟨b,off,cap,aa,ad⟩:=h;exact⟨b,off,cap,ao _ _ aa,ad⟩
 case mp id=>
  obtain⟨aw,b,aa,ad⟩:=h;exact⟨aw,b,(ay id rfl aw aa).1,ad⟩
 case tail id i=>
  obtain⟨aw,b,aa,ad,ax,aV,bp⟩:=h;obtain⟨a7,bl,bH⟩:=ay id rfl aw aa;exact⟨aw,b,a7,ad,ax,by rw[bl,bH];exact aV,by rw[bl];exact bp⟩
def R.Ie (id:Nat):R->Prop
 | .agg l=>∃i,i<l.length/\(l.getD i .un).ly id
 |t=>t.ly id
def R.names (id:Nat):R->Prop
 | .tup l=>∃i,i<l.length/\(l.getD i .un).Ie id
 |t=>t.Ie id
theorem iq.mono {Z Z':Nat->Prop}{w w':World}{ρ ρ':List Loc}{I al:aF}{t:R}{v:Value}(h:iq Z w ρ I t v)
 (ao:∀x u,bA Z w x u->bA Z' w' x u) (ay:∀id,t.Ie id->eR ρ I ρ' al id):iq Z' w' ρ' al t v:=by
 cases t
 case agg l=>
  obtain⟨a,aa,ad,ax⟩:=h;exact⟨a,aa,ad,fun i hi=>(ax i hi).mono ao fun id dR=>ay id ⟨i,hi,dR⟩⟩
 case rw n r=>
  obtain⟨a,aa,ad,aV,ax⟩:=h;exact⟨a,aa,ad,aV,fun i hi=>ao _ _ (ax i hi)⟩
 all_goals (unfold iq at h⊢;exact eE.mono h ao fun id dR=>ay id dR)
theorem bF.mono {Z Z':Nat->Prop}{w w':World}{ρ ρ':List Loc}{I al:aF}{t:R}{v:Value}(h:bF Z w ρ I t v)
 (ao:∀x u,bA Z w x u->bA Z' w' x u) (ay:∀id,t.names id->eR ρ I ρ' al id):bF Z' w' ρ' al t v:=by
 cases t
 case tup l=>
  obtain⟨a,aa,ad,ax⟩:=h;exact⟨a,aa,ad,fun i hi=>(ax i hi).mono ao fun id dR=>ay id ⟨i,hi,dR⟩⟩
 all_goals (unfold bF at h⊢;exact iq.mono h ao fun id dR=>ay id dR)
theorem iq.dc {Z:Nat->Prop}{w:World}{ρ:List Loc}{I:aF}{t:R}{v:Value}(h:eE Z w ρ I t v):iq Z w ρ I t v:=by
 cases t<;>first|exact h|exact h.elim
theorem bF.ht {Z:Nat->Prop}{w:World}{ρ:List Loc}{I:aF}{t:R}{v:Value}(h:iq Z w ρ I t v):bF Z w ρ I t v:=by
 cases t<;>first|exact h|exact h.elim
theorem bF.dc {Z:Nat->Prop}{w:World}{ρ:List Loc}{I:aF}{t:R}{v:Value}(h:eE Z w ρ I t v):bF Z w ρ I t v:= .ht (.dc h)
structure cn (N:Nat->Prop)(ρ:List Loc)(I:aF)(w:World)(ρ':List Loc)(al:aF)(w':World):Prop extends Fr ρ I w ρ' al w' where
 rel:ct N ρ' al w'
 same:∀id,eR ρ I ρ' al id
theorem eR.refl (ρ:List Loc)(I:aF)(id:Nat):eR ρ I ρ I id:=fun _ h=>⟨h,rfl,rfl⟩
theorem cn.refl {N:Nat->Prop}{ρ:List Loc}{I:aF}{w:World}(h:ct N ρ I w):cn N ρ I w ρ I w:=
 {Fr.refl ρ I w with rel:=h,same:=eR.refl ρ I}
theorem cn.lz {N:Nat->Prop}{ρ ρ':List Loc}{I al:aF}{w w':World}(h:cn N ρ I w ρ' al w'){t:R}{v:Value}
 (au:bF (aL N ρ I) w ρ I t v):bF (aL N ρ' al) w' ρ' al t v:=au.mono (fun _ _=>h.toFr.reads) fun id _=>h.same id
structure eg (Z:Nat->Prop)(w:World)(ρ:List Loc)(I:aF)(tm:List R)(tmps:Array Value):Prop where
 size:tmps.size=tm.length
 at_:∀t,bF Z w ρ I (tm.getD t .un) (tmps.getD t undef)
theorem eg.step {N:Nat->Prop}{ρ ρ':List Loc}{I al:aF}{w w':World}(h:cn N ρ I w ρ' al w'){tm:List R}{tmps:Array Value}
 (au:eg (aL N ρ I) w ρ I tm tmps):eg (aL N ρ' al) w' ρ' al tm tmps:=⟨au.size,fun t=>h.lz (au.at_ t)⟩
theorem bF.un {Z:Nat->Prop}{w:World}{ρ:List Loc}{I:aF}:bF Z w ρ I .un undef:=rfl
theorem wa (a:Array Value)(d i:Nat)(v:Value):(a.setIfInBounds d v).getD i undef=if d=i/\d<a.size then v else a.getD i undef:=by
 simp only[aoJ,aqy]
 by_cases h:d=i
 ·subst h
  by_cases az:d<a.size<;>simp[az]
 ·simp[h]
theorem eg.put {Z:Nat->Prop}{w:World}{ρ:List Loc}{I:aF}{tm:List R}{a:Act}{t:R}{v:Value}(h:eg Z w ρ I tm a.tmps)(dst:Option Tmp)
 (aM:bF Z w ρ I t v):eg Z w ρ I (put tm dst t) (a.put dst v).tmps:=by
 cases dst with
 |none=>exact h
 |some d=>
  simp only[aj.put,e2,Act.put];refine⟨by simp[h.size],fun i=> ?_⟩;rw[e1,wa,h.size];split
  ·exact aM
  ·exact h.at_ i
end Go.aj
end
section
namespace Go.aj
theorem gM (I:aF)(p:Bool×ag)(i:Nat):ag.at (I++[p]) i=if i=I.length then p.2 else ag.at I i:=by
 simp only[ag.at,d_,aoC,ao7]
 by_cases h:i<I.length
 ·rw[aoB h,aoA (by omega)]
 ·rw[aoA h]
  by_cases e:i=I.length
  ·rw[aoB e];simp[e]
  ·rw[aoA e,api (by simp;omega),api (by omega)]
theorem kH (I:aF)(p:Bool×ag)(i:Nat):cw (I++[p]) i=if i=I.length then p.1 else cw I i:=by
 simp only[cw,d_,aoC,ao7]
 by_cases h:i<I.length
 ·rw[aoB h,aoA (by omega)]
 ·rw[aoA h]
  by_cases e:i=I.length
  ·rw[aoB e];simp[e]
  ·rw[aoA e,api (by simp;omega),api (by omega)]
theorem gN (I:aF)(id:Nat)(p:Bool×ag)(i:Nat):ag.at (I.set id p) i=if id=i/\id<I.length then p.2 else ag.at I i:=by
 simp only[ag.at,d_,e1];split<;>rfl
theorem ir (I:aF)(id:Nat)(p:Bool×ag)(i:Nat):cw (I.set id p) i=if id=i/\id<I.length then p.1 else cw I i:=by
 simp only[cw,d_,e1];split<;>rfl
theorem Rt (I:aF)(i:Nat)(h:I.length<=i):cw I i=true:=by simp[cw,d_,aoC,api h]
theorem ct.jW {N:Nat->Prop}{ρ:List Loc}{I:aF}{w:World}(h:ct N ρ I w){i:Nat}{aw:Loc}(hi:ρ[i]? =some aw):i<I.length:=by
 rw[<-h.len];exact(apt.1 hi).1
structure anD (ex:Nat->Prop)(N:Nat->Prop)(ρ:List Loc)(I:aF)(w:World)(ρ':List Loc)(al:aF)(w':World):Prop extends Fr ρ I w ρ' al w' where
 rel:ct N ρ' al w'
 same:∀id,¬ex id->eR ρ I ρ' al id
theorem h9.mono {Z Z':Nat->Prop}{w w':World}{ρ ρ':List Loc}{I al:aF}{aw:Loc}{o:ag}(h:h9 Z w ρ I aw o)
 (ah:∀b,aw.bE=some b->w'.heap[b]? =w.heap[b]?) (ao:∀x u,bA Z w x u->bA Z' w' x u)
 (ay:∀l,o= .cells l->∀k id,k<l.length->(l.getD k .un).ly id->eR ρ I ρ' al id):h9 Z' w' ρ' al aw o:=by
 cases o with
 |gone=>trivial
 |dead n an=>trivial
 |map tH an l=>
  obtain⟨b,es,c,aa,ad,ax,aV,b1,bp⟩:=h;refine⟨b,es,c,aa,by rw[ah b aa];exact ad,ax,aV,b1,fun i hi=> ?_⟩;obtain⟨e,a7,bl,eZ,bH,dJ⟩:=bp i hi;exact⟨e,a7,bl,eZ,bH.mono ao,dJ.mono ao⟩
 |cells l=>
  obtain⟨b,aI,e,aa,ad,ax,aV,bp⟩:=h;exact⟨b,aI,e,aa,ad,by rw[ah b ad];exact ax,aV,fun i hi=>(bp i hi).mono ao (fun id aB=>ay l rfl i id hi aB)⟩
 |af k l=>
  rcases h with h|⟨b,aI,e,aa,ad,ax,aV⟩
  ·exact .inl h
  ·exact .inr ⟨b,aI,e,aa,ad,by rw[ah b ad];exact ax,aV⟩
 |av an l=>
  rcases h with h|⟨b,aI,e,aa,ad,ax,aV,bp,fM,b1⟩
  ·exact .inl h
  ·refine .inr ⟨b,aI,e,aa,ad,by rw[ah b ad];exact ax,aV,bp,fM,fun i j hi aK=> ?_⟩;obtain⟨v,aM,qj⟩:=b1 i j hi aK;exact⟨v,aM,ao _ _ qj⟩
theorem ct.Er {N:Nat->Prop}{ρ ρ':List Loc}{I al:aF}{w w':World}(h:ct N ρ I w)(aT:Fr ρ I w ρ' al w')(hlen:ρ'.length=al.length)
 (ay:∀i l,ag.at I i= .cells l->∀k id,k<l.length->(l.getD k .un).ly id->eR ρ I ρ' al id)
 (hi:∀i aw,ρ'[i]? =some aw->
   (ρ[i]? =some aw/\ag.at al i=ag.at I i/\(cw al i=false->cw I i=false)/\(¬hq I i->∀b,aw.bE=some b->w'.heap[b]? =w.heap[b]?))\/
   ((∀b,aw.bE=some b->b<w'.heap.size/\¬N b/\∀j cF,ρ'[j]? =some cF->cF.bE=some b->¬hq al j->j=i)/\
     h9 (aL N ρ' al) w' ρ' al aw (ag.at al i))):ct N ρ' al w' where
 len:=hlen
 fC:=fun b ah=>aoZ (h.fC b ah) aT.size
 lt:=fun i aw b aa ad=>by
  rcases hi i aw aa with⟨a7,_⟩|⟨k,_⟩
  ·exact aoZ (h.lt i aw b a7 ad) aT.size
  ·exact(k b ad).1
 inj:=fun i j li cF b aa ad ax aV s1 s2=>by
  have back:∀i,ag.at al i=ag.at I i->(cw al i=false->cw I i=false)->¬hq al i->¬hq I i:=fun i aA aG s ⟨f,n,an,e⟩=>by
   refine s ⟨?_,n,an,by rw[aA];exact e⟩
   cases ak:cw al i with
   |true=>rfl
   |false=>rw[aG ak]at f;cases f
  rcases hi i li aa with⟨a7,bl,bH,_⟩|⟨k,_⟩
  ·rcases hi j cF ad with⟨q1,cI,cV,_⟩|⟨cz,_⟩
   ·exact h.inj i j li cF b a7 q1 ax aV (back i bl bH s1) (back j cI cV s2)
   ·exact(cz b aV).2.2 i li aa ax s1
  ·exact((k b ax).2.2 j cF ad aV s2).symm
 fR:=fun i aw b aa ad=>by
  rcases hi i aw aa with⟨a7,_⟩|⟨k,_⟩
  ·exact h.fR i aw b a7 ad
  ·exact(k b ad).2.1
 ob:=fun i aw aa=>by
  rcases hi i aw aa with⟨a7,bl,_,dJ⟩|⟨_,k⟩
  ·rw[bl]
   by_cases s:hq I i
   ·obtain⟨_,n,an,e⟩:=s;rw[e];trivial
   ·exact(h.ob i aw a7).mono (dJ s) (fun _ _=>aT.reads) (fun l az k id ae aB=>ay i l az k id ae aB)
  ·exact k
theorem ct.tc {N:Nat->Prop}{ρ ρ':List Loc}{I al:aF}{w w':World}(h:ct N ρ I w)(aT:Fr ρ I w ρ' al w')(hlen:ρ'.length=al.length)
 (ay:∀i l,ag.at I i= .cells l->∀k id,k<l.length->(l.getD k .un).ly id->eR ρ I ρ' al id)
 (hi:∀i aw,ρ'[i]? =some aw->
   (ρ[i]? =some aw/\ag.at al i=ag.at I i/\(cw al i=false->cw I i=false)/\∀b,aw.bE=some b->w'.heap[b]? =w.heap[b]?)\/
   ((∀b,aw.bE=some b->b<w'.heap.size/\¬N b/\∀j cF,ρ'[j]? =some cF->cF.bE=some b->¬hq al j->j=i)/\
     h9 (aL N ρ' al) w' ρ' al aw (ag.at al i))):ct N ρ' al w':=
 h.Er aT hlen ay fun i aw az=>(hi i aw az).imp (fun⟨a7,bl,bH,dJ⟩=>⟨a7,bl,bH,fun _=>dJ⟩) id
theorem cn.alloc {N:Nat->Prop}{ρ:List Loc}{I:aF}{w:World}(h:ct N ρ I w)(f:Bool)(ob:ag)(obj:Obj)(cap:Nat)
 (aH:h9 (aL N (ρ++[⟨some ⟨w.heap.size,0,none⟩,cap,some w.heap.size⟩]) (I++[(f,ob)])) (w.alloc obj)
   (ρ++[⟨some ⟨w.heap.size,0,none⟩,cap,some w.heap.size⟩]) (I++[(f,ob)]) ⟨some ⟨w.heap.size,0,none⟩,cap,some w.heap.size⟩ ob):
 cn N ρ I w (ρ++[⟨some ⟨w.heap.size,0,none⟩,cap,some w.heap.size⟩]) (I++[(f,ob)]) (w.alloc obj):=by
 have cH:Fr ρ I w (ρ++[⟨some ⟨w.heap.size,0,none⟩,cap,some w.heap.size⟩]) (I++[(f,ob)]) (w.alloc obj):=by
  refine⟨rfl,rfl,rfl,by simp,fun b ah _=>heap_alloc_old w obj b ah,fun b ⟨i,aw,aa,ad,ax⟩=> ?_⟩;rw[ao7]at aa
  by_cases hi:i<ρ.length
  ·rw[aoB hi]at aa;rw[kH,aoA (by rw[<-h.len];omega)]at ax;exact .inl ⟨i,aw,aa,ad,ax⟩
  ·rw[aoA hi]at aa
   cases aY:i-ρ.length with
   |zero=>simp[aY]at aa;subst aa;simp at ad;exact .inr (by omega)
   |succ n=>simp[aY]at aa
 have e9:∀id,eR ρ I (ρ++[⟨some ⟨w.heap.size,0,none⟩,cap,some w.heap.size⟩]) (I++[(f,ob)]) id:=fun id aw az=>by
  have:=h.jW az;refine⟨by rw[apy (by rw[h.len];exact this)];exact az, ?_⟩;rw[gM,aoA (by omega)];exact⟨rfl,rfl⟩
 refine{cH with rel:=h.tc cH (by simp[h.len]) (fun _ _ _ _ id _ _=>e9 id) (fun i aw az=> ?_),same:=e9};rw[ao7]at az
 by_cases hi:i<ρ.length
 ·rw[aoB hi]at az;refine .inl ⟨az,by rw[gM,aoA (by rw[<-h.len];omega)],fun ak=>by rwa [kH,aoA (by rw[<-h.len];omega)]at ak,fun b ah=> ?_⟩;exact heap_alloc_old w obj b (h.lt i aw b az ah)
 ·rw[aoA hi]at az
  cases aY:i-ρ.length with
  |succ n=>simp[aY]at az
  |zero=>
   simp[aY]at az;subst az;have eJ:i=I.length:=by rw[<-h.len];omega
   refine .inr ⟨fun b ah=> ?_,by rw[eJ,gM,aoB rfl];exact aH⟩;simp at ah;subst ah;refine⟨by simp,fun aB=>absurd (h.fC _ aB) (by omega),fun j cF aK ah _=> ?_⟩;rw[ao7]at aK
   by_cases iI:j<ρ.length
   ·rw[aoB iI]at aK;have:=h.lt j cF _ aK ah;omega
   ·rw[aoA iI]at aK
    cases hU:j-ρ.length with
    |zero=>omega
    |succ n=>simp[hU]at aK
theorem cn.Ru {N:Nat->Prop}{ρ:List Loc}{I:aF}{w:World}(h:ct N ρ I w)(id:Nat)(aw:Loc)(b:Nat)(dR:ρ[id]? =some aw)(ah:aw.bE=some b)
 (aT:cw I id=false) (ob:ag) (az:ob.len=(ag.at I id).len) (he:ob.cL=(ag.at I id).cL) (w':World) (aa:w'.os=w.os) (ad:w'.tape=w.tape) (ax:w'.output=w.output) (cr:w'.heap.size=w.heap.size) (mj:∀x,x≠b->w'.heap[x]? =w.heap[x]?)
 (aH:h9 (aL N ρ (I.set id (false,ob))) w' ρ (I.set id (false,ob)) aw ob):
 cn N ρ I w ρ (I.set id (false,ob)) w':=by
 have bG:=h.jW dR
 have iV:∀x,gJ ρ (I.set id (false,ob)) x->gJ ρ I x:=fun x ⟨i,l,aa,ad,ax⟩=>by
  rw[ir]at ax
  by_cases e:id=i
  ·subst e;exact⟨id,l,aa,ad,aT⟩
  ·rw[aoA (by simp[e])]at ax;exact⟨i,l,aa,ad,ax⟩
 have cH:Fr ρ I w ρ (I.set id (false,ob)) w':=by
  refine⟨aa,ad,ax,by omega,fun x ak aS=> ?_,fun x ak=> .inl (iV x ak)⟩;exact mj x fun e=>aS ⟨id,aw,dR,e▸ah,aT⟩
 have e9:∀i,eR ρ I ρ (I.set id (false,ob)) i:=fun i l iJ=>by
  refine⟨iJ, ?_⟩;rw[gN]
  by_cases e:id=i
  ·subst e;rw[aoB ⟨rfl,bG⟩];exact⟨az,he⟩
  ·rw[aoA (by simp[e])];exact⟨rfl,rfl⟩
 refine{cH with rel:=h.Er cH (by simp[h.len]) (fun _ _ _ _ i _ _=>e9 i) (fun i l iJ=> ?_),same:=e9}
 by_cases e:id=i
 ·subst e;rw[dR]at iJ;obtain rfl:=aoL iJ;refine .inr ⟨fun x ak=>⟨by rw[cr];exact h.lt id aw x dR ak,h.fR id aw x dR ak,fun j cF aK Jh lY=> ?_⟩, ?_⟩
  ·by_cases e:id=j
   ·exact e.symm
   ·refine h.inj j id cF aw x aK dR Jh ak (fun⟨s1,n,an,s2⟩=>lY ⟨by rw[ir,aoA (by simp[e])];exact s1,n,an,by rw[gN,aoA (by simp[e])];exact s2⟩) (nY aT)
  ·rw[gN,aoB ⟨rfl,bG⟩];exact aH
 ·refine .inl ⟨iJ,by rw[gN,aoA (by simp[e])],fun ak=>by rwa [ir,aoA (by simp[e])]at ak,fun j8 x ak=> ?_⟩;exact mj x fun aiQ=>e (h.inj id i aw l b dR iJ ah (aiQ▸ak) (nY aT) j8)
theorem cn.write {N:Nat->Prop}{ρ:List Loc}{I:aF}{w:World}(h:ct N ρ I w)(id:Nat)(aw:Loc)(b:Nat)(dR:ρ[id]? =some aw)(ah:aw.bE=some b)
 (aT:cw I id=false) (ob:ag) (az:ob.len=(ag.at I id).len) (he:ob.cL=(ag.at I id).cL) (cs:Array Value)
 (aH:h9 (aL N ρ (I.set id (false,ob))) (w.setRow b cs) ρ (I.set id (false,ob)) aw ob):
 cn N ρ I w ρ (I.set id (false,ob)) (w.setRow b cs):=
 cn.Ru h id aw b dR ah aT ob az he _ rfl rfl rfl (by simp) (fun x ak=>setRow_other w b x cs ak) aH
theorem cn.shut {N:Nat->Prop}{ρ:List Loc}{I:aF}{w:World}(h:ct N ρ I w)(id:Nat):cn N ρ I w ρ (I.set id (true,ag.at I id)) w:=by
 have iV:∀x,gJ ρ (I.set id (true,ag.at I id)) x->gJ ρ I x:=fun x ⟨i,l,aa,ad,ax⟩=>by
  rw[ir]at ax
  by_cases e:id=i/\id<I.length
  ·rw[aoB e]at ax;cases ax
  ·rw[aoA e]at ax;exact⟨i,l,aa,ad,ax⟩
 have cH:Fr ρ I w ρ (I.set id (true,ag.at I id)) w:=⟨rfl,rfl,rfl,aoH _,fun _ _ _=>rfl,fun x ak=> .inl (iV x ak)⟩
 have cK:∀i,ag.at (I.set id (true,ag.at I id)) i=ag.at I i:=fun i=>by
  rw[gN];split
  ·rename_i e;rw[e.1]
  ·rfl
 have e9:∀i,eR ρ I ρ (I.set id (true,ag.at I id)) i:=fun i l iJ=>⟨iJ,by rw[cK];exact⟨rfl,rfl⟩⟩
 refine{cH with rel:=h.tc cH (by simp[h.len]) (fun _ _ _ _ i _ _=>e9 i) (fun i l iJ=> ?_),same:=e9};refine .inl ⟨iJ,cK i,fun ak=> ?_,fun _ _=>rfl⟩;rw[ir]at ak;split at ak
 ·cases ak
 ·exact ak
theorem cn.drew {N:Nat->Prop}{ρ:List Loc}{I:aF}{w w':World}(h:ct N ρ I w)(ca:w'.heap=w.heap)(aa:w'.os=w.os)(ad:w'.tape=w.tape)(ax:w'.output=w.output):
 cn N ρ I w ρ I w':=by
 have cH:Fr ρ I w ρ I w':=⟨aa,ad,ax,by rw[ca];exact aoH _,fun _ _ _=>by rw[ca],fun x ak=> .inl ak⟩;refine{cH with rel:=h.tc cH h.len (fun _ _ _ _ i _ _=>eR.refl ρ I i) (fun i l iJ=> .inl ⟨iJ,rfl,id,fun _ _=>by rw[ca]⟩),same:=eR.refl ρ I}
theorem cn.trans {N:Nat->Prop}{ρ eH dN:List Loc}{I c1 m0:aF}{w w1 dq:World}(h:cn N ρ I w eH c1 w1)(k:cn N eH c1 w1 dN m0 dq):cn N ρ I w dN m0 dq:=
 {h.toFr.trans k.toFr with
  rel:=k.rel
  same:=fun id aw az=>by
   obtain⟨a,b,c⟩:=h.same id aw az;obtain⟨b5,ey,x0⟩:=k.same id aw a
   exact⟨b5,ey.trans b,x0.trans c⟩}
theorem XA (id:Nat)(t:R):fI id t= .any\/(fI id t=t/\¬t.ly id):=by
 cases t with
 |vec j=>
  by_cases e:j=id
  ·subst e;exact .inl (by simp[fI])
  ·have aK:Nat.beq j id=false:=by
    cases ah:Nat.beq j id with
    |false=>rfl
    |true=>exact absurd (aoE ah) e
   exact .inr ⟨by simp[fI,aK],e⟩
 |ptr j x=>
  by_cases e:j=id
  ·subst e;exact .inl (by simp[fI])
  ·have aK:Nat.beq j id=false:=by
    cases ah:Nat.beq j id with
    |false=>rfl
    |true=>exact absurd (aoE ah) e
   exact .inr ⟨by simp[fI,aK],e⟩
 |optr j x y=>
  by_cases e:j=id
  ·subst e;exact .inl (by simp[fI])
  ·have aK:Nat.beq j id=false:=by
    cases ah:Nat.beq j id with
    |false=>rfl
    |true=>exact absurd (aoE ah) e
   exact .inr ⟨by simp[fI,aK],e⟩
 |oat j x y=>
  by_cases e:j=id
  ·subst e;exact .inl (by simp[fI])
  ·have aK:Nat.beq j id=false:=by
    cases ah:Nat.beq j id with
    |false=>rfl
    |true=>exact absurd (aoE ah) e
   exact .inr ⟨by simp[fI,aK],e⟩
 |mp j=>
  by_cases e:j=id
  ·subst e;exact .inl (by simp[fI])
  ·have aK:Nat.beq j id=false:=by
    cases ah:Nat.beq j id with
    |false=>rfl
    |true=>exact absurd (aoE ah) e
   exact .inr ⟨by simp[fI,aK],e⟩
 |tail j x=>
  by_cases e:j=id
  ·subst e;exact .inl (by simp[fI])
  ·have aK:Nat.beq j id=false:=by
    cases ah:Nat.beq j id with
    |false=>rfl
    |true=>exact absurd (aoE ah) e
   exact .inr ⟨by simp[fI,aK],e⟩
 |_=>exact .inr ⟨rfl,fun h=>h⟩
theorem eE.kill {Z Z':Nat->Prop}{w w':World}{ρ ρ':List Loc}{I al:aF}{t:R}{v:Value}(id:Nat)(h:eE Z w ρ I t v)
 (ao:∀x u,bA Z w x u->bA Z' w' x u) (ay:∀i,i≠id->eR ρ I ρ' al i):eE Z' w' ρ' al (fI id t) v:=by
 rcases XA id t with e|⟨e,aB⟩
 ·rw[e];trivial
 ·rw[e];exact h.mono ao fun i hi=>ay i fun dR=>aB (dR▸hi)
theorem WZ {Z:Nat->Prop}{w:World}{ρ:List Loc}{I:aF}{v:Value}(t:R)(aa:∀l,t≠ .agg l)(ad:∀l,t≠ .tup l)(ax:∀n r,t≠ .rw n r):
 bF Z w ρ I t v=eE Z w ρ I t v:=by
 cases t with
 |agg l=>exact absurd rfl (aa l)
 |rw n r=>exact absurd rfl (ax n r)
 |tup l=>exact absurd rfl (ad l)
 |_=>rfl
theorem bF.kill {Z Z':Nat->Prop}{w w':World}{ρ ρ':List Loc}{I al:aF}{t:R}{v:Value}(id:Nat)(h:bF Z w ρ I t v)
 (ao:∀x u,bA Z w x u->bA Z' w' x u) (ay:∀i,i≠id->eR ρ I ρ' al i):bF Z' w' ρ' al (ep id t) v:=by
 cases t with
 |agg l=>
  obtain⟨a,aa,ad,ax⟩:=h;refine⟨a,aa,by rw[dP,aoK];exact ad,fun i hi=> ?_⟩;rw[dP]at hi⊢;simp only[aoK]at hi;have:=(ax i hi).kill id ao ay;simpa[aoC,hi]using this
 |tup l=>trivial
 |rw n r=>
  obtain⟨a,aA,aG,cY,bR⟩:=h;exact⟨a,aA,aG,cY,fun i hi=>ao _ _ (bR i hi)⟩
 |_=>rw[WZ _ (by simp) (by simp) (by simp)]at h;exact .dc (eE.kill id h ao ay)
theorem abe (id:Nat)(o:ag):(o.kill id).len=o.len/\(o.kill id).cL=o.cL:=by
 cases o<;>simp[ag.kill,ag.len,ag.cL,dP]
theorem HQ (id:Nat)(I:aF)(i:Nat):ag.at (gH id I) i=(ag.at I i).kill id:=by
 simp only[ag.at,gH,dP,d_,aoC,apv];cases I[i]? <;>rfl
theorem acY (id:Nat)(I:aF)(i:Nat):cw (gH id I) i=cw I i:=by
 simp only[cw,gH,dP,d_,aoC,apv];cases I[i]? <;>rfl
theorem abf (id:Nat)(I:aF):(gH id I).length=I.length:=by simp[gH,dP]
theorem Hs {N:Nat->Prop}{ρ:List Loc}{I:aF}{w w':World}(h:ct N ρ I w)(id:Nat)(iY:Loc)(dR:id<I.length)(ob:ag)(ae:ob.kill id=ob)
 (aT:cw I id=false)
 (aa:w'.os=w.os) (ad:w'.tape=w.tape) (ax:w'.output=w.output) (cr:w.heap.size<=w'.heap.size)
 (sT:∀b,b<w.heap.size->(∀aw,ρ[id]? =some aw->aw.bE≠some b)->w'.heap[b]? =w.heap[b]?)
 (lF:∀b,iY.bE=some b->b<w'.heap.size/\¬N b/\(w.heap.size<=b\/∃aw,ρ[id]? =some aw/\aw.bE=some b))
 (aH:∀Z jX gz,(∀b,b<w.heap.size->¬aL N ρ I b->¬Z b)->h9 Z w' jX gz iY ob):
 let al:=gH id (I.set id (false,ob))
 ct N (ρ.set id iY) al w'/\Fr ρ I w (ρ.set id iY) al w'/\∀i,i≠id->eR ρ I (ρ.set id iY) al i:=by
 intro al;have hlen:id<ρ.length:=by rw[h.len];exact dR
 have cK:∀i,ag.at al i=if i=id then ob else(ag.at I i).kill id:=fun i=>by
  show ag.at (gH id (I.set id (false,ob))) i=_;rw[HQ,gN]
  by_cases e:i=id
  ·subst e;rw[aoB ⟨rfl,dR⟩,aoB rfl];exact ae
  ·rw[aoA (fun x=>e x.1.symm),aoA e]
 have en:∀i,cw al i=cw I i:=fun i=>by
  show cw (gH id (I.set id (false,ob))) i=_;rw[acY,ir];split
  ·rename_i e;rw[<-e.1];exact aT.symm
  ·rfl
 have iV:∀x,gJ (ρ.set id iY) al x->gJ ρ I x\/w.heap.size<=x:=fun x ⟨i,l,a7,bl,bH⟩=>by
  rw[apo]at a7
  by_cases e:id=i
  ·rw[aoB e,aoB hlen]at a7;obtain rfl:=aoL a7;rcases(lF x bl).2.2 with ca|⟨aw,az,ah⟩
   ·exact .inr ca
   ·exact .inl ⟨id,aw,az,ah,aT⟩
  ·rw[aoA e]at a7;exact .inl ⟨i,l,a7,bl,by rw[<-en];exact bH⟩
 have cH:Fr ρ I w (ρ.set id iY) al w':=
  ⟨aa,ad,ax,cr,fun b ah aS=>sT b ah fun aw az ak=>aS ⟨id,aw,az,ak,aT⟩,iV⟩
 have e9:∀i,i≠id->eR ρ I (ρ.set id iY) al i:=fun i hi aw az=>by
  refine⟨by rw[apo,aoA (apq hi)];exact az, ?_⟩;rw[cK,aoA hi];exact abe id _
 refine⟨?_,cH,e9⟩;refine{len:=by simp[al,abf,h.len],fC:=fun b ah=>aoZ (h.fC b ah) cr,lt:= ?_,inj:= ?_,fR:= ?_,ob:= ?_}
 ·intro i aw b az ah;rw[apo]at az
  by_cases e:id=i
  ·rw[aoB e,aoB hlen]at az;obtain rfl:=aoL az;exact(lF b ah).1
  ·rw[aoA e]at az;exact aoZ (h.lt i aw b az ah) cr
 ·have back:∀i,id≠i->¬hq al i->¬hq I i:=fun i e s ⟨s1,n,an,s2⟩=>s ⟨by rw[en];exact s1,n,an,by rw[cK,aoA (apq e),s2];rfl⟩
  have key:∀j cF b,id≠j->ρ[j]? =some cF->cF.bE=some b->iY.bE=some b->¬hq al j->False:=fun j cF b e aK ah hJ lY=>by
   rcases(lF b hJ).2.2 with ca|⟨aw,az,ak⟩
   ·have:=h.lt j cF b aK ah;omega
   ·exact e (h.inj id j aw cF b az aK ak ah (nY aT) (back j e lY))
  intro i j li cF b hi aK m8 m9 j8 lY;rw[apo]at hi aK
  by_cases e:id=i
  ·by_cases cb:id=j
   ·rw[<-e,<-cb]
   ·rw[aoB e,aoB hlen]at hi;rw[aoA cb]at aK;obtain rfl:=aoL hi;exact(key j cF b cb aK m9 m8 lY).elim
  ·rw[aoA e]at hi
   by_cases cb:id=j
   ·rw[aoB cb,aoB hlen]at aK;obtain rfl:=aoL aK;exact(key i li b e hi m8 m9 j8).elim
   ·rw[aoA cb]at aK;exact h.inj i j li cF b hi aK m8 m9 (back i e j8) (back j cb lY)
 ·intro i aw b az ah;rw[apo]at az
  by_cases e:id=i
  ·rw[aoB e,aoB hlen]at az;obtain rfl:=aoL az;exact(lF b ah).2.1
  ·rw[aoA e]at az;exact h.fR i aw b az ah
 ·intro i aw az;rw[apo]at az
  by_cases e:id=i
  ·rw[aoB e,aoB hlen]at az;obtain rfl:=aoL az;rw[cK,aoB e.symm];refine aH _ _ _ fun b ah bm dn=> ?_;rcases dn with aB|aS
   ·exact bm (.inl aB)
   ·rcases iV b aS with ca|ca
    ·exact bm (.inr ca)
    ·omega
  ·rw[aoA e]at az;rw[cK,aoA (apq e)];have cf:=h.ob i aw az
   by_cases j8:hq I i
   ·obtain⟨_,n,an,s2⟩:=j8;rw[s2];trivial
   have Ji:∀b,aw.bE=some b->w'.heap[b]? =w.heap[b]? :=fun b ah=>
    sT b (h.lt i aw b az ah) fun l iJ ak=>e (h.inj id i l aw b iJ az ak ah (nY aT) j8)
   cases h0:ag.at I i with
   |cells l=>
    rw[h0]at cf;obtain⟨b,aI,FK,a7,bl,bH,dJ,eZ⟩:=cf;refine⟨b,aI,FK,a7,bl,by rw[Ji b bl];exact bH,by rw[dP,aoK];exact dJ,fun k td=> ?_⟩;rw[dP]at td⊢;simp only[aoK]at td;have:=(eZ k td).kill id (fun _ _=>cH.reads (N:=N)) e9;simpa[aoC,td]using this
   |_=>
    rw[h0]at cf;exact cf.mono Ji (fun _ _=>cH.reads) (fun l az=>by cases az)
end Go.aj
end
section
namespace Go.aj
section
variable {P:Program} {N:Nat->Prop} {ρ:List Loc} {I:aF} {w:World}
def Good (P:Program)(N:Nat->Prop)(ρ:List Loc)(I:aF)(w:World)(s:Sem Next)(v:R)(al:aF):Prop:=
 ∃oF w' ρ' u,s.run P w= .ok oF w'/\(oF= .value u\/(oF= .skip/\u=undef))/\cn N ρ I w ρ' al w'/\bF (aL N ρ' al) w' ρ' al v u
theorem Good.aec (h:ct N ρ I w){s:Sem Value}{u:Value}{v:R}(ay:s.run P w= .ok u w)(aM:bF (aL N ρ I) w ρ I v u):
 Good P N ρ I w (do pure (.value (<-s))) v I:=
 ⟨.value u,w,ρ,u,by simp[ay], .inl rfl,cn.refl h,aM⟩
theorem Good.zg (h:ct N ρ I w){u:Value}{v:R}(aM:bF (aL N ρ I) w ρ I v u):
 Good P N ρ I w (pure (.value u)) v I:=⟨.value u,w,ρ,u,rfl, .inl rfl,cn.refl h,aM⟩
theorem abg (Z:Nat->Prop)(v:Value):bF Z w ρ I (tI v) v:=by
 have bc:∀v:Value,eE Z w ρ I (o9 v) v:=by
  intro v;unfold o9;split
  ·exact .int _ _
  ·rfl
  ·rfl
  ·exact .str _ _ (by rw[dP];rfl)
  ·exact⟨none,rfl⟩
  ·rfl
  ·trivial
 cases v with
 |agg cs=>
  refine .ht ⟨cs,rfl,by simp[dP],fun i hi=> ?_⟩;simp only[dP,apH,aoK]at hi⊢
  have:(cs.toList.map o9).getD i .un=o9 (cs.getD i undef):=by
   simp[aoC,aoJ,hi]
  rw[this];exact bc _
 |_=>unfold tI;exact .dc (bc _)
theorem eA {tm:List R}{a:Act}(h:eg (aL N ρ I) w ρ I tm a.tmps)(x:Operand):bF (aL N ρ I) w ρ I (a_ tm x) (a.eval x):=by
 cases x with
 |tmp t=>rw[a_,d_];exact h.at_ t
 |const v=>exact abg _ v
 |global g=>exact .dc trivial
 |func f=>exact .dc rfl
theorem jt {a b:IntKind}:jy a b=true↔a=b:=by cases a<;>cases b<;>simp[jy]
theorem jh {Z:Nat->Prop}{k:IntKind}{n:Int}{u:Value}(h:bF Z w ρ I (.d (.int k n)) u):u= .int k n:=by
 have h:bA Z w (.int k n) u:=h;cases h;rfl
theorem mL {Z:Nat->Prop}{b:Bool}{u:Value}(h:bF Z w ρ I (.d (.bool b)) u):u= .bool b:=by
 have h:bA Z w (.bool b) u:=h;cases h;rfl
theorem uc {Z:Nat->Prop}{l:List Int}{u:Value}(h:bF Z w ρ I (.d (.str l)) u):∃s:ByteArray,u= .string s/\l=s.data.toList.map fun b=>(b.toNat:Int):=by
 have h:bA Z w (.str l) u:=h
 cases h with
 |str s _ k5=>exact⟨s,rfl,k5⟩
theorem oM {Z:Nat->Prop}(k:IntKind)(n:Int):bF Z w ρ I (.d (.int k n)) (.int k n):= .dc (bA.int k n)
theorem jS {Z:Nat->Prop}(b:Bool):bF Z w ρ I (.d (.bool b)) (.bool b):= .dc (bA.bool b)
theorem Pe {dC:Operand}{b:Int}{tm:List R}{k:IntKind}(ah:a_ tm dC= .d (.int k b))(h:∀p∈DQ dC b,p):b≠0:=by
 unfold DQ at h;split at h
 ·rename_i cz n;simp[a_,tI,o9]at ah;rw[<-ah.2];intro ca;omega
 ·exact h _ (by simp)
theorem Nz {dC:Operand}{b:Int}{tm:List R}{k:IntKind}(ah:a_ tm dC= .d (.int k b))(h:∀p∈CB dC b,p):0<=b:=by
 unfold CB at h;split at h
 ·rename_i cz n;simp[a_,tI,o9]at ah;rw[<-ah.2]
  cases n with
  |ofNat m=>exact apz m
  |negSucc m=>exact(h False (by simp[isNeg])).elim
 ·exact h _ (by simp)
theorem Yn {op:BinOp}{dC:Operand}{k:IntKind}{a b:Int}{ch:List Prop}{v:R}{al:aF}{tm:List R}
 (Ty:a_ tm dC= .d (.int k b)) (h:n9 op dC k a b I= .a6 ch v al) (ay:∀p∈ch,p):
 ∃u,al=I/\(binOp op 0 (.int k a) (.int k b)).run P w= .ok u w/\bF (aL N ρ I) w ρ I v u:=by
 have ae:∀n,bF (aL N ρ I) w ρ I (.d (.int k n)) (.int k n):=oM k
 cases op<;>simp only[n9,bT.a6.injEq,reduceCtorEq]at h<;>obtain⟨rfl,rfl,rfl⟩:=h
 case quo=>exact⟨_,rfl,by simp[binOp,Op.intDiv,Pe Ty ay],ae _⟩
 case rem=>exact⟨_,rfl,by simp[binOp,Op.intDiv,Pe Ty ay],ae _⟩
 case eql=>exact⟨_,rfl,by simp[binOp,Op.intCmp];rfl,by rw[show(a==b)=decide (a=b)from rfl];exact jS _⟩
 case neq=>exact⟨_,rfl,by simp[binOp,Op.intCmp];rfl,by rw[show(a !=b)= !decide (a=b)from rfl];exact jS _⟩
 case lss=>exact⟨_,rfl,by simp[binOp,Op.intCmp],jS _⟩
 case leq=>exact⟨_,rfl,by simp[binOp,Op.intCmp],jS _⟩
 case gtr=>exact⟨_,rfl,by simp[binOp,Op.intCmp],jS _⟩
 case geq=>exact⟨_,rfl,by simp[binOp,Op.intCmp],jS _⟩
 case add=>exact⟨_,rfl,by simp[binOp,Op.intArith],ae _⟩
 case sub=>exact⟨_,rfl,by simp[binOp,Op.intArith],ae _⟩
 case mul=>exact⟨_,rfl,by simp[binOp,Op.intArith],ae _⟩
 case and=>exact⟨_,rfl,by simp only[binOp,Op.intBits,ne_eq,not_true_eq_false,if_false];rfl,ae _⟩
 case or=>exact⟨_,rfl,by simp only[binOp,Op.intBits,ne_eq,not_true_eq_false,if_false];rfl,ae _⟩
 case xor=>exact⟨_,rfl,by simp only[binOp,Op.intBits,ne_eq,not_true_eq_false,if_false];rfl,ae _⟩
 case andNot=>exact⟨_,rfl,by simp only[binOp,Op.intBits,ne_eq,not_true_eq_false,if_false];rfl,ae _⟩
theorem se (op:BinOp)(t:TypeId)(x y:Operand)(a b:Value)(aa:a≠ .nilIface)(ad:∀c,a≠ .agg c):(eqGuard op t x y a b).run P w= .ok () w:=by
 cases op<;>first|rfl|(cases a<;>first|exact absurd rfl aa|exact absurd rfl (ad _)|rfl)
theorem qK {t:TypeId}{i:b4}(hi:c4 P t i=true)(h:iB i.ty=true):∃e,P.underlying t=some (.slice e):=by
 unfold c4 at hi;split at hi<;>simp_all [iB]
theorem NA {t:TypeId}{i:b4}(hi:c4 P t i=true)(h:i.ty= .aE .bool):P.underlying t=some .bool:=by
 unfold c4 at hi;rw[h]at hi;split at hi<;>simp_all
theorem sm {t:TypeId}{i:b4}(hi:c4 P t i=true)(h:i.ty= .aE .str):P.underlying t=some .string:=by
 unfold c4 at hi;rw[h]at hi;split at hi<;>simp_all
theorem XB {op:BinOp}{t:TypeId}{i:b4}(hi:c4 P t i=true){a b:Bool}{ch:List Prop}{v:R}{al:aF}
 (h:jw op i.ty a b I= .a6 ch v al):
 ∃u,al=I/\(binOp op t (.bool a) (.bool b)).run P w= .ok u w/\bF (aL N ρ I) w ρ I v u:=by
 unfold jw at h;split at h<;>simp only[bT.a6.injEq,reduceCtorEq]at h<;>obtain⟨rfl,rfl,rfl⟩:=h
 ·rename_i e;have hu:=NA hi e;refine⟨.bool (a==b),rfl, ?_,jS _⟩;simp only[binOp,Sem.run_bind,run_equal_bool w t a b hu,Result.andThen_ok,Sem.run_pure]
 ·rename_i e;have hu:=NA hi e;refine⟨.bool (!(a==b)),rfl, ?_,jS _⟩;simp only[binOp,Sem.run_bind,run_equal_bool w t a b hu,Result.andThen_ok,Sem.run_pure]
theorem Pf {x y:ByteArray}:(x.toList==y.toList)=decide ((x.data.toList.map fun b=>(b.toNat:Int))=(y.data.toList.map fun b=>(b.toNat:Int))):=by
 rw[ByteArray.toList_eq,ByteArray.toList_eq,Bool.eq_iff_iff];simp only[beq_iff_eq,aoG];constructor
 ·intro h;rw[h]
 ·intro h
  have:∀(p q:List UInt8),p.map (fun b=>(b.toNat:Int))=q.map (fun b=>(b.toNat:Int))->p=q:=by
   intro p
   induction p with
   |nil=>intro q aZ;cases q<;>simp_all
   |cons c r bM=>
    intro q aZ
    cases q with
    |nil=>simp at aZ
    |cons d s=>
     simp only[ape,aqn]at aZ;obtain⟨aa,ad⟩:=aZ;have:c=d:=by apply UInt8.toNat_inj.1;omega
     rw[this,bM s ad]
  exact this _ _ h
theorem W0 (x y:List UInt8):Op.bytesLess x y=wO (x.map fun b=>(b.toNat:Int)) (y.map fun b=>(b.toNat:Int)):=by
 induction x generalizing y with
 |nil=>cases y<;>simp[Op.bytesLess,wO]
 |cons a r bM=>
  cases y with
  |nil=>simp[Op.bytesLess,wO]
  |cons b s=>
   simp only[Op.bytesLess,wO,ape,bM]
   congr 1
   ·rw[Bool.eq_iff_iff];simp[UInt8.lt_iff_toNat_lt]
   ·congr 1
    rw[Bool.eq_iff_iff];simp[<-UInt8.toNat_inj];omega
theorem Yo {op:BinOp}{t:TypeId}{i:b4}(hi:c4 P t i=true){cZ dC:Operand}{tm:List R}{a:Act}(au:eg (aL N ρ I) w ρ I tm a.tmps)
 {ch:List Prop} {v:R} {al:aF} (h:oR op i.ty dC (a_ tm cZ) (a_ tm dC) I= .a6 ch v al) (ay:∀p∈ch,p):
 ∃u,al=I/\(do eqGuard op t cZ dC (a.eval cZ) (a.eval dC);binOp op t (a.eval cZ) (a.eval dC):Sem Value).run P w= .ok u w/\bF (aL N ρ I) w ρ I v u:=by
 have ak:=eA au cZ;have bn:=eA au dC;generalize hex:a_ tm cZ=x at*;generalize rB:a_ tm dC=y at*;generalize a.eval cZ=oG at*;generalize a.eval dC=qx at*;unfold oR at h;split at h
 ·
  rename_i k n cz m;have aA:=jh ak;have aG:=jh bn;subst aA aG;rw[Sem.run_bind,se _ _ _ _ _ _ (by simp) (by simp),Result.andThen_ok];split at h
  ·simp only[bT.a6.injEq]at h;obtain⟨rfl,rfl,rfl⟩:=h;have:=Nz rB ay;exact⟨_,rfl,by simp[binOp,Op.shift,show ¬m<0 by omega],oM _ _⟩
  ·simp only[bT.a6.injEq]at h;obtain⟨rfl,rfl,rfl⟩:=h;have:=Nz rB ay;exact⟨_,rfl,by simp[binOp,Op.shift,show ¬m<0 by omega],oM _ _⟩
  ·split at h
   ·rename_i ae;obtain rfl:=jt.1 ae;obtain⟨u,aa,ad,ax⟩:=Yn (P:=P) (N:=N) (ρ:=ρ) (w:=w) rB h ay;refine⟨u,aa, ?_,ax⟩;rw[<-ad];cases op<;>first|rfl|(exfalso;simp_all;done)|(simp only[n9]at h;cases h)
   ·cases h
 ·
  rename_i l m;obtain⟨s1,rfl,rfl⟩:=uc ak;obtain⟨s2,rfl,rfl⟩:=uc bn;rw[Sem.run_bind,se _ _ _ _ _ _ (by simp) (by simp),Result.andThen_ok];split at h<;>simp only[bT.a6.injEq,reduceCtorEq]at h<;>obtain⟨rfl,rfl,rfl⟩:=h
  ·have hle:((s1.size+s2.size:Nat):Int)<=9223372036854775807:=by
    have:=ay _ (apr.2 rfl);simp only[aoK,apH]at this;have ad:((s1.size+s2.size:Nat):Int)=(s1.data.size:Int)+s2.data.size:=by rw[show s1.size=s1.data.size from rfl,show s2.size=s2.data.size from rfl];omega
    rw[ad];exact this
   refine⟨.string (s1++s2),rfl, ?_, ?_⟩
   ·have:¬((s1.size+s2.size:Nat):Int)>IntKind.i64.max:=by
     have:IntKind.i64.max=9223372036854775807:=by decide
     rw[this];omega
    simp only[binOp,Op.stringOp,aoA this,Sem.run_pure]
   ·exact .dc (bA.str _ _ (by rw[<-apn];congr 1))
  ·exact⟨_,rfl,by simp only[binOp,Op.stringOp,Pf,Sem.run_pure],jS _⟩
  ·exact⟨_,rfl,by simp only[binOp,Op.stringOp,Pf,Sem.run_pure],jS _⟩
  ·exact⟨_,rfl,by simp only[binOp,Op.stringOp,ByteArray.toList_eq,W0,Sem.run_pure],jS _⟩
 ·split at h<;>cases h
 ·split at h<;>cases h
 rotate_right
 ·cases h
 all_goals
  (obtain⟨u,aa,ad,ax⟩:=XB (P:=P) (N:=N) (ρ:=ρ) (w:=w) hi h
   refine⟨u,aa, ?_,ax⟩
   first
    |(rename_i p q;have aA:=mL ak;have aG:=mL bn;subst aA aG
      rw[Sem.run_bind,se _ _ _ _ _ _ (by simp) (by simp),Result.andThen_ok];exact ad)
    |(have aA:=mL ak;have aG:qx= .bool _:=bn;subst aA aG
      rw[Sem.run_bind,se _ _ _ _ _ _ (by simp) (by simp),Result.andThen_ok];exact ad)
    |(have aA:oG= .bool _:=ak;have aG:=mL bn;subst aA aG
      rw[Sem.run_bind,se _ _ _ _ _ _ (by simp) (by simp),Result.andThen_ok];exact ad)
    |(have aA:oG= .bool _:=ak;have aG:qx= .bool _:=bn;subst aA aG
      rw[Sem.run_bind,se _ _ _ _ _ _ (by simp) (by simp),Result.andThen_ok];exact ad))
end
end Go.aj
end
section
namespace Go.aj
section
variable {P:Program} {N:Nat->Prop} {ρ:List Loc} {I:aF} {w:World}
theorem BH {Z:Nat->Prop}{k:IntKind}{l:List Int}{u:Value}(h:bF Z w ρ I (.d (.af k l)) u):
 ∃a cap,u= .slice a l.length cap/\l.length<=cap/\(a=none->l=[]):=by
 have h:bA Z w (.af k l) u:=h
 cases h with
 |jj a cap=>exact⟨a,cap,rfl,by simp,fun _=>rfl⟩
 |af _ _ n b off cap aB bm aC h=>exact⟨_,cap,by rw[aB],by rw[aB];exact aC,fun h=>by cases h⟩
theorem GN {Z:Nat->Prop}{an:Nat}{l:List (List U)}{u:Value}(h:bF Z w ρ I (.d (.av an l)) u):
 ∃a cap,u= .slice a l.length cap/\l.length<=cap/\(a=none->l=[]):=by
 have h:bA Z w (.av an l) u:=h
 cases h with
 |kO a cap=>exact⟨a,cap,rfl,by simp,fun _=>rfl⟩
 |av _ _ n b off cap _ aB _ bm aC h=>exact⟨_,cap,by rw[aB],by rw[aB];exact aC,fun h=>by cases h⟩
theorem abh {Z:Nat->Prop}{x:U}{t:bb}{u:Value}(aT:hg t x=true)(h:bA Z w x u)(cT:0<x.len):
 ∃b off cap,u= .slice (some ⟨b,off,none⟩) x.len cap:=by
 cases h with
 |jj a cap=>simp[U.len]at cT
 |af _ l n b off cap aB bm aC h=>exact⟨b,off,cap,by simp[U.len,aB]⟩
 |kO a cap=>simp[U.len]at cT
 |av _ l n b off cap _ aB _ bm aC h=>exact⟨b,off,cap,by simp[U.len,aB]⟩
 |_=>cases t<;>simp[hg]at aT
theorem sh {t:TypeId}{i:b4}(hi:c4 P t i=true){x:U}(aT:hg i.ty x=true):
 ∃e g,P.underlying t=some (.slice e)/\P.info? e=some g/\g.size=x.cL/\0<x.cL/\g.bytes=i.bytes:=by
 unfold c4 at hi
 cases x<;>cases b_:i.ty<;>simp only[b_,hg,apU]at aT<;>rename_i s<;>cases s<;>
  simp only[apU]at aT<;>simp only[b_]at hi
 ·split at hi<;>simp_all;split at hi<;>simp_all [U.cL]
 ·split at hi<;>simp_all;split at hi<;>simp_all [U.cL]
theorem mN (b off n:Nat):(⟨b,off,none⟩:Addr).add n=⟨b,off+n,none⟩:=by unfold Addr.add;split<;>simp_all
theorem lk {t:TypeId}{g:TypeInfo}(h:P.info? t=some g):(sizeOf t).run P w= .ok g.size w:=by simp[sizeOf,typeInfo,h]
theorem acZ {v:Value}(h:o9 v= .emp):v= .slice none 0 0:=by
 unfold o9 at h;split at h<;>first|rfl|cases h
theorem Rv {v:Value}(h:tI v= .emp):v= .slice none 0 0:=by
 cases v with
 |agg c=>cases h
 |_=>exact acZ h
theorem abi {op:BinOp}{t:TypeId}{i:b4}(hi:c4 P t i=true){cZ dC:Operand}{tm:List R}{a:Act}(au:eg (aL N ρ I) w ρ I tm a.tmps)
 {p:Bool->Prop} (h:oR op i.ty dC (a_ tm cZ) (a_ tm dC) I= .fJ p):
 ∃b,p b/\(do eqGuard op t cZ dC (a.eval cZ) (a.eval dC);binOp op t (a.eval cZ) (a.eval dC):Sem Value).run P w= .ok (.bool b) w:=by
 have ak:=eA au cZ;generalize hex:a_ tm cZ=x at*;generalize rB:a_ tm dC=y at*;unfold oR at h
 have Es:∀v,dC= .const v->y= .emp->a.eval dC= .slice none 0 0:=by
  intro v aM bn;subst aM;rw[bn]at rB;exact Rv rB
 have key:∀u:Value,(∃fN l cap,u= .slice fN l cap)->∀fN l cap,u= .slice fN l cap->iB i.ty=true->a.eval dC= .slice none 0 0->
  (op= .eql->(do eqGuard op t cZ dC u (a.eval dC);binOp op t u (a.eval dC):Sem Value).run P w= .ok (.bool fN.isNone) w)/\
  (op= .neq->(do eqGuard op t cZ dC u (a.eval dC);binOp op t u (a.eval dC):Sem Value).run P w= .ok (.bool (!fN.isNone)) w):=by
  intro u _ fN l cap hu kn aiR;subst hu;rw[aiR];obtain⟨e,he⟩:=qK hi kn;constructor
  ·rintro rfl;rw[Sem.run_bind,se _ _ _ _ _ _ (by simp) (by simp),Result.andThen_ok];simp only[binOp,Sem.run_bind,run_equal_slice_nil w t e fN l cap he,Result.andThen_ok,Sem.run_pure]
  ·rintro rfl;rw[Sem.run_bind,se _ _ _ _ _ _ (by simp) (by simp),Result.andThen_ok];simp only[binOp,Sem.run_bind,run_equal_slice_nil w t e fN l cap he,Result.andThen_ok,Sem.run_pure]
 split at h
 ·split at h
  ·cases h
  ·cases h
  ·split at h
   ·cases op<;>simp[n9]at h
   ·cases h
 ·split at h<;>cases h
 ·rename_i AR l;obtain⟨fN,cap,hu,_,aB⟩:=BH ak;split at h<;>simp only[bT.fJ.injEq,reduceCtorEq]at h<;>subst h
  ·rename_i _ v kn;exact⟨fN.isNone,fun ah=>aB (by simpa using ah),(key _ ⟨_,_,_,hu⟩ _ _ _ hu kn (Es v rfl rfl)).1 rfl⟩
  ·rename_i _ v kn;exact⟨!fN.isNone,fun ah=>aB (by simpa using ah),(key _ ⟨_,_,_,hu⟩ _ _ _ hu kn (Es v rfl rfl)).2 rfl⟩
 ·rename_i AR l;obtain⟨fN,cap,hu,_,aB⟩:=GN ak;split at h<;>simp only[bT.fJ.injEq,reduceCtorEq]at h<;>subst h
  ·rename_i _ v kn;exact⟨fN.isNone,fun ah=>aB (by simpa using ah),(key _ ⟨_,_,_,hu⟩ _ _ _ hu kn (Es v rfl rfl)).1 rfl⟩
  ·rename_i _ v kn;exact⟨!fN.isNone,fun ah=>aB (by simpa using ah),(key _ ⟨_,_,_,hu⟩ _ _ _ hu kn (Es v rfl rfl)).2 rfl⟩
 all_goals
  first
  |(simp only[jw]at h;split at h<;>cases h)
  |cases h
theorem ZB {op:UnOp}{cZ:Operand}{tm:List R}{a:Act}(au:eg (aL N ρ I) w ρ I tm a.tmps)
 {ch:List Prop} {v:R} {al:aF} (h:w9 op (a_ tm cZ) I= .a6 ch v al):
 ∃u,al=I/\(Op.unary op (a.eval cZ)).run P w= .ok u w/\bF (aL N ρ I) w ρ I v u:=by
 have ak:=eA au cZ;generalize a_ tm cZ=x at*;generalize a.eval cZ=oG at*;unfold w9 at h;split at h<;>simp only[bT.a6.injEq,reduceCtorEq]at h<;>obtain⟨rfl,rfl,rfl⟩:=h
 ·have:=jh ak;subst this;exact⟨_,rfl,by simp[Op.unary,Op.intArith],oM _ _⟩
 ·have:=jh ak;subst this;exact⟨_,rfl,by simp only[Op.unary,Op.intBits];rfl,oM _ _⟩
 ·have:=mL ak;subst this;exact⟨_,rfl,rfl,jS _⟩
 ·have ak:oG= .bool true:=ak;subst ak;exact⟨_,rfl,rfl,rfl⟩
 ·have ak:oG= .bool false:=ak;subst ak;exact⟨_,rfl,rfl,rfl⟩
theorem XC {r2 cZ dC:Operand}{tm:List R}{a:Act}(au:eg (aL N ρ I) w ρ I tm a.tmps)
 {ch:List Prop} {v:R} {al:aF} (h:wP (a_ tm r2) (a_ tm cZ) (a_ tm dC) I= .a6 ch v al):
 ∃b,al=I/\a.eval r2= .bool b/\bF (aL N ρ I) w ρ I v (if b then a.eval cZ else a.eval dC):=by
 have aC:=eA au r2;have ak:=eA au cZ;have bn:=eA au dC;generalize a_ tm r2=c at*;generalize a_ tm cZ=x at*;generalize a_ tm dC=y at*;unfold wP at h;split at h
 ·simp only[bT.a6.injEq]at h;obtain⟨rfl,rfl,rfl⟩:=h;exact⟨true,rfl,aC,by simpa using ak⟩
 ·simp only[bT.a6.injEq]at h;obtain⟨rfl,rfl,rfl⟩:=h;exact⟨false,rfl,aC,by simpa using bn⟩
 ·rename_i b;have ah:=mL aC;split at h
  ·simp only[bT.a6.injEq]at h;obtain⟨rfl,rfl,rfl⟩:=h;refine⟨b,rfl,ah, ?_⟩;rw[mL ak,mL bn];cases b<;>exact jS _
  ·simp only[bT.a6.injEq]at h;obtain⟨rfl,rfl,rfl⟩:=h;refine⟨b,rfl,ah, ?_⟩;rw[show a.eval cZ= .bool true from ak,mL bn];cases b<;>exact jS _
  ·simp only[bT.a6.injEq]at h;obtain⟨rfl,rfl,rfl⟩:=h;refine⟨b,rfl,ah, ?_⟩;rw[mL ak,show a.eval dC= .bool false from bn];cases b<;>exact jS _
  ·simp only[bT.a6.injEq]at h;obtain⟨rfl,rfl,rfl⟩:=h;refine⟨b,rfl,ah, ?_⟩;rw[show a.eval cZ= .bool true from ak,show a.eval dC= .bool false from bn];cases b<;>exact jS _
  ·split at h
   ·simp only[bT.a6.injEq]at h;obtain⟨rfl,rfl,rfl⟩:=h;rename_i ae;obtain rfl:=jt.1 ae;refine⟨b,rfl,ah, ?_⟩;rw[jh ak,jh bn];cases b<;>exact oM _ _
   ·cases h
  ·cases h
 ·cases h
theorem XD {cZ:Operand}{n:Nat}{tm:List R}{a:Act}(au:eg (aL N ρ I) w ρ I tm a.tmps){l:List R}(h:a_ tm cZ= .tup l):
 n<l.length->∃u,(Instr.extract (a.eval cZ) n).run P w= .ok u w/\bF (aL N ρ I) w ρ I (b8 .any l n) u:=by
 intro aB;have ak:=eA au cZ;rw[h]at ak;obtain⟨arr,aa,ad,ax⟩:=ak;have bG:n<arr.size:=by rw[ad];exact aB
 refine⟨arr[n],by simp[Instr.extract,aa,bG], ?_⟩;have:=ax n aB;rw[d_];simp only[aoC,aoQ aB,apC,aoJ,aqo bG]at this⊢;exact .ht this
theorem ZC {t:TypeId}{i:b4}(hi:c4 P t i=true){x:R}{u:Value}(ak:bF (aL N ρ I) w ρ I x u){n:Nat}(h:uI i.ty x I=some n)(ts:List TypeId)(ty:TypeId):
 (Builtin.len_ (t::ts).toArray ty #[u]).run P w= .ok (.int .i64 n) w:=by
 unfold uI at h;split at h
 ·split at h
  ·rename_i ay;simp at h;subst h;obtain⟨s,rfl,rfl⟩:=uc ak;have:=sm hi ay;have ad:(Builtin.len_ (t::ts).toArray ty #[.string s]).run P w= .ok (goInt s.size) w:=by simp[Builtin.len_,underlying,this]
   rw[ad,goInt,aoK,apH];rfl
  ·cases h
 ·split at h
  ·rename_i ay;simp at h;subst h;obtain⟨fN,cap,rfl,_⟩:=BH ak;obtain⟨e,he⟩:=qK hi ay;simp[Builtin.len_,underlying,he,goInt]
  ·cases h
 ·split at h
  ·rename_i ay;simp at h;subst h;obtain⟨fN,cap,rfl,_⟩:=GN ak;obtain⟨e,he⟩:=qK hi ay;simp[Builtin.len_,underlying,he,goInt]
  ·cases h
 ·split at h
  ·rename_i ay;simp at h;subst h;obtain⟨aw,_,rfl,_⟩:=ak;obtain⟨e,he⟩:=qK hi ay;simp[Builtin.len_,underlying,he,goInt]
  ·cases h
 ·split at h
  ·rename_i ay;simp at h;subst h;obtain⟨fN,rfl⟩:=ak;obtain⟨e,he⟩:=qK hi ay;simp[Builtin.len_,underlying,he,goInt]
  ·cases h
 ·cases h
end
end Go.aj
end
section
namespace Go.aj
section
variable {P:Program} {N:Nat->Prop} {ρ:List Loc} {I:aF} {w:World}
theorem M8 {t:bb}{o:ag}(h:jz t o=true):hg t o.data=true/\o.data.cL=o.cL/\o.data.len=o.len:=by
 cases t with
 |aE s=>cases o<;>cases s<;>simp_all [jz,hg,ag.data,U.cL,ag.cL,U.len,ag.len]
 |_=>cases o<;>simp[jz]at h
theorem aed {id:Nat}{aw:Loc}{t:bb}(h:h9 (aL N ρ I) w ρ I aw (ag.at I id))(aT:jz t (ag.at I id)=true)(cT:0<(ag.at I id).len):
 ∃b,aw.a=some ⟨b,0,none⟩/\aw.bE=some b:=by
 cases aH:ag.at I id with
 |af k l=>
  rw[aH]at h cT;rcases h with⟨rfl,_⟩|⟨b,aI,e,aa,ad,_⟩
  ·simp[ag.len]at cT
  ·exact⟨b,aa,ad⟩
 |av an l=>
  rw[aH]at h cT;rcases h with⟨rfl,_⟩|⟨b,aI,e,aa,ad,_⟩
  ·simp[ag.len]at cT
  ·exact⟨b,aa,ad⟩
 |_=>rw[aH]at aT;simp[jz]at aT
theorem run_indexAt_slice {t:TypeId}{e:TypeId}{g:TypeInfo}(hu:P.underlying t=some (.slice e))(bg:P.info? e=some g)(b off len cap:Nat)(k:IntKind)(n:Int)
 (bc:0<=n) (aa:n<(len:Int)):
 (Instr.indexAt t (.slice (some ⟨b,off,none⟩) len cap) (.int k n)).run P w= .ok (.pointer (some ⟨b,off+n.toNat*g.size,none⟩)) w:=by
 simp[Instr.indexAt,asIntOf,underlying,hu,lk bg,bc,aa,mN]
theorem yx {t:TypeId}{i:b4}(hi:c4 P t i=true){n:Nat}{e:bb}{cs:List b6}(h:i.ty= .arr n e cs):
 ∃el g,P.underlying t=some (.array n el)/\P.info? el=some g/\g.size=e.size:=by
 unfold c4 at hi;rw[h]at hi;split at hi<;>simp_all;rename_i el _ _ _;obtain⟨g,bg⟩:=aqL.1 hi.1.1.2;exact⟨g,bg,by rw[<-hi.1.1.1.1.2];simp[Program.cellsOf,bg]⟩
theorem Yp {t:TypeId}{i:b4}(hi:c4 P t i=true){n:Nat}{e:bb}{cs:List b6}(h:i.ty= .arr n e cs):
 ∃el g d,P.underlying t=some (.array n el)/\P.info? el=some g/\g.size=e.size/\P.underlying el=some d/\oU d=e.isAgg:=by
 unfold c4 at hi;rw[h]at hi;split at hi<;>simp_all;rename_i el _ _ _;obtain⟨g,bg⟩:=aqL.1 hi.1.1.2;obtain⟨d,aY⟩:=aqL.1 hi.1.2;refine⟨g,bg,by rw[<-hi.1.1.1.1.2];simp[Program.cellsOf,bg],d,aY, ?_⟩;have:=hi.2;simpa[C9,aY]using this
theorem run_indexAt_array {t:TypeId}{m e:Nat}{g:TypeInfo}(hu:P.underlying t=some (.array m e))(bg:P.info? e=some g)(b off:Nat)(k:IntKind)(n:Int)
 (bc:0<=n) (aa:n<(m:Int)):
 (Instr.indexAt t (.pointer (some ⟨b,off,none⟩)) (.int k n)).run P w= .ok (.pointer (some ⟨b,off+n.toNat*g.size,none⟩)) w:=by
 simp[Instr.indexAt,Instr.sureAddr,asIntOf,underlying,hu,lk bg,bc,aa,mN]
theorem BI (j:Nat)(n:Int):placeOf j n=j+n.toNat:=by
 unfold placeOf;split
 ·rename_i h;rw[aoE h,ao8]
 ·rfl
theorem ZD {t:TypeId}{i:b4}(hi:c4 P t i=true){x:R}{u:Value}(ak:bF (aL N ρ I) w ρ I x u){k:IntKind}{n:Int}
 {ch:List Prop} {v:R} {al:aF} (h:oZ i.ty x n I= .a6 ch v al) (ay:∀p∈ch,p):
 ∃c2,al=I/\(Instr.indexAt t u (.int k n)).run P w= .ok c2 w/\bF (aL N ρ I) w ρ I v c2:=by
 unfold oZ at h;split at h
 ·rename_i m s cs b_;obtain⟨el,g,q1,cI,cV⟩:=yx hi b_;have cV:g.size=1:=cV;split at h
  ·rename_i id a j;split at h
   ·rename_i an l aH;split at h
    ·rename_i ah;have ah:j+m<=an:=ao9 ah;simp only[bT.a6.injEq]at h;obtain⟨rfl,rfl,rfl⟩:=h;have bc:0<=n:=ay _ (by simp);have aa:n<(m:Int):=ay _ (by simp);obtain⟨aw,b,aA,aG,bR,cY,hO,jK⟩:=ak;have bm:(ag.at I id).cL=an:=by rw[aH];rfl
     refine⟨_,rfl,by rw[cY];exact run_indexAt_array q1 cI b _ k n bc aa, .dc ⟨aw,b,aA,aG,bR, ?_,hO,jK, ?_⟩⟩
     ·rw[cV,BI];simp only[ao_,apA]
     ·rw[bm,BI];omega
    ·cases h
   ·cases h
  ·rename_i an l a j;split at h
   ·rename_i ah;have ah:j+m<=an:=ao9 ah;simp only[bT.a6.injEq]at h;obtain⟨rfl,rfl,rfl⟩:=h;have bc:0<=n:=ay _ (by simp);have aa:n<(m:Int):=ay _ (by simp);obtain⟨b,off,cap,aA,aG,bR,cY⟩:=ak;refine⟨_,rfl,by rw[cY];exact run_indexAt_array q1 cI b _ k n bc aa, .dc ⟨b,off,cap,aA,aG,bR, ?_, ?_⟩⟩
    ·rw[BI];show j+n.toNat<an;omega
    ·rw[cV,BI];simp only[ao_,apA]
   ·cases h
  ·cases h
 ·cases h
theorem Ws {t:TypeId}{i:b4}(hi:c4 P t i=true)(bI:ct N ρ I w){cZ vD:Operand}{tm:List R}{a:Act}(au:eg (aL N ρ I) w ρ I tm a.tmps)
 {ch:List Prop} {v:R} {al:aF} (h:qM i.ty (a_ tm cZ) (a_ tm vD) I= .a6 ch v al) (ay:∀p∈ch,p):
 ∃u,al=I/\(Instr.indexAt t (a.eval cZ) (a.eval vD)).run P w= .ok u w/\bF (aL N ρ I) w ρ I v u:=by
 have ak:=eA au cZ;have bn:=eA au vD;generalize a_ tm cZ=x at*;generalize a_ tm vD=y at*;unfold qM at h;split at h
 ·rename_i k n;have aA:=jh bn;split at h
  ·rename_i x;split at h
   ·rename_i aT;simp only[bT.a6.injEq]at h;obtain⟨rfl,rfl,rfl⟩:=h;have bc:0<=n:=ay _ (by simp);have aa:n<(x.len:Int):=ay _ (by simp);have hv:bA (aL N ρ I) w x (a.eval cZ):=ak;obtain⟨b,off,cap,hu⟩:=abh aT hv (by omega);obtain⟨e,g,he,bg,cr,og,_⟩:=sh hi aT;refine⟨.pointer (some ⟨b,off+n.toNat*g.size,none⟩),rfl, ?_, .dc ⟨b,off,cap,hu▸hv,bc,aa,by rw[cr];simp⟩⟩;rw[hu,aA];exact run_indexAt_slice he bg b off _ cap k n bc aa
   ·cases h
  ·rename_i id;split at h
   ·rename_i aT;simp only[bT.a6.injEq]at h;obtain⟨rfl,rfl,rfl⟩:=h;have bc:0<=n:=ay _ (by simp);have aa:n<((ag.at I id).len:Int):=ay _ (by simp);obtain⟨aw,az,hu,_⟩:=ak;obtain⟨b,hK,et⟩:=aed (bI.ob id aw az) aT (by omega);obtain⟨vc,aiS,_⟩:=M8 aT;obtain⟨e,g,he,bg,cr,og,_⟩:=sh hi vc;refine⟨.pointer (some ⟨b,0+n.toNat*g.size,none⟩),rfl, ?_, .dc ⟨aw,b,az,hK,et,by rw[cr,aiS];simp,bc,aa⟩⟩;rw[hu,aA,hK];exact run_indexAt_slice he bg b 0 _ _ k n bc aa
   ·cases h
  ·simp only[bT.a6.injEq]at h;obtain⟨rfl,_⟩:=h;exact(ay False (by simp)).elim
  ·rw[aA];exact ZD hi ak h ay
 ·cases h
theorem tY {Z:Nat->Prop}{s:b6}{x:U}{u:Value}(h:bA Z w x u)(aH:s.p3 x):eE Z w ρ I (s.take x) u:=by
 cases s<;>cases x<;>simp only[b6.p3,U.dg,U.isBool,U.isStr,U.eQ,U.Rp]at aH<;>simp only[b6.take,U.toInt,U.toBool,U.toStr,U.bX,U.Rq]<;>
  first
  |exact h
  |(subst aH;exact h)
theorem XE {Z:Nat->Prop}(x:U)(i:Nat)(u:Nat->Value):∀(cs:List b6) (j:Nat),(∀m,m<cs.length->bA Z w (x.cell i (j+m)) (u (j+m)))->(∀p∈(rk cs x i j).1,p)->
 (rk cs x i j).2.length=cs.length/\∀m,m<cs.length->eE Z w ρ I ((rk cs x i j).2.getD m .un) (u (j+m)):=by
 intro cs
 induction cs with
 |nil=>intro j _ _;simp[rk]
 |cons s dL bM=>
  intro j ao ay;simp only[rk]at ay⊢;have bc:=ao 0 (by simp);have eX:=ay _ (aqz ..);obtain⟨aa,ad⟩:=bM (j+1) (fun m hm=>by have:=ao (m+1) (by simp;omega);rwa [show j+(m+1)=j+1+m by omega]at this) (fun p aD=>ay p (aqa _ aD));refine⟨by simpa using aa,fun m hm=> ?_⟩
  cases m with
  |zero=>exact tY bc eX
  |succ m=>
   have:=ad m (by simpa using hm);rw[show j+(m+1)=j+1+m by omega];simpa using this
theorem qR {t:TypeId}{d:TypeDesc}(h:P.underlying t=some d):(isAgg t).run P w= .ok (oU d) w:=by
 simp only[isAgg,Sem.run_bind,run_underlying h,Result.andThen_ok];cases d<;>rfl
theorem y2 {t:TypeId}{i:b4}(hi:c4 P t i=true){s:b6}(ay:i.ty= .aE s)(b o:Nat){v:Value}(aC:w.cell? ⟨b,o,none⟩=some v):
 (loadVar t ⟨b,o,none⟩).run P w= .ok v w:=by
 have:∃d,P.underlying t=some d/\oU d=false:=by
  unfold c4 at hi;rw[ay]at hi;split at hi<;>simp_all [oU]
 obtain⟨d,aa,ad⟩:=this;simp[loadVar,qR aa,ad,aC]
theorem Qw {t:TypeId}{i:b4}(hi:c4 P t i=true){s:b6}(ay:i.ty= .aE s):∃g,P.info? t=some g/\g.size=1:=by
 unfold c4 at hi;rw[ay]at hi;split at hi<;>simp_all
theorem wE {t:TypeId}{i:b4}(hi:c4 P t i=true){cs:List b6}(ay:(∃bW,i.ty= .struct bW cs)\/∃n e,i.ty= .arr n e cs):
 ∃g d,P.info? t=some g/\g.size=cs.length/\P.underlying t=some d/\oU d=true/\∃z,g.zero=some z/\mO cs z.cells.toList=true:=by
 unfold c4 at hi;rcases ay with⟨bW,ay⟩|⟨n,e,ay⟩<;>rw[ay]at hi<;>split at hi<;>simp_all [oU,cO,nA]
 all_goals
  rename_i g _ _ _ _;cases bm:g.zero<;>simp_all
theorem B4 {t:TypeId}{i:b4}(hi:c4 P t i=true){cs:List b6}(ay:(∃bW,i.ty= .struct bW cs)\/∃n e,i.ty= .arr n e cs)(b o:Nat)(u:Nat->Value)
 (aC:∀m,m<cs.length->w.cell? ⟨b,o+m,none⟩=some (u m)):(loadVar t ⟨b,o,none⟩).run P w= .ok (.agg ((List.range cs.length).map u).toArray) w:=by
 obtain⟨g,d,aa,ad,ax,aV,_⟩:=wE hi ay;have bp:=run_loadCells (P:=P) w ⟨b,o,none⟩ cs.length u (fun j aK=>by rw[mN];exact aC j aK);simp[loadVar,qR ax,aV,lk aa,ad,bp]
theorem BP (u:Nat->Value)(n m:Nat)(h:m<n):((List.range n).map u).toArray.getD m undef=u m:=by
 simp[aoJ,h]
theorem GO {r:List U}{j n an:Nat}(ao:r.length=an)(h:j+n<=an):(lu r j n an).length=n/\∀m,m<n->(lu r j n an).getD m .undef=r.getD (j+m) .undef:=by
 unfold lu;split
 ·rename_i aK;obtain rfl:=aoE aK;split
  ·rename_i aB;obtain rfl:=aoE aB;exact⟨ao,fun m _=>by rw[ao8]⟩
  ·refine⟨by rw[apf];omega,fun m hm=> ?_⟩;rw[aoC,apu,aoB hm,ao8,aoC]
 ·refine⟨by rw[apf,apP];omega,fun m hm=> ?_⟩;rw[aoC,apu,aoB hm,ap4,aoC]
theorem Pg {t:TypeId}{i:b4}(hi:c4 P t i=true){cs:List b6}(b_:(∃bW,i.ty= .struct bW cs)\/∃n e,i.ty= .arr n e cs){r:List U}{j an:Nat}(ao:r.length=an)(aK:j+cs.length<=an)
 (b o:Nat) (u:Nat->Value) (aC:∀m,m<an->w.cell? ⟨b,o+m,none⟩=some (u m)) (hu:∀m,m<an->bA (aL N ρ I) w (r.getD m .undef) (u m)):
 ∃v,(loadVar t ⟨b,o+j,none⟩).run P w= .ok v w/\bF (aL N ρ I) w ρ I (.rw cs.length (lu r j cs.length an)) v:=by
 obtain⟨aa,ad⟩:=GO ao aK;refine⟨_,B4 hi b_ b (o+j) (fun m=>u (j+m)) (fun m hm=>by rw[apA];exact aC (j+m) (by omega)), .ht ⟨_,rfl,by simp,aa,fun m hm=> ?_⟩⟩;rw[BP _ _ _ hm,ad m hm];exact hu (j+m) (by omega)
theorem MB {t:TypeId}{i:b4}(hi:c4 P t i=true){x:U}{n:Int}{j:Nat}{ch:List Prop}{v:R}{al:aF}
 (h:loadData i.ty x n j I= .a6 ch v al) (ay:∀p∈ch,p) (b o:Nat) (u:Nat->Value)
 (aC:∀m,m<x.cL->w.cell? ⟨b,o+m,none⟩=some (u m)) (ao:∀m,m<x.cL->bA (aL N ρ I) w (x.cell n.toNat m) (u m)):
 ∃u,al=I/\(loadVar t ⟨b,o+j,none⟩).run P w= .ok u w/\bF (aL N ρ I) w ρ I v u:=by
 unfold loadData at h;split at h
 ·rename_i k l;split at h
  ·rename_i cz b_ xx;obtain rfl:=aoE xx;split at h
   ·rename_i ae;simp only[bT.a6.injEq]at h;obtain⟨rfl,rfl,rfl⟩:=h;obtain rfl:=jt.1 ae;refine⟨u 0,rfl,y2 hi b_ b _ (aC 0 (by simp[U.cL])), ?_⟩;have:=ao 0 (by simp[U.cL]);exact .dc this
   ·cases h
  ·cases h
 ·rename_i an l;split at h
  ·rename_i ah;have ah:j+i.ty.size<=an:=ao9 ah;have cr:(U.av an l).cL=an:=rfl;rw[cr]at aC ao;split at h
   ·rename_i s b_;simp only[bT.a6.injEq]at h;obtain⟨rfl,rfl,rfl⟩:=h;have aK:j<an:=by rw[b_]at ah;simp[bb.size]at ah;omega
    exact⟨u j,rfl,y2 hi b_ b _ (aC j aK), .dc (tY (ao j aK) (ay _ (by simp)))⟩
   ·rename_i bW cs b_;have aK:j+cs.length<=an:=by rw[b_]at ah;simpa[bb.size,cO]using ah
    split at h
    ·simp only[bT.a6.injEq]at h;obtain⟨rfl,rfl,rfl⟩:=h;have hlen:(l.getD n.toNat []).length=an:=ay _ (by simp);rw[cO];obtain⟨v,a7,bl⟩:=Pg (P:=P) (N:=N) (ρ:=ρ) (I:=I) hi (.inl ⟨bW,b_⟩) hlen aK b o u aC ao;exact⟨v,rfl,a7,bl⟩
    simp only[bT.a6.injEq]at h;obtain⟨rfl,rfl,rfl⟩:=h;obtain⟨aa,ad⟩:=XE (w:=w) (ρ:=ρ) (I:=I) (.av an l) n.toNat u cs j (fun m hm=>ao (j+m) (by omega)) ay;refine⟨_,rfl,B4 hi (.inl ⟨bW,b_⟩) b (o+j) (fun m=>u (j+m)) (fun m hm=>by rw[apA];exact aC (j+m) (by omega)), .ht ⟨_,rfl,by simp[aa],fun m hm=> ?_⟩⟩;rw[aa]at hm;rw[BP _ _ _ hm];exact ad m hm
   ·rename_i n' e cs b_;have aK:j+cs.length<=an:=by rw[b_]at ah;simpa[bb.size,cO]using ah
    simp only[bT.a6.injEq]at h;obtain⟨rfl,rfl,rfl⟩:=h;have hlen:(l.getD n.toNat []).length=an:=ay _ (by simp);rw[cO];obtain⟨v,a7,bl⟩:=Pg (P:=P) (N:=N) (ρ:=ρ) (I:=I) hi (.inr ⟨n',e,b_⟩) hlen aK b o u aC ao;exact⟨v,rfl,a7,bl⟩
   ·cases h
  ·cases h
 ·cases h
theorem GB {Z:Nat->Prop}{x:U}{b off cap:Nat}(h:bA Z w x (.slice (some ⟨b,off,none⟩) x.len cap))(n:Nat)(aB:n<x.len):
 ∃u:Nat->Value,(∀m,m<x.cL->w.cell? ⟨b,off+n*x.cL+m,none⟩=some (u m))/\∀m,m<x.cL->bA Z w (x.cell n m) (u m):=by
 generalize lZ:x.len=L at*
 cases h with
 |jj a cap k=>simp[U.len]at lZ;omega
 |af k l n' b off cap az bm aC hp=>
  refine⟨fun _=> .int k (l.getD n 0),fun m hm=> ?_,fun m hm=> .int _ _⟩;simp only[U.cL]at hm⊢;have:=hp n aB;rw[show off+n*1+m=off+n by omega];exact this
 |kO a cap an=>simp[U.len]at lZ;omega
 |av an l n' b off cap u az cr bm aC hp ao=>exact⟨fun m=>u n m,fun m hm=>hp n m aB hm,fun m hm=>ao n m aB hm⟩
 |undef v h=>simp[U.len]at lZ;omega
theorem Oj {Z:Nat->Prop}{aw:Loc}{o:ag}{b:Nat}(h:h9 Z w ρ I aw o)(ah:aw.a=some ⟨b,0,none⟩)(n:Nat)(aB:n<o.data.len):
 ∃u:Nat->Value,(∀m,m<o.data.cL->w.cell? ⟨b,n*o.data.cL+m,none⟩=some (u m))/\∀m,m<o.data.cL->bA Z w (o.data.cell n m) (u m):=by
 cases o with
 |gone=>simp[ag.data,U.len]at aB
 |dead _ _=>simp[ag.data,U.len]at aB
 |map _ _ _=>simp[ag.data,U.len]at aB
 |cells l=>simp[ag.data,U.len]at aB
 |af k l=>
  simp only[ag.data,U.len,U.cL,U.cell]at*;rcases h with⟨rfl,_⟩|⟨ey,aI,e,aa,ad,ax,aV,bp,b1⟩
  ·simp at aB
  ·rw[ah]at aa;simp at aa;subst aa;refine⟨fun _=> .int k (l.getD n 0),fun m hm=> ?_,fun m hm=> .int _ _⟩;rw[show n*1+m=n by omega];simp[World.cell?,ax,b1 n aB]
 |av an l=>
  simp only[ag.data,U.len,U.cL,U.cell]at*;rcases h with⟨rfl,_⟩|⟨ey,aI,e,aa,ad,ax,aV,bp,_,b1⟩
  ·simp at aB
  ·rw[ah]at aa;simp at aa;subst aa;refine⟨fun m=>aI.getD (n*an+m) undef,fun m hm=> ?_,fun m hm=> ?_⟩
   ·obtain⟨v,aM,_⟩:=b1 n m aB hm;simp[World.cell?,ax,aoJ,aM]
   ·obtain⟨v,aM,ao⟩:=b1 n m aB hm;simpa[aoJ,aM]using ao
theorem XF {Z:Nat->Prop}{w:World}{ρ:List Loc}{I:aF}{v:R}{u:Value}(h:eE Z w ρ I v u):eE Z w ρ I (oY v) u:=by
 cases v<;>first|exact h|trivial
theorem NB {t:TypeId}{i:b4}(hi:c4 P t i=true){x:U}{n:Int}{j:Nat}{ch:List Prop}{v:R}{al:aF}
 (h:loadAt i.ty x n j I= .a6 ch v al) (ay:∀p∈ch,p) (aK:j<x.cL) (b o:Nat) (u:Nat->Value)
 (aC:∀m,m<x.cL->w.cell? ⟨b,o+m,none⟩=some (u m)) (ao:∀m,m<x.cL->bA (aL N ρ I) w (x.cell n.toNat m) (u m)):
 ∃u,al=I/\(loadVar t ⟨b,o+j,none⟩).run P w= .ok u w/\bF (aL N ρ I) w ρ I v u:=by
 unfold loadAt at h;split at h
 ·rename_i an l s b_;simp only[bT.a6.injEq]at h;obtain⟨rfl,rfl,rfl⟩:=h;exact⟨u j,rfl,y2 hi b_ b _ (aC j aK), .dc (tY (ao j aK) (ay _ (by simp)))⟩
 ·cases h
theorem GC {t:TypeId}{i:b4}(hi:c4 P t i=true)(bI:ct N ρ I w){op:Operand}{tm:List R}{a:Act}(au:eg (aL N ρ I) w ρ I tm a.tmps)
 {ch:List Prop} {v:R} {al:aF} (h:h7 i.ty (a_ tm op) I= .a6 ch v al) (ay:∀p∈ch,p):
 ∃u,al=I/\(Instr.loadAt t (a.eval op)).run P w= .ok u w/\bF (aL N ρ I) w ρ I v u:=by
 have ak:=eA au op;generalize a_ tm op=x at*;unfold h7 at h;split at h
 ·rename_i id off;obtain⟨aw,b,az,hK,et,hu⟩:=ak;have cf:=bI.ob id aw az;split at h
  ·rename_i l aH;rw[aH]at cf;obtain⟨ey,aI,e,a7,bl,bH,dJ,eZ⟩:=cf;rw[hK]at a7;simp at a7;subst a7
   have hp:∀m,m<l.length->w.cell? ⟨b,m,none⟩=some (aI.getD m undef):=fun m hm=>by
    simp[World.cell?,bH,aoJ,show m<aI.size by omega]
   rw[hu];simp only[Instr.loadAt,Instr.sureAddr,Sem.run_bind,Sem.run_pure,Result.andThen_ok];split at h<;>simp only[bT.a6.injEq,reduceCtorEq]at h
   ·rename_i s b_ hle;obtain⟨rfl,rfl,rfl⟩:=h;have hle:=ao9 hle;rw[b_,cO]at hle;have bG:off<l.length:=by simp[bb.size]at hle;omega
    refine⟨_,rfl,y2 hi b_ b off (hp off bG), ?_⟩;rw[d_];exact .dc (XF (eZ off bG))
   ·rename_i bW cs b_ hle;obtain⟨rfl,rfl,rfl⟩:=h;have hle:=ao9 hle;rw[b_,cO]at hle;have bG:off+cs.length<=l.length:=by simpa[bb.size,cO]using hle
    refine⟨_,rfl,B4 hi (.inl ⟨bW,b_⟩) b off (fun m=>aI.getD (off+m) undef) (fun m hm=>hp (off+m) (by omega)), .ht ⟨_,rfl, ?_,fun m hm=> ?_⟩⟩
    ·simp[lq,lp,cO];omega
    ·simp only[lq,lp,cO,apf,apP]at hm⊢;rw[BP _ _ _ (by omega)];have:=eZ (off+m) (by omega);simpa[aoC,apu,show m<cs.length by omega]using this
   ·rename_i n' FK cs b_ hle;obtain⟨rfl,rfl,rfl⟩:=h;have hle:=ao9 hle;rw[b_,cO]at hle;have bG:off+cs.length<=l.length:=by simpa[bb.size,cO]using hle
    refine⟨_,rfl,B4 hi (.inr ⟨n',FK,b_⟩) b off (fun m=>aI.getD (off+m) undef) (fun m hm=>hp (off+m) (by omega)), .ht ⟨_,rfl, ?_,fun m hm=> ?_⟩⟩
    ·simp[lq,lp,cO];omega
    ·simp only[lq,lp,cO,apf,apP]at hm⊢;rw[BP _ _ _ (by omega)];have:=eZ (off+m) (by omega);simpa[aoC,apu,show m<cs.length by omega]using this
  ·cases h
 ·rename_i id n j;obtain⟨aw,b,az,hK,et,hu,bc,aa⟩:=ak;have cf:=bI.ob id aw az
  have aY:(ag.at I id).data.cL=(ag.at I id).cL/\(ag.at I id).data.len=(ag.at I id).len\/∀t n j,loadData t (ag.at I id).data n j I= .bad:=by
   cases ag.at I id<;>simp[ag.data,U.cL,ag.cL,U.len,ag.len,loadData]
  rcases aY with⟨j1,ic⟩|aY
  ·obtain⟨u,aC,ao⟩:=Oj cf hK n.toNat (by rw[ic];omega);obtain⟨c2,ad,ax,aV⟩:=MB (P:=P) (N:=N) (ρ:=ρ) hi h ay b (n.toNat*(ag.at I id).data.cL) u aC ao;refine⟨c2,ad, ?_,aV⟩;rw[hu,<-j1];simpa[Instr.loadAt,Instr.sureAddr]using ax
  ·rw[aY]at h;cases h
 ·rename_i x n j;obtain⟨b,off,cap,rC,bc,aa,hu⟩:=ak;obtain⟨u,aC,ao⟩:=GB rC n.toNat (by omega);obtain⟨c2,ad,ax,aV⟩:=MB (P:=P) (N:=N) (ρ:=ρ) hi h ay b (off+n.toNat*x.cL) u aC ao;refine⟨c2,ad, ?_,aV⟩;rw[hu];simpa[Instr.loadAt,Instr.sureAddr]using ax
 ·rename_i id n j;obtain⟨aw,b,az,hK,et,hu,bc,aa,k6⟩:=ak;have cf:=bI.ob id aw az
  have aY:(ag.at I id).data.cL=(ag.at I id).cL/\(ag.at I id).data.len=(ag.at I id).len\/∀t n j,loadAt t (ag.at I id).data n j I= .bad:=by
   cases ag.at I id<;>simp[ag.data,U.cL,ag.cL,U.len,ag.len,loadAt]
  rcases aY with⟨j1,ic⟩|aY
  ·obtain⟨u,aC,ao⟩:=Oj cf hK n.toNat (by rw[ic];omega);obtain⟨c2,ad,ax,aV⟩:=NB (P:=P) (N:=N) (ρ:=ρ) hi h ay (by rw[j1];exact k6) b (n.toNat*(ag.at I id).data.cL) u aC ao;refine⟨c2,ad, ?_,aV⟩;rw[hu,<-j1];simpa[Instr.loadAt,Instr.sureAddr]using ax
  ·rw[aY]at h;cases h
 ·rename_i x n j;obtain⟨b,off,cap,rC,bc,aa,k6,hu⟩:=ak;obtain⟨u,aC,ao⟩:=GB rC n.toNat (by omega);obtain⟨c2,ad,ax,aV⟩:=NB (P:=P) (N:=N) (ρ:=ρ) hi h ay k6 b (off+n.toNat*x.cL) u aC ao;refine⟨c2,ad, ?_,aV⟩;rw[hu];simpa[Instr.loadAt,Instr.sureAddr]using ax
 ·cases h
end
end Go.aj
end
section
namespace Go.aj
section
variable {P:Program} {N:Nat->Prop} {ρ:List Loc} {I:aF} {w:World}
theorem GP {bW:List (Nat×Nat×bb)}{a:List Field}(h:pR P bW a=true)(f:Nat)(aT:f<bW.length):
 ∃eh g,a[f]? =some eh/\P.info? eh.type=some g/\eh.offset=(bW.getD f (0,0, .no)).1/\g.size=(bW.getD f (0,0, .no)).2.2.size/\0<g.size/\
  ∃d,P.underlying eh.type=some d/\oU d=(bW.getD f (0,0, .no)).2.2.isAgg:=by
 induction bW generalizing a f with
 |nil=>simp at aT
 |cons x r bM=>
  obtain⟨o,n,t⟩:=x
  cases a with
  |nil=>simp[pR]at h
  |cons eh bQ=>
   simp only[pR,aoM]at h;obtain⟨⟨⟨⟨⟨⟨⟨aa,ad⟩,ax⟩,aV⟩,bp⟩,Tz⟩,b1⟩,fM⟩:=h
   cases f with
   |zero=>
    obtain⟨g,bg⟩:=aqL.1 bp;obtain⟨d,aY⟩:=aqL.1 Tz;have aG:=aoE ad;have bR:=aoE ax;have cY:1<=n:=by simpa[Nat.blt]using aV
    have:P.cellsOf eh.type=g.size:=by simp[Program.cellsOf,bg]
    refine⟨eh,g,rfl,bg,(aoE aa).symm, ?_,by omega,d,aY,by simpa[C9,aY]using b1⟩;simp only[aq1];omega
   |succ f=>
    obtain⟨aiT,g,a7,bl⟩:=bM fM f (by simpa using aT);exact⟨aiT,g,by simpa using a7,by simpa using bl⟩
theorem yk {t:TypeId}{i:b4}(hi:c4 P t i=true){bW:List (Nat×Nat×bb)}{cs:List b6}(h:i.ty= .struct bW cs):
 ∃a,P.underlying t=some (.struct a)/\pR P bW a.toList=true:=by
 unfold c4 at hi;rw[h]at hi;split at hi<;>simp_all
theorem XG {s:TypeId}{i:b4}(hi:c4 P s i=true){bW:List (Nat×Nat×bb)}{cs:List b6}(h:i.ty= .struct bW cs)(f:Nat)(aT:f<bW.length)(b o:Nat):
 (Instr.fieldAt s (.pointer (some ⟨b,o,none⟩)) f).run P w= .ok (.pointer (some ⟨b,o+fG i.ty f,none⟩)) w:=by
 obtain⟨a,aa,ad⟩:=yk hi h;obtain⟨eh,g,a7,bl,bH,dJ,eZ,_⟩:=GP ad f aT;have te:a[f]? =some eh:=by simpa using a7
 have:¬g.size=0:=by omega
 rw[h,fG,d_,<-bH];simp[Instr.fieldAt,underlying,aa,te,Instr.sureAddr,fieldPlace,lk bl,this,mN]
theorem ZE {s:TypeId}{i:b4}(hi:c4 P s i=true){bW:List (Nat×Nat×bb)}{cs:List b6}(h:i.ty= .struct bW cs)(f:Nat)(aT:f<bW.length)(l:List R){u:Value}
 (hu:bF (aL N ρ I) w ρ I (.agg l) u) (az:fG i.ty f+(kE i.ty f).size<=l.length):
 ∃v,(Instr.field s u f).run P w= .ok v w/\
  bF (aL N ρ I) w ρ I (match kE i.ty f with| .aE _=>b8 .un l (fG i.ty f)|t=> .agg (kN (kM l (fG i.ty f)) t.size)) v:=by
 obtain⟨a,aa,ad⟩:=yk hi h;obtain⟨eh,g,a7,bl,bH,dJ,eZ,gE⟩:=GP ad f aT;have te:a[f]? =some eh:=by simpa using a7
 obtain⟨arr,rfl,aS,ao⟩:=hu;have IL:fG i.ty f=eh.offset:=by rw[h,fG,d_,<-bH]
 have b_:kE i.ty f=(bW.getD f (0,0, .no)).2.2:=by rw[h,kE,d_]
 rw[IL,b_]at az⊢;obtain⟨d,j1,ic⟩:=gE
 cases rm:(bW.getD f (0,0, .no)).2.2 with
 |aE st=>
  rw[rm]at az ic dJ;have bG:eh.offset<l.length:=by simp[bb.size]at az;omega
  have jY:eh.offset<arr.size:=by omega
  refine⟨arr[eh.offset], ?_, ?_⟩
  ·simp[Instr.field,underlying,aa,te,asAgg,part,qR j1,ic,bb.isAgg,jY]
  ·have:=ao eh.offset bG;simp only[d_];simp only[aoJ,aqo jY,apC]at this;exact .dc this
 |no=>
  rw[rm]at az dJ;simp[bb.size]at dJ;omega
 |struct E4 lK=>
  rw[rm]at az ic dJ;refine⟨.agg (arr.extract eh.offset (eh.offset+g.size)),by simp[Instr.field,underlying,aa,te,asAgg,part,qR j1,ic,bb.isAgg,lk bl], .ht ⟨_,rfl, ?_,fun m hm=> ?_⟩⟩
  ·simp[lq,lp,dJ];omega
  ·simp only[lq,lp,apf,apP]at hm⊢;have:=ao (eh.offset+m) (by omega)
   have aA:(arr.extract eh.offset (eh.offset+g.size)).getD m undef=arr.getD (eh.offset+m) undef:=by
    rw[aoJ,aoJ,Array.getElem?_extract,aoB (by omega)]
   have aG:(List.take (bb.struct E4 lK).size (List.drop eh.offset l)).getD m .un=l.getD (eh.offset+m) .un:=by
    rw[aoC,aoC,apu,aoB (by omega),ap4]
   rw[aA,aG];exact this
 |arr n' cb lK=>
  rw[rm]at az ic dJ;refine⟨.agg (arr.extract eh.offset (eh.offset+g.size)),by simp[Instr.field,underlying,aa,te,asAgg,part,qR j1,ic,bb.isAgg,lk bl], .ht ⟨_,rfl, ?_,fun m hm=> ?_⟩⟩
  ·simp[lq,lp,dJ];omega
  ·simp only[lq,lp,apf,apP]at hm⊢;have:=ao (eh.offset+m) (by omega)
   have aA:(arr.extract eh.offset (eh.offset+g.size)).getD m undef=arr.getD (eh.offset+m) undef:=by
    rw[aoJ,aoJ,Array.getElem?_extract,aoB (by omega)]
   have aG:(List.take (bb.arr n' cb lK).size (List.drop eh.offset l)).getD m .un=l.getD (eh.offset+m) .un:=by
    rw[aoC,aoC,apu,aoB (by omega),ap4]
   rw[aA,aG];exact this
theorem sr {n:Nat}{lo hi:Option Int}(h:∀p∈mo n lo hi,p):
 (∀a,lo=some a->0<=a/\a.toNat<=n)/\(∀b,hi=some b->0<=b/\b.toNat<=n)/\(lo.getD 0).toNat<=(hi.map Int.toNat).getD n:=by
 have hH:∀{q:Prop} {l:List Prop},(∀p∈q::l,p)->q/\∀p∈l,p:=fun h=>List.forall_mem_cons.1 h
 cases lo with
 |none=>
  cases hi with
  |none=>exact⟨(fun a h=>by cases h),(fun b h=>by cases h),by simp⟩
  |some b=>
   obtain⟨aa,h⟩:=hH h;obtain⟨ad,h⟩:=hH h;refine⟨(fun a h=>by cases h),(fun ey ah=>by cases ah;exact⟨aa,by omega⟩),by simp⟩
 |some a=>
  cases hi with
  |none=>
   obtain⟨aa,h⟩:=hH h;obtain⟨ad,h⟩:=hH h;refine⟨(fun b5 aS=>by cases aS;exact⟨aa,by omega⟩),(fun b h=>by cases h), ?_⟩;simp only[apC,Option.map_none,Option.getD_none];omega
  |some b=>
   obtain⟨aa,h⟩:=hH h;obtain⟨ad,h⟩:=hH h;obtain⟨ax,h⟩:=hH h;refine⟨(fun b5 aS=>by cases aS;exact⟨aa,by omega⟩),(fun ey ah=>by cases ah;exact⟨by omega,by omega⟩), ?_⟩;simp only[apC,apI];omega
theorem yK {α:Type}(l:List α)(lo hi:Option Int)(h:∀p∈mo l.length lo hi,p)(d:α):
 (kg l lo hi).length=(hi.map Int.toNat).getD l.length-(lo.getD 0).toNat/\
 ∀i,i<(kg l lo hi).length->(kg l lo hi).getD i d=l.getD ((lo.getD 0).toNat+i) d:=by
 obtain⟨aa,ad,ax⟩:=sr h
 cases lo with
 |none=>
  cases hi with
  |none=>simp[kg]
  |some b=>
   have:=ad b rfl;simp only[kg,apI,apC,Option.getD_none,Int.toNat_zero,apf];refine⟨by omega,fun i hi=> ?_⟩;simp[aoC,show i<b.toNat by omega]
 |some a=>
  have aS:=aa a rfl
  cases hi with
  |none=>
   simp only[kg,Option.map_none,apC,Option.getD_none,apP];refine⟨trivial,fun i hi=>by simp[aoC]⟩
  |some b=>
   have:=ad b rfl;simp only[apC,apI]at ax;simp only[kg,apI,apC,apP,apf];refine⟨by omega,fun i hi=>by simp[aoC,show a.toNat+i<b.toNat by omega]⟩
theorem ZF {Z:Nat->Prop}{x y:U}{a:Option Addr}{len cap:Nat}(h:bA Z w x (.slice a len cap))(az:x.len=len)(lo m:Nat)(hm:lo+m<=len)
 (he:y.cL=x.cL) (bn:y.len=m) (ae:(∃k p q,x= .af k p/\y= .af k q/\∀i,i<m->q.getD i 0=p.getD (lo+i) 0)\/
   ∃an p q,x= .av an p/\y= .av an q/\∀i,i<m->q.getD i []=p.getD (lo+i) []):
 bA Z w y (.slice (if cap=lo then a else a.map (·.add (lo*x.cL))) m (cap-lo)):=by
 rcases ae with⟨k,p,q,rfl,rfl,aZ⟩|⟨an,p,q,rfl,rfl,aZ⟩
 ·simp only[U.len,U.cL]at*
  cases rD:m with
  |zero=>
   rw[rD]at bn;have:q=[]:=apl.1 bn;subst this;exact .jj _ _ _
  |succ r=>
   cases h with
   |jj=>simp at hm;omega
   |af _ _ n b off cap aB bm aC hp=>
    have cT:¬cap=lo:=by omega
    rw[aoA cT];simp only[apI,mN];rw[<-rD];refine .af k q m b _ _ bn bm (by omega) fun i hi=> ?_;rw[aZ i hi,ao_,apA];exact hp (lo+i) (by omega)
 ·simp only[U.len,U.cL]at*
  cases rD:m with
  |zero=>
   rw[rD]at bn;have:q=[]:=apl.1 bn;subst this;exact .kO _ _ _
  |succ r=>
   cases h with
   |kO=>simp at hm;omega
   |av _ _ n b off cap u aB cr bm aC hp ao=>
    have cT:¬cap=lo:=by omega
    rw[aoA cT];simp only[apI,mN];rw[<-rD];refine .av an q m b _ _ (fun i j=>u (lo+i) j) bn cr bm (by omega) (fun i j hi aK=> ?_) (fun i j hi aK=> ?_)
    ·have:=hp (lo+i) j (by omega) aK;rwa [show off+lo*an+i*an+j=off+(lo+i)*an+j by rw[aoX];omega]
    ·rw[aZ i hi];exact ao (lo+i) j (by omega) aK
theorem Bi (z8:Bool)(n len cap:Nat)(aC:len<=cap)(lo hi:Option Value)(a b:Option Int)
 (hV:∀v,lo=some v->∃k z,v= .int k z/\a=some z) (Sz:lo=none->a=none) (my:∀v,hi=some v->∃k z,v= .int k z/\b=some z) (age:hi=none->b=none)
 (fr:∀p∈mo n a b,p) (aB:n=len):
 (Instr.sliceBounds z8 len cap lo hi none).run P w= .ok ((a.getD 0).toNat,(b.map Int.toNat).getD len,cap) w:=by
 subst aB;obtain⟨aa,ad,ax⟩:=sr fr
 have ah:∀(code:BoundsCode) (k:IntKind) (z:Int) (y:Nat),0<=z->z.toNat<=y->(Instr.sliceBound (.int k z) y code).run P w= .ok z.toNat w:=fun code k z y bc bn=>by
  simp[Instr.sliceBound,asIntOf,bc,show z<=(y:Int) by omega]
 cases hi with
 |none=>
  rw[age rfl]at ax⊢
  cases lo with
  |none=>rw[Sz rfl];simp[Instr.sliceBounds]
  |some v=>
   obtain⟨k,z,rfl,rfl⟩:=hV v rfl;obtain⟨g1,g2⟩:=aa z rfl;simp[Instr.sliceBounds,ah _ k z n g1 g2]
 |some v=>
  obtain⟨k,z,rfl,rfl⟩:=my v rfl;obtain⟨g1,g2⟩:=ad z rfl;have TA:=fun c=>ah c k z cap g1 (by omega)
  cases lo with
  |none=>rw[Sz rfl];simp[Instr.sliceBounds,TA]
  |some c7=>
   obtain⟨cz,UH,rfl,rfl⟩:=hV c7 rfl;obtain⟨aiU,an2⟩:=aa UH rfl;simp only[apC,apI]at ax;simp[Instr.sliceBounds,TA,ah _ cz UH z.toNat aiU ax]
end
end Go.aj
end
section
namespace Go.aj
section
variable {P:Program} {N:Nat->Prop} {ρ:List Loc} {I:aF} {w:World}
theorem qN (h:ct N ρ I w){id:Nat}{aw:Loc}(az:ρ[id]? =some aw)(aT:cw I id=true){t:bb}(fj:jz t (ag.at I id)=true):
 bA (aL N ρ I) w (ag.at I id).data (.slice aw.a (ag.at I id).len aw.cap):=by
 have cf:=h.ob id aw az
 have bm:∀b,aw.bE=some b->¬aL N ρ I b:=fun b ah bm=>by
  rcases bm with aB|⟨j,cF,aa,ad,ax⟩
  ·exact h.fR id aw b az ah aB
  ·have:=h.inj id j aw cF b az aa ah ad (fun⟨_,n,an,e⟩=>by rw[e]at fj;cases t<;>simp[jz]at fj) (nY ax);subst this;rw[aT]at ax;cases ax
 cases aH:ag.at I id with
 |af k l=>
  rw[aH]at cf;rcases cf with⟨rfl,ad⟩|⟨b,aI,e,aa,ad,ax,aV,bp,b1⟩
  ·exact .jj _ _ _
  ·rw[aa];exact .af k l _ b 0 _ rfl (bm b ad) aV fun i hi=>by simp[World.cell?,ax,b1 i hi]
 |av an l=>
  rw[aH]at cf;rcases cf with⟨rfl,ad⟩|⟨b,aI,e,aa,ad,ax,aV,bp,cr,b1⟩
  ·exact .kO _ _ _
  ·rw[aa];refine .av an l _ b 0 _ (fun i j=>aI.getD (i*an+j) undef) rfl cr (bm b ad) aV (fun i j hi aK=> ?_) (fun i j hi aK=> ?_)
   ·obtain⟨v,aM,_⟩:=b1 i j hi aK;simp[World.cell?,ax,aoJ,aM]
   ·obtain⟨v,aM,ao⟩:=b1 i j hi aK;simpa[aoJ,aM]using ao
 |_=>rw[aH]at fj;cases t<;>simp[jz]at fj
theorem Ol {id:Nat}{u:Value}{k:IntKind}{l:List Int}(ak:bF (aL N ρ I) w ρ I (.vec id) u)(h:ag.at I id= .af k l):
 ∃aw,ρ[id]? =some aw/\u= .slice aw.a l.length aw.cap:=by
 obtain⟨aw,aa,ad,_⟩:=ak;exact⟨aw,aa,by rw[ad,h];rfl⟩
theorem nT {tm:List R}{a:Act}(au:eg (aL N ρ I) w ρ I tm a.tmps)(o:Option Operand){z:Option Int}(h:mf (omap (a_ tm) o)=some z):
 (∀v,o.map a.eval=some v->∃k y,v= .int k y/\z=some y)/\(o.map a.eval=none->z=none):=by
 cases o with
 |none=>simp[omap,mf]at h;subst h;simp
 |some x=>
  have ak:=eA au x;simp only[omap]at h
  cases he:a_ tm x with
  |d y=>
   rw[he]at h ak
   cases y with
   |int k n=>
    simp[mf]at h;subst h;have:=jh ak;exact⟨fun v aM=>by simp at aM;subst aM;exact⟨k,n,this,rfl⟩,fun aM=>by simp at aM⟩
   |_=>simp[mf]at h
  |_=>rw[he]at h;simp[mf]at h
theorem yj {t e:TypeId}{g:TypeInfo}(hu:P.underlying t=some (.slice e))(bg:P.info? e=some g)(a:Option Addr)(len cap:Nat)(lo hi dr:Option Value){l h m:Nat}
 (ah:(Instr.sliceBounds true len cap lo hi dr).run P w= .ok (l,h,m) w):
 (Instr.sliceAt t (.slice a len cap) lo hi dr).run P w= .ok (.slice (if m=l then a else a.map (·.add (l*g.size))) (h-l) (m-l)) w:=by
 simp[Instr.sliceAt,Instr.slice,underlying,hu,ah,lk bg]
theorem NC {t:TypeId}{i:b4}(hi:c4 P t i=true)(ay:iB i.ty=true){e:TypeId}(he:P.underlying t=some (.slice e)):∃g,P.info? e=some g:=by
 have:∃x,hg i.ty x=true:=by
  cases b_:i.ty with
  |aE s=>
   rw[b_]at ay
   cases s with
   |cv k=>exact⟨.af k [],jt.2 rfl⟩
   |ee an=>exact⟨.av an [],apB an⟩
   |_=>simp[iB]at ay
  |_=>rw[b_]at ay;simp[iB]at ay
 obtain⟨x,ak⟩:=this;obtain⟨cb,g,aa,ad,_⟩:=sh hi ak;rw[he]at aa;cases aa;exact⟨g,ad⟩
theorem Om {t:bb}{o:ag}(h:hg t o.data=true):jz t o=true:=by
 cases t with
 |aE s=>cases o<;>cases s<;>simp_all [jz,hg,ag.data]
 |_=>cases o<;>simp[hg]at h
theorem W1 {t:TypeId}{i:b4}(hi:c4 P t i=true)(bI:ct N ρ I w){cZ:Operand}{lo eJ dr:Option Operand}{tm:List R}{a:Act}
 (au:eg (aL N ρ I) w ρ I tm a.tmps) {ch:List Prop} {v:R} {al:aF}
 (h:kD i.ty (a_ tm cZ) (omap (a_ tm) lo) (omap (a_ tm) eJ) (omap (a_ tm) dr) I= .a6 ch v al) (ay:∀p∈ch,p):
 ∃u,(Instr.sliceAt t (a.eval cZ) (lo.map a.eval) (eJ.map a.eval) (dr.map a.eval)).run P w= .ok u w/\cn N ρ I w ρ al w/\bF (aL N ρ al) w ρ al v u:=by
 have ak:=eA au cZ;generalize a_ tm cZ=x at*;unfold kD at h;split at h
 ·rename_i rE;have zE:dr=none:=by cases dr<;>simp[omap]at rE⊢
  subst zE;split at h
  ·rename_i gg hl hV my;obtain⟨dj,df⟩:=nT au lo hV;obtain⟨dG,dD⟩:=nT au eJ my
   have bounds:∀(z8:Bool) (n cap:Nat),n<=cap->(∀p∈mo n gg hl,p)->
    (Instr.sliceBounds z8 n cap (lo.map a.eval) (eJ.map a.eval) none).run P w= .ok ((gg.getD 0).toNat,(hl.map Int.toNat).getD n,cap) w:=
    fun z8 n cap aC fr=>Bi z8 n n cap aC _ _ gg hl dj df dG dD fr rfl
   have cut:∀(x y:U) (u:Value),bA (aL N ρ al) w x u->hg i.ty x=true->(∀p∈mo x.len gg hl,p)->y.cL=x.cL->y.len=(hl.map Int.toNat).getD x.len-(gg.getD 0).toNat->
    ((∃k p q,x= .af k p/\y= .af k q/\∀i,i<y.len->q.getD i 0=p.getD ((gg.getD 0).toNat+i) 0)\/
      ∃an p q,x= .av an p/\y= .av an q/\∀i,i<y.len->q.getD i []=p.getD ((gg.getD 0).toNat+i) [])->
    ∃c2,(Instr.sliceAt t u (lo.map a.eval) (eJ.map a.eval) none).run P w= .ok c2 w/\bA (aL N ρ al) w y c2:=by
    intro x y u ao aT fr he bn ae;obtain⟨e,g,E5,bg,cr,_⟩:=sh hi aT;obtain⟨_,_,ax⟩:=sr fr
    have uL:∃fN cap,u= .slice fN x.len cap/\x.len<=cap:=by
     cases ao with
     |jj fN cap k=>exact⟨fN,cap,rfl,by simp[U.len]⟩
     |af k l n b off cap aB bm aC h=>exact⟨some ⟨b,off,none⟩,cap,by rw[show(U.af k l).len=l.length from rfl,aB],by rw[show(U.af k l).len=l.length from rfl,aB];exact aC⟩
     |kO fN cap an=>exact⟨fN,cap,rfl,by simp[U.len]⟩
     |av an l n b off cap u aB cr bm aC h ao=>exact⟨some ⟨b,off,none⟩,cap,by rw[show(U.av an l).len=l.length from rfl,aB],by rw[show(U.av an l).len=l.length from rfl,aB];exact aC⟩
     |_=>cases b_:i.ty<;>simp[b_,hg]at aT
    obtain⟨fN,cap,rfl,p_⟩:=uL;have ah:=bounds true x.len cap p_ fr;refine⟨_,yj E5 bg fN x.len cap _ _ none ah, ?_⟩;rw[cr]
    have agf:(hl.map Int.toNat).getD x.len<=x.len:=by
     cases hl with
     |none=>simp
     |some z=>exact((sr fr).2.1 z rfl).2
    refine ZF ao rfl _ _ (by omega) he bn ?_;rw[bn]at ae;exact ae
   split at h
   ·rename_i k l;split at h
    ·rename_i aT;simp only[bT.a6.injEq]at h;obtain⟨rfl,rfl,rfl⟩:=h;obtain⟨fi,fb⟩:=yK l gg hl ay 0;obtain⟨c2,a7,bl⟩:=cut (.af k l) (.af k (kg l gg hl)) _ ak aT ay rfl fi (.inl ⟨k,l,_,rfl,rfl,fb⟩);exact⟨c2,a7,cn.refl bI, .dc bl⟩
    ·cases h
   ·rename_i an l;split at h
    ·rename_i aT;simp only[bT.a6.injEq]at h;obtain⟨rfl,rfl,rfl⟩:=h;obtain⟨fi,fb⟩:=yK l gg hl ay [];obtain⟨c2,a7,bl⟩:=cut (.av an l) (.av an (kg l gg hl)) _ ak aT ay rfl fi (.inr ⟨an,l,_,rfl,rfl,fb⟩);exact⟨c2,a7,cn.refl bI, .dc bl⟩
    ·cases h
   ·rename_i l;split at h
    ·rename_i b_;simp only[bT.a6.injEq]at h;obtain⟨rfl,rfl,rfl⟩:=h;obtain⟨s,hu,az⟩:=uc ak;have hlen:l.length=s.size:=by rw[az,aoK,apH];rfl
     have uW:=sm hi b_;have ah:=bounds false s.size s.size (aoH _) (by rw[<-hlen];exact ay);refine⟨.string (s.extract (gg.getD 0).toNat ((hl.map Int.toNat).getD s.size)), ?_,cn.refl bI, .dc (bA.str _ _ ?_)⟩
     ·rw[hu];simp only[Instr.sliceAt,Sem.run_bind,run_underlying uW,Result.andThen_ok,Instr.slice,Option.map_none,Option.isSome_none,apU,if_false,ah,Sem.run_pure]
     ·obtain⟨fi,fb,k7⟩:=sr ay
      have aA:(s.extract (gg.getD 0).toNat ((hl.map Int.toNat).getD s.size)).data.toList=(s.data.toList.take ((hl.map Int.toNat).getD s.size)).drop (gg.getD 0).toNat:=by
       rw[ByteArray.data_extract,Array.toList_extract,List.extract_eq_drop_take',List.drop_take]
      rw[aA,az];have cr:s.data.toList.length=s.size:=by rw[apH];rfl
      cases gg<;>cases hl<;>simp only[kg,Option.getD_none,apC,Option.map_none,apI,Int.toNat_zero,List.drop_zero,aqA,List.map_drop]
      ·rw[aqB (by rw[aoK,cr];exact aoH _)]
      ·rw[aqB (by rw[aoK,cr];exact aoH _)]
    ·cases h
   ·rename_i id;have hv:bF (aL N ρ I) w ρ I (.vec id) (a.eval cZ):=ak;split at h
    ·rename_i k l aH;split at h
     ·rename_i aT;simp only[bT.a6.injEq]at h;obtain⟨rfl,rfl,rfl⟩:=h;obtain⟨aw,az,hu⟩:=Ol hv aH;have cR:=cn.shut bI id;have fk:I.set id (true,ag.at I id)=e7 I id:=by rw[e7,e2]
      rw[fk]at cR;have cK:ag.at (e7 I id) id= .af k l:=by rw[<-fk,gN];split<;>simp[aH]
      have en:cw (e7 I id) id=true:=by rw[<-fk,ir,aoB ⟨rfl,bI.jW az⟩]
      have ao:=qN cR.rel az en (t:=i.ty) (by rw[cK];exact Om aT);rw[cK]at ao;obtain⟨fi,fb⟩:=yK l gg hl ay 0;obtain⟨c2,a7,bl⟩:=cut (.af k l) (.af k (kg l gg hl)) _ ao aT ay rfl fi (.inl ⟨k,l,_,rfl,rfl,fb⟩);exact⟨c2,by rw[hu];exact a7,cR, .dc bl⟩
     ·cases h
    ·rename_i an l aH;split at h
     ·rename_i aT;simp only[bT.a6.injEq]at h;obtain⟨rfl,rfl,rfl⟩:=h;obtain⟨aw,az,hu,_⟩:=hv;have cR:=cn.shut bI id;have fk:I.set id (true,ag.at I id)=e7 I id:=by rw[e7,e2]
      rw[fk]at cR;have cK:ag.at (e7 I id) id= .av an l:=by rw[<-fk,gN];split<;>simp[aH]
      have en:cw (e7 I id) id=true:=by rw[<-fk,ir,aoB ⟨rfl,bI.jW az⟩]
      have ao:=qN cR.rel az en (t:=i.ty) (by rw[cK];exact Om aT);rw[cK]at ao;obtain⟨fi,fb⟩:=yK l gg hl ay [];obtain⟨c2,a7,bl⟩:=cut (.av an l) (.av an (kg l gg hl)) _ ao aT ay rfl fi (.inr ⟨an,l,_,rfl,rfl,fb⟩);exact⟨c2,by rw[hu,aH];exact a7,cR, .dc bl⟩
     ·cases h
    ·cases h
   ·split at h
    ·rename_i aT;simp only[bT.a6.injEq]at h;obtain⟨rfl,rfl,rfl⟩:=h;obtain⟨fN,hu⟩:=ak;obtain⟨e,he⟩:=qK hi aT;obtain⟨g,bg⟩:=NC hi aT he;have ah:=bounds true 0 0 (aoH _) ay;refine⟨_,by rw[hu];exact yj he bg fN 0 0 _ _ none ah,cn.refl bI, .dc ?_⟩
     have aA:(hl.map Int.toNat).getD 0=0:=by
      cases hl with
      |none=>rfl
      |some z=>have:=((sr ay).2.1 z rfl).2;simp;omega
     have aG:=(sr ay).2.2;rw[aA]at aG⊢;have bR:(gg.getD 0).toNat=0:=by omega
     rw[bR];exact⟨_,rfl⟩
    ·cases h
   ·cases h
  ·cases h
 ·rename_i k rE
  obtain⟨px,aiV,agh⟩:∃px,dr=some px/\a_ tm px= .d (.int k (.ofNat 0)):=by
   cases dr with
   |none=>simp[omap]at rE
   |some px=>simp only[omap,aoY]at rE;exact⟨px,rfl,rE⟩
  have hm:=eA au px;rw[agh]at hm;have hm:=jh hm
  have key:∀(y:U),x= .d y->hg i.ty y=true->(lo.map a.eval=none\/∃cz,lo.map a.eval=some (.int cz 0))->(∃cz,eJ.map a.eval=some (.int cz 0))->
   ∃u,(Instr.sliceAt t (a.eval cZ) (lo.map a.eval) (eJ.map a.eval) (dr.map a.eval)).run P w= .ok u w/\bF (aL N ρ I) w ρ I .emp u:=by
   intro y bn aT aa ⟨bl,ad⟩;subst bn;obtain⟨e,g,he,bg,_⟩:=sh hi aT
   have uL:∃fN n cap,a.eval cZ= .slice fN n cap:=by
    cases y with
    |af AR l=>obtain⟨fN,cap,hu,_⟩:=BH ak;exact⟨fN,_,cap,hu⟩
    |av an l=>obtain⟨fN,cap,hu,_⟩:=GN ak;exact⟨fN,_,cap,hu⟩
    |_=>cases b_:i.ty<;>simp[b_,hg]at aT
   obtain⟨fN,n,cap,hu⟩:=uL;rw[hu,aiV,ad];simp only[apI,hm]
   have ah:(Instr.sliceBounds true n cap (lo.map a.eval) (some (.int bl 0)) (some (.int k (Int.ofNat 0)))).run P w= .ok (0,0,0) w:=by
    rcases aa with aa|⟨cz,aa⟩<;>rw[aa]<;>simp[Instr.sliceBounds,Instr.sliceBound,asIntOf]
   exact⟨_,yj he bg fN n cap _ _ _ ah, .dc ⟨_,rfl⟩⟩
  split at h
  ·rename_i hV my;obtain⟨dj,df⟩:=nT au lo hV;obtain⟨dG,dD⟩:=nT au eJ my;split at h
   ·rename_i y aT;simp only[bT.a6.injEq]at h;obtain⟨rfl,rfl,rfl⟩:=h
    obtain⟨u,a7,bl⟩:=key _ rfl aT
     (by cases az:lo.map a.eval with
       |none=>exact .inl rfl
       |some v=>obtain⟨_,_,_,ca⟩:=dj v az;cases ca)
     (by cases az:eJ.map a.eval with
       |none=>have:=dD az;cases this
       |some v=>obtain⟨cz,z,aM,ca⟩:=dG v az;cases ca;exact⟨cz,by rw[aM];rfl⟩)
    exact⟨u,a7,cn.refl bI,bl⟩
   ·cases h
  ·rename_i hV my;obtain⟨dj,df⟩:=nT au lo hV;obtain⟨dG,dD⟩:=nT au eJ my;split at h
   ·rename_i y aT;simp only[bT.a6.injEq]at h;obtain⟨rfl,rfl,rfl⟩:=h
    obtain⟨u,a7,bl⟩:=key _ rfl aT
     (by cases az:lo.map a.eval with
       |none=>exact .inl rfl
       |some v=>obtain⟨cz,z,aM,ca⟩:=dj v az;cases ca;exact .inr ⟨cz,by rw[aM];rfl⟩)
     (by cases az:eJ.map a.eval with
       |none=>have:=dD az;cases this
       |some v=>obtain⟨cz,z,aM,ca⟩:=dG v az;cases ca;exact⟨cz,by rw[aM];rfl⟩)
    exact⟨u,a7,cn.refl bI,bl⟩
   ·cases h
  ·cases h
 ·cases h
theorem ZG {Z:Nat->Prop}{an:Nat}{l:List (List U)}{b off cap:Nat}(h:bA Z w (.av an l) (.slice (some ⟨b,off,none⟩) l.length cap))(bc:0<l.length):¬Z b:=by
 generalize aB:l.length=n at h
 cases h with
 |kO a cap an=>omega
 |av an l n b off cap u az cr bm aC hp ao=>exact bm
theorem XH {Z:Nat->Prop}{x:U}{u:Value}{k:IntKind}(h:bA Z w x u)(ae:x.dg k):u= .int k x.toInt:=by
 cases h with
 |int cz n=>obtain rfl:cz=k:=ae;rfl
 |_=>exact ae.elim
theorem ZH (L:List U)(i:Nat):(L.map U.toInt).getD i 0=(L.getD i .undef).toInt:=by
 simp only[aoC,apv];cases L[i]? <;>rfl
theorem jU {α:Type}{L:List α}{i:Nat}(d:α)(h:i<L.length):L.getD i d∈L:=by
 rw[aoC,aoQ h];exact apJ h
theorem W2 {t:TypeId}{i:b4}(hi:c4 P t i=true)(bI:ct N ρ I w){x:R}{u:Value}(ak:bF (aL N ρ I) w ρ I x u){lo eJ dr:Option Operand}{tm:List R}{a:Act}
 (au:eg (aL N ρ I) w ρ I tm a.tmps) {ch:List Prop} {v:R} {al:aF}
 (h:pO i.ty x (omap (a_ tm) lo) (omap (a_ tm) eJ) (omap (a_ tm) dr) I= .a6 ch v al) (ay:∀p∈ch,p):
 ∃c2,(Instr.sliceAt t u (lo.map a.eval) (eJ.map a.eval) (dr.map a.eval)).run P w= .ok c2 w/\cn N ρ I w ρ al w/\bF (aL N ρ al) w ρ al v c2:=by
 unfold pO at h;split at h
 ·rename_i m k cs id n j b_ rE;have zE:dr=none:=by cases dr<;>simp[omap]at rE⊢
  subst zE;split at h
  ·rename_i an l gg hl aH hV my;split at h
   ·rename_i ah;have ah:j+m<=an:=ao9 ah;simp only[bT.a6.injEq]at h;obtain⟨rfl,rfl,rfl⟩:=h;have hlen:(l.getD n.toNat []).length=an:=ay _ (by simp)
    have hint:∀x∈lu (l.getD n.toNat []) j m an,x.dg k:=ay _ (by simp)
    have xl:∀p∈mo m gg hl,p:=fun p aD=>ay p (by simp[aD])
    obtain⟨dj,df⟩:=nT au lo hV;obtain⟨dG,dD⟩:=nT au eJ my;have qk:(Instr.sliceBounds false m m (lo.map a.eval) (eJ.map a.eval) none).run P w= .ok ((gg.getD 0).toNat,(hl.map Int.toNat).getD m,m) w:=Bi false m m m (aoH _) _ _ gg hl dj df dG dD xl rfl;obtain⟨el,g,q1,cI,cV⟩:=yx hi b_;have cV:g.size=1:=cV;obtain⟨aw,b,aA,aG,bR,cY,hO,jK⟩:=ak;have cR:=cn.shut bI id;have fk:I.set id (true,ag.at I id)=e7 I id:=by rw[e7,e2]
    rw[fk]at cR;have cK:ag.at (e7 I id) id= .av an l:=by rw[<-fk,gN];split<;>simp[aH]
    have en:cw (e7 I id) id=true:=by rw[<-fk,ir,aoB ⟨rfl,bI.jW aA⟩]
    have ao:=qN cR.rel aA en (t:= .aE (.ee an)) (by rw[cK];exact apB an);rw[cK]at ao;have ao:bA (aL N ρ (e7 I id)) w (.av an l) (.slice aw.a l.length aw.cap):=ao;rw[aG]at ao;have lZ:(ag.at I id).len=l.length:=by rw[aH];rfl
    have dO:(ag.at I id).cL=an:=by rw[aH];rfl
    rw[lZ]at jK;have bm:=ZG ao (by omega);obtain⟨c,j2,rF⟩:=GB ao n.toNat (show n.toNat<l.length by omega)
    have j2:∀m,m<an->w.cell? ⟨b,0+n.toNat*an+m,none⟩=some (c m):=j2
    have rF:∀m,m<an->bA (aL N ρ (e7 I id)) w ((l.getD n.toNat []).getD m .undef) (c m):=rF
    obtain⟨g1,g2⟩:=GO hlen ah;have py:((lu (l.getD n.toNat []) j m an).map U.toInt).length=m:=by rw[aoK];exact g1
    obtain⟨bu,br,cQ⟩:=sr xl;obtain⟨d1,d2⟩:=yK ((lu (l.getD n.toNat []) j m an).map U.toInt) gg hl (by rw[py];exact xl) 0;rw[py]at d1
    have agf:(hl.map Int.toNat).getD m<=m:=by
     cases hl with
     |none=>simp
     |some z=>exact(br z rfl).2
    refine⟨.slice (some (if m=(gg.getD 0).toNat then⟨b,n.toNat*an+j,none⟩else(⟨b,n.toNat*an+j,none⟩:Addr).add ((gg.getD 0).toNat*g.size))) ((hl.map Int.toNat).getD m-(gg.getD 0).toNat) (m-(gg.getD 0).toNat), ?_,cR, .dc ?_⟩
    ·rw[cY,dO];simp[Instr.sliceAt,Instr.sureAddr,underlying,q1,qk,lk cI]
    ·show bA _ w (.af k _) _;rw[cV,ao_,mN]
     by_cases hm:m=(gg.getD 0).toNat
     ·rw[aoB hm];have bc:(hl.map Int.toNat).getD m-(gg.getD 0).toNat=0:=by omega
      rw[bc]at d1⊢;rw[aqp d1];exact bA.jj _ _ _
     ·rw[aoA hm];refine bA.af k _ _ b _ _ d1 bm (by omega) fun q aZ=> ?_;rw[d2 q (by rw[d1];exact aZ)];have xy:(gg.getD 0).toNat+q<m:=by omega
      have qy:((lu (l.getD n.toNat []) j m an).map U.toInt).getD ((gg.getD 0).toNat+q) 0=((l.getD n.toNat []).getD (j+((gg.getD 0).toNat+q)) .undef).toInt:=by
       rw[<-g2 _ xy,ZH]
      rw[qy]
      have hH:(l.getD n.toNat []).getD (j+((gg.getD 0).toNat+q)) .undef∈lu (l.getD n.toNat []) j m an:=by
       rw[<-g2 _ xy];exact jU _ (by omega)
      have:=j2 (j+((gg.getD 0).toNat+q)) (by omega);rw[XH (rF (j+((gg.getD 0).toNat+q)) (by omega)) (hint _ hH)]at this;rw[<-this]
      congr 2
      omega
   ·cases h
  ·cases h
 ·cases h
theorem W3 {t:TypeId}{i:b4}(hi:c4 P t i=true)(bI:ct N ρ I w){cZ:Operand}{lo eJ dr:Option Operand}{tm:List R}{a:Act}
 (au:eg (aL N ρ I) w ρ I tm a.tmps) {ch:List Prop} {v:R} {al:aF}
 (h:sn i.ty (a_ tm cZ) (omap (a_ tm) lo) (omap (a_ tm) eJ) (omap (a_ tm) dr) I= .a6 ch v al) (ay:∀p∈ch,p):
 ∃u,(Instr.sliceAt t (a.eval cZ) (lo.map a.eval) (eJ.map a.eval) (dr.map a.eval)).run P w= .ok u w/\cn N ρ I w ρ al w/\bF (aL N ρ al) w ρ al v u:=by
 unfold sn at h;split at h
 ·exact W2 hi bI (eA au cZ) au h ay
 ·exact W1 hi bI au h ay
end
end Go.aj
end
section
namespace Go.aj
section
variable {P:Program} {N:Nat->Prop} {ρ:List Loc} {I:aF} {w:World}
theorem wb {t:R}{u:Value}(ay:t.nW=true)(h:bF (aL N ρ I) w ρ I t u):eE (aL N ρ I) w ρ I t u/\u.oneCell'=true:=by
 cases t with
 |d x=>exact⟨h,bA.one h⟩
 |bt=>have h:u= .bool true:=h;subst h;exact⟨rfl,rfl⟩
 |bf=>have h:u= .bool false:=h;subst h;exact⟨rfl,rfl⟩
 |emp=>obtain⟨a,rfl⟩:=h;exact⟨⟨a,rfl⟩,rfl⟩
 |vec id=>obtain⟨aw,aa,rfl,ad⟩:=h;exact⟨⟨aw,aa,rfl,ad⟩,rfl⟩
 |ptr id off=>obtain⟨aw,b,aa,ad,ax,rfl⟩:=h;exact⟨⟨aw,b,aa,ad,ax,rfl⟩,rfl⟩
 |optr id i j=>obtain⟨aw,b,aa,ad,ax,rfl,aV⟩:=h;exact⟨⟨aw,b,aa,ad,ax,rfl,aV⟩,rfl⟩
 |rptr x i j=>obtain⟨b,off,cap,aa,ad,ax,rfl⟩:=h;exact⟨⟨b,off,cap,aa,ad,ax,rfl⟩,rfl⟩
 |xj=>have h:u= .pointer none:=h;subst h;exact⟨rfl,rfl⟩
 |fn f=>have h:u= .func (.func f) #[] #[]:=h;subst h;exact⟨rfl,rfl⟩
 |cls f c=>obtain⟨rfl,ad⟩:=h;exact⟨⟨rfl,ad⟩,rfl⟩
 |_=>simp[R.nW]at ay
theorem Gr {t:R}(h:t.hj=true):t.nW=true:=by cases t<;>simp_all [R.hj,R.nW]
theorem yy {u:Value}(h:u.oneCell'=true):u.cells=#[u]:=by cases u<;>simp_all [Value.oneCell',Value.cells]
theorem tZ {t:bb}{v:R}{u:Value}(aT:v.fits t=true)(h:bF (aL N ρ I) w ρ I v u):
 u.cells.size=t.size/\v.cellsOf.length=t.size/\(∀x∈u.cells.toList,x.oneCell'=true)/\∀i,i<t.size->eE (aL N ρ I) w ρ I (v.cellsOf.getD i .un) (u.cells.getD i undef):=by
 have agg:∀(cs:List b6) (l:List R),v= .agg l->Nat.beq (bV l) (bV cs)=true->ef R.nW l=true->bV cs=t.size->
  u.cells.size=t.size/\v.cellsOf.length=t.size/\(∀x∈u.cells.toList,x.oneCell'=true)/\∀i,i<t.size->eE (aL N ρ I) w ρ I (v.cellsOf.getD i .un) (u.cells.getD i undef):=by
  intro cs l aM aa ad ax;subst aM;obtain⟨arr,rfl,aS,ao⟩:=h;have aa:=aoE aa;rw[cO]at aa;rw[fH,aoU]at ad;simp only[Value.cells,R.cellsOf];refine⟨by omega,by omega,fun x ak=> ?_,fun i hi=>ao i (by omega)⟩;obtain⟨i,hi,rfl⟩:=List.mem_iff_getElem.1 ak;have eJ:i<l.length:=by rw[<-aS];simpa using hi
  have vd:=ao i eJ;have aiW:=ad l[i] (apJ eJ);have aA:l.getD i .un=l[i]:=by simp[aoC,eJ]
  have aG:arr.getD i undef=arr.toList[i]:=by simp[aoJ,show i<arr.size by omega]
  rw[aA,aG]at vd;exact(wb aiW (.dc vd)).2
 cases t with
 |aE s=>
  obtain⟨aa,ad⟩:=wb aT h;have aC:=yy ad;have aM:v.cellsOf=[v]:=by cases v<;>first|rfl|simp[R.fits,R.nW]at aT
  rw[aC,aM];refine⟨rfl,rfl,by simpa using ad,fun i hi=> ?_⟩;have:i=0:=by simp[bb.size]at hi;omega
  subst this;exact aa
 |struct bW cs=>
  cases v<;>simp only[R.fits,apU]at aT;split at aT
  ·rename_i l _ ah;exact agg cs l rfl ah aT rfl
  ·cases aT
 |arr n e cs=>
  cases v<;>simp only[R.fits,apU]at aT;split at aT
  ·rename_i l _ ah;exact agg cs l rfl ah aT rfl
  ·cases aT
 |no=>cases v<;>simp[R.fits]at aT
theorem wc (l:List R)(off:Nat)(aI:List R):(setCells l off aI).length=l.length:=by
 induction aI generalizing l off with
 |nil=>rfl
 |cons v r bM=>simp[setCells,bM,e2]
theorem MC (l:List R)(off:Nat)(aI:List R)(k:Nat)(ae:k<l.length):
 (setCells l off aI).getD k .un=if off<=k/\k<off+aI.length then aI.getD (k-off) .un else l.getD k .un:=by
 induction aI generalizing l off with
 |nil=>rw[aoA (by simp)];rfl
 |cons v r bM=>
  simp only[setCells,e2];rw[bM _ _ (by simpa using ae),e1]
  by_cases aa:off+1<=k/\k<off+1+r.length
  ·rw[aoB aa,aoB (by simp;omega)];rw[show k-off=(k-(off+1))+1 by omega];simp
  ·rw[aoA aa]
   by_cases ad:off=k
   ·subst ad;rw[aoB ⟨rfl,ae⟩,aoB (by simp)];simp
   ·rw[aoA (by simp[ad]),aoA (by simp;omega)]
theorem tX (cur:Array Value)(o:Nat)(aI:List Value)(h:o+aI.length<=cur.size)(k:Nat):
 (cur.toList.take o++aI++cur.toList.drop (o+aI.length)).toArray[k]? =if o<=k/\k<o+aI.length then aI[k-o]? else cur[k]? :=by
 have az:(cur.toList.take o).length=o:=by simp;omega
 simp only[List.getElem?_toArray];rw[aqq,ao7,az]
 by_cases aa:k<o
 ·rw[aoB aa,aoA (by omega),apu,aoB aa];simp
 ·rw[aoA aa,ao7]
  by_cases ad:k<o+aI.length
  ·rw[aoB (by omega),aoB (by omega)]
  ·rw[aoA (by omega),aoA (by omega),ap4,show o+aI.length+(k-o-aI.length)=k by omega];simp
theorem we (cur:Array Value)(o:Nat)(aI:List Value)(h:o+aI.length<=cur.size):(cur.toList.take o++aI++cur.toList.drop (o+aI.length)).toArray.size=cur.size:=by
 simp;omega
theorem Bt (_:ct N ρ I w){id:Nat}{aw:Loc}{b:Nat}(dR:ρ[id]? =some aw)(ah:aw.bE=some b)(aT:cw I id=false)(ob:ag)(cs:Array Value):
 ∀x u,bA (aL N ρ I) w x u->bA (aL N ρ (I.set id (false,ob))) (w.setRow b cs) x u:=fun x u ao=>
 ao.mono fun ey _ bm=>⟨setRow_other w b ey cs fun e=>bm (.inr ⟨id,aw,dR,e▸ah,aT⟩),fun dn=>bm (by
  rcases dn with aB|⟨i,l,aa,ad,ax⟩
  ·exact .inl aB
  ·refine .inr ⟨i,l,aa,ad, ?_⟩;rw[ir]at ax
   by_cases e:id=i
   ·subst e;exact aT
   ·rwa [aoA (by simp[e])]at ax)⟩
theorem Yq (id:Nat)(ob:ag)(dR:id<I.length)(az:ob.len=(ag.at I id).len)(he:ob.cL=(ag.at I id).cL)(i:Nat):
 eR ρ I ρ (I.set id (false,ob)) i:=fun l iJ=>by
 refine⟨iJ, ?_⟩;rw[gN]
 by_cases e:id=i
 ·subst e;rw[aoB ⟨rfl,dR⟩];exact⟨az,he⟩
 ·rw[aoA (by simp[e])];exact⟨rfl,rfl⟩
theorem Bu {Z:Nat->Prop}{fc:R}{u:Value}(aY:fc.hj=true)(h:eE Z w ρ I fc u):bA Z w (fc.hR I) u/\∀s:b6,bA Z w ((s.norm I fc).hR I) u:=by
 cases fc<;>simp only[R.hj,apU]at aY
 case d x=>exact⟨h,fun s=>by cases s<;>exact h⟩
 case bt=>have h:u= .bool true:=h;subst h;exact⟨.bool true,fun s=>by cases s<;>exact .bool true⟩
 case bf=>have h:u= .bool false:=h;subst h;exact⟨.bool false,fun s=>by cases s<;>exact .bool false⟩
 case emp=>
  obtain⟨a,rfl⟩:=h;refine⟨.undef _ rfl,fun s=> ?_⟩
  cases s with
  |cv k=>exact .jj _ _ _
  |ee an=>exact .kO _ _ _
  |_=>exact .undef _ rfl
theorem yz (cs:List b6)(aI:List R):(iF I cs aI).length=aI.length:=by
 induction cs generalizing aI with
 |nil=>cases aI<;>rfl
 |cons s r bM=>cases aI with
  |nil=>rfl
  |cons v q=>simp[iF,bM]
theorem Bv {Z:Nat->Prop}(cs:List b6)(aI:List R)(us:Nat->Value)(aY:∀v∈aI,v.hj=true)(h:∀i,i<aI.length->eE Z w ρ I (aI.getD i .un) (us i)):
 ∀i,i<aI.length->bA Z w ((bz (R.hR I) (iF I cs aI)).getD i .undef) (us i):=by
 induction cs generalizing aI us with
 |nil=>
  intro i hi;have:iF I [] aI=aI:=by cases aI<;>rfl
  rw[this,dP];have e:(aI.map (R.hR I)).getD i .undef=(aI.getD i .un).hR I:=by simp[aoC,hi]
  rw[e];exact(Bu (by rw[aoC,aoQ hi];exact aY _ (apJ hi)) (h i hi)).1
 |cons s r bM=>
  intro i hi
  cases aI with
  |nil=>simp at hi
  |cons v q=>
   cases i with
   |zero=>exact(Bu (aY v (by simp)) (h 0 hi)).2 s
   |succ i=>
    have:=bM q (fun i=>us (i+1)) (fun x ak=>aY x (by simp[ak])) (fun i hi=>h (i+1) (by simpa using hi)) i (by simpa using hi);simpa[iF,bz]using this
theorem ND (r:List U)(j:Nat)(aI:List U)(k:Nat):
 (setRow r j aI).getD k .undef=if j<=k/\k<j+aI.length/\k<r.length then aI.getD (k-j) .undef else r.getD k .undef:=by
 induction aI generalizing r j with
 |nil=>rw[aoA (by simp;omega)];rfl
 |cons v q bM=>
  simp only[setRow];rw[bM,aoT,e1]
  by_cases aa:j+1<=k/\k<j+1+q.length/\k<r.length
  ·rw[aoB aa,aoB (by simp;omega)];rw[show k-j=(k-(j+1))+1 by omega];simp
  ·rw[aoA aa]
   by_cases ad:j=k/\j<r.length
   ·obtain⟨rfl,ad⟩:=ad;rw[aoB ⟨rfl,ad⟩,aoB (by simp;omega)];simp
   ·rw[aoA ad,aoA (by simp;omega)]
theorem sized {t:TypeId}{i:b4}(hi:c4 P t i=true)(aB:i.ty≠ .no):∃g,P.info? t=some g/\g.size=i.ty.size:=by
 cases b_:i.ty with
 |aE s=>obtain⟨g,aa,ad⟩:=Qw hi b_;exact⟨g,aa,ad⟩
 |struct bW cs=>obtain⟨g,d,aa,ad,_⟩:=wE hi (.inl ⟨bW,b_⟩);exact⟨g,aa,by rw[ad,bb.size,cO]⟩
 |arr n e cs=>obtain⟨g,d,aa,ad,_⟩:=wE hi (.inr ⟨n,e,b_⟩);exact⟨g,aa,by rw[ad,bb.size,cO]⟩
 |no=>exact absurd b_ aB
theorem Qx {t:bb}{v:R}(h:v.fits t=true):t≠ .no:=by
 rintro rfl;cases v<;>simp[R.fits]at h
theorem W4 {t:TypeId}{i:b4}(hi:c4 P t i=true){u:Value}(iK:i.ty≠ .no)(f1:u.cells.size=i.ty.size)(f3:∀x∈u.cells.toList,x.oneCell'=true)(b o:Nat)(cur:Array Value)(e:TypeId)
 (ah:w.heap[b]? =some (.cells cur e (0,0))) (cr:o+i.ty.size<=cur.size):
 (Instr.storeAt t (.pointer (some ⟨b,o,none⟩)) u).run P w= .ok () (w.setRow b (cur.toList.take o++u.cells.toList++cur.toList.drop (o+u.cells.toList.length)).toArray):=by
 obtain⟨g,aa,ad⟩:=sized hi iK;have cR:=run_storeCells_at P b o e u.cells.toList 0 cur w ah (by simp;omega) f3;simp only[ao0]at cR;simp[Instr.storeAt,Instr.sureAddr,storeVar,lk aa,f1,ad,cR]
theorem GQ {Z:Nat->Prop}:∀(cs:List b6) (r:List U) (j:Nat) (us:Nat->Value),(∀m,m<cs.length->bA Z w (r.getD (j+m) .undef) (us m))->(∀p∈(mZ cs r j).1,p)->
 (mZ cs r j).2.length=cs.length/\∀m,m<cs.length->eE Z w ρ I ((mZ cs r j).2.getD m .un) (us m)
 |[],r,j,us,_,_=>⟨rfl,fun m hm=>by simp at hm⟩
 |s::dL,r,j,us,h,ay=>by
  simp only[mZ]at ay⊢;obtain⟨aa,ad⟩:=GQ dL r (j+1) (fun m=>us (m+1)) (fun m hm=>by have:=h (m+1) (by simp;omega);rwa [show j+(m+1)=j+1+m by omega]at this) (fun p aD=>ay p (aqa _ aD));refine⟨by simpa using aa,fun m hm=> ?_⟩
  cases m with
  |zero=>exact tY (h 0 (by simp)) (ay _ (aqz ..))
  |succ m=>simpa using ad m (by simpa using hm)
theorem Yr {r v:List U}{j n an:Nat}(aM:v.length=n)(aK:j+n<=an)(ao:(j=0/\n=an)\/r.length=an)(c:Nat)(aC:c<an):
 (zb r j n an v).getD c .undef=if j<=c/\c<j+n then v.getD (c-j) .undef else r.getD c .undef:=by
 have part:j=0->n≠an->(v++r.drop n).getD c .undef=if j<=c/\c<j+n then v.getD (c-j) .undef else r.getD c .undef:=fun bc aB=>by
  subst bc;simp only[aoC,ao7]
  by_cases h:c<n
  ·rw[aoB (by omega),aoB (by omega),Nat.sub_zero]
  ·rw[aoA (by omega),aoA (by omega),ap4,show n+(c-v.length)=c by omega]
 unfold zb;split
 ·rename_i bc;have bc:=aoE bc;split
  ·rename_i aB;have aB:=aoE aB;rw[aoB (by omega),bc,Nat.sub_zero]
  ·rename_i aB;exact part bc fun e=>by subst e;rw[apB]at aB;cases aB
 ·rename_i bc;have bc:j≠0:=fun e=>by subst e;rw[apB]at bc;cases bc
  have ao:r.length=an:=ao.resolve_left fun e=>bc e.1;simp only[aoC,ao7,apf]
  by_cases aa:c<j
  ·rw[aoB (by omega),aoA (by omega),apu,aoB aa]
  ·rw[aoA (by omega)]
   by_cases ad:c<j+n
   ·rw[aoB (by omega),aoB (by omega),show c-min j r.length=c-j by omega]
   ·rw[aoA (by omega),aoA (by omega),ap4];simp only[Nat.add_eq]
    congr 2
    omega
theorem On (bI:ct N ρ I w){id:Nat}{aw:Loc}{b:Nat}(az:ρ[id]? =some aw)(hK:aw.a=some ⟨b,0,none⟩)(et:aw.bE=some b)(en:cw I id=false){an:Nat}{l:List (List U)}
 (aH:ag.at I id= .av an l) {n:Nat} (aB:n<l.length) {j:Nat} {us:List Value} (aK:j+us.length<=an) (l0:List U)
 (ao:∀c,c<an->if j<=c/\c<j+us.length then bA (aL N ρ I) w (l0.getD c .undef) (us.getD (c-j) undef)else l0.getD c .undef=(l.getD n []).getD c .undef):
 ∃aI e,w.heap[b]? =some (.cells aI e (0,0))/\n*an+j+us.length<=aI.size/\
  cn N ρ I w ρ (c0 I id (false, .av an (l.set n l0))) (w.setRow b (aI.toList.take (n*an+j)++us++aI.toList.drop (n*an+j+us.length)).toArray):=by
 have bG:=bI.jW az;have cf:=bI.ob id aw az;rw[aH]at cf;rcases cf with⟨rfl,_⟩|⟨ey,aI,e,a7,bl,bH,dJ,eZ,k8,gE⟩
 ·simp at aB
 rw[hK]at a7;simp at a7;subst a7
 have hbound:n*an+an<=aI.size:=by
  have:(n+1)*an<=aw.cap*an:=aoR _ (by omega);rw[aoX]at this;omega
 refine⟨aI,e,bH,by omega, ?_⟩;rw[e2];have gn:(ag.av an (l.set n l0)).len=(ag.at I id).len:=by rw[aH];simp[ag.len]
 have jm:(ag.av an (l.set n l0)).cL=(ag.at I id).cL:=by rw[aH];rfl
 have hm:=Bt bI az et en (ag.av an (l.set n l0)) ((aI.toList.take (n*an+j)++us++aI.toList.drop (n*an+j+us.length)).toArray);refine cn.write bI id aw b az et en _ gn jm _ (.inr ⟨b,_,e,hK,et,setRow_heap w b aI _ e (0,0) bH,by simpa using dJ, ?_,k8,fun q c aZ aC=> ?_⟩)
 ·rw[we _ _ _ (by omega)];exact eZ
 ·simp only[aoT]at aZ;rw[tX _ _ _ (by omega),e1]
  by_cases fh:n*an+j<=q*an+c/\q*an+c<n*an+j+us.length
  ·have rG:q=n:=by
    rcases Nat.lt_trichotomy q n with jY|rfl|aiX
    ·have:(q+1)*an<=n*an:=aoR _ (by omega);rw[aoX]at this;omega
    ·rfl
    ·have:(n+1)*an<=q*an:=aoR _ (by omega);rw[aoX]at this;omega
   subst rG;rw[aoB fh,aoB ⟨rfl,aZ⟩];have:=ao c aC;rw[aoB (by omega)]at this;refine⟨us.getD (c-j) undef, ?_,hm _ _ this⟩;rw[show q*an+c-(q*an+j)=c-j by omega,aoQ (by omega)];simp[aoC,show c-j<us.length by omega]
  ·rw[aoA fh];obtain⟨qz,xz,o_⟩:=gE q c aZ aC;refine⟨qz,xz, ?_⟩
   by_cases rG:n=q
   ·subst rG;have:=ao c aC;rw[aoA (by omega)]at this;rw[aoB ⟨rfl,aZ⟩,this];exact hm _ _ o_
   ·rw[aoA (by simp[rG])];exact hm _ _ o_
theorem W5 {t:TypeId}{i:b4}(hi:c4 P t i=true)(bI:ct N ρ I w){x:R}{tJ u:Value}(ak:bF (aL N ρ I) w ρ I x tJ){r:List U}(aM:bF (aL N ρ I) w ρ I (.rw i.ty.size r) u)
 {ch:List Prop} {v:R} {al:aF} (h:qX i.ty x r I= .a6 ch v al) (rn:∀p∈ch,p):
 ∃w',v= .un/\(Instr.storeAt t tJ u).run P w= .ok () w'/\cn N ρ I w ρ al w':=by
 obtain⟨a,rfl,E6,aiY,lL⟩:=aM;unfold qX at h;split at h;rotate_left
 ·cases h
 rename_i id n j nw;have iK:i.ty≠ .no:=by intro e;rw[e]at nw;cases nw
 split at h;rotate_left
 ·cases h
 rename_i an l en aH;split at h;rotate_left
 ·cases h
 rename_i hle;simp only[bT.a6.injEq]at h;obtain⟨rfl,rfl,rfl⟩:=h;have hle:j+i.ty.size<=an:=ao9 hle;have z_:r.length=i.ty.size:=aiY
 have aiZ:(j=0/\i.ty.size=an)\/(l.getD n.toNat []).length=an:=by
  by_cases aZ:Nat.beq j 0=true/\Nat.beq i.ty.size an=true
  ·exact .inl ⟨aoE aZ.1,aoE aZ.2⟩
  ·refine .inr (rn _ ?_);unfold Qu;split
   ·rename_i aa ad;exact(aZ ⟨aa,ad⟩).elim
   ·simp
 obtain⟨aw,b,az,hK,et,hu,bc,aa⟩:=ak;rw[aH]at aa hu;simp only[ag.len,ag.cL]at aa hu;have nB:(Value.agg a).cells.toList.length=i.ty.size:=by show a.toList.length=_;simp;omega
 have Jj:∀c,c<an->if j<=c/\c<j+(Value.agg a).cells.toList.length then bA (aL N ρ I) w ((zb (l.getD n.toNat []) j i.ty.size an r).getD c .undef) ((Value.agg a).cells.toList.getD (c-j) undef)else(zb (l.getD n.toNat []) j i.ty.size an r).getD c .undef=(l.getD n.toNat []).getD c .undef:=fun c aC=>by
  rw[Yr z_ hle aiZ c aC,nB];split
  ·have:=lL (c-j) (by omega);simpa[Value.cells,aoJ,aoC]using this
  ·rfl
 obtain⟨aI,e,s1,s2,k9⟩:=On bI az hK et en aH (n:=n.toNat) (by omega) (by rw[nB];exact hle) _ Jj;rw[nB]at s2;have f1:(Value.agg a).cells.size=i.ty.size:=by rw[<-nB];simp
 have xm:∀y∈(Value.agg a).cells.toList,y.oneCell'=true:=fun y bn=>by
  simp only[Value.cells,Array.mem_toList_iff]at bn;obtain⟨m,hm,rfl⟩:=Array.getElem_of_mem bn;have:=(lL m (by omega)).one;simpa[aoJ,hm]using this
 refine⟨_,rfl,by rw[hu];exact W4 (w:=w) hi iK f1 xm b (n.toNat*an+j) aI e s1 s2,k9⟩
theorem wg {Z:Nat->Prop}{t:bb}{v:R}{u:Value}{r:List U}(h:oS I t v=some r)(aM:bF Z w ρ I v u):bF Z w ρ I (.rw t.size r) u:=by
 unfold oS at h;split at h
 ·split at h
  ·rename_i aB;obtain rfl:=aoL h;rw[<-aoE aB];exact aM
  ·cases h
 ·rename_i l;split at h
  ·rename_i nw aB aY;obtain rfl:=aoL h;obtain⟨a,rfl,aa,ad⟩:=aM
   have cr:l.length=t.size:=by
    have:=aoE aB;rw[cO,cO]at this;rw[this];cases t<;>first|(simp[bb.cells,bb.size,cO];done)|cases nw
   rw[fH,aoU]at aY;have az:(mn I t.cells (.agg l)).length=l.length:=by unfold mn;rw[dP,aoK,yz];rfl
   refine⟨a,rfl,by rw[<-cr];exact aa,by rw[az];exact cr,fun m hm=> ?_⟩;rw[<-cr]at hm;exact Bv t.cells l (fun m=>a.getD m undef) aY ad m hm
  ·cases h
 ·cases h
theorem Bw {t:TypeId}{i:b4}(hi:c4 P t i=true){v:R}{u:Value}(aT:v.fits i.ty=true)(hu:bF (aL N ρ I) w ρ I v u)(b o:Nat)(cur:Array Value)(e:TypeId)
 (ah:w.heap[b]? =some (.cells cur e (0,0))) (cr:o+i.ty.size<=cur.size):
 (Instr.storeAt t (.pointer (some ⟨b,o,none⟩)) u).run P w= .ok () (w.setRow b (cur.toList.take o++u.cells.toList++cur.toList.drop (o+u.cells.toList.length)).toArray):=by
 obtain⟨g,aa,ad⟩:=sized hi (Qx aT);obtain⟨f1,f2,f3,f4⟩:=tZ aT hu;have cR:=run_storeCells_at P b o e u.cells.toList 0 cur w ah (by simp;omega) f3;simp only[ao0]at cR;simp[Instr.storeAt,Instr.sureAddr,storeVar,lk aa,f1,ad,cR]
theorem Wt {t:TypeId}{i:b4}(hi:c4 P t i=true)(bI:ct N ρ I w){id:Nat}{n:Int}{j:Nat}{tJ u:Value}(ak:bF (aL N ρ I) w ρ I (.oat id n j) tJ){y:R}(aM:bF (aL N ρ I) w ρ I y u)
 {ch:List Prop} {v:R} {al:aF} (h:qQ i.ty id n j y I= .a6 ch v al):
 ∃w',v= .un/\(Instr.storeAt t tJ u).run P w= .ok () w'/\cn N ρ I w ρ al w':=by
 unfold qQ at h;split at h;rotate_left
 ·cases h
 rename_i s b_;split at h;rotate_left
 ·cases h
 rename_i an l en aH aY;simp only[bT.a6.injEq]at h;obtain⟨rfl,rfl,rfl⟩:=h;obtain⟨aw,b,az,hK,et,hu,bc,aa,k6⟩:=ak;rw[aH]at aa hu k6;simp only[ag.len,ag.cL]at aa hu k6;have fj:R.fits i.ty y=true:=by rw[b_];cases y<;>first|rfl|cases aY
 obtain⟨f1,f2,f3,f4⟩:=tZ fj aM;have SA:i.ty.size=1:=by rw[b_];rfl
 have bn:y.cellsOf=[y]:=by cases y<;>first|rfl|cases aY
 have nB:u.cells.toList.length=1:=by rw[SA]at f1;simpa using f1
 have gv:bA (aL N ρ I) w ((s.norm I y).hR I) (u.cells.getD 0 undef):=by
  have:=f4 0 (by omega);rw[bn]at this;exact(Bu aY this).2 s
 have Jj:∀c,c<an->if j<=c/\c<j+u.cells.toList.length then bA (aL N ρ I) w (((l.getD n.toNat []).set j (R.hR I (s.norm I y))).getD c .undef) (u.cells.toList.getD (c-j) undef)else((l.getD n.toNat []).set j (R.hR I (s.norm I y))).getD c .undef=(l.getD n.toNat []).getD c .undef:=fun c aC=>by
  rw[nB,e1]
  by_cases e:j=c
  ·subst e;rw[aoB (by omega),Nat.sub_self];have aG:u.cells.toList.getD 0 undef=u.cells.getD 0 undef:=by simp[aoJ,aoC]
   rw[aG];split
   ·exact gv
   ·rename_i iK
    have uW:(l.getD n.toNat []).getD j .undef= .undef:=by
     simp only[aoC]at iK⊢;rw[api (by simp at iK;simpa using iK)];rfl
    rw[uW];exact .undef _ gv.one
  ·rw[aoA (by omega),aoA (by simp[e])]
 obtain⟨aI,e,s1,s2,k9⟩:=On bI az hK et en aH (n:=n.toNat) (by omega) (by omega) _ Jj;refine⟨_,rfl,by rw[hu];exact Bw (w:=w) hi fj aM b (n.toNat*an+j) aI e s1 (by omega),k9⟩
theorem W6 {t:TypeId}{i:b4}(hi:c4 P t i=true)(bI:ct N ρ I w){op k_:Operand}{tm:List R}{a:Act}(au:eg (aL N ρ I) w ρ I tm a.tmps)
 {ch:List Prop} {v:R} {al:aF} (h:pN i.ty (a_ tm op) (a_ tm k_) I= .a6 ch v al) (rn:∀p∈ch,p):
 ∃w',v= .un/\(Instr.storeAt t (a.eval op) (a.eval k_)).run P w= .ok () w'/\cn N ρ I w ρ al w':=by
 have ak:=eA au op;have aM:=eA au k_;generalize a_ tm op=x at*;generalize a_ tm k_=y at*;unfold pN at h;split at h
 ·rename_i r ao;exact W5 hi bI ak (wg ao aM) h rn
 split at h
 ·exact Wt hi bI ak aM h
 rename_i aeM;clear aeM;unfold ug at h;split at h
 ·rename_i id off;obtain⟨aw,b,az,hK,et,hu⟩:=ak;have bG:=bI.jW az;split at h
  ·rename_i l en aH fj;split at h
   ·rename_i hle;simp only[bT.a6.injEq]at h;obtain⟨rfl,rfl,rfl⟩:=h;have hle:=ao9 hle;rw[cO]at hle;simp only[Nat.add_eq]at hle;have cf:=bI.ob id aw az;rw[aH]at cf;obtain⟨ey,aI,e,a7,bl,bH,dJ,eZ⟩:=cf;rw[hK]at a7;simp at a7;subst a7;obtain⟨f1,f2,f3,f4⟩:=tZ fj aM;have hlen:(a.eval k_).cells.toList.length=i.ty.size:=by simpa using f1
    have ft:=Bw (w:=w) hi fj aM b off aI e bH (by omega);refine⟨_,rfl,by rw[hu];exact ft, ?_⟩;rw[e2];have gn:(ag.cells (setCells l off y.cellsOf)).len=(ag.at I id).len:=by rw[aH];simp[ag.len,wc]
    have jm:(ag.cells (setCells l off y.cellsOf)).cL=(ag.at I id).cL:=by rw[aH];rfl
    refine cn.write bI id aw b az et en _ gn jm _ ⟨b,_,e,hK,et,setRow_heap w b aI _ e (0,0) bH, ?_,fun k ae=> ?_⟩
    ·rw[we _ _ _ (by omega),dJ,wc]
    ·rw[wc]at ae
     have hm:∀(cs:Array Value) (fc:R) (qz:Value),eE (aL N ρ I) w ρ I fc qz->
      eE (aL N ρ (I.set id (false, .cells (setCells l off y.cellsOf)))) (w.setRow b cs) ρ (I.set id (false, .cells (setCells l off y.cellsOf))) fc qz:=fun cs fc qz bc=>
      bc.mono (Bt bI az et en (.cells (setCells l off y.cellsOf)) cs) (fun idx _=>Yq id (.cells (setCells l off y.cellsOf)) bG gn jm idx)
     rw[MC _ _ _ _ ae,aoJ,tX _ _ _ (by omega),hlen,f2]
     by_cases fh:off<=k/\k<off+i.ty.size
     ·rw[aoB fh,aoB fh];rw[show((a.eval k_).cells.toList[k-off]?).getD undef=(a.eval k_).cells.getD (k-off) undef by simp[aoJ]];exact hm _ _ _ (f4 (k-off) (by omega))
     ·rw[aoA fh,aoA fh];rw[show(aI[k]?).getD undef=aI.getD k undef by simp[aoJ]];exact hm _ _ _ (eZ k ae)
   ·cases h
  ·cases h
 ·rename_i id n j;obtain⟨aw,b,az,hK,et,hu,bc,aa⟩:=ak;have bG:=bI.jW az;have cf:=bI.ob id aw az;split at h
  ·rename_i k l en aH fj;split at h
   ·rename_i cz z _;split at h
    ·rename_i ae xx;obtain rfl:=aoE xx;simp only[bT.a6.injEq]at h;obtain⟨rfl,rfl,rfl⟩:=h;obtain rfl:=jt.1 ae;have E7:=jh aM;rw[aH]at cf aa hu;simp only[ag.len,ag.cL,ao_,ao0]at aa hu;rcases cf with⟨rfl,_⟩|⟨ey,aI,e,a7,bl,bH,dJ,eZ,gE⟩
     ·simp at aa;omega
     ·rw[hK]at a7;simp at a7;subst a7;obtain⟨f1,f2,f3,f4⟩:=tZ fj aM;have j3:(a.eval k_).cells.toList=[.int k z]:=by rw[E7];rfl
      have SA:i.ty.size=1:=by rw[<-f1,E7];rfl
      have ft:=Bw (w:=w) hi fj aM b n.toNat aI e bH (by omega);refine⟨_,rfl,by rw[hu];exact ft, ?_⟩;rw[e2];have gn:(ag.af k (l.set n.toNat z)).len=(ag.at I id).len:=by rw[aH];simp[ag.len]
      have jm:(ag.af k (l.set n.toNat z)).cL=(ag.at I id).cL:=by rw[aH];rfl
      refine cn.write bI id aw b az et en _ gn jm _ (.inr ⟨b,_,e,hK,et,setRow_heap w b aI _ e (0,0) bH,by simpa using dJ, ?_,fun q aZ=> ?_⟩)
      ·rw[we _ _ _ (by rw[j3];simp;omega)];exact eZ
      ·simp only[aoT]at aZ;rw[tX _ _ _ (by rw[j3];simp;omega),j3,e1]
       by_cases fh:n.toNat=q
       ·subst fh;rw[aoB (by simp),aoB ⟨rfl,aZ⟩];simp
       ·rw[aoA (by simp;omega),aoA (by simp[fh])];exact gE q aZ
    ·cases h
   ·cases h
  ·rename_i an l en aH fj;split at h
   ·rename_i hle Et;simp only[bT.a6.injEq]at h;obtain⟨rfl,rfl,rfl⟩:=h;have hle:=ao9 hle;simp only[Nat.add_eq]at hle;rw[fH,aoU]at Et;rw[aH]at cf aa hu;simp only[ag.len,ag.cL]at aa hu;rcases cf with⟨rfl,_⟩|⟨ey,aI,e,a7,bl,bH,dJ,eZ,k8,gE⟩
    ·simp at aa;omega
    ·rw[hK]at a7;simp at a7;subst a7;obtain⟨f1,f2,f3,f4⟩:=tZ fj aM;have hlen:(a.eval k_).cells.toList.length=i.ty.size:=by simpa using f1
     have jG:n.toNat<l.length:=by omega
     have hbound:n.toNat*an+an<=aI.size:=by
      have:(n.toNat+1)*an<=aw.cap*an:=aoR _ (by omega);rw[aoX]at this;omega
     have ft:=Bw (w:=w) hi fj aM b (n.toNat*an+j) aI e bH (by omega);refine⟨_,rfl,by rw[hu];exact ft, ?_⟩;rw[e2]
     have xn:∃ws:List U,bz (R.hR I) (i.ty.norm I y).cellsOf=ws/\ws.length=i.ty.size/\
      ∀m,m<i.ty.size->bA (aL N ρ I) w (ws.getD m .undef) ((a.eval k_).cells.getD m undef):=by
      refine⟨_,rfl, ?_⟩
      have xo:∀(cs:List b6) (q:List R),y.cellsOf=q->(i.ty.norm I y).cellsOf=iF I cs q->
       (bz (R.hR I) (i.ty.norm I y).cellsOf).length=i.ty.size/\
       ∀m,m<i.ty.size->bA (aL N ρ I) w ((bz (R.hR I) (i.ty.norm I y).cellsOf).getD m .undef) ((a.eval k_).cells.getD m undef):=by
       intro cs q aZ aB;rw[aB];refine⟨by rw[dP,aoK,yz,<-aZ,f2],fun m hm=> ?_⟩;rw[aZ]at Et f2 f4;exact Bv cs q (fun m=>(a.eval k_).cells.getD m undef) Et (fun qA eJ=>f4 qA (by omega)) m (by omega)
      cases b_:i.ty with
      |aE s=>
       rw[b_]at fj xo;have bn:y.cellsOf=[y]:=by cases y<;>first|rfl|simp[R.fits,R.nW]at fj
       have aY:=Et y (by rw[bn];simp);refine xo [s] [y] bn ?_;simp only[bb.norm,iF];cases y<;>simp only[R.hj,apU]at aY<;>cases s<;>rfl
      |struct bW cs=>
       rw[b_]at fj xo;cases y<;>simp only[R.fits,apU]at fj;exact xo cs _ rfl rfl
      |arr n' cb cs=>
       rw[b_]at fj xo;cases y<;>simp only[R.fits,apU]at fj;exact xo cs _ rfl rfl
      |no=>rw[b_]at fj;exact absurd rfl (Qx fj)
     obtain⟨ws,ai0,an3,Jk⟩:=xn;rw[ai0];have gn:(ag.av an (l.set n.toNat (setRow (l.getD n.toNat []) j ws))).len=(ag.at I id).len:=by rw[aH];simp[ag.len]
     have jm:(ag.av an (l.set n.toNat (setRow (l.getD n.toNat []) j ws))).cL=(ag.at I id).cL:=by rw[aH];rfl
     have hm:=Bt bI az et en (ag.av an (l.set n.toNat (setRow (l.getD n.toNat []) j ws)))
      ((aI.toList.take (n.toNat*an+j)++(a.eval k_).cells.toList++aI.toList.drop (n.toNat*an+j+(a.eval k_).cells.toList.length)).toArray)
     refine cn.write bI id aw b az et en _ gn jm _ (.inr ⟨b,_,e,hK,et,setRow_heap w b aI _ e (0,0) bH,by simpa using dJ, ?_,k8,fun q r aZ ao=> ?_⟩)
     ·rw[we _ _ _ (by omega)];exact eZ
     ·simp only[aoT]at aZ;rw[tX _ _ _ (by omega),hlen,e1];rw[hlen]at hm
      by_cases fh:n.toNat*an+j<=q*an+r/\q*an+r<n.toNat*an+j+i.ty.size
      ·
       have rG:q=n.toNat:=by
        rcases Nat.lt_trichotomy q n.toNat with jY|rfl|aiX
        ·have:(q+1)*an<=n.toNat*an:=aoR _ (by omega);rw[aoX]at this;omega
        ·rfl
        ·have:(n.toNat+1)*an<=q*an:=aoR _ (by omega);rw[aoX]at this;omega
       subst rG;rw[aoB fh,aoB ⟨rfl,aZ⟩];have ai1:r-j<i.ty.size:=by omega
       have aeN:(a.eval k_).cells.toList[n.toNat*an+r-(n.toNat*an+j)]? =some ((a.eval k_).cells.getD (r-j) undef):=by
        rw[show n.toNat*an+r-(n.toNat*an+j)=r-j by omega];simp[aoJ,show r-j<(a.eval k_).cells.size by omega]
       refine⟨_,aeN, ?_⟩;rw[ND];have:=hm _ _ (Jk (r-j) ai1);split
       ·exact this
       ·rename_i iK;have agi:¬r<(l.getD n.toNat []).length:=by omega
        have uW:(l.getD n.toNat []).getD r .undef= .undef:=by simp only[aoC]at agi⊢;rw[api (by omega)];rfl
        rw[uW];exact .undef _ this.one
      ·rw[aoA fh];obtain⟨qz,xz,o_⟩:=gE q r aZ ao;refine⟨qz,xz, ?_⟩
       by_cases rG:n.toNat=q
       ·subst rG;rw[aoB ⟨rfl,aZ⟩,ND,aoA (by omega)];exact hm _ _ o_
       ·rw[aoA (by simp[rG])];exact hm _ _ o_
   ·cases h
  ·cases h
 ·cases h
end
end Go.aj
end
section
namespace Go.aj
section
variable {P:Program} {N:Nat->Prop} {ρ:List Loc} {I:aF} {w:World}
theorem nU (w:World)(o:Obj):(w.alloc o).heap[w.heap.size]? =some o:=heap_alloc_new w o
theorem Bx (h:ct N ρ I w)(aw:Loc)(ah:aw.bE=some w.heap.size\/aw.bE=none)(p:Bool×ag)(o:Obj):
 ∀x u,bA (aL N ρ I) w x u->bA (aL N (ρ++[aw]) (I++[p])) (w.alloc o) x u:=fun x u ao=>
 ao.mono fun b bG bm=>⟨heap_alloc_old w o b bG,fun dn=>by
  rcases dn with aB|⟨i,l,aa,ad,ax⟩
  ·exact bm (.inl aB)
  ·rw[ao7]at aa
   by_cases hi:i<ρ.length
   ·rw[aoB hi]at aa;rw[kH,aoA (by rw[<-h.len];omega)]at ax;exact bm (.inr ⟨i,l,aa,ad,ax⟩)
   ·rw[aoA hi]at aa
    cases aY:i-ρ.length with
    |zero=>
     simp[aY]at aa;subst aa;rcases ah with ah|ah<;>rw[ah]at ad
     ·simp at ad;omega
     ·cases ad
    |succ n=>simp[aY]at aa⟩
theorem GR (h:ct N ρ I w)(aw:Loc)(p:Bool×ag)(id:Nat):eR ρ I (ρ++[aw]) (I++[p]) id:=fun l az=>by
 have:=h.jW az;refine⟨by rw[apy (by rw[h.len];exact this)];exact az, ?_⟩;rw[gM,aoA (by omega)];exact⟨rfl,rfl⟩
theorem qZ (h:ct N ρ I w)(aw:Loc):(ρ++[aw])[I.length]? =some aw:=by rw[<-h.len];simp
theorem Qy (h:ct N ρ I w)(elem:TypeId)(l:List R)(cs:Array Value)(ay:cs.size=l.length)(ao:∀i,i<l.length->eE (aL N ρ I) w ρ I (l.getD i .un) (cs.getD i undef)):
 ∃ρ',cn N ρ I w ρ' (I++[(false, .cells l)]) (w.alloc (.cells cs elem))/\
  bF (aL N ρ' (I++[(false, .cells l)])) (w.alloc (.cells cs elem)) ρ' (I++[(false, .cells l)]) (.ptr I.length 0) (.pointer (some ⟨w.heap.size,0,none⟩)):=by
 refine⟨_,cn.alloc h false (.cells l) (.cells cs elem) 0 ⟨w.heap.size,cs,elem,rfl,rfl,nU w _,ay,fun i hi=> ?_⟩, .dc ⟨_,w.heap.size,qZ h _,rfl,rfl,rfl⟩⟩;exact(ao i hi).mono (Bx h _ (.inl rfl) _ _) (fun id _=>GR h _ _ id)
theorem NF {Z:Nat->Prop}{s:b6}{v:Value}(h:ze s v=true):eE Z w ρ I s.zero v:=by
 cases s<;>cases v<;>simp only[ze,apU,aoM]at h<;>simp only[b6.zero]
 case int.int k cz n=>
  obtain⟨aa,ad⟩:=h;obtain rfl:=jt.1 aa
  cases n with
  |ofNat m=>cases m with
   |zero=>exact .int _ _
   |succ m=>exact absurd ad apD
  |negSucc m=>exact absurd ad apD
 case bool.bool b=>cases b<;>simp at h;exact .bool _
 case str.string s=>
  have bc:=aoE h;refine .str s [] ?_;have:s.data.toList=[]:=apl.1 (by rw[apH];exact bc);rw[this];rfl
 case cv.slice k a l c=>cases a<;>cases l<;>cases c<;>simp at h;exact⟨none,rfl⟩
 case ee.slice k a l c=>cases a<;>cases l<;>cases c<;>simp at h;exact⟨none,rfl⟩
 all_goals trivial
theorem GD {Z:Nat->Prop}{w:World}{ρ:List Loc}{I:aF}:∀{cs:List b6} {aI:List Value},mO cs aI=true->aI.length=cs.length/\∀i,i<cs.length->eE Z w ρ I ((bz b6.zero cs).getD i .un) (aI.getD i undef)
 |[],[],_=>⟨rfl,fun i hi=>by simp at hi⟩
 |[],_::_,h=>by simp[mO]at h
 |_::_,[],h=>by simp[mO]at h
 |s::dL,v::aI,h=>by
  simp only[mO,aoM]at h;obtain⟨aa,ad⟩:=GD (Z:=Z) (w:=w) (ρ:=ρ) (I:=I) h.2;refine⟨by simp[aa],fun i hi=> ?_⟩
  cases i with
  |zero=>exact NF h.1
  |succ i=>have:=ad i (by simpa using hi);simpa[bz]using this
theorem ac0 {t:TypeId}{i:b4}(hi:c4 P t i=true)(aB:i.ty≠ .no):∃g cs,P.info? t=some g/\nA g.zero cs=true/\bz b6.zero cs=i.ty.zero:=by
 unfold c4 at hi;split at hi
 ·rename_i h;exact absurd h aB
 all_goals first
  |cases hi
  |(rename_i aa ad ax
    simp only[aoM]at hi;refine⟨_, ?_,ad, ?_, ?_⟩;rotate_left
    ·first|exact hi.2|exact hi.1.2|exact hi.1.1.2|exact hi.1.1.1.2|exact hi.1.1.1.1.2|exact hi.1.1.1.1.1.2
    ·rw[aa];rfl)
theorem G3 {t:TypeId}{i:b4}(hi:c4 P t i=true)(aB:i.ty≠ .no):∃g z,P.info? t=some g/\g.zero=some z/\
 z.cells.size=i.ty.zero.length/\∀(Z:Nat->Prop) k,k<i.ty.zero.length->eE Z w ρ I (i.ty.zero.getD k .un) (z.cells.getD k undef):=by
 obtain⟨g,cs,bg,bm,aC⟩:=ac0 hi aB;unfold nA at bm
 cases ko:g.zero with
 |none=>rw[ko]at bm;cases bm
 |some z=>
  rw[ko]at bm;refine⟨g,z,bg,ko, ?_,fun Z k ae=> ?_⟩
  ·obtain⟨aa,_⟩:=GD (Z:=fun _=>False) (w:=w) (ρ:=ρ) (I:=I) bm;rw[<-aC,dP,aoK,<-aa];simp
  ·obtain⟨aa,ad⟩:=GD (Z:=Z) (w:=w) (ρ:=ρ) (I:=I) bm;rw[<-aC]at ae⊢;have:=ad k (by simpa[dP]using ae);simpa[aoJ,aoC]using this
theorem ZI {t:TypeId}{i:b4}(hi:c4 P t i=true)(aB:i.ty≠ .no)(h:ct N ρ I w):
 ∃u w' ρ',(Instr.alloc t true (.tuple #[])).run P w= .ok u w'/\cn N ρ I w ρ' (I++[(false, .cells i.ty.zero)]) w'/\
  bF (aL N ρ' (I++[(false, .cells i.ty.zero)])) w' ρ' (I++[(false, .cells i.ty.zero)]) (.ptr I.length 0) u:=by
 obtain⟨g,z,aa,ad,ax,aV⟩:=G3 (w:=w) (ρ:=ρ) (I:=I) hi aB;obtain⟨ρ',a7,bl⟩:=Qy h t i.ty.zero z.cells ax (fun k ae=>aV _ k ae);exact⟨_,_,ρ',by simp[Instr.alloc,zeroValue,typeInfo,aa,ad,newVar,newRow],a7,bl⟩
theorem ac1 (t:TypeId)(h:ct N ρ I w){cZ:Operand}{tm:List R}{a:Act}(au:eg (aL N ρ I) w ρ I tm a.tmps)(ay:ef R.nW (a_ tm cZ).cellsOf=true):
 ∃u w' ρ',(Instr.box t (a.eval cZ)).run P w= .ok u w'/\cn N ρ I w ρ' (I++[(false, .cells (a_ tm cZ).cellsOf)]) w'/\
  bF (aL N ρ' (I++[(false, .cells (a_ tm cZ).cellsOf)])) w' ρ' (I++[(false, .cells (a_ tm cZ).cellsOf)]) (.ptr I.length 0) u:=by
 have ak:=eA au cZ;generalize a_ tm cZ=x at*
 have aC:(a.eval cZ).cells.size=x.cellsOf.length/\∀i,i<x.cellsOf.length->eE (aL N ρ I) w ρ I (x.cellsOf.getD i .un) ((a.eval cZ).cells.getD i undef):=by
  cases x with
  |agg l=>
   obtain⟨arr,aa,ad,ax⟩:=ak;rw[aa];exact⟨ad,ax⟩
  |_=>
   simp only[R.cellsOf,ef]at ay⊢;split at ay
   ·rename_i eX;obtain⟨aa,ad⟩:=wb eX ak;rw[yy ad];refine⟨rfl,fun i hi=> ?_⟩;have:i=0:=by simp at hi;omega
    subst this;exact aa
   ·cases ay
 obtain⟨ρ',a7,bl⟩:=Qy h t x.cellsOf (a.eval cZ).cells aC.1 aC.2;exact⟨_,_,ρ',by simp[Instr.box,newVar,newRow],a7,bl⟩
theorem MD {Z:Nat->Prop}{s:b6}{v:Value}(h:ze s v=true):bA Z w s.ga v:=by
 have:=NF (w:=w) (ρ:=[]) (I:=[]) (Z:=Z) h
 cases s with
 |int k=>exact this
 |bool=>exact this
 |str=>exact this
 |cv k=>obtain⟨a,rfl⟩:=this;exact .jj _ _ _
 |ee an=>obtain⟨a,rfl⟩:=this;exact .kO _ _ _
 |other=>exact .undef _ h
theorem qL {Z:Nat->Prop}{w:World}:∀{cs:List b6} {aI:List Value},mO cs aI=true->aI.length=cs.length/\∀i,i<cs.length->bA Z w ((bz b6.ga cs).getD i .undef) (aI.getD i undef)
 |[],[],_=>⟨rfl,fun i hi=>by simp at hi⟩
 |[],_::_,h=>by simp[mO]at h
 |_::_,[],h=>by simp[mO]at h
 |s::dL,v::aI,h=>by
  simp only[mO,aoM]at h;obtain⟨aa,ad⟩:=qL (Z:=Z) (w:=w) h.2;refine⟨by simp[aa],fun i hi=> ?_⟩
  cases i with
  |zero=>exact MD h.1
  |succ i=>have:=ad i (by simpa using hi);simpa[bz]using this
theorem ZJ {t:bb}(h:t.ja=true):t.size=t.cells.length/\bz b6.zero t.cells=t.zero/\t≠ .no:=by
 cases t with
 |struct bW cs=>exact⟨by simp[bb.size,bb.cells,cO],rfl,by simp⟩
 |arr n e cs=>exact⟨by simp[bb.size,bb.cells,cO],rfl,by simp⟩
 |_=>cases h
theorem NG (h:ct N ρ I w)(elem:TypeId){n:Nat}(aB:0<n)(r:List U)(cs:Array Value)(ay:cs.size=n)(ao:∀i,i<n->bA (aL N ρ I) w (r.getD i .undef) (cs.getD i undef)):
 ∃ρ',cn N ρ I w ρ' (I++[(false, .av n [r])]) (w.alloc (.cells cs elem))/\
  bF (aL N ρ' (I++[(false, .av n [r])])) (w.alloc (.cells cs elem)) ρ' (I++[(false, .av n [r])]) (.optr I.length 0 0) (.pointer (some ⟨w.heap.size,0,none⟩)):=by
 have cK:ag.at (I++[(false, .av n [r])]) I.length= .av n [r]:=by rw[gM,aoB rfl]
 refine⟨_,cn.alloc h false (.av n [r]) (.cells cs elem) 1 (.inr ⟨w.heap.size,cs,elem,rfl,rfl,nU w _,by simp,by simp[ay],aB,fun i j hi aK=> ?_⟩),
  .dc ⟨_,w.heap.size,qZ h _,rfl,rfl,by simp,by simp,by rw[cK];simp[ag.len]⟩⟩
 have hi:i=0:=by simpa using hi
 subst hi;refine⟨cs.getD j undef,by simp[aoJ,show j<cs.size by omega],Bx h _ (.inl rfl) _ _ _ _ (ao j aK)⟩
theorem ME {t:TypeId}{i:b4}(hi:c4 P t i=true)(h:ct N ρ I w){ch:List Prop}{v:R}{al:aF}(he:uh i.ty I= .a6 ch v al):
 ∃u w' ρ',(Instr.alloc t true (.tuple #[])).run P w= .ok u w'/\cn N ρ I w ρ' al w'/\bF (aL N ρ' al) w' ρ' al v u:=by
 unfold uh at he;split at he
 ·rename_i ah;split at he
  ·rename_i aB;simp only[bT.a6.injEq]at he;obtain⟨rfl,rfl,rfl⟩:=he;obtain⟨cW,c9,iM⟩:=ZJ ah;have aB:0<i.ty.size:=by have:0+1<=i.ty.size:=ao9 aB;omega
   have uL:(∃bW,i.ty= .struct bW i.ty.cells)\/∃n e,i.ty= .arr n e i.ty.cells:=by
    cases b_:i.ty with
    |struct bW cs=>exact .inl ⟨bW,rfl⟩
    |arr n e cs=>exact .inr ⟨n,e,rfl⟩
    |_=>rw[b_]at ah;cases ah
   obtain⟨g,d,bg,_,_,_,z,ko,j3⟩:=wE hi uL;obtain⟨la,z2⟩:=qL (Z:=aL N ρ I) (w:=w) j3;have iL:z.cells.size=i.ty.size:=by rw[cW,<-la];simp
   obtain⟨ρ',a7,bl⟩:=NG h t aB (bz b6.ga i.ty.cells) z.cells iL (fun k ae=>by
    have:=z2 k (by omega)
    simpa[aoJ,aoC]using this)
   rw[fZ,cO];exact⟨_,_,ρ',by simp[Instr.alloc,zeroValue,typeInfo,bg,ko,newVar,newRow],a7,bl⟩
  ·cases he
 ·split at he
  ·cases he
  ·rename_i aB;simp only[bT.a6.injEq]at he;obtain⟨rfl,rfl,rfl⟩:=he;rw[fZ,cO];exact ZI hi aB h
theorem Ys {t:TypeId}{i:b4}(h:ct N ρ I w){cZ:Operand}{tm:List R}{a:Act}(au:eg (aL N ρ I) w ρ I tm a.tmps){ch:List Prop}{v:R}{al:aF}(he:zc i.ty (a_ tm cZ) I= .a6 ch v al):
 ∃u w' ρ',(Instr.box t (a.eval cZ)).run P w= .ok u w'/\cn N ρ I w ρ' al w'/\bF (aL N ρ' al) w' ρ' al v u:=by
 unfold zc at he;split at he
 ·split at he
  ·rename_i r ao aB;simp only[bT.a6.injEq]at he;obtain⟨rfl,rfl,rfl⟩:=he;have aB:0<i.ty.size:=by have:0+1<=i.ty.size:=ao9 aB;omega
   obtain⟨arr,aa,ad,ax,aV⟩:=wg ao (eA au cZ);obtain⟨ρ',a7,bl⟩:=NG h t aB r (a.eval cZ).cells (by rw[aa];exact ad) (fun k ae=>by rw[aa];exact aV k ae);rw[fZ,cO];exact⟨_,_,ρ',by simp[Instr.box,newVar,newRow],a7,bl⟩
  ·cases he
 ·split at he
  ·rename_i ay;simp only[bT.a6.injEq]at he;obtain⟨rfl,rfl,rfl⟩:=he;rw[fZ,cO];exact ac1 t h au ay
  ·cases he
theorem foldl_push (l:List Int)(s:ByteArray):(l.foldl (fun r n=>r.push (UInt8.ofNat n.toNat)) s).data.toList=s.data.toList++l.map fun n=>UInt8.ofNat n.toNat:=by
 induction l generalizing s with
 |nil=>simp
 |cons x r bM=>rw[aqM,bM];simp
theorem Oo (off:Nat):∀(l:List (Value×Nat)) (cs:Array Value),(l.foldl (fun cs (c,j)=>cs.setIfInBounds (off+j) c) cs).size=cs.size
 |[],cs=>rfl
 |x::r,cs=>by rw[aqM,Oo off r];simp
theorem Ph (off:Nat):∀(l:List Value) (n:Nat) (cs:Array Value) (k:Nat),off+n+l.length<=cs.size->
 ((l.zipIdx n).foldl (fun cs (c,j)=>cs.setIfInBounds (off+j) c) cs)[k]? =if off+n<=k/\k<off+n+l.length then l[k-(off+n)]? else cs[k]?
 |[],n,cs,k,_=>by rw[aoA (by simp)];rfl
 |x::r,n,cs,k,h=>by
  simp only[apj]at h;rw[List.zipIdx_cons,aqM,Ph off r (n+1) _ k (by simp;omega)]
  by_cases aa:off+(n+1)<=k/\k<off+(n+1)+r.length
  ·rw[aoB aa,aoB (by simp;omega),show k-(off+n)=(k-(off+(n+1)))+1 by omega];simp
  ·rw[aoA aa,aqy]
   by_cases ad:off+n=k
   ·subst ad;rw[aoB rfl,aoB (by omega),aoB (by simp)];simp
   ·rw[aoA ad,aoA (by simp;omega)]
theorem BQ (place:Nat->Option (Nat×Nat))(cells:Array Value)(i:Nat)(v:Value)(bQ:List (Nat×Value))(off size:Nat)(aD:place i=some (off,size))(ay:v.cells.size=size)(ah:off+size<=cells.size):
 ∃eF,Instr.fill place cells ((i,v)::bQ)=Instr.fill place eF bQ/\eF.size=cells.size/\
  ∀k,eF[k]? =if off<=k/\k<off+size then v.cells[k-off]? else cells[k]? :=by
 refine⟨_,by simp only[Instr.fill,aD,ay];rw[aoA (by simp;omega)], ?_,fun k=> ?_⟩
 ·rw[<-Array.foldl_toList];exact Oo off _ cells
 ·rw[<-Array.foldl_toList,Array.toList_zipIdx];have:=Ph off v.cells.toList 0 cells k (by simp;omega);simp only[ao0,apH,ay]at this;rw[this];split<;>simp
theorem HR {Z:Nat->Prop}(place:Nat->Option (Nat×Nat))(pz:Nat->Nat):∀(bN:List (Nat×R)) (cq:List (Nat×Value)) (cells:Array Value) (l:List R),
 bN.length=cq.length->cells.size=l.length->(∀k,k<l.length->eE Z w ρ I (l.getD k .un) (cells.getD k undef))->
 (∀(m:Nat) (p:Nat×R) (q:Nat×Value),bN[m]? =some p->cq[m]? =some q->p.1=q.1/\place p.1=some (pz p.1,p.2.cellsOf.length)/\q.2.cells.size=p.2.cellsOf.length/\pz p.1+p.2.cellsOf.length<=l.length/\
   ∀k,k<p.2.cellsOf.length->eE Z w ρ I (p.2.cellsOf.getD k .un) (q.2.cells.getD k undef))->
 ∃eF,Instr.fill place cells cq=some eF/\eF.size=(wm bN pz l).length/\
  ∀k,k<(wm bN pz l).length->eE Z w ρ I ((wm bN pz l).getD k .un) (eF.getD k undef)
 |[],[],cells,l,_,ay,ao,_=>⟨cells,rfl,ay,ao⟩
 |[],_::_,_,_,h,_,_,_=>by simp at h
 |_::_,[],_,_,h,_,_,_=>by simp at h
 |(i,v)::ps,(qA,u)::nL,cells,l,az,ay,ao,aD=>by
  obtain⟨aa,ad,ax,aV,bp⟩:=aD 0 (i,v) (qA,u) rfl rfl;simp only at aa ad ax aV bp;subst aa;obtain⟨sM,a7,bl,bH⟩:=BQ place cells i u nL (pz i) _ ad ax (by omega);have gB:sM.size=(setCells l (pz i) v.cellsOf).length:=by rw[wc,bl,ay]
  obtain⟨eF,aA,aG,bR⟩:=HR place pz ps nL sM (setCells l (pz i) v.cellsOf) (by simpa using az) gB
   (fun k ae=>by
     rw[wc]at ae;rw[MC _ _ _ _ ae,aoJ,bH k]
     by_cases fh:pz i<=k/\k<pz i+v.cellsOf.length
     ·rw[aoB fh,aoB fh,<-aoJ];exact bp _ (by omega)
     ·rw[aoA fh,aoA fh,<-aoJ];exact ao k ae)
   (fun m p q hm aZ=>by
     have:=aD (m+1) p q hm aZ
     rw[wc];exact this)
  exact⟨eF,by rw[a7,aA],aG,bR⟩
theorem C_ {tm:List R}{a:Act}(bN:Array (Nat×Operand)):(bz (fun p=>(p.1,a_ tm p.2)) bN.toList).length=((bN.map fun(i,x)=>(i,a.eval x)).toList).length:=by simp[dP]
theorem M9 {t:bb}{bN:List (Nat×R)}(h:wR t bN=true)(m:Nat)(p:Nat×R)(hm:bN[m]? =some p):
 (∃bW cs,t= .struct bW cs/\p.1<bW.length/\fG t p.1+(kE t p.1).size<=cs.length/\p.2.fits (kE t p.1)=true)\/
 ∃n e cs,t= .arr n e cs/\p.1<n/\fG t p.1+e.size<=cs.length/\p.2.fits e=true:=by
 induction bN generalizing m with
 |nil=>simp at hm
 |cons x r bM=>
  obtain⟨i,v⟩:=x;unfold wR at h
  cases t with
  |struct bW cs=>
   simp only at h;split at h
   ·rename_i aa ad ax
    cases m with
    |zero=>
     simp at hm;subst hm;refine .inl ⟨bW,cs,rfl, ?_, ?_,ax⟩
     ·have:i+1<=bV bW:=by simpa[Nat.blt]using aa
      rw[cO]at this;omega
     ·have:=ao9 ad;rwa [cO]at this
    |succ m=>exact bM h m (by simpa using hm)
   ·cases h
  |arr n e cs=>
   simp only at h;split at h
   ·rename_i aa ad ax
    cases m with
    |zero=>
     simp at hm;subst hm;refine .inr ⟨n,e,cs,rfl, ?_, ?_,ax⟩
     ·have:i+1<=n:=by simpa[Nat.blt]using aa
      omega
     ·have:=ao9 ad;rwa [cO]at this
    |succ m=>exact bM h m (by simpa using hm)
   ·cases h
  |_=>simp at h
theorem G4 {bW:List (Nat×Nat×bb)}:∀{a:List Field},pR P bW a=true->a.mapM (fun(f:Field)=>(P.info? f.type).map fun i=>(f.offset,i.size))=some (bW.map fun f=>(f.1,f.2.2.size)):=by
 induction bW with
 |nil=>intro a h;cases a with
  |nil=>rfl
  |cons _ _=>simp[pR]at h
 |cons x r bM=>
  intro a h;obtain⟨o,n,t⟩:=x
  cases a with
  |nil=>simp[pR]at h
  |cons eh bQ=>
   have bc:=h;simp only[pR,aoM]at h;obtain⟨⟨⟨⟨⟨⟨⟨aa,ad⟩,ax⟩,aV⟩,bp⟩,Tz⟩,b1⟩,fM⟩:=h;obtain⟨g,bg⟩:=aqL.1 bp;have aA:=aoE aa;have aG:=aoE ad;have bR:=aoE ax;have:P.cellsOf eh.type=g.size:=by simp[Program.cellsOf,bg]
   simp[bg,bM fM,<-aA,show g.size=t.size by omega]
theorem ZK {t:TypeId}{i:b4}(hi:c4 P t i=true){tm:List R}{a:Act}(au:eg (aL N ρ I) w ρ I tm a.tmps)(bN:Array (Nat×Operand))
 (aD:wR i.ty (bz (fun p=>(p.1,a_ tm p.2)) bN.toList)=true) (aB:∃cs,(∃bW,i.ty= .struct bW cs)\/∃n e,i.ty= .arr n e cs):
 ∃u,(Instr.build t (bN.map fun(i,x)=>(i,a.eval x))).run P w= .ok u w/\
  bF (aL N ρ I) w ρ I (.agg (wm (bz (fun p=>(p.1,a_ tm p.2)) bN.toList) (fG i.ty) i.ty.zero)) u:=by
 have iK:i.ty≠ .no:=by rcases aB with⟨cs,⟨bW,h⟩|⟨n,e,h⟩⟩<;>rw[h]<;>simp
 obtain⟨g,z,bg,bm,iL,E8⟩:=G3 (w:=w) (ρ:=ρ) (I:=I) hi iK;have rH:i.ty.zero.length=i.ty.size:=by cases i.ty<;>simp[bb.zero,bb.size,dP,cO]
 have hH:∀(m:Nat) (p:Nat×R) (q:Nat×Value),(bz (fun p=>(p.1,a_ tm p.2)) bN.toList)[m]? =some p->((bN.map fun(i,x)=>(i,a.eval x)).toList)[m]? =some q->
  p.1=q.1/\bF (aL N ρ I) w ρ I p.2 q.2:=by
  intro m p q aa ad;rw[dP]at aa;simp only[apv,Array.toList_map]at aa ad
  cases Aa:bN.toList[m]? with
  |none=>simp[Aa]at aa
  |some x=>
   simp[Aa]at aa ad;subst aa ad;exact⟨rfl,eA au _⟩
 rcases aB with⟨cs,⟨bW,b_⟩|⟨n,e,b_⟩⟩
 ·obtain⟨eh,hu,E9⟩:=yk hi b_;have jb:=run_places (P:=P) w eh.toList _ (G4 E9)
  obtain⟨eF,aa,ad,ax⟩:=HR (Z:=aL N ρ I) (w:=w) (ρ:=ρ) (I:=I) (fun(x:Nat)=>(bW.map fun f=>(f.1,f.2.2.size))[x]?) (fG i.ty)
   (bz (fun p=>(p.1,a_ tm p.2)) bN.toList) ((bN.map fun(i,x)=>(i,a.eval x)).toList) z.cells i.ty.zero (C_ bN) iL (fun k ae=>E8 _ k ae)
   (fun m p q hm aZ=>by
     obtain⟨aA,aG⟩:=hH m p q hm aZ;rcases M9 aD m p hm with⟨E4,lK,k4,a7,bl,bH⟩|⟨n',cb,lK,k4,_⟩
     ·rw[b_]at k4;obtain⟨rfl,rfl⟩:=by simpa using k4
      obtain⟨f1,f2,f3,f4⟩:=tZ bH aG;refine⟨aA, ?_,by rw[f1,f2], ?_,fun k ae=>f4 k (by omega)⟩
      ·rw[f2,b_];simp[fG,kE,d_,aoC,a7]
      ·rw[f2,rH,b_,bb.size,cO];rw[b_]at bl;exact bl
     ·rw[b_]at k4;cases k4)
  refine⟨.agg eF, ?_, .ht ⟨eF,rfl,ad,fun k ae=>ax k ae⟩⟩;refine run_build w t _ eF ?_;unfold Program.built;simp only[bg,hu,bm,G4 E9];have he:(fun(x:Nat)=>(bW.map fun f=>(f.1,f.2.2.size)).toArray[x]?)=fun(x:Nat)=>(bW.map fun f=>(f.1,f.2.2.size))[x]? :=by funext x;simp
  rw[he];exact aa
 ·obtain⟨el,vE,hu,ai2,cr⟩:=yx hi b_
  obtain⟨eF,aa,ad,ax⟩:=HR (Z:=aL N ρ I) (w:=w) (ρ:=ρ) (I:=I) (fun i=>some (i*vE.size,vE.size)) (fG i.ty)
   (bz (fun p=>(p.1,a_ tm p.2)) bN.toList) ((bN.map fun(i,x)=>(i,a.eval x)).toList) z.cells i.ty.zero (C_ bN) iL (fun k ae=>E8 _ k ae)
   (fun m p q hm aZ=>by
     obtain⟨aA,aG⟩:=hH m p q hm aZ;rcases M9 aD m p hm with⟨E4,lK,k4,_⟩|⟨n',cb,lK,k4,a7,bl,bH⟩
     ·rw[b_]at k4;cases k4
     ·rw[b_]at k4;obtain⟨rfl,rfl,rfl⟩:=by simpa using k4
      obtain⟨f1,f2,f3,f4⟩:=tZ bH aG;refine⟨aA, ?_,by rw[f1,f2], ?_,fun k ae=>f4 k (by omega)⟩
      ·rw[f2,b_,cr];rfl
      ·rw[f2,rH,b_,bb.size,cO];rw[b_]at bl;exact bl)
  refine⟨.agg eF, ?_, .ht ⟨eF,rfl,ad,fun k ae=>ax k ae⟩⟩;refine run_build w t _ eF ?_;unfold Program.built;simp only[bg,hu,bm,ai2];exact aa
theorem Gu {Z:Nat->Prop}{t:bb}{v:R}{u:Value}{r:List U}(h:n4 I t v=some r)(aB:t≠ .no)(aM:bF (aL N ρ I) w ρ I v u):
 r.length=t.size/\u.cells.size=t.size/\∀c,c<t.size->bA (aL N ρ I) w (r.getD c .undef) (u.cells.getD c undef):=by
 unfold n4 at h;split at h
 ·rename_i s;split at h
  ·rename_i aY;obtain rfl:=aoL h;obtain⟨aa,ad⟩:=wb (Gr aY) aM;rw[yy ad];refine⟨rfl,rfl,fun c aC=> ?_⟩;have:c=0:=by simp[bb.size]at aC;omega
   subst this;exact(Bu aY aa).2 s
  ·cases h
 ·split at h
  ·split at h
   ·rename_i hm;obtain rfl:=aoL h;obtain⟨a,rfl,aa,ad,ax⟩:=aM;have hm:=aoE hm;exact⟨by omega,by show a.size=_;omega,fun c aC=>ax c (by omega)⟩
   ·cases h
  ·rename_i l;split at h
   ·rename_i hm aY;obtain rfl:=aoL h;have hm:=aoE hm;rw[cO]at hm;obtain⟨a,rfl,aa,ad⟩:=aM;rw[fH,aoU]at aY;have az:(mn I t.cells (.agg l)).length=l.length:=by unfold mn;rw[dP,aoK,yz];rfl
    exact⟨by omega,by show a.size=_;omega,fun c aC=>Bv t.cells l (fun m=>a.getD m undef) aY ad c (by omega)⟩
   ·cases h
  ·cases h
theorem Pj (place:Nat->Option (Nat×Nat))(S:Nat->Value->Prop):∀(cq:List (Nat×Value)) (cells:Array Value),
 (∀q∈cq,∃o n,place q.1=some (o,n)/\q.2.cells.size=n/\o+n<=cells.size/\∀c,c<n->S (o+c) (q.2.cells.getD c undef))->
 (∀p,p<cells.size->(∃q∈cq,∃o n,place q.1=some (o,n)/\o<=p/\p<o+n)\/S p (cells.getD p undef))->
 ∃eF,Instr.fill place cells cq=some eF/\eF.size=cells.size/\∀p,p<cells.size->S p (eF.getD p undef)
 |[],cells,_,aC=>⟨cells,rfl,rfl,fun p aD=>(aC p aD).resolve_left fun⟨q,aZ,_⟩=>absurd aZ apV⟩
 |(i,u)::nL,cells,h,aC=>by
  obtain⟨o,n,aa,ad,ax,aV⟩:=h _ (aqz ..);obtain⟨sM,a7,bl,bH⟩:=BQ place cells i u nL o n aa ad ax
  obtain⟨eF,aA,aG,bR⟩:=Pj place S nL sM (fun q aZ=>by rw[bl];exact h q (aqa _ aZ)) (fun p aD=>by
   rw[bl]at aD;rw[aoJ,bH p]
   by_cases fh:o<=p/\p<o+n
   ·rw[aoB fh,<-aoJ];have:=aV (p-o) (by omega);rw[show o+(p-o)=p by omega]at this;exact .inr this
   ·rw[aoA fh,<-aoJ];rcases aC p aD with⟨q,aZ,cg,n',g1,g2,g3⟩|gh
    ·rcases aoW.1 aZ with rfl|aZ
     ·rw[aa]at g1;injection g1 with g1;injection g1 with g4 g5;omega
     ·exact .inl ⟨q,aZ,cg,n',g1,g2,g3⟩
    ·exact .inr gh)
  exact⟨eF,by rw[a7,aA],by omega,fun p aD=>bR p (by omega)⟩
theorem GF {f:Nat×Nat×bb}{r:List (Nat×Nat×bb)}{o n:Nat}(h:sH (f::r) o n=true):f.1=o/\f.2.2≠ .no/\sH r (o+f.2.2.size) n=true:=by
 unfold sH at h;split at h
 ·cases h
 ·rename_i aa ad;exact⟨aoE aa,ad,h⟩
 ·cases h
theorem Oq:∀(bW:List (Nat×Nat×bb)) (o n:Nat),sH bW o n=true->o<=n
 |[],o,n,h=>Nat.le_of_eq (aoE h)
 |f::r,o,n,h=>by have:=Oq r _ n (GF h).2.2;omega
theorem MF {cs:List b6}{bN:List (Nat×R)}:∀(bW:List (Nat×Nat×bb)) (k o n:Nat) (r:List U),sH bW o n=true->n<=cs.length->qY I cs bN k bW=some r->
 (∀(j:Nat) (f:Nat×Nat×bb) (v:R),bW[j]? =some f->fz (k+j) bN=some v->∀x,n4 I f.2.2 v=some x->x.length=f.2.2.size)->
 r.length+o=n/\(∀(j:Nat) (f:Nat×Nat×bb),bW[j]? =some f->o<=f.1/\f.1+f.2.2.size<=n/\f.2.2≠ .no)/\
 (∀(j:Nat) (f:Nat×Nat×bb) (v:R),bW[j]? =some f->fz (k+j) bN=some v->∃x,n4 I f.2.2 v=some x/\∀c,c<f.2.2.size->r.getD (f.1-o+c) .undef=x.getD c .undef)/\
 (∀p,o<=p->p<n->∃j f,bW[j]? =some f/\f.1<=p/\p<f.1+f.2.2.size/\(fz (k+j) bN=none->r.getD (p-o) .undef=(bz b6.ga cs).getD p .undef))
 |[],k,o,n,r,aC,aB,h,_=>by
  have:=aoE (show Nat.beq o n=true from aC);simp[qY]at h;subst h;exact⟨by simpa using this,fun j f aT=>by simp at aT,fun j f v aT=>by simp at aT,fun p aa ad=>by omega⟩
 |f::r,k,o,n,row,aC,aB,h,ak=>by
  obtain⟨fi,fb,k7⟩:=GF aC;have an4:=Oq r _ n k7;unfold qY at h;split at h
  ·rename_i x y aA aG;obtain⟨i1,i2,i3,i4⟩:=MF r (k+1) (o+f.2.2.size) n y k7 aB aG (fun j g v bg aM=>ak (j+1) g v (by simpa using bg) (by rw[show k+(j+1)=k+1+j by omega];exact aM))
   have xA:x.length=f.2.2.size:=by
    split at aA
    ·rename_i v aM;exact ak 0 f v rfl aM x aA
    ·obtain rfl:=aoL aA;rw[dP,aoK,lq,lp,apf,apP];omega
   have lG:row=x++y:=by
    cases r with
    |nil=>simp[qY]at aG;subst aG;simpa using(aoL h).symm
    |cons _ _=>exact(aoL h).symm
   subst lG
   have left:∀c,c<f.2.2.size->(x++y).getD c .undef=x.getD c .undef:=fun c aC=>by
    simp only[aoC];rw[apy (by omega)]
   have right:∀c,f.2.2.size<=c->(x++y).getD c .undef=y.getD (c-f.2.2.size) .undef:=fun c aC=>by
    simp only[aoC];rw[apQ (by omega),xA]
   refine⟨by simp;omega,fun j g bg=> ?_,fun j g v bg aM=> ?_,fun p aa ad=> ?_⟩
   ·cases j with
    |zero=>obtain rfl:f=g:=by simpa using bg
           exact⟨by omega,by omega,fb⟩
    |succ j=>obtain⟨q1,cI,cV⟩:=i2 j g (by simpa using bg);exact⟨by omega,cI,cV⟩
   ·cases j with
    |zero=>
     obtain rfl:f=g:=by simpa using bg
     rw[ao0]at aM;rw[aM]at aA;exact⟨x,aA,fun c aC=>by rw[fi,Nat.sub_self,ao8];exact left c aC⟩
    |succ j=>
     obtain⟨q1,cI,cV⟩:=i2 j g (by simpa using bg);obtain⟨ih,la,z2⟩:=i3 j g v (by simpa using bg) (by rw[show k+1+j=k+(j+1) by omega];exact aM);refine⟨ih,la,fun c aC=> ?_⟩;rw[right _ (by omega),<-z2 c aC]
     congr 1;omega
   ·by_cases aD:p<o+f.2.2.size
    ·refine⟨0,f,rfl,by omega,by omega,fun uM=> ?_⟩;rw[ao0]at uM;rw[uM]at aA;obtain rfl:=aoL aA;rw[left _ (by omega)];simp only[dP,lq,lp,aoC,apv,apu,ap4,fi];rw[aoB (by omega),show o+(p-o)=p by omega]
    ·obtain⟨j,g,q1,cI,cV,gF⟩:=i4 p (by omega) ad;refine⟨j+1,g,by simpa using q1,cI,cV,fun uM=> ?_⟩;rw[right _ (by omega),<-gF (by rw[show k+1+j=k+(j+1) by omega];exact uM)]
     congr 1;omega
  ·cases h
theorem MG:∀{bN:List (Nat×R)} {n:Nat},CC n bN=true->∀p∈bN,p.1<n/\fz p.1 bN=some p.2
 |[],_,_,p,aD=>absurd aD apV
 |q::r,n,h,p,aD=>by
  unfold CC at h;split at h
  ·rename_i aa ad;have aa:q.1+1<=n:=ao9 aa;rcases aoW.1 aD with rfl|aD
   ·exact⟨by omega,by unfold fz;rw[apB]⟩
   ·obtain⟨a7,bl⟩:=MG h p aD;refine⟨a7, ?_⟩;unfold fz;split
    ·rename_i e;rw[aoE e,bl]at ad;cases ad
    ·exact bl
  ·cases h
theorem Gv:∀{bN:List (Nat×R)} {k:Nat} {v:R},fz k bN=some v->(k,v)∈bN
 |[],_,_,h=>by cases h
 |(i,x)::r,k,v,h=>by
  unfold fz at h;split at h
  ·rename_i e;obtain rfl:=aoE e;obtain rfl:=aoL h;exact aqz ..
  ·exact aqa _ (Gv h)
theorem W7 {t:TypeId}{i:b4}(hi:c4 P t i=true){tm:List R}{a:Act}(au:eg (aL N ρ I) w ρ I tm a.tmps)(bN:Array (Nat×Operand)){ch:List Prop}{v:R}{al:aF}
 (he:pP i.ty (bz (fun p=>(p.1,a_ tm p.2)) bN.toList) I= .a6 ch v al):
 ∃u,al=I/\(Instr.build t (bN.map fun(i,x)=>(i,a.eval x))).run P w= .ok u w/\bF (aL N ρ I) w ρ I v u:=by
 unfold pP at he;split at he;rotate_left
 ·split at he
  ·rename_i aD aS;simp only[bT.a6.injEq]at he;obtain⟨rfl,rfl,rfl⟩:=he
   have uL:∃cs,(∃bW,i.ty= .struct bW cs)\/∃n e,i.ty= .arr n e cs:=by
    cases b_:i.ty with
    |struct bW cs=>exact⟨cs, .inl ⟨bW,rfl⟩⟩
    |arr n e cs=>exact⟨cs, .inr ⟨n,e,rfl⟩⟩
    |_=>rw[b_]at aS;cases aS
   obtain⟨u,aa,ad⟩:=ZK hi au bN aD uL;exact⟨u,rfl,aa,ad⟩
  ·cases he
 split at he;rotate_left
 ·rename_i m e cs b_;split at he;rotate_left
  ·cases he
  rename_i j4;simp only[bT.a6.injEq]at he;obtain⟨rfl,rfl,rfl⟩:=he
  have rI:bN=#[]:=by
   rw[dP]at j4;rw[<-Array.toList_inj];exact List.map_eq_nil_iff.1 j4
  subst rI;obtain⟨g,d,bg,tf,j1,_,z,bm,Jl⟩:=wE hi (.inr ⟨m,e,b_⟩);obtain⟨el,vE,q1,cI,cV⟩:=yx hi b_;obtain⟨Kk,Kl⟩:=qL (Z:=aL N ρ I) (w:=w) Jl;have iL:z.cells.size=(bz b6.ga cs).length:=by rw[<-apH,Kk,dP];simp
  refine⟨.agg z.cells,rfl,by simp[Instr.build,zeroValue,typeInfo,bg,bm,underlying,q1,lk cI,Instr.fill], .ht ⟨_,rfl, ?_, ?_,fun k ae=> ?_⟩⟩
  ·rw[iL,dP,cO];simp
  ·rw[dP,cO];simp
  ·have:=Kl k (by rw[cO]at ae;exact ae);simpa[aoJ,aoC]using this
 ·cases he
 rename_i bW cs b_;split at he;rotate_left
 ·cases he
 rename_i r uX mz lG;simp only[bT.a6.injEq]at he;obtain⟨rfl,rfl,rfl⟩:=he;obtain⟨g,d,bg,tf,j1,_,z,bm,Jl⟩:=wE hi (.inl ⟨bW,b_⟩);obtain⟨eh,hu,E9⟩:=yk hi b_;have jb:=G4 E9;rw[cO]at uX;obtain⟨Kk,Kl⟩:=qL (Z:=aL N ρ I) (w:=w) Jl;have iL:z.cells.size=cs.length:=by rw[<-Kk];simp
 have hH:∀q∈(bN.map fun(i,x)=>(i,a.eval x)).toList,∃v,(q.1,v)∈bz (fun p=>(p.1,a_ tm p.2)) bN.toList/\bF (aL N ρ I) w ρ I v q.2:=fun q aZ=>by
  rw[Array.toList_map]at aZ;obtain⟨x,ak,rfl⟩:=aoO.1 aZ;exact⟨a_ tm x.2,by rw[dP];exact aoO.2 ⟨x,ak,rfl⟩,eA au _⟩
 have zq:∀k v,(k,v)∈bz (fun p=>(p.1,a_ tm p.2)) bN.toList->∃u,(k,u)∈(bN.map fun(i,x)=>(i,a.eval x)).toList/\bF (aL N ρ I) w ρ I v u:=fun k v ae=>by
  rw[dP]at ae;obtain⟨x,ak,e⟩:=aoO.1 ae;injection e with aA aG;refine⟨a.eval x.2, ?_,by rw[<-aG];exact eA au _⟩;rw[Array.toList_map];exact aoO.2 ⟨x,ak,by rw[<-aA]⟩
 generalize bz (fun p=>(p.1,a_ tm p.2)) bN.toList=ps at mz lG hH zq
 have agj:∀(j:Nat) (f:Nat×Nat×bb),bW[j]? =some f->f.2.2≠ .no:=by
  have key:∀(bW:List (Nat×Nat×bb)) (o n:Nat),sH bW o n=true->∀(j:Nat) (f:Nat×Nat×bb),bW[j]? =some f->f.2.2≠ .no:=by
   intro bW
   induction bW with
   |nil=>intro o n _ j f aT;simp at aT
   |cons f r bM=>
    intro o n aC j g bg;obtain⟨_,fb,k7⟩:=GF aC
    cases j with
    |zero=>obtain rfl:f=g:=by simpa using bg
           exact fb
    |succ j=>exact bM _ _ k7 j g (by simpa using bg)
  exact key bW 0 _ uX
 obtain⟨cW,c9,iM,vF⟩:=MF (I:=I) (bN:=ps) bW 0 0 cs.length r uX (aoH _) lG (fun j f v aT aM x ak=>by
  rw[ao8]at aM;obtain⟨u,xz,o_⟩:=zq j v (Gv aM)
  exact(Gu (Z:=aL N ρ I) ak (agj j f aT) o_).1)
 have Rw:∀(j:Nat) (f:Nat×Nat×bb),bW[j]? =some f->(bW.map fun f=>(f.1,f.2.2.size))[j]? =some (f.1,f.2.2.size):=fun j f aT=>by rw[apv,aT];rfl
 have agk:∀q∈(bN.map fun(i,x)=>(i,a.eval x)).toList,∃f,bW[q.1]? =some f/\q.2.cells.size=f.2.2.size/\f.1+f.2.2.size<=cs.length/\∀c,c<f.2.2.size->bA (aL N ρ I) w (r.getD (f.1+c) .undef) (q.2.cells.getD c undef):=fun q aZ=>by
  obtain⟨v,ve,mA⟩:=hH q aZ;obtain⟨a7,bl⟩:=MG mz _ ve;rw[cO]at a7;have aT:bW[q.1]? =some bW[q.1]:=aoQ a7;obtain⟨x,cM,cA⟩:=iM q.1 _ v aT (by rw[ao8];exact bl);obtain⟨qB,r3,FL⟩:=c9 q.1 _ aT;obtain⟨jo,ky,tK⟩:=Gu (Z:=aL N ρ I) cM FL mA;refine⟨_,aT,ky,r3,fun c aC=> ?_⟩;have:=cA c aC;rw[Nat.sub_zero]at this;rw[this];exact tK c aC
 obtain⟨eF,f1,f2,f3⟩:=Pj (fun(x:Nat)=>(bW.map fun f=>(f.1,f.2.2.size))[x]?) (fun p u=>bA (aL N ρ I) w (r.getD p .undef) u) (bN.map fun(i,x)=>(i,a.eval x)).toList z.cells
  (fun q aZ=>by
    obtain⟨f,q1,cI,cV,gF⟩:=agk q aZ
    exact⟨f.1,f.2.2.size,Rw _ _ q1,cI,by omega,gF⟩)
  (fun p aD=>by
    rw[iL]at aD;obtain⟨j,f,vG,eU,al9,UI⟩:=vF p (apR _) aD;rw[ao8,Nat.sub_zero]at UI
    cases az:fz j ps with
    |some v=>
     obtain⟨u,xz,o_⟩:=zq j v (Gv az);exact .inl ⟨_,xz,f.1,f.2.2.size,Rw _ _ vG,eU,al9⟩
    |none=>
     rw[UI az];have:=Kl p aD
     exact .inr (by simpa[aoJ,aoC]using this))
 rw[cO];refine⟨.agg eF,rfl, ?_, .ht ⟨eF,rfl,by omega,by omega,fun k ae=>f3 k (by omega)⟩⟩;refine run_build w t _ eF ?_;unfold Program.built;simp only[bg,hu,bm,jb];have he:(fun(x:Nat)=>(bW.map fun f=>(f.1,f.2.2.size)).toArray[x]?)=fun(x:Nat)=>(bW.map fun f=>(f.1,f.2.2.size))[x]? :=by funext x;simp
 rw[he];exact f1
end
end Go.aj
end
section
namespace Go.aj
section
variable {P:Program} {N:Nat->Prop} {ρ:List Loc} {I:aF} {w:World}
theorem ac2 {k:IntKind}{z:Option Value}(h:IJ k z=true):z=some (.int k 0):=by
 unfold IJ at h;split at h
 ·obtain rfl:=jt.1 h;rfl
 ·cases h
theorem GS {t:TypeId}{i:b4}(hi:c4 P t i=true){k:IntKind}(h:i.ty= .aE (.cv k)):
 ∃e g,P.underlying t=some (.slice e)/\P.info? e=some g/\g.size=1/\g.bytes=i.bytes/\g.zero=some (.int k 0):=by
 unfold c4 at hi;rw[h]at hi;split at hi<;>simp_all;split at hi<;>simp_all;exact ac2 hi.2.2
theorem si {t:TypeId}{i:b4}(hi:c4 P t i=true){an:Nat}(h:i.ty= .aE (.ee an)):
 ∃e g z,P.underlying t=some (.slice e)/\P.info? e=some g/\g.size=an/\g.bytes=i.bytes/\0<an/\i.f_.length=an/\g.zero=some z/\mO i.f_ z.cells.toList=true:=by
 unfold c4 at hi;rw[h]at hi;split at hi<;>simp_all;split at hi<;>simp_all [nA,cO];rename_i g d _ _
 cases ko:TypeInfo.zero g with
 |none=>simp[ko]at hi
 |some z=>simp[ko]at hi;exact⟨z,rfl,hi.2.1.2⟩
theorem Pk (z:Array Value)(m k:Nat)(ae:k<m):(madeCells z m)[k]? =some z[k%z.size]! :=by
 simp[madeCells,ae]
theorem XI {t:TypeId}{i:b4}(hi:c4 P t i=true)(bI:ct N ρ I w){on r2:Operand}{tm:List R}{a:Act}(au:eg (aL N ρ I) w ρ I tm a.tmps)
 {ch:List Prop} {v:R} {al:aF} (h:wQ i (a_ tm on) (a_ tm r2) I= .a6 ch v al) (ay:∀p∈ch,p):
 ∃u w' ρ',(Instr.makeSlice t (a.eval on) (a.eval r2)).run P w= .ok u w'/\cn N ρ I w ρ' al w'/\bF (aL N ρ' al) w' ρ' al v u:=by
 have aB:=eA au on;have aC:=eA au r2;generalize a_ tm on=x at*;generalize a_ tm r2=y at*;unfold wQ at h;split at h
 ·rename_i n c;split at h
  ·rename_i ah kn;simp only[bT.a6.injEq]at h;obtain⟨rfl,rfl,rfl⟩:=h;have aA:=jh aB;have aG:=jh aC;have bc:0<=n:=ay _ (by simp);have aa:n<=c:=ay _ (by simp);have ad:c*i.bytes<=281474976710656:=ay _ (by simp)
   have hJ:(1:Int)<=i.bytes:=by
    have:1<=i.bytes:=by simpa[Nat.blt]using ah
    omega
   have pa:c<=9223372036854775807:=by
    have:c*1<=c*i.bytes:=Int.mul_le_mul_of_nonneg_left hJ (by omega);omega
   rw[aA,aG]
   cases b_:i.ty with
   |aE s=>
    rw[b_]at kn
    cases s with
    |cv k=>
     obtain⟨e,g,q1,cI,cV,gF,dX⟩:=GS hi b_;have ft:=run_make (P:=P) w t e g (.int k 0) q1 cI dX .i64 .i64 n c bc aa (by rw[gF,Int.mul_comm];exact ad) pa;rw[cV,ao_]at ft;have IM:madeOf i n.toNat= .af k (List.replicate n.toNat 0):=by simp[madeOf,b_]
     rw[IM,fZ,cO];refine⟨_,_,_,ft,cn.alloc bI false (.af k (List.replicate n.toNat 0)) _ c.toNat (.inr ⟨w.heap.size,_,e,rfl,rfl,nU w _,by simp;omega,by simp[size_madeCells],fun q aZ=> ?_⟩), .dc ⟨_,qZ bI _, ?_⟩⟩
     ·simp only[List.length_replicate]at aZ;rw[Pk _ _ _ (by omega)];simp[Value.cells,Nat.mod_one,aoC,aZ]
     ·rw[gM,aoB rfl];simp[ag.len]
    |ee an=>
     obtain⟨e,g,z,q1,cI,cV,gF,dX,ij,hb,fx⟩:=si hi b_;have ft:=run_make (P:=P) w t e g z q1 cI hb .i64 .i64 n c bc aa (by rw[gF,Int.mul_comm];exact ad) pa;rw[cV]at ft
     obtain⟨la,z2⟩:=qL (Z:=aL N (ρ++[⟨some ⟨w.heap.size,0,none⟩,c.toNat,some w.heap.size⟩]) (I++[(false,madeOf i n.toNat)]))
      (w:=w.alloc (.cells (madeCells z.cells (c.toNat*an)) e)) fx
     have IM:madeOf i n.toNat= .av an (List.replicate n.toNat (bz b6.ga i.f_)):=by simp[madeOf,b_]
     rw[IM]at z2⊢;rw[fZ,cO];have iL:z.cells.size=an:=by rw[<-apH,la,ij]
     refine⟨_,_,_,ft,cn.alloc bI false (.av an (List.replicate n.toNat (bz b6.ga i.f_))) _ c.toNat (.inr ⟨w.heap.size,_,e,rfl,rfl,nU w _,by simp;omega,by simp[size_madeCells],dX,fun q r aZ ao=> ?_⟩), .dc ⟨_,qZ bI _, ?_⟩⟩
     ·simp only[List.length_replicate]at aZ
      have bG:q*an+r<c.toNat*an:=by
       have:(q+1)*an<=c.toNat*an:=aoR _ (by omega);rw[aoX]at this;omega
      refine⟨_,Pk _ _ _ bG, ?_⟩;have IN:(q*an+r)%z.cells.size=r:=by rw[iL,apa,aqC,apw ao]
      rw[IN];have:=z2 r (by omega)
      have bR:z.cells[r]! =z.cells.toList.getD r undef:=by
       have:r<z.cells.size:=by omega
       simp[aoC,this]
      rw[bR];have cY:(List.replicate n.toNat (bz b6.ga i.f_)).getD q []=bz b6.ga i.f_:=by simp[aoC,aZ]
      rw[cY];exact this
     ·rw[gM,aoB rfl];simp[ag.len]
    |_=>simp[iB]at kn
   |_=>rw[b_]at kn;simp[iB]at kn
  ·cases h
 ·cases h
theorem MH {k:IntKind}{Z:Nat->Prop}:∀(bN:List (Nat×R)) (cq:List (Nat×Value)) (i n:Nat) (l:List Int) (cells:Array Value),oP.go k i n bN=some l->
 bN.length=cq.length->(∀(m:Nat) (p:Nat×R) (q:Nat×Value),bN[m]? =some p->cq[m]? =some q->p.1=q.1/\bF Z w ρ I p.2 q.2)->i+n<=cells.size->
 ∃eF,Instr.fill (fun i=>some (i*1,1)) cells cq=some eF/\eF.size=cells.size/\l.length=n/\(∀m,m<n->eF[i+m]? =some (.int k (l.getD m 0)))/\∀q,q<i->eF[q]? =cells[q]?
 |[],[],i,0,l,cells,h,_,_,_=>by
  simp[oP.go]at h;subst h;exact⟨cells,rfl,rfl,rfl,fun m hm=>by omega,fun _ _=>rfl⟩
 |[],[],i,n+1,l,cells,h,_,_,_=>by simp[oP.go]at h
 |[],_::_,_,_,_,_,_,h,_,_=>by simp at h
 |_::_,[],_,_,_,_,_,h,_,_=>by simp at h
 |(j,v)::ps,_::nL,i,0,l,cells,h,_,_,_=>by simp[oP.go]at h
 |(j,v)::ps,(fX,u)::nL,i,n+1,l,cells,h,az,aD,ah=>by
  have aM:∃cz x,v= .d (.int cz x):=by
   cases v with
   |d y=>
    cases y with
    |int cz x=>exact⟨cz,x,rfl⟩
    |_=>simp[oP.go]at h
   |_=>simp[oP.go]at h
  obtain⟨cz,x,rfl⟩:=aM;simp only[oP.go]at h
  ·split at h
   ·rename_i aa ad;obtain rfl:=aoE aa;obtain rfl:=jt.1 ad;obtain⟨aA,aG⟩:=aD 0 _ _ rfl rfl;simp only at aA aG;subst aA;have bR:=jh aG;subst bR
    cases bg:oP.go k (Nat.succ i) n ps with
    |none=>rw[bg]at h;cases h
    |some cy=>
     rw[bg]at h;simp at h;subst h;obtain⟨sM,a7,bl,bH⟩:=BQ (fun i=>some (i*1,1)) cells i (.int k x) nL (i*1) 1 rfl rfl (by omega);obtain⟨eF,fS,gi,iy,jL,jM⟩:=MH ps nL (i+1) n cy sM bg (by simpa using az) (fun m p q hm aZ=>aD (m+1) p q hm aZ) (by omega);refine⟨eF,by rw[a7];exact fS,by omega,by simp[iy],fun m hm=> ?_,fun q aZ=> ?_⟩
     ·cases m with
      |zero=>
       rw[ao0,jM i (by omega),bH i,aoB (by omega)];simp[Value.cells]
      |succ m=>
       rw[show i+(m+1)=i+1+m by omega,jL m (by omega)];simp
     ·rw[jM q (by omega),bH q,aoA (by omega)]
   ·cases h
theorem W8 {an:Nat}{cs:List b6}{i n j:Nat}{v:R}{ps:List (Nat×R)}{l:List (List U)}(h:hP.go I an cs i (n+1) ((j,v)::ps)=some l):
 ∃x cy,i=j/\l=x::cy/\hP.go I an cs (i+1) n ps=some cy/\(v= .rw an x\/(v.cellsOf.length=an/\(∀y∈v.cellsOf,y.hj=true)/\x=mn I cs v)):=by
 have gen:(∀m x,v≠ .rw m x)->hP.go I an cs i (n+1) ((j,v)::ps)=(match Nat.beq i j,Nat.beq (bV v.cellsOf) an,ef R.hj v.cellsOf with
  |true,true,true=>(match hP.go I an cs (Nat.succ i) n ps with|some l=>some (mn I cs v::l)|none=>none)
  |_,_,_=>none):=fun aM=>by cases v<;>first|rfl|exact absurd rfl (aM _ _)
 by_cases aM:∃m x,v= .rw m x
 ·obtain⟨m,x,rfl⟩:=aM;simp only[hP.go]at h;split at h
  ·rename_i aa ad;obtain rfl:=aoE aa;obtain rfl:=aoE ad
   cases bg:hP.go I m cs (Nat.succ i) n ps with
   |none=>rw[bg]at h;cases h
   |some cy=>
    rw[bg]at h;simp at h;subst h;exact⟨x,cy,rfl,rfl,rfl, .inl rfl⟩
  ·cases h
 ·rw[gen fun m x e=>aM ⟨m,x,e⟩]at h;split at h
  ·rename_i aa ad ax;obtain rfl:=aoE aa;have ad:=aoE ad;rw[cO]at ad;rw[fH,aoU]at ax
   cases bg:hP.go I an cs (Nat.succ i) n ps with
   |none=>rw[bg]at h;cases h
   |some cy=>
    rw[bg]at h;simp at h;subst h;exact⟨_,cy,rfl,rfl,rfl, .inr ⟨ad,ax,rfl⟩⟩
  ·cases h
theorem Wu {an:Nat}{cs:List b6}{v:R}{u:Value}{x:List U}(h:v= .rw an x\/(v.cellsOf.length=an/\(∀y∈v.cellsOf,y.hj=true)/\x=mn I cs v))(aM:bF (aL N ρ I) w ρ I v u):
 u.cells.size=an/\∀r,r<an->bA (aL N ρ I) w (x.getD r .undef) (u.cells.getD r undef):=by
 rcases h with rfl|⟨ad,ax,rfl⟩
 ·obtain⟨a,rfl,a1,a2,a3⟩:=aM;exact⟨a1,a3⟩
 ·have aC:u.cells.size=an/\∀i,i<an->eE (aL N ρ I) w ρ I (v.cellsOf.getD i .un) (u.cells.getD i undef):=by
   cases v with
   |agg q=>
    obtain⟨arr,rfl,a2,a3⟩:=aM;exact⟨by rw[<-ad];exact a2,fun i hi=>a3 i (by rw[<-ad]at hi;exact hi)⟩
   |_=>
    simp only[R.cellsOf]at ad ax⊢;have cR:=Gr (ax _ (apr.2 rfl));obtain⟨q1,cI⟩:=wb cR aM;rw[yy cI,<-ad];refine⟨rfl,fun i hi=> ?_⟩;have:i=0:=by simp at hi;omega
    subst this;exact q1
  refine⟨aC.1,fun r ao=>Bv cs v.cellsOf (fun m=>u.cells.getD m undef) ax (fun qA eJ=>aC.2 qA (by omega)) r (by omega)⟩
theorem MI {an:Nat}{cs:List b6}:∀(bN:List (Nat×R)) (cq:List (Nat×Value)) (i n:Nat) (l:List (List U)) (cells:Array Value),hP.go I an cs i n bN=some l->
 bN.length=cq.length->(∀(m:Nat) (p:Nat×R) (q:Nat×Value),bN[m]? =some p->cq[m]? =some q->p.1=q.1/\bF (aL N ρ I) w ρ I p.2 q.2)->(i+n)*an<=cells.size->
 ∃eF,Instr.fill (fun i=>some (i*an,an)) cells cq=some eF/\eF.size=cells.size/\l.length=n/\
  (∀m j,m<n->j<an->∃v,eF[(i+m)*an+j]? =some v/\bA (aL N ρ I) w ((l.getD m []).getD j .undef) v)/\∀q,q<i*an->eF[q]? =cells[q]?
 |[],[],i,0,l,cells,h,_,_,_=>by
  simp[hP.go]at h;subst h;exact⟨cells,rfl,rfl,rfl,fun m j hm=>by omega,fun _ _=>rfl⟩
 |[],[],i,n+1,l,cells,h,_,_,_=>by simp[hP.go]at h
 |[],_::_,_,_,_,_,_,h,_,_=>by simp at h
 |_::_,[],_,_,_,_,_,h,_,_=>by simp at h
 |(j,v)::ps,_::nL,i,0,l,cells,h,_,_,_=>by simp[hP.go]at h
 |(j,v)::ps,(fX,u)::nL,i,n+1,l,cells,h,az,aD,ah=>by
  obtain⟨x,cy,rfl,rfl,bg,ak⟩:=W8 h;obtain⟨aA,aG⟩:=aD 0 _ _ rfl rfl;simp only at aA aG;subst aA;obtain⟨fi,fb⟩:=Wu ak aG;have hmul:(i+1)*an<=(i+(n+1))*an:=aoR _ (by omega);obtain⟨sM,a7,bl,bH⟩:=BQ (fun i=>some (i*an,an)) cells i u nL (i*an) an rfl fi (by rw[aoX]at hmul;omega);obtain⟨eF,fS,gi,iy,jL,jM⟩:=MI ps nL (i+1) n cy sM bg (by simpa using az) (fun m p q hm aZ=>aD (m+1) p q hm aZ) (by rw[show i+1+n=i+(n+1) by omega];omega);refine⟨eF,by rw[a7];exact fS,by omega,by simp[iy],fun m r hm ao=> ?_,fun q aZ=> ?_⟩
  ·cases m with
   |zero=>
    rw[ao0,jM _ (by rw[aoX];omega),bH,aoB (by omega),show i*an+r-i*an=r by omega];exact⟨u.cells.getD r undef,by simp[aoJ,show r<u.cells.size by omega],fb r ao⟩
   |succ m=>
    obtain⟨ec,ve,mA⟩:=jL m r (by omega) ao;exact⟨ec,by rw[show i+(m+1)=i+1+m by omega];exact ve,by simpa using mA⟩
  ·rw[jM q (by rw[aoX];omega),bH q,aoA (by omega)]
end
end Go.aj
end
section
namespace Go.aj
section
variable {P:Program} {N:Nat->Prop} {ρ:List Loc} {I:aF} {w:World}
theorem Ot {tm:List R}{a:Act}(au:eg (aL N ρ I) w ρ I tm a.tmps)(bN:Array (Nat×Operand)):
 ∀(m:Nat) (p:Nat×R) (q:Nat×Value),(bz (fun p=>(p.1,a_ tm p.2)) bN.toList)[m]? =some p->((bN.map fun(i,x)=>(i,a.eval x)).toList)[m]? =some q->
  p.1=q.1/\bF (aL N ρ I) w ρ I p.2 q.2:=by
 intro m p q aa ad;rw[dP]at aa;simp only[apv,Array.toList_map]at aa ad
 cases Aa:bN.toList[m]? with
 |none=>simp[Aa]at aa
 |some x=>
  simp[Aa]at aa ad;subst aa ad;exact⟨rfl,eA au _⟩
theorem LM {t e:TypeId}{g:TypeInfo}{z:Value}(q1:P.underlying t=some (.slice e))(cI:P.info? e=some g)(dX:g.zero=some z)(n:Nat)(bN:Array (Nat×Value))(eF:Array Value)
 (nw:¬n*g.size>2^24) (aT:Instr.fill (fun i=>some (i*g.size,g.size)) (madeCells (if n*g.size=0 then#[]else z.cells) (n*g.size)) bN.toList=some eF):
 (Instr.buildSlice t n bN).run P w= .ok (.slice (some ⟨w.heap.size,0,none⟩) n n) (w.alloc (.cells eF e)):=by
 unfold Instr.buildSlice
 by_cases bc:n*g.size=0
 ·rw[aoB bc]at aT;have vc:Instr.fill (fun i=>some (i*g.size,g.size)) ((Array.range (n*g.size)).map ((#[]:Array Value)[·%(#[]:Array Value).size]!)) bN.toList=some eF:=aT;simp only[Sem.run_bind,run_underlying q1,Result.andThen_ok,lk cI,Sem.run_ite,aoA nw,aoB bc,Sem.run_pure,vc];simp[newRow]
 ·rw[aoA bc]at aT;have vc:Instr.fill (fun i=>some (i*g.size,g.size)) ((Array.range (n*g.size)).map (z.cells[·%z.cells.size]!)) bN.toList=some eF:=aT;have E8:(zeroValue e).run P w= .ok z w:=by simp[zeroValue,typeInfo,cI,dX]
  simp only[Sem.run_bind,run_underlying q1,Result.andThen_ok,lk cI,Sem.run_ite,aoA nw,aoA bc,E8,Sem.run_pure,vc];simp[newRow]
theorem MJ {t:TypeId}{i:b4}(hi:c4 P t i=true)(bI:ct N ρ I w){tm:List R}{a:Act}(au:eg (aL N ρ I) w ρ I tm a.tmps)(bN:Array (Nat×Operand))(n:Nat)
 {k:IntKind} (b_:i.ty= .aE (.cv k)) {l:List Int} (az:oP k n (bz (fun p=>(p.1,a_ tm p.2)) bN.toList)=some l) (aB:n<=65536):
 ∃u w' ρ',(Instr.buildSlice t n (bN.map fun(i,x)=>(i,a.eval x))).run P w= .ok u w'/\cn N ρ I w ρ' (I++[(false, .af k l)]) w'/\
  bF (aL N ρ' (I++[(false, .af k l)])) w' ρ' (I++[(false, .af k l)]) (.vec I.length) u:=by
 obtain⟨e,g,q1,cI,cV,gF,dX⟩:=GS hi b_;obtain⟨eF,f1,f2,f3,f4,_⟩:=MH (w:=w) (ρ:=ρ) (I:=I) (Z:=aL N ρ I) _ _ 0 n l (madeCells (if n*g.size=0 then#[]else(Value.int k 0).cells) (n*g.size)) az (C_ (tm:=tm) (a:=a) bN) (Ot au bN) (by rw[size_madeCells,cV];omega)
 have ft:(Instr.buildSlice t n (bN.map fun(i,x)=>(i,a.eval x))).run P w= .ok (.slice (some ⟨w.heap.size,0,none⟩) n n) (w.alloc (.cells eF e)):=by
  have nw:¬n*g.size>2^24:=by rw[cV];omega
  exact LM q1 cI dX n _ eF nw (by rw[cV]at f1⊢;exact f1)
 refine⟨_,_,_,ft,cn.alloc bI false (.af k l) _ n (.inr ⟨w.heap.size,eF,e,rfl,rfl,nU w _,by simp[f3],by rw[f2,size_madeCells,cV];simp,fun q aZ=> ?_⟩), .dc ⟨_,qZ bI _, ?_⟩⟩
 ·have:=f4 q (by omega);simpa using this
 ·rw[gM,aoB rfl];simp[ag.len,f3]
theorem Gx {t:TypeId}{i:b4}(hi:c4 P t i=true)(bI:ct N ρ I w){tm:List R}{a:Act}(au:eg (aL N ρ I) w ρ I tm a.tmps)(bN:Array (Nat×Operand))(n:Nat)
 {an:Nat} (b_:i.ty= .aE (.ee an)) {l:List (List U)} (az:hP I an i.f_ n (bz (fun p=>(p.1,a_ tm p.2)) bN.toList)=some l) (aB:n*an<=65536):
 ∃u w' ρ',(Instr.buildSlice t n (bN.map fun(i,x)=>(i,a.eval x))).run P w= .ok u w'/\cn N ρ I w ρ' (I++[(false, .av an l)]) w'/\
  bF (aL N ρ' (I++[(false, .av an l)])) w' ρ' (I++[(false, .av an l)]) (.vec I.length) u:=by
 obtain⟨e,g,z,q1,cI,cV,gF,dX,ij,hb,fx⟩:=si hi b_;obtain⟨eF,f1,f2,f3,f4,_⟩:=MI (w:=w) (ρ:=ρ) (I:=I) (N:=N) _ _ 0 n l (madeCells (if n*g.size=0 then#[]else z.cells) (n*g.size)) az (C_ (tm:=tm) (a:=a) bN) (Ot au bN) (by rw[size_madeCells,cV];simp)
 have ft:(Instr.buildSlice t n (bN.map fun(i,x)=>(i,a.eval x))).run P w= .ok (.slice (some ⟨w.heap.size,0,none⟩) n n) (w.alloc (.cells eF e)):=by
  have nw:¬n*g.size>2^24:=by rw[cV];omega
  exact LM q1 cI hb n _ eF nw (by rw[cV]at f1⊢;exact f1)
 refine⟨_,_,_,ft,cn.alloc bI false (.av an l) _ n (.inr ⟨w.heap.size,eF,e,rfl,rfl,nU w _,by simp[f3],by rw[f2,size_madeCells,cV];simp,dX,fun q r aZ ao=> ?_⟩), .dc ⟨_,qZ bI _, ?_⟩⟩
 ·obtain⟨v,ve,mA⟩:=f4 q r (by omega) ao;exact⟨v,by simpa using ve,Bx bI _ (.inl rfl) _ _ _ _ mA⟩
 ·rw[gM,aoB rfl];simp[ag.len,f3]
theorem Pl {l1 cb:TypeId}(ae:P.underlying l1=some (.slice cb)){t:bb}{x:U}{u:Value}(aT:hg t x=true)(h:bA (aL N ρ I) w x u):
 ∃news:List Value,Src P x.cL l1 u x.len news w/\(∀i j,i<x.len->j<x.cL->∃v,news[i*x.cL+j]? =some v/\bA (aL N ρ I) w (x.cell i j) v):=by
 cases h with
 |jj a cap k=>
  refine⟨[], ?_,fun i j hi=>by simp[U.len]at hi⟩
  cases a with
  |none=>exact Src.ofNil w ae cap
  |some a=>exact Src.ofSlice w ae a 0 cap [] (by simp) (fun j u h=>by simp at h) (fun u h=>by cases h)
 |af k l n b off cap aB bm aC hp=>
  refine⟨l.map (Value.int k), ?_,fun i j hi aK=> ?_⟩
  ·have:=Src.ofSlice (P:=P) (size:=1) w ae ⟨b,off,none⟩ n cap (l.map (Value.int k)) (by simp[aB]) (fun j u h=>by
    rw[apv]at h
    have aK:j<l.length:=by
     cases kp:l[j]? with
     |none=>simp[kp]at h
     |some z=>exact(apt.1 kp).1
    rw[mN,hp j (by omega)];simp[aoQ aK]at h
    simp[aoC,aK,h]) (fun u h=>by obtain⟨z,_,rfl⟩:=aoO.1 h;rfl)
   simpa[U.len,U.cL,aB]using this
  ·simp only[U.len,U.cL,U.cell]at hi aK⊢;have:j=0:=by omega
   subst this;exact⟨.int k (l.getD i 0),by simp[aoC,hi], .int _ _⟩
 |kO a cap an=>
  refine⟨[], ?_,fun i j hi=>by simp[U.len]at hi⟩
  cases a with
  |none=>exact Src.ofNil w ae cap
  |some a=>exact Src.ofSlice w ae a 0 cap [] (by simp) (fun j u h=>by simp at h) (fun u h=>by cases h)
 |av an l n b off cap qz aB cr bm aC hp ao=>
  simp only[U.len,U.cL,U.cell];have og:0<an:=cr;refine⟨(List.range (n*an)).map fun m=>qz (m/an) (m%an), ?_,fun i j hi aK=> ?_⟩
  ·rw[aB];refine Src.ofSlice (P:=P) w ae ⟨b,off,none⟩ n cap _ (by simp) (fun j v h=> ?_) (fun v h=> ?_)
   ·rw[apv]at h
    have aK:j<n*an:=by
     cases kp:(List.range (n*an))[j]? with
     |none=>simp[kp]at h
     |some z=>have:=(apt.1 kp).1;simpa using this
    simp[aK]at h;subst h;have aa:j/an<n:=aqr (by rw[apa];exact aK);have:=hp (j/an) (j%an) aa (apm _ og);rw[mN];rwa [show off+j/an*an+j%an=off+j by rw[apA,apa,aqe]]at this
   ·obtain⟨m,hm,rfl⟩:=aoO.1 h;have hm:m<n*an:=by simpa using hm
    exact(ao (m/an) (m%an) (aqr (by rw[apa];exact hm)) (apm _ og)).one
  ·rw[aB]at hi
   have bG:i*an+j<n*an:=by
    have:(i+1)*an<=n*an:=aoR _ (by omega);rw[aoX]at this;omega
   have aa:(i*an+j)/an=i:=by rw[apa,Nat.mul_add_div og,aqf aK,ao0]
   have ad:(i*an+j)%an=j:=by rw[apa,aqC,apw aK]
   refine⟨qz i j,by simp[bG,aa,ad],ao i j hi aK⟩
 |_=>cases t<;>simp[hg]at aT
theorem Bl {t l1 ty e:TypeId}{g:TypeInfo}(au:P.underlying t=some (.slice e))(bg:P.info? e=some g)(base:Option Addr)(o1 uY:Nat)(hle:o1<=uY){x:Value}(ay:Src P g.size l1 x 0 [] w):
 (Builtin.append_ #[t,l1] ty #[.slice base o1 uY,x]).run P w= .ok (.slice base o1 uY) w:=by
 have aC:=ay.cells
 have cR:∀q:Addr,(storeCells q []).run P w= .ok () w:=fun q=>rfl
 rcases ay.kind with⟨cb,ae⟩|ae<;>cases base<;>simp[Builtin.append_,run_underlying au,run_underlying ae,sizeOf,typeInfo,bg,ay.len,hle,aC,cR]
theorem XJ {t l1 ty e aG:TypeId}{g:TypeInfo}(au:P.underlying t=some (.slice e))(bg:P.info? e=some g)(b o1 uY n:Nat){x:Value}{news:List Value}(ay:Src P g.size l1 x n news w)
 (cur:Array Value) (ah:w.heap[b]? =some (.cells cur aG (0,0))) (sU:o1+n<=uY) (fj:o1*g.size+news.length<=cur.size):
 (Builtin.append_ #[t,l1] ty #[.slice (some ⟨b,0,none⟩) o1 uY,x]).run P w=
   .ok (.slice (some ⟨b,0,none⟩) (o1+n) uY) (w.setRow b (cur.toList.take (o1*g.size)++news++cur.toList.drop (o1*g.size+news.length)).toArray):=by
 have cR:=run_storeCells_at P b (o1*g.size) aG news 0 cur w ah (by simpa using fj) ay.one;simp only[ao0]at cR;rcases ay.kind with⟨cb,ae⟩|ae<;>simp[Builtin.append_,run_underlying au,run_underlying ae,sizeOf,typeInfo,bg,ay.len,sU,ay.cells,Addr.add_lit,cR]
theorem L3 (size:Nat)(a:Option Addr)(c:Nat)(w:World):(Builtin.firstCells size 0 (.slice a 0 c)).run P w= .ok #[] w:=by
 cases a with
 |none=>rfl
 |some a=>simp only[Builtin.firstCells,apY];rfl
theorem cn.nil (h:ct N ρ I w)(f:Bool)(ob:ag)(a:Option Addr)(aH:ob= .gone\/(∃k,ob= .af k [])\/∃an,ob= .av an []):
 cn N ρ I w (ρ++[⟨a,0,none⟩]) (I++[(f,ob)]) w:=by
 have iV:∀b,gJ (ρ++[⟨a,0,none⟩]) (I++[(f,ob)]) b->gJ ρ I b:=fun b ⟨i,aw,aa,ad,ax⟩=>by
  rw[ao7]at aa
  by_cases hi:i<ρ.length
  ·rw[aoB hi]at aa;rw[kH,aoA (by rw[<-h.len];omega)]at ax;exact⟨i,aw,aa,ad,ax⟩
  ·rw[aoA hi]at aa
   cases aY:i-ρ.length with
   |zero=>simp[aY]at aa;subst aa;cases ad
   |succ n=>simp[aY]at aa
 have cH:Fr ρ I w (ρ++[⟨a,0,none⟩]) (I++[(f,ob)]) w:=⟨rfl,rfl,rfl,aoH _,fun _ _ _=>rfl,fun b ah=> .inl (iV b ah)⟩;have e9:=GR h ⟨a,0,none⟩ (f,ob);refine{cH with rel:=h.tc cH (by simp[h.len]) (fun _ _ _ _ id _ _=>e9 id) (fun i aw az=> ?_),same:=e9};rw[ao7]at az
 by_cases hi:i<ρ.length
 ·rw[aoB hi]at az;exact .inl ⟨az,by rw[gM,aoA (by rw[<-h.len];omega)],fun ak=>by rwa [kH,aoA (by rw[<-h.len];omega)]at ak,fun _ _=>rfl⟩
 ·rw[aoA hi]at az
  cases aY:i-ρ.length with
  |succ n=>simp[aY]at az
  |zero=>
   simp[aY]at az;subst az;have eJ:i=I.length:=by rw[<-h.len];omega
   refine .inr ⟨fun b ah=>(by cases ah), ?_⟩;rw[eJ,gM,aoB rfl];rcases aH with rfl|⟨k,rfl⟩|⟨an,rfl⟩
   ·trivial
   ·exact .inl ⟨rfl,rfl⟩
   ·exact .inl ⟨rfl,rfl⟩
theorem Pm (w:World)(IP lM:Nat)(e:TypeId):IP<=grownCap w IP lM e:=grownCap_ge w IP lM e
theorem Bj (z:Array Value)(n:Nat):(Builtin.zeroCells z n).size=n*z.size:=by simp[Builtin.zeroCells]
theorem Ou {e:TypeId}{g:TypeInfo}{i:b4}{t:TypeId}(hi:c4 P t i=true)(ay:iB i.ty=true)(he:P.underlying t=some (.slice e))(bg:P.info? e=some g):
 ∃z,g.zero=some z/\z.cells.size=g.size/\0<g.size:=by
 cases b_:i.ty with
 |aE s=>
  rw[b_]at ay
  cases s with
  |cv k=>
   obtain⟨cb,vE,q1,cI,cV,gF,dX⟩:=GS hi b_;rw[he]at q1;cases q1;rw[bg]at cI;cases cI;exact⟨_,dX,by rw[cV];rfl,by omega⟩
  |ee an=>
   obtain⟨cb,vE,z,q1,cI,cV,gF,dX,ij,hb,fx⟩:=si hi b_;rw[he]at q1;cases q1;rw[bg]at cI;cases cI;have:=(qL (Z:=fun _=>False) (w:=default) fx).1;exact⟨z,hb,by rw[cV,<-ij,<-this];simp,by omega⟩
  |_=>simp[iB]at ay
 |_=>rw[b_]at ay;simp[iB]at ay
theorem NH {t:bb}{x:U}(h:hg t x=true):iB t=true:=by
 cases t with
 |aE s=>cases x<;>cases s<;>simp_all [hg,iB]
 |_=>cases x<;>simp[hg]at h
theorem BR (kQ news:List Value)(Z:Array Value)(k:Nat)(v:Value)(h:(kQ++news)[k]? =some v):((kQ++news).toArray++Z)[k]? =some v:=by
 have ae:=(apt.1 h).1;rw[aq2 (by simpa using ae)];simpa using h
theorem Ov {a b:Nat}(h:(a:Int)*b<=70368744177664):a*b<=70368744177664:=by
 have:((a*b:Nat):Int)<=((70368744177664:Nat):Int):=by rw[apK];exact h
 exact Int.ofNat_le.1 this
theorem L9 {t l1 ty:TypeId}{i:b4}(hi:c4 P t i=true)(bI:ct N ρ I w){cb:TypeId}(ae:P.underlying l1=some (.slice cb)){x:U}{oG qx:Value}(ak:∃a,oG= .slice a 0 0)
 (bn:bA (aL N ρ I) w x qx) (aT:hg i.ty x=true) (ob:ag) (cf:(∃k l,x= .af k l/\ob= .af k l)\/∃an l,x= .av an l/\ob= .av an l)
 (rJ:0<i.bytes) (ah:(x.len:Int)*i.bytes<=70368744177664):
 ∃u w' ρ',(Builtin.append_ #[t,l1] ty #[oG,qx]).run P w= .ok u w'/\cn N ρ I w ρ' (I++[(false,ob)]) w'/\bF (aL N ρ' (I++[(false,ob)])) w' ρ' (I++[(false,ob)]) (.vec I.length) u:=by
 obtain⟨a,rfl⟩:=ak;obtain⟨e,g,he,bg,cr,og,oo⟩:=sh hi aT;obtain⟨z,bm,iL,_⟩:=Ou hi (NH aT) he bg;obtain⟨news,gr,mT⟩:=Pl (ρ:=ρ) (I:=I) (N:=N) ae aT bn;have hlen:ob.len=x.len:=by rcases cf with⟨k,l,rfl,rfl⟩|⟨an,l,rfl,rfl⟩<;>rfl
 rw[<-cr]at gr mT
 by_cases aB:x.len=0
 ·have jG:news=[]:=by have:=gr.newsLen;rw[aB]at this;exact apl.1 (by simpa using this)
  rw[aB,jG]at gr;refine⟨_,w,_,Bl he bg a 0 0 (aoH _) gr,cn.nil bI false ob a ?_, .dc ⟨_,qZ bI _, ?_⟩⟩
  ·rcases cf with⟨k,l,rfl,rfl⟩|⟨an,l,rfl,rfl⟩
   ·exact .inr (.inl ⟨k,by rw[apl.1 aB]⟩)
   ·exact .inr (.inr ⟨an,by rw[apl.1 aB]⟩)
  ·rw[gM,aoB rfl,hlen,aB];exact⟨rfl,fun _=>rfl⟩
 ·have E_:x.len*g.bytes<=70368744177664:=by rw[oo];exact Ov ah
  have pa:((0+x.len:Nat):Int)<=9223372036854775807:=by
   have aa:x.len*1<=x.len*g.bytes:=ao3 _ (by omega);omega
  have ft:=run_append_grow_src (P:=P) w t l1 ty e g z he bg bm a 0 0 [] (L3 g.size a 0 w.drew) qx x.len news gr (by omega) pa (growslice_fits (by omega) (by rw[ao8];omega));have jc:=Pm w (0+x.len) 0 e;generalize grownCap w (0+x.len) 0 e=cap at ft jc;have aY:=cn.drew bI (w':=w.drew) rfl rfl rfl rfl;have p6:w.drew.heap.size=w.heap.size:=rfl
  have cR:=cn.alloc aY.rel false ob (.cells (([]++news).toArray++Builtin.zeroCells z.cells (cap-(0+x.len))) e) cap (by
   rcases cf with⟨k,l,rfl,rfl⟩|⟨an,l,rfl,rfl⟩
   ·refine .inr ⟨_,_,e,rfl,rfl,nU _ _,by simp only[U.len]at jc⊢;omega, ?_,fun q aZ=> ?_⟩
    ·simp only[U.len,U.cL]at cr jc gr⊢;simp[Bj,iL,cr,gr.newsLen];omega
    ·obtain⟨v,aM,ao⟩:=mT q 0 (by simpa[U.len]using aZ) (by omega);simp only[U.cL]at cr;rw[cr,ao_,ao0]at aM;simp only[U.cell]at ao;have:v= .int k (l.getD q 0):=by cases ao;rfl
     subst this;have vf:q<news.length:=(apt.1 aM).1;exact BR [] news _ q _ (by simpa using aM)
   ·refine .inr ⟨_,_,e,rfl,rfl,nU _ _,by simp only[U.len]at jc⊢;omega, ?_,by simpa[U.cL]using og,fun q r aZ ao=> ?_⟩
    ·simp only[U.len,U.cL]at cr jc gr⊢;have aA:(cap-(0+l.length))*an=cap*an-l.length*an:=by rw[ao8,Nat.sub_mul]
     have aG:l.length*an<=cap*an:=aoR _ (by omega);simp[Bj,iL,cr,gr.newsLen];rw[Nat.sub_mul];omega
    ·simp only[U.cL]at cr ao;obtain⟨v,aM,Jm⟩:=mT q r (by simpa[U.len]using aZ) (by omega);rw[cr]at aM;simp only[U.cell]at Jm;have vf:q*an+r<news.length:=(apt.1 aM).1;refine⟨v,BR [] news _ _ _ (by simpa using aM), ?_⟩
     exact Bx aY.rel _ (.inl rfl) _ _ _ _ (aY.toFr.reads Jm))
  refine⟨_,_,_,ft,aY.trans cR, .dc ⟨_,qZ aY.rel _, ?_⟩⟩;rw[gM,aoB rfl,hlen,ao8];exact⟨rfl,fun h=>by cases h⟩
end
end Go.aj
end
section
namespace Go.aj
section
variable {P:Program} {N:Nat->Prop} {ρ:List Loc} {I:aF} {w:World}
theorem NI {Z Z':Nat->Prop}{w w':World}(ae:∀b,b<w.heap.size->¬Z b->w'.heap[b]? =w.heap[b]?)(bm:∀b,b<w.heap.size->¬Z b->¬Z' b):
 ∀x u,bA Z w x u->bA Z' w' x u:=fun _ _ h=>h.mono fun b ah aB=>⟨ae b ah aB,bm b ah aB⟩
theorem L_ {t l1 ty:TypeId}{i:b4}(hi:c4 P t i=true)(bI:ct N ρ I w){cb:TypeId}(ai3:P.underlying l1=some (.slice cb)){x:U}{id:Nat}{oG qx:Value}
 (ak:bF (aL N ρ I) w ρ I (.vec id) oG) (bn:bA (aL N ρ I) w x qx) (aT:hg i.ty x=true) (en:cw I id=false) (ob:ag)
 (cf:(∃k l m,x= .af k l/\ag.at I id= .af k m/\ob= .af k (m++l))\/∃an l m,x= .av an l/\ag.at I id= .av an m/\ob= .av an (m++l))
 (rJ:0<i.bytes) (ah:(((ag.at I id).len:Int)+x.len)*i.bytes<=70368744177664):
 ∃u w' ρ',(Builtin.append_ #[t,l1] ty #[oG,qx]).run P w= .ok u w'/\
  (let al:=gH id (I.set id (false,ob))
   ct N ρ' al w'/\Fr ρ I w ρ' al w'/\(∀i,i≠id->eR ρ I ρ' al i)/\bF (aL N ρ' al) w' ρ' al (.vec id) u):=by
 obtain⟨aw,az,hu,Ab⟩:=ak;have dR:=bI.jW az;obtain⟨e,g,he,bg,cr,og,oo⟩:=sh hi aT;obtain⟨z,bm,iL,anE⟩:=Ou hi (NH aT) he bg;obtain⟨news,gr,mT⟩:=Pl (ρ:=ρ) (I:=I) (N:=N) ai3 aT bn;rw[<-cr]at gr mT
 have Ig:ob.len=(ag.at I id).len+x.len:=by
  rcases cf with⟨k,l,m,rfl,ad,rfl⟩|⟨an,l,m,rfl,ad,rfl⟩<;>rw[ad]<;>simp[ag.len,U.len]
 have Eu:ob.kill id=ob:=by rcases cf with⟨k,l,m,rfl,ad,rfl⟩|⟨an,l,m,rfl,ad,rfl⟩<;>rfl
 have fk:((ag.at I id).len=0/\aw.cap=0)\/∃b aI aG,aw.a=some ⟨b,0,none⟩/\aw.bE=some b/\w.heap[b]? =some (.cells aI aG (0,0))/\(ag.at I id).len<=aw.cap/\aw.cap*g.size<=aI.size/\
  ∀q r,q<(ag.at I id).len->r<g.size->∃v,aI[q*g.size+r]? =some v/\bA (aL N ρ I) w ((ag.at I id).data.cell q r) v:=by
  have ca:=bI.ob id aw az;rcases cf with⟨k,l,m,rfl,ad,rfl⟩|⟨an,l,m,rfl,ad,rfl⟩
  ·rw[ad]at ca⊢;simp only[U.cL]at cr;rcases ca with⟨rfl,aC⟩|⟨b,aI,aG,a7,bl,bH,dJ,eZ,gE⟩
   ·exact .inl ⟨rfl,aC⟩
   ·refine .inr ⟨b,aI,aG,a7,bl,bH,dJ,by rw[cr,ao_];exact eZ,fun q r aZ ao=>⟨.int k (m.getD q 0), ?_, .int _ _⟩⟩;have:r=0:=by omega
    subst this;rw[cr,ao_,ao0];exact gE q aZ
  ·rw[ad]at ca⊢;simp only[U.cL]at cr;rcases ca with⟨rfl,aC⟩|⟨b,aI,aG,a7,bl,bH,dJ,eZ,k8,gE⟩
   ·exact .inl ⟨rfl,aC⟩
   ·exact .inr ⟨b,aI,aG,a7,bl,bH,dJ,by rw[cr];exact eZ,fun q r aZ ao=>by rw[cr]at ao⊢;exact gE q r aZ ao⟩
 have xn:∀(Z:Nat->Prop) (w':World) (jX:List Loc) (gz:aF) (iY:Loc) (b:Nat) (vg:Array Value) (aG:TypeId),(∀x u,bA (aL N ρ I) w x u->bA Z w' x u)->
  iY.a=some ⟨b,0,none⟩->iY.bE=some b->w'.heap[b]? =some (.cells vg aG (0,0))->(ag.at I id).len+x.len<=iY.cap->iY.cap*g.size<=vg.size->
  (∀q r,q<(ag.at I id).len->r<g.size->∃v,vg[q*g.size+r]? =some v/\bA (aL N ρ I) w ((ag.at I id).data.cell q r) v)->
  (∀q r,q<x.len->r<g.size->∃v,vg[((ag.at I id).len+q)*g.size+r]? =some v/\bA (aL N ρ I) w (x.cell q r) v)->h9 Z w' jX gz iY ob:=by
  intro Z w' jX gz iY b vg aG ao a1 a2 a3 a4 a5 qC x1;rcases cf with⟨k,l,m,rfl,ad,rfl⟩|⟨an,l,m,rfl,ad,rfl⟩
  ·rw[ad]at a4 qC x1;simp only[U.cL,ag.len,U.len,ag.data,U.cell]at cr a4 qC x1;refine .inr ⟨b,vg,aG,a1,a2,a3,by simpa using a4,by rw[cr,ao_]at a5;exact a5,fun q aZ=> ?_⟩;simp only[ao1]at aZ
   by_cases vh:q<m.length
   ·obtain⟨v,aM,kW⟩:=qC q 0 vh (by omega);rw[cr,ao_,ao0]at aM;have:v= .int k (m.getD q 0):=by cases kW;rfl
    rw[aM,this];simp[aoC,ao7,vh]
   ·obtain⟨v,aM,kW⟩:=x1 (q-m.length) 0 (by omega) (by omega);rw[cr,ao_,ao0,show m.length+(q-m.length)=q by omega]at aM;have:v= .int k (l.getD (q-m.length) 0):=by cases kW;rfl
    rw[aM,this];simp[aoC,ao7,vh]
  ·rw[ad]at a4 qC x1;simp only[U.cL,ag.len,U.len,ag.data,U.cell]at cr a4 qC x1;refine .inr ⟨b,vg,aG,a1,a2,a3,by simpa using a4,by rw[cr]at a5;exact a5,by omega,fun q r aZ Jm=> ?_⟩;simp only[ao1]at aZ
   by_cases vh:q<m.length
   ·obtain⟨v,aM,kW⟩:=qC q r vh (by omega);rw[cr]at aM;refine⟨v,aM,ao _ _ ?_⟩;have:(m++l).getD q []=m.getD q []:=by simp[aoC,ao7,vh]
    rw[this];exact kW
   ·obtain⟨v,aM,kW⟩:=x1 (q-m.length) r (by omega) (by omega);rw[cr,show m.length+(q-m.length)=q by omega]at aM;refine⟨v,aM,ao _ _ ?_⟩;have:(m++l).getD q []=l.getD (q-m.length) []:=by simp[aoC,ao7,vh]
    rw[this];exact kW
 have zF:∀(ρ':List Loc) (al:aF),al=gH id (I.set id (false,ob))->ag.at al id=ob:=by
  rintro ρ' al rfl;rw[HQ,gN,aoB ⟨rfl,dR⟩];exact Eu
 by_cases sU:(ag.at I id).len+x.len<=aw.cap
 ·rcases fk with⟨bc,aC⟩|⟨b,aI,aG,a1,a2,a3,a4,a5,qC⟩
  ·
   have Jn:x.len=0:=by omega
   have jG:news=[]:=by have:=gr.newsLen;rw[Jn]at this;exact apl.1 (by simpa using this)
   rw[Jn,jG]at gr;have ft:=Bl (P:=P) (w:=w) (ty:=ty) he bg aw.a (ag.at I id).len aw.cap (by omega) gr
   have hI:ρ.set id aw=ρ:=by
    apply List.ext_getElem?;intro j;rw[apo];split
    ·rename_i aK;subst aK;rw[aoB (by rw[bI.len];exact dR),az]
    ·rfl
   obtain⟨dG,dD,ei⟩:=Hs bI id aw dR ob Eu en (w':=w) rfl rfl rfl (aoH _) (fun _ _ _=>rfl)
    (fun b ah=>⟨bI.lt id aw b az ah,bI.fR id aw b az ah, .inr ⟨aw,az,ah⟩⟩)
    (fun Z jX gz _=>by
      have:ob.len=0:=by omega
      rcases cf with⟨k,l,m,rfl,ad,rfl⟩|⟨an,l,m,rfl,ad,rfl⟩
      ·exact .inl ⟨apl.1 this,aC⟩
      ·exact .inl ⟨apl.1 this,aC⟩)
   refine⟨_,w,ρ.set id aw,by rw[hu];exact ft,dG,dD,ei, .dc ⟨aw,by rw[hI];exact az, ?_⟩⟩;rw[zF (ρ.set id aw) _ rfl,Ig,Jn];exact⟨rfl,Ab⟩
  ·
   have fj:(ag.at I id).len*g.size+news.length<=aI.size:=by
    rw[gr.newsLen,<-aoX];exact aoV (aoR _ sU) a5
   have ft:=XJ (P:=P) (w:=w) (ty:=ty) he bg b (ag.at I id).len aw.cap x.len gr aI a3 sU fj
   have hI:ρ.set id aw=ρ:=by
    apply List.ext_getElem?;intro j;rw[apo];split
    ·rename_i aK;subst aK;rw[aoB (by rw[bI.len];exact dR),az]
    ·rfl
   have mj:∀ey,ey≠b->(w.setRow b (aI.toList.take ((ag.at I id).len*g.size)++news++aI.toList.drop ((ag.at I id).len*g.size+news.length)).toArray).heap[ey]? =w.heap[ey]? :=
    fun ey hJ=>setRow_other w b ey _ hJ
   obtain⟨dG,dD,ei⟩:=Hs bI id aw dR ob Eu en
    (w':=w.setRow b (aI.toList.take ((ag.at I id).len*g.size)++news++aI.toList.drop ((ag.at I id).len*g.size+news.length)).toArray) rfl rfl rfl (by simp)
    (fun ey _ cT=>mj ey fun h=>cT aw az (h▸a2))
    (fun ey hJ=>⟨by simpa using bI.lt id aw ey az hJ,bI.fR id aw ey az hJ, .inr ⟨aw,az,hJ⟩⟩)
    (fun Z jX gz ko=>by
      refine xn Z _ jX gz aw b _ aG (NI (fun ey hJ aB=>mj ey fun h=>aB (.inr ⟨id,aw,az,h▸a2,en⟩)) ko) a1 a2 (setRow_heap w b aI _ aG (0,0) a3) sU (by rw[we _ _ _ fj];exact a5) (fun q r aZ ao=> ?_) (fun q r aZ ao=> ?_)
      ·rw[tX _ _ _ fj];have:(q+1)*g.size<=(ag.at I id).len*g.size:=aoR _ (by omega);rw[aoX]at this;rw[aoA (by omega)];exact qC q r aZ ao
      ·rw[tX _ _ _ fj];obtain⟨v,aM,kW⟩:=mT q r aZ ao;have bG:=(apt.1 aM).1;rw[aoB (by rw[aoX];omega)];refine⟨v, ?_,kW⟩;rw[show((ag.at I id).len+q)*g.size+r-(ag.at I id).len*g.size=q*g.size+r by rw[aoX];omega]
       exact aM)
   refine⟨_,_,ρ.set id aw,by rw[hu,a1];exact ft,dG,dD,ei, .dc ⟨aw,by rw[hI];exact az, ?_⟩⟩;rw[zF (ρ.set id aw) _ rfl,Ig,a1];exact⟨rfl,fun h=>by cases h⟩
 ·
  have E_:((ag.at I id).len+x.len)*g.bytes<=70368744177664:=by rw[oo];exact Ov (by rw[aqN];exact ah)
  have pa:(((ag.at I id).len+x.len:Nat):Int)<=9223372036854775807:=by
   have aa:((ag.at I id).len+x.len)*1<=((ag.at I id).len+x.len)*g.bytes:=ao3 _ (by omega);omega
  have hold:∃kQ:List Value,(Builtin.firstCells g.size (ag.at I id).len (.slice aw.a (ag.at I id).len aw.cap)).run P w.drew= .ok kQ.toArray w.drew/\kQ.length=(ag.at I id).len*g.size/\
   ∀q r,q<(ag.at I id).len->r<g.size->∃v,kQ[q*g.size+r]? =some v/\bA (aL N ρ I) w ((ag.at I id).data.cell q r) v:=by
   rcases fk with⟨bc,aC⟩|⟨b,aI,aG,a1,a2,a3,a4,a5,qC⟩
   ·exact⟨[],by rw[bc];exact L3 _ _ _ _,by simp[bc],fun q r aZ=>by omega⟩
   ·have hle:(ag.at I id).len*g.size<=aI.size:=aoV (aoR _ a4) a5;refine⟨aI.toList.take ((ag.at I id).len*g.size), ?_,by simp;omega,fun q r aZ ao=> ?_⟩
    ·rw[a1]
     exact run_firstCells_some w.drew g.size _ ⟨b,0,none⟩ _ _ _ (by simp;omega) (fun j v aK=>by
      rw[mN,ao8]
      have iI:j<(ag.at I id).len*g.size:=by
       have:=(apt.1 aK).1;simp at this;omega
      rw[apu,aoB iI]at aK;have ai4:w.drew.heap[b]? =some (.cells aI aG (0,0)):=a3;simp only[World.cell?,ai4]
      simpa using aK)
    ·obtain⟨v,aM,kW⟩:=qC q r aZ ao
     have bG:q*g.size+r<(ag.at I id).len*g.size:=by
      have:(q+1)*g.size<=(ag.at I id).len*g.size:=aoR _ (by omega);rw[aoX]at this;omega
     exact⟨v,by rw[apu,aoB bG];simpa using aM,kW⟩
  obtain⟨kQ,Jo,Ac,ai5⟩:=hold;have ft:=run_append_grow_src (P:=P) w t l1 ty e g z he bg bm aw.a (ag.at I id).len aw.cap kQ Jo qx x.len news gr (by omega) pa (growslice_fits (by omega) (by omega));have jc:=Pm w ((ag.at I id).len+x.len) aw.cap e;generalize grownCap w ((ag.at I id).len+x.len) aw.cap e=cap at ft jc
  have mj:∀ey,ey<w.heap.size->(w.drew.alloc (.cells ((kQ++news).toArray++Builtin.zeroCells z.cells (cap-((ag.at I id).len+x.len))) e)).heap[ey]? =w.heap[ey]? :=
   fun ey hJ=>heap_alloc_old w.drew _ ey hJ
  obtain⟨dG,dD,ei⟩:=Hs bI id ⟨some ⟨w.heap.size,0,none⟩,cap,some w.heap.size⟩ dR ob Eu en
   (w':=w.drew.alloc (.cells ((kQ++news).toArray++Builtin.zeroCells z.cells (cap-((ag.at I id).len+x.len))) e)) rfl rfl rfl (by simp)
   (fun ey hJ _=>mj ey hJ)
   (fun ey hJ=>by
     simp at hJ;subst hJ
     exact⟨by simp,fun aB=>absurd (bI.fC _ aB) (by omega), .inl (aoH _)⟩)
   (fun Z jX gz ko=>by
     refine xn Z _ jX gz _ w.heap.size _ e (NI (fun ey hJ _=>mj ey hJ) ko) rfl rfl (nU w.drew _) jc ?_ (fun q r aZ ao=> ?_) (fun q r aZ ao=> ?_)
     ·have aA:((ag.at I id).len+x.len)*g.size<=cap*g.size:=aoR _ jc;simp only[Array.size_append,List.size_toArray,ao1,Bj,iL,Ac,gr.newsLen,Nat.sub_mul];rw[aoX]at aA⊢;omega
     ·obtain⟨v,aM,kW⟩:=ai5 q r aZ ao;have bG:=(apt.1 aM).1;exact⟨v,BR kQ news _ _ _ (by rw[apy bG];exact aM),kW⟩
     ·obtain⟨v,aM,kW⟩:=mT q r aZ ao;refine⟨v,BR kQ news _ _ _ ?_,kW⟩;rw[apQ (by rw[Ac,aoX];omega),Ac,show((ag.at I id).len+q)*g.size+r-(ag.at I id).len*g.size=q*g.size+r by rw[aoX];omega]
      exact aM)
  refine⟨_,_,ρ.set id ⟨some ⟨w.heap.size,0,none⟩,cap,some w.heap.size⟩,by rw[hu];exact ft,dG,dD,ei, .dc ⟨_,by rw[apo,aoB rfl,aoB (by rw[bI.len];exact dR)], ?_⟩⟩;rw[zF (ρ.set id aw) _ rfl,Ig];exact⟨rfl,fun h=>by cases h⟩
theorem GG {Z:Nat->Prop}{l:List Int}{u:Value}(h:bA Z w (.af .u8 l) u)(ao:∀x∈l,0<=x/\x<256):
 ∃s:ByteArray,(Conv.bytesToString u).run P w= .ok (.string s) w/\l=s.data.toList.map fun b=>(b.toNat:Int):=by
 have agl:∀(s:ByteArray),s.data.toList=(l.map fun n=>UInt8.ofNat n.toNat)->l=s.data.toList.map fun b=>(b.toNat:Int):=by
  intro s ay;rw[ay,ap5]
  have:∀x∈l,((fun b:UInt8=>(b.toNat:Int))∘fun n:Int=>UInt8.ofNat n.toNat) x=x:=by
   intro x ak;obtain⟨bc,aa⟩:=ao x ak;simp only[Function.comp,UInt8.toNat_ofNat'];omega
  rw[aqO this,List.map_id']
 cases h with
 |jj a cap=>
  refine⟨ByteArray.empty, ?_,rfl⟩
  cases a with
  |none=>rfl
  |some a=>
   have:=run_bytesToString (P:=P) w a 0 cap [] rfl;simpa using this
 |af _ _ n b off cap aB bm aC hp=>
  have aeO:(loadCells ⟨b,off,none⟩ n).run P w= .ok (l.map (Value.int .u8)).toArray w:=by
   have:=run_loadCells_list (P:=P) w ⟨b,off,none⟩ (l.map (Value.int .u8)) (fun j v aK=>by
    rw[apv]at aK
    have iI:j<l.length:=by
     cases kp:l[j]? with
     |none=>simp[kp]at aK
     |some z=>exact(apt.1 kp).1
    rw[mN,hp j (by omega)];simp[aoQ iI]at aK
    simp[aoC,iI,aK])
   simpa[aB]using this
  exact⟨_,run_bytesToString (P:=P) w _ n cap l aeO,agl _ (by rw[foldl_push];rfl)⟩
end
end Go.aj
end
section
namespace Go.aj
section
variable {P:Program} {N:Nat->Prop} {ρ:List Loc} {I:aF} {w:World}
theorem iQ (h:ct N ρ I w){s:Sem Value}{u:Value}{v:R}(ay:s.run P w= .ok u w)(aM:bF (aL N ρ I) w ρ I v u){oF:Sem Next}(aB:oF=do pure (.value (<-s))):
 Good P N ρ I w oF v I:=by subst aB;exact .aec h ay aM
theorem nS {s:Sem Value}{u:Value}{v:R}{w':World}{ρ':List Loc}{al:aF}(ay:s.run P w= .ok u w')(cR:cn N ρ I w ρ' al w')
 (aM:bF (aL N ρ' al) w' ρ' al v u) {oF:Sem Next} (aB:oF=do pure (.value (<-s))):Good P N ρ I w oF v al:=by
 subst aB;exact⟨.value u,w',ρ',u,by simp[ay], .inl rfl,cR,aM⟩
theorem ZL (bI:ct N ρ I w){id:Nat}{aw:Loc}(az:ρ[id]? =some aw){k:IntKind}{l:List Int}(aH:ag.at I id= .af k l):
 bA (fun _=>False) w (.af k l) (.slice aw.a l.length aw.cap):=by
 have h:=bI.ob id aw az;rw[aH]at h;rcases h with⟨rfl,ad⟩|⟨b,aI,e,aa,ad,ax,aV,bp,b1⟩
 ·exact .jj _ _ _
 ·rw[aa];exact .af k l _ b 0 _ rfl (fun h=>h) aV fun i hi=>by simp[World.cell?,ax,b1 i hi]
theorem GH {Z:Nat->Prop}(f:Int->Int->Int)(gi:Value->Value->Sem Value)(hm:∀(k cz:IntKind) x y,gi (.int k x) (.int cz y)=pure (.int k (f x y)))(k:IntKind):
 ∀(l:List R) (us:List Value) (a m:Int),sy f a l=some m->l.length=us.length->(∀i,i<l.length->bF Z w ρ I (l.getD i .un) (us.getD i undef))->
  (us.foldlM gi (Value.int k a)).run P w= .ok (.int k m) w
 |[],[],a,m,h,_,_=>by simp[sy]at h;subst h;rfl
 |[],_::_,_,_,_,h,_=>by simp at h
 |_::_,[],_,_,_,h,_=>by simp at h
 |t::r,u::us,a,m,h,az,ao=>by
  have bc:=ao 0 (by simp);simp only[aq1]at bc
  have au:∃cz b,t= .d (.int cz b):=by
   cases t with
   |d x=>cases x with
    |int cz b=>exact⟨cz,b,rfl⟩
    |_=>simp[sy]at h
   |_=>simp[sy]at h
  obtain⟨cz,b,rfl⟩:=au;have:=jh bc;subst this;simp only[sy]at h;rw[List.foldlM_cons,hm,pure_bind];exact GH f gi hm k r us (f a b) m h (by simpa using az) (fun i hi=>by have:=ao (i+1) (by simpa using hi);simpa using this)
theorem HS {tm:List R}{a:Act}(au:eg (aL N ρ I) w ρ I tm a.tmps)(args:Array Operand):
 (bz (a_ tm) args.toList).length=((args.map a.eval).toList).length/\∀i,i<(bz (a_ tm) args.toList).length->bF (aL N ρ I) w ρ I ((bz (a_ tm) args.toList).getD i .un) ((args.map a.eval).toList.getD i undef):=by
 rw[dP];refine⟨by simp,fun i hi=> ?_⟩;simp only[aoK,apH]at hi;have:=eA au args[i];simpa[aoC,hi]using this
theorem abj {src dst:TypeId}{i j:b4}(hi:c4 P src i=true)(aK:c4 P dst j=true)(bI:ct N ρ I w){cZ:Operand}{tm:List R}{a:Act}(au:eg (aL N ρ I) w ρ I tm a.tmps)
 {ch:List Prop} {v:R} {al:aF} (h:n3 i.ty j.ty (a_ tm cZ) I= .a6 ch v al) (ay:∀p∈ch,p):
 ∃u,al=I/\(convert src dst (a.eval cZ)).run P w= .ok u w/\bF (aL N ρ I) w ρ I v u:=by
 have ak:=eA au cZ;generalize a_ tm cZ=x at*;generalize a.eval cZ=oG at*
 have hint:∀{t:TypeId} {i:b4} {k:IntKind},c4 P t i=true->i.ty= .aE (.int k)->P.underlying t=some (.int k):=by
  intro t i k hi h;unfold c4 at hi;rw[h]at hi;split at hi<;>simp_all;exact(jt.1 hi.1.1).symm
 have w2:i.ty= .aE (.cv .u8)->∃e,P.underlying src=some (.slice e)/\P.underlying e=some (.int .u8):=by
  intro h;unfold c4 at hi;rw[h]at hi;split at hi<;>simp_all;split at hi<;>simp_all;exact(jt.1 hi.2.1.1.1).symm
 unfold n3 at h;split at h
 ·rename_i k cz n ry;split at h
  ·rename_i aon gr;simp only[bT.a6.injEq]at h;obtain⟨rfl,rfl,rfl⟩:=h;have:=jh ak;subst this;have aa:=hint hi gr;have ad:=hint aK ry;exact⟨_,rfl,by simp[convert,run_underlying aa,run_underlying ad,Conv.intToInt],oM _ _⟩
  ·cases h
 ·rename_i l ry;split at h
  ·rename_i gr;simp only[bT.a6.injEq]at h;obtain⟨rfl,rfl,rfl⟩:=h;obtain⟨s,rfl,az⟩:=uc ak;have aa:=sm hi gr;have ad:=sm aK ry;exact⟨.string s,rfl,by simp[convert,run_underlying aa,run_underlying ad],ak⟩
  ·cases h
 ·rename_i l ry;split at h
  ·rename_i gr;simp only[bT.a6.injEq]at h;obtain⟨rfl,rfl,rfl⟩:=h;obtain⟨e,aa,ax⟩:=w2 gr;have ad:=sm aK ry;obtain⟨fN,cap,hu,_⟩:=BH ak;obtain⟨s,e_,lN⟩:=GG (P:=P) (w:=w) ak (ay _ (by simp));refine⟨.string s,rfl, ?_, .dc (bA.str s _ lN)⟩;rw[hu]at e_⊢;simp[convert,run_underlying aa,run_underlying ad,run_underlying ax,e_]
  ·cases h
 ·rename_i id ry;split at h
  ·rename_i l aH gr;simp only[bT.a6.injEq]at h;obtain⟨rfl,rfl,rfl⟩:=h;obtain⟨e,aa,ax⟩:=w2 gr;have ad:=sm aK ry;obtain⟨aw,az,hu⟩:=Ol ak aH;obtain⟨s,e_,lN⟩:=GG (P:=P) (w:=w) (ZL bI az aH) (ay _ (by simp));refine⟨.string s,rfl, ?_, .dc (bA.str s _ lN)⟩;rw[hu];simp[convert,run_underlying aa,run_underlying ad,run_underlying ax,e_]
  ·cases h
 ·rename_i ry;split at h
  ·rename_i gr;simp only[bT.a6.injEq]at h;obtain⟨rfl,rfl,rfl⟩:=h;obtain⟨e,aa,ax⟩:=w2 gr;have ad:=sm aK ry;obtain⟨fN,rfl⟩:=ak;obtain⟨s,e_,lN⟩:=GG (P:=P) (w:=w) (Z:=fun _=>False) (l:=[]) (.jj fN 0 .u8) (fun x ak=>by cases ak);refine⟨.string s,rfl, ?_, .dc (bA.str s _ lN)⟩;simp[convert,run_underlying aa,run_underlying ad,run_underlying ax,e_]
  ·cases h
 ·cases h
theorem MK {a:Act}{o:Oper}{c:Call}{b:Builtin}(aH:o.op= .call c)(aC:c.callee= .builtin b):
 ∃consts,execOp a.eval o=builtin b c.argTypes o.type consts (c.args.map a.eval):=by
 unfold execOp;rw[aH];simp only[resolve,aC,pure_bind,invoke];exact⟨_,rfl⟩
theorem wh {α:Type}(x:Array α)(l:List α)(h:x.toList=l):x=l.toArray:=by subst h;simp
theorem SB {α:Type}:∀{l:List α},l.length=2->∃a b,l=[a,b]
 |[a,b],_=>⟨a,b,rfl⟩
theorem Ht {tm:List R}{args:Array Operand}{x y:R}(h:bz (a_ tm) args.toList=[x,y]):∃p q,args=#[p,q]/\a_ tm p=x/\a_ tm q=y:=by
 rw[dP]at h;have az:args.toList.length=2:=by have:=apg List.length h;simpa using this
 obtain⟨p,q,ql⟩:=SB az;rw[ql]at h;simp at h;exact⟨p,q,wh _ _ ql,h.1,h.2⟩
theorem Qz {tm:List R}{args:Array Operand}{x:R}(h:bz (a_ tm) args.toList=[x]):∃p,args=#[p]/\a_ tm p=x:=by
 rw[dP]at h;have az:args.toList.length=1:=by have:=apg List.length h;simpa using this
 obtain⟨p,ql⟩:=List.length_eq_one_iff.1 az;rw[ql]at h;simp at h;exact⟨p,wh _ _ ql,h⟩
theorem Pn {tm:List R}{args:Array Operand}{x:R}{r:List R}(h:bz (a_ tm) args.toList=x::r):∃p ps,args=(p::ps).toArray/\a_ tm p=x/\bz (a_ tm) ps=r:=by
 cases az:args.toList with
 |nil=>rw[az]at h;simp[bz]at h
 |cons p ps=>
  rw[az]at h;simp only[bz,aqn]at h;exact⟨p,ps,wh _ _ az,h.1,h.2⟩
theorem ML {tys:Array TypeId}(h:bV tys.toList=2):tys=#[b8 0 tys.toList 0,b8 0 tys.toList 1]:=by
 rw[cO]at h;obtain⟨p,q,ql⟩:=SB h;rw[ql];exact wh _ _ ql
theorem Hu {y:R}{u:Value}(bI:ct N ρ I w)(bn:bF (aL N ρ I) w ρ I y u):
 cn N ρ I w ρ (lr I y) w/\bF (aL N ρ (lr I y)) w ρ (lr I y) (sR I y) u:=by
 cases y with
 |vec id=>
  have cR:=cn.shut bI id;have fk:I.set id (true,ag.at I id)=e7 I id:=by rw[e7,e2]
  rw[fk]at cR;refine⟨cR, ?_⟩;unfold sR lr;simp only;obtain⟨aw,az,hu,_⟩:=bn;have en:cw (e7 I id) id=true:=by rw[<-fk,ir,aoB ⟨rfl,bI.jW az⟩]
  have cK:ag.at (e7 I id) id=ag.at I id:=by rw[<-fk,gN];split<;>simp
  cases aH:ag.at I id with
  |af k l=>
   have ao:=qN cR.rel az en (t:= .aE (.cv k)) (by rw[cK,aH];exact jt.2 rfl);rw[cK,aH]at ao;rw[hu,aH];exact .dc ao
  |av an l=>
   have ao:=qN cR.rel az en (t:= .aE (.ee an)) (by rw[cK,aH];exact apB an);rw[cK,aH]at ao;rw[hu,aH];exact .dc ao
  |_=>trivial
 |_=>exact⟨cn.refl bI,bn⟩
theorem ZM {Z:Nat->Prop}{w:World}{ρ:List Loc}{I:aF}{t:R}{v:Value}(h:eE Z w ρ I t v){id:Nat}(aB:t.ly id):id<ρ.length:=by
 have key:∀{aw:Loc},ρ[id]? =some aw->id<ρ.length:=fun h=>(apt.1 h).1
 cases t<;>simp only[R.ly]at aB
 case vec i=>subst aB;obtain⟨aw,aa,_⟩:=h;exact key aa
 case ptr i o=>subst aB;obtain⟨aw,b,aa,_⟩:=h;exact key aa
 case optr i x j=>subst aB;obtain⟨aw,b,aa,_⟩:=h;exact key aa
 case oat i x j=>subst aB;obtain⟨aw,b,aa,_⟩:=h;exact key aa
 case mp i=>subst aB;obtain⟨aw,b,aa,_⟩:=h;exact key aa
 case tail i x=>subst aB;obtain⟨aw,b,aa,_⟩:=h;exact key aa
theorem forget {ρ':List Loc}{w':World}{ob:ag}{u:Value}(bI:ct N ρ I w)(cR:cn N ρ I w ρ' (I++[(false,ob)]) w')
 (aM:bF (aL N ρ' (I++[(false,ob)])) w' ρ' (I++[(false,ob)]) (.vec I.length) u) (cf:(∃k l,ob= .af k l)\/∃an l,ob= .av an l):
 cn N ρ I w ρ I w'/\bA (aL N ρ I) w' ob.data u:=by
 have hlen:ρ'.length=I.length+1:=by rw[cR.rel.len];simp
 have hold:∀(i:Nat) (aw:Loc),ρ[i]? =some aw->ρ'[i]? =some aw:=fun i aw h=>(cR.same i aw h).1
 have bG:∀(i:Nat) (aw:Loc),ρ[i]? =some aw->i<I.length:=fun i aw h=>by
  have:=(apt.1 h).1;rw[bI.len]at this;exact this
 have cK:∀i,i<I.length->ag.at (I++[(false,ob)]) i=ag.at I i:=fun i hi=>by
  rw[gM,aoA (by omega)]
 have en:∀i,i<I.length->cw (I++[(false,ob)]) i=cw I i:=fun i hi=>by
  unfold cw;rw[d_,d_];simp only[aoC];rw[apy hi]
 have zr:∀b,aL N ρ I b->aL N ρ' (I++[(false,ob)]) b:=fun b ah=>by
  rcases ah with ah|⟨i,aw,aa,ad,ax⟩
  ·exact .inl ah
  ·exact .inr ⟨i,aw,hold i aw aa,ad,by rw[en i (bG i aw aa)];exact ax⟩
 have uE:∀x u,bA (aL N ρ' (I++[(false,ob)])) w' x u->bA (aL N ρ I) w' x u:=fun x u ak=>ak.mono fun b _ bm=>⟨rfl,fun ah=>bm (zr b ah)⟩
 have aeP:ct N ρ I w':=
  {len:=bI.len
   fC:=cR.rel.fC
   lt:=fun i aw b aa ad=>cR.rel.lt i aw b (hold i aw aa) ad
   inj:=fun i j li cF b aa ad ax aV s1 s2=>cR.rel.inj i j li cF b (hold i li aa) (hold j cF ad) ax aV (fun⟨a,n,an,e⟩=>s1 ⟨by rw[<-en i (bG i li aa)];exact a,n,an,by rw[<-cK i (bG i li aa)];exact e⟩) (fun⟨a,n,an,e⟩=>s2 ⟨by rw[<-en j (bG j cF ad)];exact a,n,an,by rw[<-cK j (bG j cF ad)];exact e⟩)
   fR:=fun i aw b aa ad=>cR.rel.fR i aw b (hold i aw aa) ad
   ob:=fun i aw aa=>by
    have ad:=cR.rel.ob i aw (hold i aw aa);have ax:=bI.ob i aw aa;rw[cK i (bG i aw aa)]at ad;refine ad.mono (fun b _=>rfl) uE fun l az k id ae aB=> ?_;rw[az]at ax;obtain⟨_,aI,_,_,_,_,_,aV⟩:=ax;have dR:=ZM (aV k ae) aB;intro iY iJ;have aA:ρ[id]? =some ρ[id]:=by simp[dR]
    have aG:=hold id _ aA;rw[aG]at iJ;obtain rfl:=aoL iJ;rw[cK id (by rw[<-bI.len];exact dR)]
    exact⟨aA,rfl,rfl⟩}
 refine⟨{cR.toFr with alive:=fun b h=> .inl h,rel:=aeP,same:=eR.refl ρ I}, ?_⟩;obtain⟨lN,mA⟩:=Hu cR.rel aM
 have aY:sR (I++[(false,ob)]) (.vec I.length)= .d ob.data:=by
  have aS:ag.at (I++[(false,ob)]) I.length=ob:=by rw[gM,aoB rfl]
  unfold sR;simp only[aS];rcases cf with⟨k,l,rfl⟩|⟨an,l,rfl⟩<;>rfl
 rw[aY]at mA;have Jp:bA (aL N ρ' (lr (I++[(false,ob)]) (.vec I.length))) w' ob.data u:=mA;refine Jp.mono fun b _ bm=>⟨rfl,fun ah=>bm ?_⟩;rcases ah with ah|⟨i,aw,aa,ad,ax⟩
 ·exact .inl ah
 ·refine .inr ⟨i,aw,hold i aw aa,ad, ?_⟩;have hi:=bG i aw aa;show cw (e7 (I++[(false,ob)]) I.length) i=false;rw[e7,e2,ir,aoA (by omega),en i hi];exact ax
theorem ZN {P:Program}{N:Nat->Prop}{ρ:List Loc}{I c1:aF}{w:World}{s:Sem Next}{v:R}{al:aF}(h:cn N ρ I w ρ c1 w)(k:Good P N ρ c1 w s v al):Good P N ρ I w s v al:=by
 obtain⟨oF,w',ρ',u,aa,ad,ax,aV⟩:=k;exact⟨oF,w',ρ',u,aa,ad,h.trans ax,aV⟩
theorem Mm (z:Array Value)(n k:Nat)(ae:k<n*z.size):(Builtin.zeroCells z n)[k]? =some z[k%z.size]! :=by
 simp[Builtin.zeroCells,ae]
theorem ZO {t ty:TypeId}{i:b4}(hi:c4 P t i=true)(bI:ct N ρ I w){x:R}{u:Value}(ak:bF (aL N ρ I) w ρ I x u){ch:List Prop}{v:R}{al:aF}
 (h:wD i x I= .a6 ch v al):∃w',v= .any/\(Builtin.clear_ #[t] ty #[u]).run P w= .ok (.tuple #[]) w'/\cn N ρ I w ρ al w':=by
 unfold wD at h;split at h;rotate_left
 ·cases h
 rename_i id a;split at h;rotate_left
 ·cases h
 rename_i an l en aH fj;simp only[bT.a6.injEq]at h;obtain⟨rfl,rfl,rfl⟩:=h;obtain⟨aw,b,az,hK,et,hu,bc,aa⟩:=ak;rw[aH]at aa hu fj;simp only[ag.len,ag.cL]at aa hu
 have b_:i.ty= .aE (.ee an):=by
  cases b_:i.ty with
  |aE s=>rw[b_]at fj;cases s<;>simp[jz]at fj;rw[fj]
  |_=>rw[b_]at fj;simp[jz]at fj
 obtain⟨e,g,z,q1,cI,cV,gF,dX,ij,hb,fx⟩:=si hi b_;obtain⟨la,z2⟩:=qL (Z:=aL N ρ I) (w:=w) fx;have iL:z.cells.size=an:=by rw[<-apH,la,ij]
 have cf:=bI.ob id aw az;rw[aH]at cf;rcases cf with⟨rfl,_⟩|⟨ey,aI,aG,a7,bl,bH,dJ,eZ,k8,gE⟩
 ·simp at aa;omega
 rw[hK]at a7;simp at a7;subst a7;generalize aB:a.toNat=n at*;have jG:n<l.length:=by omega
 have rH:(Builtin.zeroCells z.cells (l.length-n)).toList.length=(l.length-n)*an:=by rw[apH,Bj,iL]
 have kh:n*an+(l.length-n)*an=l.length*an:=by rw[<-aoX];congr 1;omega
 have p_:l.length*an<=aw.cap*an:=aoR _ dJ
 have xm:∀x∈(Builtin.zeroCells z.cells (l.length-n)).toList,x.oneCell'=true:=fun x ak=>by
  obtain⟨k,e⟩:=List.mem_iff_getElem?.1 ak;have ae:=(apt.1 e).1;rw[rH]at ae;have bg:=Mm z.cells (l.length-n) k (by rw[iL];exact ae);rw[aqP,bg]at e;obtain rfl:=aoL e;have hm:k%z.cells.size<an:=by rw[iL];exact apm _ dX
  have:=(z2 (k%z.cells.size) (by omega)).one
  have bR:z.cells[k%z.cells.size]! =z.cells.toList.getD (k%z.cells.size) undef:=by
   have:k%z.cells.size<z.cells.size:=by omega
   simp[aoC,this]
  rw[bR];exact this
 have cR:=run_storeCells_at P b (n*an) aG (Builtin.zeroCells z.cells (l.length-n)).toList 0 aI w bH (by rw[rH];omega) xm;simp only[ao0]at cR;have E7:(zeroValue e).run P w= .ok z w:=by simp[zeroValue,typeInfo,cI,hb]
 have og:l.length-n≠0:=by omega
 have ft:(Builtin.clear_ #[t] ty #[u]).run P w= .ok (.tuple #[]) (w.setRow b (aI.toList.take (n*an)++(Builtin.zeroCells z.cells (l.length-n)).toList++aI.toList.drop (n*an+(Builtin.zeroCells z.cells (l.length-n)).toList.length)).toArray):=by
  rw[hu]
  obtain⟨m,hm⟩:∃m,l.length-n=m+1:=⟨l.length-n-1,by omega⟩
  rw[hm]at cR⊢;simp[Builtin.clear_,run_underlying q1,E7,cR]
 refine⟨_,rfl,ft, ?_⟩
 ·rw[e2];have gn:(ag.av an (l.take n++List.replicate (l.length-n) (bz b6.ga i.f_))).len=(ag.at I id).len:=by rw[aH];simp[ag.len];omega
  have jm:(ag.av an (l.take n++List.replicate (l.length-n) (bz b6.ga i.f_))).cL=(ag.at I id).cL:=by rw[aH];rfl
  have hm:=Bt bI az et en (ag.av an (l.take n++List.replicate (l.length-n) (bz b6.ga i.f_)))
   ((aI.toList.take (n*an)++(Builtin.zeroCells z.cells (l.length-n)).toList++aI.toList.drop (n*an+(Builtin.zeroCells z.cells (l.length-n)).toList.length)).toArray)
  refine cn.write bI id aw b az et en _ gn jm _ (.inr ⟨b,_,aG,hK,et,setRow_heap w b aI _ aG (0,0) bH,by simp;omega, ?_,k8,fun q r aZ ao=> ?_⟩)
  ·rw[we _ _ _ (by rw[rH];omega)];exact eZ
  ·have aZ:q<l.length:=by simp at aZ;omega
   rw[tX _ _ _ (by rw[rH];omega),rH];rw[rH]at hm
   have Jq:q*an+r<l.length*an:=by
    have:(q+1)*an<=l.length*an:=aoR _ (by omega);rw[aoX]at this;omega
   by_cases fh:q<n
   ·have:(q+1)*an<=n*an:=aoR _ (by omega);rw[aoX]at this;rw[aoA (by omega)];obtain⟨v,aM,qj⟩:=gE q r aZ ao;refine⟨v,aM, ?_⟩
    have aA:(l.take n++List.replicate (l.length-n) (bz b6.ga i.f_)).getD q []=l.getD q []:=by
     simp only[aoC];rw[apy (by simp;omega),apu,aoB fh]
    rw[aA];exact hm _ _ qj
   ·have:n*an<=q*an:=aoR _ (by omega);rw[aoB (by omega)];have ae:q*an+r-n*an<(l.length-n)*z.cells.size:=by rw[iL];omega
    refine⟨z.cells[(q*an+r-n*an)%z.cells.size]!,by rw[aqP,Mm _ _ _ ae], ?_⟩
    have IN:(q*an+r-n*an)%z.cells.size=r:=by
     rw[iL,show q*an+r-n*an=an*(q-n)+r by rw[apa an,Nat.sub_mul];omega,aqC,apw ao]
    rw[IN]
    have aA:(l.take n++List.replicate (l.length-n) (bz b6.ga i.f_)).getD q []=bz b6.ga i.f_:=by
     simp only[aoC];rw[apQ (by simp;omega),ap6,aoB (by simp;omega)];rfl
    rw[aA]
    have bR:z.cells[r]! =z.cells.toList.getD r undef:=by
     have:r<z.cells.size:=by omega
     simp[aoC,this]
    rw[bR];exact hm _ _ (z2 r (by omega))
theorem Wv {tb:TypeId->b4}(bs:∀t,c4 P t (tb t)=true){b:Builtin}{tys:Array TypeId}{args:Array Operand}{tm:List R}{a:Act}(bI:ct N ρ I w)(au:eg (aL N ρ I) w ρ I tm a.tmps)
 {ch:List Prop} {v:R} {al:aF} (h:kB tb b tys.toList (bz (a_ tm) args.toList) I= .a6 ch v al) (ay:∀p∈ch,p) (ty:TypeId) (consts:Array Bool):
 Good P N ρ I w (builtin b tys ty consts (args.map a.eval)) v al:=by
 unfold kB at h;split at h
 ·rename_i x gl;obtain⟨p,rfl,aD⟩:=Qz gl;have ak:=eA au p;rw[aD]at ak;split at h
  ·cases h
  rename_i t r tg;have uZ:=wh _ _ tg;subst uZ;split at h
  ·rename_i n aB;simp only[bT.a6.injEq]at h;obtain⟨rfl,rfl,rfl⟩:=h;have:=ZC (w:=w) (ρ:=ρ) (I:=I) (N:=N) (bs t) ak aB r ty;exact iQ bI this (oM _ _) (by simp[builtin])
  ·cases h
 ·rename_i x y gl;obtain⟨p,q,rfl,aD,aZ⟩:=Ht gl;have ak:=eA au p;have bn:=eA au q;rw[aD]at ak;rw[aZ]at bn;clear gl aD aZ;obtain⟨cR,bn⟩:=Hu bI bn
  replace ak:=cR.lz ak
  refine ZN cR ?_
  replace bI:=cR.rel
  clear cR au;generalize lr I y=c1 at*;generalize sR I y=qB at*;split at h
  ·rename_i n kn ah;split at h
   ·rename_i oq;have oq:=aoE oq;have uZ:=ML (tys:=tys) (by omega);obtain⟨cb,ae⟩:=qK (bs _) kn
    have rJ:0<(tb (b8 0 tys.toList 0)).bytes:=by
     have:1<=(tb (b8 0 tys.toList 0)).bytes:=by simpa[Nat.blt]using ah
     omega
    have od:∀(u:Value) (w':World),(Builtin.append_ #[b8 0 tys.toList 0,b8 0 tys.toList 1] ty #[a.eval p,a.eval q]).run P w= .ok u w'->
     (Builtin.append_ tys ty (#[p,q].map a.eval)).run P w= .ok u w':=by
     intro u w' ao;rw[uZ];simpa using ao
    unfold sk at h;split at h
    ·split at h
     ·rename_i SC;simp only[bT.a6.injEq]at h;obtain⟨rfl,rfl,rfl⟩:=h;have kX:=ak;obtain⟨a1,E6⟩:=ak;obtain⟨a2,lL⟩:=bn;obtain⟨e,he⟩:=qK (bs _) SC;obtain⟨g,bg⟩:=NC (bs _) SC he
      have gr:Src P g.size (b8 0 tys.toList 1) (a.eval q) 0 [] w:=by
       rw[lL]
       cases a2 with
       |none=>exact Src.ofNil w ae 0
       |some a2=>exact Src.ofSlice w ae a2 0 0 [] (by simp) (fun j u h=>by simp at h) (fun u h=>by cases h)
      have ao:=Bl (P:=P) (w:=w) (ty:=ty) he bg a1 0 0 (aoH _) gr;rw[<-E6]at ao;exact iQ bI (od _ _ ao) kX rfl
     ·cases h
    ·rename_i x;split at h
     ·rename_i aT;split at h
      ·rename_i k l;simp only[bT.a6.injEq]at h;obtain⟨rfl,rfl,rfl⟩:=h;obtain⟨u,w',ρ',aa,ad,ax⟩:=L9 (P:=P) (N:=N) (ρ:=ρ) (I:=c1) (w:=w) (ty:=ty) (bs _) bI ae ak bn aT (.af k l) (.inl ⟨k,l,rfl,rfl⟩) rJ (by have:=ay _ (apr.2 rfl);exact this);rw[fZ,cO];exact nS (od _ _ aa) ad ax rfl
      ·rename_i an l;simp only[bT.a6.injEq]at h;obtain⟨rfl,rfl,rfl⟩:=h;obtain⟨u,w',ρ',aa,ad,ax⟩:=L9 (P:=P) (N:=N) (ρ:=ρ) (I:=c1) (w:=w) (ty:=ty) (bs _) bI ae ak bn aT (.av an l) (.inr ⟨an,l,rfl,rfl⟩) rJ (by have:=ay _ (apr.2 rfl);exact this);rw[fZ,cO];exact nS (od _ _ aa) ad ax rfl
      ·cases h
     ·cases h
    ·rename_i id;split at h
     ·rename_i aT;simp only[bT.a6.injEq]at h;obtain⟨rfl,rfl,rfl⟩:=h;have hv:=ak;obtain⟨aw,az,hu,_⟩:=hv;obtain⟨a2,lL⟩:=bn;obtain⟨vc,_,_⟩:=M8 aT;obtain⟨e,g,he,bg,cr,_⟩:=sh (bs _) vc
      have gr:Src P g.size (b8 0 tys.toList 1) (a.eval q) 0 [] w:=by
       rw[lL]
       cases a2 with
       |none=>exact Src.ofNil w ae 0
       |some a2=>exact Src.ofSlice w ae a2 0 0 [] (by simp) (fun j u h=>by simp at h) (fun u h=>by cases h)
      have hle:(ag.at c1 id).len<=aw.cap:=by
       have cf:=bI.ob id aw az
       cases aH:ag.at c1 id with
       |af k l=>
        rw[aH]at cf;rcases cf with⟨rfl,_⟩|⟨b,aI,e,_,_,_,aV,_⟩
        ·simp[ag.len]
        ·exact aV
       |av an l=>
        rw[aH]at cf;rcases cf with⟨rfl,_⟩|⟨b,aI,e,_,_,_,aV,_⟩
        ·simp[ag.len]
        ·exact aV
       |_=>rw[aH]at aT;cases b_:(tb (b8 0 tys.toList 0)).ty<;>simp[b_,jz]at aT
      have ao:=Bl (P:=P) (w:=w) (ty:=ty) he bg aw.a _ aw.cap hle gr;rw[<-hu]at ao;exact iQ bI (od _ _ ao) ak rfl
     ·cases h
    ·split at h
     ·split at h
      ·split at h<;>cases h
      ·split at h<;>cases h
      ·cases h
     ·cases h
    ·cases h
   ·cases h
  ·cases h
 ·rename_i k m r gl;obtain⟨p,ps,rfl,aD,j4⟩:=Pn gl;split at h
  ·rename_i Km hm;simp only[bT.a6.injEq]at h;obtain⟨rfl,rfl,rfl⟩:=h;have ak:=eA au p;rw[aD]at ak;have:=jh ak
   have zs:=GH (P:=P) (w:=w) (ρ:=ρ) (I:=I) (Z:=aL N ρ I) (fun x y=>if y>x then y else x) Builtin.max2 (fun k cz x y=>rfl) k r (ps.map a.eval) m Km hm (by rw[<-j4,dP];simp)
    (fun i hi=>by
      rw[<-j4,dP]at hi⊢;simp only[aoK]at hi;have:=eA au ps[i]
      simpa[aoC,hi]using this)
   refine iQ bI (s:=Builtin.max_ tys ty ((p::ps).toArray.map a.eval)) ?_ (oM _ _) rfl;simp only[Builtin.max_,aqD,ape,this];exact zs
  ·cases h
 ·rename_i k m r gl;obtain⟨p,ps,rfl,aD,j4⟩:=Pn gl;split at h
  ·rename_i Km hm;simp only[bT.a6.injEq]at h;obtain⟨rfl,rfl,rfl⟩:=h;have ak:=eA au p;rw[aD]at ak;have:=jh ak
   have zs:=GH (P:=P) (w:=w) (ρ:=ρ) (I:=I) (Z:=aL N ρ I) (fun x y=>if y<x then y else x) Builtin.min2 (fun k cz x y=>rfl) k r (ps.map a.eval) m Km hm (by rw[<-j4,dP];simp)
    (fun i hi=>by
      rw[<-j4,dP]at hi⊢;simp only[aoK]at hi;have:=eA au ps[i]
      simpa[aoC,hi]using this)
   refine iQ bI (s:=Builtin.min_ tys ty ((p::ps).toArray.map a.eval)) ?_ (oM _ _) rfl;simp only[Builtin.min_,aqD,ape,this];exact zs
  ·cases h
 ·rename_i x gl;obtain⟨p,rfl,aD⟩:=Qz gl;have ak:=eA au p;rw[aD]at ak;split at h;rotate_left
  ·cases h
  rename_i t tg;have uZ:=wh _ _ tg;subst uZ;obtain⟨w',rfl,aa,ad⟩:=ZO (P:=P) (ty:=ty) (bs t) bI ak h;exact nS (s:=Builtin.clear_ #[t] ty #[a.eval p]) aa ad (v:= .any) trivial (by simp[builtin])
 ·cases h
end
end Go.aj
end
section
namespace Go.aj
section
variable {P:Program} {N:Nat->Prop} {ρ:List Loc} {I:aF} {w:World}
theorem Po {t:bb}{an:Nat}{l:List (List U)}(h:jz t (.av an l)=true):t= .aE (.ee an):=by
 cases t with
 |aE s=>cases s<;>simp[jz]at h;rw[h]
 |_=>simp[jz]at h
theorem ac3 (h:ct N ρ I w){id:Nat}{aw:Loc}(az:ρ[id]? =some aw)(aT:cw I id=false){an:Nat}{l:List (List U)}(aH:ag.at I id= .av an l)(n:Nat)(aB:n<=l.length):
 cn N ρ I w (ρ++[aw]) (I.set id (true, .dead l.length an)++[(false, .av an (l.take n))]) w:=by
 have dR:=h.jW az;have hlen:=h.len
 have cK:∀i,ag.at (I.set id (true, .dead l.length an)++[(false, .av an (l.take n))]) i=if i=I.length then .av an (l.take n)else if i=id then .dead l.length an else ag.at I i:=fun i=>by
  rw[gM,aoT];split
  ·rfl
  ·rw[gN]
   by_cases e:i=id
   ·subst e;rw[aoB ⟨rfl,dR⟩,aoB rfl]
   ·rw[aoA (fun x=>e x.1.symm),aoA e]
 have en:∀i,cw (I.set id (true, .dead l.length an)++[(false, .av an (l.take n))]) i=if i=I.length then false else if i=id then true else cw I i:=fun i=>by
  rw[kH,aoT];split
  ·rfl
  ·rw[ir]
   by_cases e:i=id
   ·subst e;rw[aoB ⟨rfl,dR⟩,aoB rfl]
   ·rw[aoA (fun x=>e x.1.symm),aoA e]
 have get:∀i li,(ρ++[aw])[i]? =some li->(i=I.length/\li=aw)\/(i<I.length/\ρ[i]? =some li):=fun i li hi=>by
  rw[ao7]at hi;split at hi
  ·exact .inr ⟨by omega,hi⟩
  ·cases aY:i-ρ.length with
   |zero=>simp[aY]at hi;exact .inl ⟨by omega,hi.symm⟩
   |succ m=>simp[aY]at hi
 have iV:∀b,gJ (ρ++[aw]) (I.set id (true, .dead l.length an)++[(false, .av an (l.take n))]) b->gJ ρ I b:=fun b ⟨i,li,a7,bl,bH⟩=>by
  rcases get i li a7 with⟨rfl,rfl⟩|⟨hi,a7⟩
  ·exact⟨id,li,az,bl,aT⟩
  ·rw[en,aoA (by omega)]at bH;split at bH
   ·cases bH
   ·exact⟨i,li,a7,bl,bH⟩
 have cH:Fr ρ I w (ρ++[aw]) (I.set id (true, .dead l.length an)++[(false, .av an (l.take n))]) w:=⟨rfl,rfl,rfl,aoH _,fun _ _ _=>rfl,fun b ah=> .inl (iV b ah)⟩
 have e9:∀i,eR ρ I (ρ++[aw]) (I.set id (true, .dead l.length an)++[(false, .av an (l.take n))]) i:=fun i li hi=>by
  have eJ:=h.jW hi;refine⟨by rw[apy (by omega)];exact hi, ?_⟩;rw[cK,aoA (by omega)]
  by_cases e:i=id
  ·subst e;rw[aoB rfl,aH];exact⟨rfl,rfl⟩
  ·rw[aoA e];exact⟨rfl,rfl⟩
 have sV:∀i,i<I.length->¬hq (I.set id (true, .dead l.length an)++[(false, .av an (l.take n))]) i->i≠id/\¬hq I i:=fun i hi ay=>by
  have cT:i≠id:=fun e=>ay ⟨by rw[en,aoA (by omega),aoB e],l.length,an,by rw[cK,aoA (by omega),aoB e]⟩;exact⟨cT,fun⟨f,m,s,e⟩=>ay ⟨by rw[en,aoA (by omega),aoA cT];exact f,m,s,by rw[cK,aoA (by omega),aoA cT];exact e⟩⟩
 refine{cH with rel:={len:=by simp[hlen],fC:=h.fC,lt:= ?_,inj:= ?_,fR:= ?_,ob:= ?_},same:=e9}
 ·intro i li b hi ah;rcases get i li hi with⟨_,rfl⟩|⟨_,hi⟩
  ·exact h.lt id li b az ah
  ·exact h.lt i li b hi ah
 ·intro i j li cF b hi aK m8 m9 j8 lY;rcases get i li hi with⟨aA,Jr⟩|⟨m_,xB⟩<;>rcases get j cF aK with⟨aG,Js⟩|⟨kq,nC⟩
  ·omega
  ·obtain⟨eY,hy⟩:=sV j kq lY;exact absurd (h.inj j id cF aw b nC az m9 (Jr▸m8) hy (nY aT)) eY
  ·obtain⟨eY,hy⟩:=sV i m_ j8;exact absurd (h.inj i id li aw b xB az m8 (Js▸m9) hy (nY aT)) eY
  ·exact h.inj i j li cF b xB nC m8 m9 (sV i m_ j8).2 (sV j kq lY).2
 ·intro i li b hi ah;rcases get i li hi with⟨_,rfl⟩|⟨_,hi⟩
  ·exact h.fR id li b az ah
  ·exact h.fR i li b hi ah
 ·intro i li hi;rw[cK];rcases get i li hi with⟨rfl,rfl⟩|⟨m_,hi⟩
  ·rw[aoB rfl];have cf:=h.ob id li az;rw[aH]at cf;rcases cf with⟨rfl,aC⟩|⟨b,aI,e,a7,bl,bH,dJ,eZ,k8,gE⟩
   ·exact .inl ⟨by simp,aC⟩
   ·refine .inr ⟨b,aI,e,a7,bl,bH,by simp;omega,eZ,k8,fun q r aZ ao=> ?_⟩;have th:q<n:=by simp at aZ;omega
    obtain⟨v,aM,qj⟩:=gE q r (by omega) ao;refine⟨v,aM, ?_⟩
    have aA:(l.take n).getD q []=l.getD q []:=by
     simp only[aoC];rw[apu,aoB th]
    rw[aA];exact cH.reads qj
  ·rw[aoA (by omega)];split
   ·trivial
   ·exact(h.ob i li hi).mono (fun _ _=>rfl) (fun _ _=>cH.reads) fun _ _ _ idx _ _=>e9 idx
theorem W9 {t:TypeId}{i:b4}(hi:c4 P t i=true)(bI:ct N ρ I w){cZ:Operand}{lo eJ dr:Option Operand}{tm:List R}{a:Act}(au:eg (aL N ρ I) w ρ I tm a.tmps)
 {ch:List Prop} {v:R} {al:aF} (h:B3 i (a_ tm cZ) (omap (a_ tm) lo) (omap (a_ tm) eJ) (omap (a_ tm) dr) I= .a6 ch v al) (ay:∀p∈ch,p):
 ∃u ρ',(Instr.sliceAt t (a.eval cZ) (lo.map a.eval) (eJ.map a.eval) (dr.map a.eval)).run P w= .ok u w/\cn N ρ I w ρ' al w/\bF (aL N ρ' al) w ρ' al v u:=by
 have ak:=eA au cZ;generalize a_ tm cZ=x at*;unfold B3 at h;split at h;rotate_left
 ·cases h
 rename_i id rE;have zE:dr=none:=by cases dr<;>first|rfl|cases rE
 subst zE;split at h
 ·rename_i an l b en aH fj hV my;simp only[bT.a6.injEq]at h;obtain⟨rfl,rfl,rfl⟩:=h;have bc:0<=b:=ay _ (by simp);have aa:b<=(l.length:Int):=ay _ (by simp);obtain⟨dj,df⟩:=nT au lo hV;obtain⟨dG,dD⟩:=nT au eJ my;rw[aH]at fj;have b_:=Po fj;obtain⟨e,g,z,q1,cI,cV,gF,dX,ij,hb,fx⟩:=si hi b_;obtain⟨aw,az,hu,Ev⟩:=ak;rw[aH]at hu;simp only[ag.len]at hu;have cf:=bI.ob id aw az;rw[aH]at cf
  have p_:l.length<=aw.cap/\(aw.cap=0\/∃b,aw.a=some ⟨b,0,none⟩):=by
   rcases cf with⟨rfl,e⟩|⟨b,_,_,a7,_,_,dJ,_⟩
   ·exact⟨by simp, .inl e⟩
   ·exact⟨dJ, .inr ⟨b,a7⟩⟩
  have cR:=ac3 bI az en aH b.toNat (by omega)
  have ah:=Bi (P:=P) (w:=w) true l.length l.length aw.cap p_.1 (lo.map a.eval) (eJ.map a.eval) none (some b) dj df dG dD (by
   intro p aD;simp only[mo,aoW,apV,or_false]at aD;rcases aD with rfl|rfl
   ·exact bc
   ·exact aa) rfl
  refine⟨.slice aw.a b.toNat aw.cap,_, ?_,by rw[e2,fZ];exact cR, ?_⟩
  ·rw[hu];have:=yj q1 cI aw.a l.length aw.cap _ _ none ah;rw[show((none:Option Operand).map a.eval)=none from rfl,this]
   have aA:(if aw.cap=((none:Option Int).getD 0).toNat then aw.a else aw.a.map (·.add (((none:Option Int).getD 0).toNat*g.size)))=aw.a:=by
    rcases p_.2 with aC|⟨ey,aC⟩
    ·rw[aoB (by rw[aC];rfl)]
    ·rw[aC];simp[mN]
   rw[aA];simp
  ·rw[e2,fZ,cO];refine .dc ⟨aw,by rw[<-bI.len];simp, ?_,Ev⟩;rw[gM,aoT,aoB rfl];simp only[ag.len,apf]
   congr 1;omega
 ·rename_i an l c en aH fj hV my;simp only[bT.a6.injEq]at h;obtain⟨rfl,rfl,rfl⟩:=h;have bc:0<=c:=ay _ (by simp);have aa:c<(l.length:Int):=ay _ (by simp);obtain⟨dj,df⟩:=nT au lo hV;obtain⟨dG,dD⟩:=nT au eJ my;rw[aH]at fj;have b_:=Po fj;obtain⟨e,g,z,q1,cI,cV,gF,dX,ij,hb,fx⟩:=si hi b_;obtain⟨aw,az,hu,Ev⟩:=ak;rw[aH]at hu;simp only[ag.len]at hu;have cf:=bI.ob id aw az;rw[aH]at cf;rcases cf with⟨rfl,_⟩|⟨b,aI,aG,a7,bl,bH,dJ,eZ,k8,gE⟩
  ·simp at aa;omega
  have ah:=Bi (P:=P) (w:=w) true l.length l.length aw.cap dJ (lo.map a.eval) (eJ.map a.eval) (some c) none dj df dG dD (by
   intro p aD;simp only[mo,aoW,apV,or_false]at aD;rcases aD with rfl|rfl
   ·exact bc
   ·omega) rfl
  refine⟨.slice (some ⟨b,c.toNat*an,none⟩) (l.length-c.toNat) (aw.cap-c.toNat),ρ, ?_,cn.refl bI, .dc ⟨aw,b,az,a7,bl,by rw[aH];rfl,bc,by rw[aH];exact aa⟩⟩;rw[hu];have:=yj q1 cI aw.a l.length aw.cap _ _ none ah;rw[show((none:Option Operand).map a.eval)=none from rfl,this,a7,cV];have aA:((some c).getD 0).toNat=c.toNat:=rfl;rw[aA,aoA (by omega)];simp[mN]
 ·cases h
theorem XK {t:TypeId}{i:b4}(hi:c4 P t i=true)(bI:ct N ρ I w){cZ:Operand}{lo eJ dr:Option Operand}{tm:List R}{a:Act}(au:eg (aL N ρ I) w ρ I tm a.tmps)
 {ch:List Prop} {v:R} {al:aF} (h:uu i (a_ tm cZ) (omap (a_ tm) lo) (omap (a_ tm) eJ) (omap (a_ tm) dr) I= .a6 ch v al) (ay:∀p∈ch,p):
 ∃u ρ',(Instr.sliceAt t (a.eval cZ) (lo.map a.eval) (eJ.map a.eval) (dr.map a.eval)).run P w= .ok u w/\cn N ρ I w ρ' al w/\bF (aL N ρ' al) w ρ' al v u:=by
 unfold uu at h;split at h
 ·exact W9 hi bI au h ay
 ·obtain⟨u,aa,ad,ax⟩:=W3 hi bI au h ay;exact⟨u,ρ,aa,ad,ax⟩
theorem ZP {x:U}{k:IntKind}(h:x.dg k):x= .int k x.toInt:=by
 cases x<;>simp[U.dg]at h;rw[h];rfl
theorem Hv {Z:Nat->Prop}{r:List U}{u:Value}{k:IntKind}(h:nX Z w r u)(ae:∀x∈r,x.dg k):u= .agg ((r.map fun x=>Value.int k x.toInt).toArray):=by
 obtain⟨a,rfl,aa,ad⟩:=h
 congr 1
 apply Array.ext
 ·simp[aa]
 ·intro i hi xB;have ot:i<r.length:=by omega
  have:=ad i ot;have aA:r.getD i .undef=r[i]:=by simp[aoC,ot]
  rw[aA,ZP (ae _ (apJ ot))]at this;have aG:a.getD i undef=a[i]:=by simp[aoJ,hi]
  rw[aG]at this;have:=jh (ρ:=[]) (I:=[]) (show bF Z w [] [] (.d (.int k r[i].toInt)) a[i]from this);simpa using this
theorem Pp {e:TypeId}{k:IntKind}(he:P.underlying e=some (.int k))(xs:List Int)(i:Nat)(hi:i<xs.length):
 (part e ((xs.map (Value.int k)).toArray) (i*1)).run P w= .ok (.int k (xs.getD i 0)) w:=by
 simp[part,qR he,oU,hi,aoC]
theorem MM {e:TypeId}{k:IntKind}(he:P.underlying e=some (.int k))(d:Nat)(xs lb:List Int):∀is:List Nat,(∀i∈is,i<xs.length/\i<lb.length)->
 (Op.eqItems (d+1) e 1 ((xs.map (Value.int k)).toArray) ((lb.map (Value.int k)).toArray) is).run P w= .ok (is.all fun i=>decide (xs.getD i 0=lb.getD i 0)) w
 |[],_=>rfl
 |i::is,h=>by
  obtain⟨aa,ad⟩:=h i (by simp);have bM:=MM he d xs lb is fun j aK=>h j (by simp[aK]);simp only[Op.eqItems,Sem.run_bind,Pp he xs i aa,Pp he lb i ad,Result.andThen_ok]
  have aA:(Op.equalIn (d+1) e (.int k (xs.getD i 0)) (.int k (lb.getD i 0))).run P w= .ok (decide (xs.getD i 0=lb.getD i 0)) w:=by
   simp[Op.equalIn,run_underlying he]
   rfl
  rw[aA];simp only[Result.andThen_ok,aqd];cases decide (xs.getD i 0=lb.getD i 0)<;>simp[bM]
theorem Yt (xs lb:List Int)(h:xs.length=lb.length):((List.range xs.length).all fun i=>decide (xs.getD i 0=lb.getD i 0))=decide (xs=lb):=by
 rw[Bool.eq_iff_iff,aoU,apb];constructor
 ·intro ca;apply aqQ h;intro i aa ad;have:=ca i (by simpa using aa);simpa[aoC,aa,ad]using this
 ·rintro rfl i _;simp
theorem ZQ {t e:TypeId}{n:Nat}{k:IntKind}(hu:P.underlying t=some (.array n e))(he:P.underlying e=some (.int k))(op:BinOp)(x y:Operand)(a b:Array Value):
 (eqGuard op t x y (.agg a) (.agg b)).run P w= .ok () w:=by
 have bg:P.eqGuardType P.depth t=false:=by
  have:P.depth=2*(P.types.size+Made.depth)+1+1:=rfl;rw[this];unfold Program.eqGuardType;rw[hu];simp only;unfold Program.eqGuardType;rw[he]
 cases op<;>simp[eqGuard,bg]
theorem ZR {t:TypeId}{i:b4}(hi:c4 P t i=true)(aC:zf P i t=true){op:BinOp}{cZ dC:Operand}{tm:List R}{a:Act}(au:eg (aL N ρ I) w ρ I tm a.tmps)
 {ch:List Prop} {v:R} {al:aF} (h:p4 op i.ty (a_ tm cZ) (a_ tm dC) I= .a6 ch v al) (ay:∀p∈ch,p):
 ∃u,al=I/\(do eqGuard op t cZ dC (a.eval cZ) (a.eval dC);binOp op t (a.eval cZ) (a.eval dC):Sem Value).run P w= .ok u w/\bF (aL N ρ I) w ρ I v u:=by
 have ak:=eA au cZ;have bn:=eA au dC;generalize a_ tm cZ=x at*;generalize a_ tm dC=y at*;unfold p4 at h;split at h;rotate_left
 ·cases h
 rename_i n k cs b_;split at h;rotate_left
 ·cases h
 rename_i oH vH xC ai6
 have gB:(∀x∈oH,x.dg k)/\(∀x∈vH,x.dg k)/\(op= .eql\/op= .neq):=by
  split at h
  ·simp only[bT.a6.injEq]at h;obtain⟨rfl,_⟩:=h;exact⟨ay _ (by simp),ay _ (by simp), .inl rfl⟩
  ·simp only[bT.a6.injEq]at h;obtain⟨rfl,_⟩:=h;exact⟨ay _ (by simp),ay _ (by simp), .inr rfl⟩
  ·cases h
 obtain⟨AS,al_,bK⟩:=gB;obtain⟨fN,a1,a2,a3,a4⟩:=wg xC ak;obtain⟨ama,cW,c9,iM,vF⟩:=wg ai6 bn;have Kn:=Hv (Z:=aL N ρ I) (w:=w) ⟨fN,a1,by omega,fun j aK=>a4 j (by omega)⟩ AS;have eP:=Hv (Z:=aL N ρ I) (w:=w) ⟨ama,cW,by omega,fun j aK=>vF j (by omega)⟩ al_;obtain⟨el,g,q1,cI,cV⟩:=yx hi b_;have cV:g.size=1:=cV
 have Fa:P.underlying el=some (.int k)/\cs.length=n:=by
  unfold zf at aC;rw[b_]at aC;simp only[q1]at aC;split at aC
  ·rename_i he aB;injection he with he;injection he with _ he;subst he;split at aC
   ·rename_i cz ae;exact⟨by rw[ae,jt.1 aC],by rw[<-cO];exact aoE aB⟩
   ·cases aC
  ·cases aC
 obtain⟨Fa,j3⟩:=Fa;have cr:i.ty.size=n:=by rw[b_];simp[bb.size,cO,j3]
 have xD:a.eval cZ= .agg (((oH.map U.toInt).map (Value.int k)).toArray):=by rw[Kn,ap5];rfl
 have xE:a.eval dC= .agg (((vH.map U.toInt).map (Value.int k)).toArray):=by rw[eP,ap5];rfl
 have heq:(Op.equal t (a.eval cZ) (a.eval dC)).run P w= .ok (decide (oH.map U.toInt=vH.map U.toInt)) w:=by
  rw[xD,xE];have:=run_equalIn_array (P:=P) w 9999 ((((oH.map U.toInt).map (Value.int k)).toArray)) ((((vH.map U.toInt).map (Value.int k)).toArray)) q1 cI;have aa:P.cellsOf el=1:=by simp[Program.cellsOf,cI,cV]
  rw[aa,MM Fa 9998 _ _ _ (fun j aK=>by
   have:j<n:=by simpa using aK
   simp only[aoK];omega)]at this
  show(Op.equalIn 10000 t _ _).run P w=_;rw[this]
  congr 1
  have aG:n=(oH.map U.toInt).length:=by simp;omega
  rw[aG];exact Yt _ _ (by simp;omega)
 have pb:=ZQ (P:=P) (w:=w) q1 Fa op cZ dC (((oH.map U.toInt).map (Value.int k)).toArray) (((vH.map U.toInt).map (Value.int k)).toArray);rw[<-xD,<-xE]at pb;rcases bK with rfl|rfl
 ·simp only[bT.a6.injEq]at h;obtain⟨_,rfl,rfl⟩:=h;refine⟨_,rfl, ?_,jS _⟩;rw[Sem.run_bind,pb,Result.andThen_ok,xD,xE];rw[xD,xE]at heq;generalize ((oH.map U.toInt).map (Value.int k)).toArray=A at heq⊢;generalize ((vH.map U.toInt).map (Value.int k)).toArray=B at heq⊢;simp[binOp,heq]
 ·simp only[bT.a6.injEq]at h;obtain⟨_,rfl,rfl⟩:=h;refine⟨_,rfl, ?_,jS _⟩;rw[Sem.run_bind,pb,Result.andThen_ok,xD,xE];rw[xD,xE]at heq;generalize ((oH.map U.toInt).map (Value.int k)).toArray=A at heq⊢;generalize ((vH.map U.toInt).map (Value.int k)).toArray=B at heq⊢;simp[binOp,heq]
end
end Go.aj
end
