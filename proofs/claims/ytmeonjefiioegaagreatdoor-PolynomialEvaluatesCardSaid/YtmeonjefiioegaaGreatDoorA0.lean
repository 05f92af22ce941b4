/- Helpers for the statements: conditions under which code does what is wanted, and proofs that they suffice. Condition: none. -/
import Derived.Calls
import Derived.KernelRfl
import Derived.Laws.Sem
import Derived.Below
import Derived.Laws.AppendOwn
import Derived.Laws.CopyRow
import Derived.Laws.Rows
import Derived.Laws.Tables
import Derived.Laws.Cells
import Derived.Scope
import Derived.Laws.Strings
import Derived.Laws.Small
import Derived.Laws.Cover3
import Derived.Laws.IdiomCopy
import Derived.Laws.MakeOwn
import Derived.Laws.BytesString
import Derived.Deep.AppendSrc
import Derived.WideKeyArr
abbrev apH:=@Array.getD_eq_getD_getElem?
abbrev ar2:=@Array.getElem?_append_left
abbrev arn:=@Array.getElem?_eq_getElem
abbrev arW:=@Array.getElem?_eq_some_iff
abbrev arF:=@Array.getElem?_modify
abbrev arB:=@Array.getElem?_setIfInBounds
abbrev arT:=@Array.getElem?_toList
abbrev aqD:=@Array.length_toList
abbrev arw:=@BitVec.ofInt_natCast
abbrev arN:=@BitVec.toNat_ofNat
abbrev apM:=@Bool.and_eq_true
abbrev aqQ:=@Bool.false_eq_true
abbrev aqM:=@Bool.false_ne_true
abbrev aqB:=@Bool.not_eq_true'
abbrev ar3:=@Bool.or_eq_false_iff
abbrev aq6:=@Bool.or_eq_true
abbrev arK:=@Bool.true_and
abbrev aqn:=@Iff.rfl
abbrev arX:=@Int.emod_eq_of_lt
abbrev apG:=@Int.eq_ofNat_of_zero_le
abbrev aqf:=@Int.fdiv_eq_ediv_of_nonneg
abbrev aq0:=@Int.le_trans
abbrev arR:=@Int.natCast_add
abbrev aru:=@Int.natCast_ediv
abbrev arM:=@Int.natCast_emod
abbrev aqJ:=@Int.natCast_mul
abbrev aqw:=@Int.natCast_nonneg
abbrev aq9:=@Int.ofNat_lt
abbrev ar4:=@Int.tdiv_eq_ediv_of_nonneg
abbrev arL:=@Int.tmod_eq_emod_of_nonneg
abbrev apB:=@Int.toNat_natCast
abbrev arb:=@List.all_cons
abbrev apR:=@List.all_eq_true
abbrev arY:=@List.append_nil
abbrev arl:=@List.cons.injEq
abbrev aqW:=@List.cons_append
abbrev aqU:=@List.drop_eq_getElem_cons
abbrev arP:=@List.drop_eq_nil_of_le
abbrev arp:=@List.eq_nil_of_length_eq_zero
abbrev arU:=@List.ext_getElem
abbrev arG:=@List.filter_append
abbrev aqK:=@List.filter_cons
abbrev apA:=@List.getD_eq_getElem?_getD
abbrev ap7:=@List.getElem?_append
abbrev aqr:=@List.getElem?_append_left
abbrev aqG:=@List.getElem?_append_right
abbrev aq1:=@List.getElem?_drop
abbrev apT:=@List.getElem?_eq_getElem
abbrev aqc:=@List.getElem?_eq_none
abbrev aqp:=@List.getElem?_eq_some_iff
abbrev aqv:=@List.getElem?_map
abbrev aq3:=@List.getElem?_replicate
abbrev aqk:=@List.getElem?_set
abbrev aqq:=@List.getElem?_take
abbrev aqA:=@List.getElem_mem
abbrev ar0:=@List.getElem_of_mem
abbrev ap4:=@List.length_append
abbrev aqj:=@List.length_cons
abbrev aqL:=@List.length_drop
abbrev aqm:=@List.length_eq_zero_iff
abbrev ar1:=@List.length_filter_le
abbrev apI:=@List.length_map
abbrev arq:=@List.length_replicate
abbrev apL:=@List.length_set
abbrev aqX:=@List.length_singleton
abbrev ap_:=@List.length_take
abbrev aqo:=@List.map_append
abbrev arS:=@List.map_congr_left
abbrev ap2:=@List.map_cons
abbrev aq2:=@List.map_map
abbrev art:=@List.map_set
abbrev arE:=@List.map_toArray
abbrev aqV:=@List.mem_append
abbrev ap9:=@List.mem_cons
abbrev aqR:=@List.mem_cons_of_mem
abbrev arC:=@List.mem_cons_self
abbrev aqE:=@List.mem_filter
abbrev apQ:=@List.mem_map
abbrev aq4:=@List.mem_of_getElem?
abbrev are:=@List.mem_or_eq_of_mem_set
abbrev aqy:=@List.mem_singleton
abbrev arV:=@List.nodup_cons
abbrev aqS:=@List.not_mem_nil
abbrev arx:=@List.pairwise_cons
abbrev ark:=@List.take_add_one
abbrev aqZ:=@List.take_length
abbrev aro:=@List.take_of_length_le
abbrev aqs:=@Nat.add_assoc
abbrev apU:=@Nat.add_mul
abbrev apV:=@Nat.add_zero
abbrev aqx:=@Nat.beq_refl
abbrev arc:=@Nat.div_add_mod
abbrev ard:=@Nat.div_eq_of_lt
abbrev arZ:=@Nat.div_le_self
abbrev ars:=@Nat.div_lt_of_lt_mul
abbrev arH:=@Nat.div_lt_self
abbrev apC:=@Nat.eq_of_beq_eq_true
abbrev aq7:=@Nat.eq_zero_or_pos
abbrev apZ:=@Nat.le_of_ble_eq_true
abbrev apF:=@Nat.le_refl
abbrev apS:=@Nat.le_trans
abbrev aq_:=@Nat.lt_of_le_of_lt
abbrev apW:=@Nat.lt_of_lt_of_le
abbrev aqY:=@Nat.lt_of_mul_lt_mul_left
abbrev aq5:=@Nat.lt_or_ge
abbrev arJ:=@Nat.min_eq_left
abbrev aqt:=@Nat.mod_eq_of_lt
abbrev aqh:=@Nat.mod_lt
abbrev apN:=@Nat.mul_add
abbrev arD:=@Nat.mul_add_mod
abbrev aqb:=@Nat.mul_assoc
abbrev aqa:=@Nat.mul_comm
abbrev aqP:=@Nat.mul_le_mul
abbrev apY:=@Nat.mul_le_mul_left
abbrev apP:=@Nat.mul_le_mul_right
abbrev aqC:=@Nat.mul_left_comm
abbrev arO:=@Nat.mul_lt_mul_of_pos_right
abbrev ap8:=@Nat.mul_one
abbrev aq8:=@Nat.mul_succ
abbrev ap0:=@Nat.mul_zero
abbrev aqO:=@Nat.one_mul
abbrev arI:=@Nat.pos_of_ne_zero
abbrev aqi:=@Nat.pow_add
abbrev aqg:=@Nat.pow_le_pow_right
abbrev ap6:=@Nat.pow_succ
abbrev arf:=@Nat.pow_zero
abbrev aqu:=@Nat.two_pow_pos
abbrev ap3:=@Nat.zero_add
abbrev aqT:=@Nat.zero_le
abbrev aqI:=@Nat.zero_mul
abbrev aql:=@Ne.symm
abbrev aqz:=@Option.getD_some
abbrev arQ:=@Option.isSome_iff_exists
abbrev aqF:=@Option.map_some
abbrev apK:=@Option.some.inj
abbrev apX:=@Option.some.injEq
abbrev ap5:=@Prod.mk.injEq
abbrev aqH:=@Rat.add_assoc
abbrev arz:=@Rat.add_zero
abbrev arA:=@Rat.mul_assoc
abbrev ara:=@Rat.mul_one
abbrev ary:=@Rat.mul_zero
abbrev arj:=@Rat.pow_zero
abbrev ari:=@Rat.zero_add
abbrev aqd:=@congrArg
abbrev arv:=@decide_eq_decide
abbrev arh:=@decide_eq_false
abbrev apD:=@decide_eq_false_iff_not
abbrev aqN:=@decide_eq_true
abbrev apE:=@decide_eq_true_eq
abbrev aqe:=@decide_eq_true_iff
abbrev apy:=@if_neg
abbrev apz:=@if_pos
abbrev ap1:=@if_true
abbrev apO:=@of_decide_eq_false
abbrev apJ:=@of_decide_eq_true
section
namespace Go.ak
inductive U:Type where
 |int (k:IntKind) (n:Int)
 |bool (b:Bool)
 |str (l:List Int)
 |af (k:IntKind) (l:List Int)
 |ar (an:Nat) (l:List (List U))
 |undef
 deriving Inhabited
def U.dQ:U->IntKind->Prop
 | .int k _,cD=>k=cD
 |_,_=>False
def U.toInt:U->Int
 | .int _ n=>n
 |_=>0
def U.isBool:U->Prop
 | .bool _=>True
 |_=>False
def U.toBool:U->Bool
 | .bool b=>b
 |_=>false
def U.isStr:U->Prop
 | .str _=>True
 |_=>False
def U.toStr:U->List Int
 | .str l=>l
 |_=>[]
def U.fJ:U->IntKind->Prop
 | .af k _,cD=>k=cD
 |_,_=>False
def U.cP:U->List Int
 | .af _ l=>l
 |_=>[]
def U.DA:U->Nat->Prop
 | .ar an _,ic=>an=ic
 |_,_=>False
def U.w9:U->List (List U)
 | .ar _ l=>l
 |_=>[]
def U.len:U->Nat
 | .af _ l=>l.length
 | .ar _ l=>l.length
 | .str l=>l.length
 |_=>0
def U.cL:U->Nat
 | .ar an _=>an
 |_=>1
def U.cell:U->Nat->Nat->U
 | .af k l,i,_=> .int k (l.getD i 0)
 | .ar _ l,i,j=>(l.getD i []).getD j .undef
 |_,_,_=> .undef
inductive R:Type where
 |d (x:U)
 |bt
 |bf
 |emp
 |vec (id:Nat)
 |ptr (id off:Nat)
 |optr (id:Nat) (i:Int) (j:Nat)
 |rptr (x:U) (i:Int) (j:Nat)
 |oat (id:Nat) (i:Int) (j:Nat)
 |rat (x:U) (i:Int) (j:Nat)
 |mp (id:Nat)
 |tail (id:Nat) (i:Int)
 |xv
 |fn (f:FuncId)
 |cls (f:FuncId) (aoL:List R)
 |agg (l:List R)
 |tup (l:List R)
 |rw(n:Nat) (r:List U)
 |un
 |any
 deriving Inhabited
inductive ae:Type where
 |cells (l:List R)
 |af (k:IntKind) (l:List Int)
 |ar (an:Nat) (l:List (List U))
 |map (tP an:Nat) (l:List (List U))
 |dead (n an:Nat)
 |gone
 deriving Inhabited
abbrev aD:=List (Bool×ae)
def ae.len:ae->Nat
 | .af _ l=>l.length
 | .ar _ l=>l.length
 | .cells l=>l.length
 | .map _ _ _=>0
 | .dead n _=>n
 | .gone=>0
def ae.cL:ae->Nat
 | .ar an _=>an
 | .map _ an _=>an
 | .dead _ an=>an
 |_=>1
def ae.data:ae->U
 | .af k l=> .af k l
 | .ar an l=> .ar an l
 |_=> .undef
inductive cb:Type where
 |int (k:IntKind)
 |bool
 |str
 |cp (k:IntKind)
 |dK (an:Nat)
 |other
 deriving Inhabited
inductive aZ:Type where
 |aG (s:cb)
 |struct (fields:List (Nat×Nat×aZ)) (cells:List cb)
 |arr (n:Nat) (elem:aZ) (cells:List cb)
 |no
 deriving Inhabited
structure b7 where
 ty:aZ
 elem:TypeId:=0
 bytes:Nat:=0
 fv:List cb:=[]
 lit:Bool:=false
 cut:Bool:=false
 mp:Option (Nat×TypeId×TypeId):=none
 deriving Inhabited
def cb.take:cb->U->R
 | .int k,x=> .d (.int k x.toInt)
 | .bool,x=> .d (.bool x.toBool)
 | .str,x=> .d (.str x.toStr)
 | .cp k,x=> .d (.af k x.cP)
 | .dK an,x=> .d (.ar an x.w9)
 | .other,x=> .d x
def cb.ql:cb->U->Prop
 | .int k,x=>x.dQ k
 | .bool,x=>x.isBool
 | .str,x=>x.isStr
 | .cp k,x=>x.fJ k
 | .dK an,x=>x.DA an
 | .other,_=>True
end Go.ak
end
section
namespace Go.ak
def b6 {α:Type}(d:α):List α->Nat->α
 |[],_=>d
 |x::_,0=>x
 |_::r,n+1=>b6 d r n
def cK {α:Type}:List α->Nat->α->List α
 |[],_,_=>[]
 |_::r,0,v=>v::r
 |x::r,n+1,v=>x::cK r n v
def bE {α β:Type}(f:α->β):List α->List β
 |[]=>[]
 |x::r=>f x::bE f r
def ez {α:Type}:List α->List α->List α
 |[],y=>y
 |x::r,y=>x::ez r y
def bS {α:Type}:List α->Nat
 |[]=>0
 |_::r=>Nat.succ (bS r)
def kQ {α:Type}:List α->Nat->List α
 |l,0=>l
 |[],_+1=>[]
 |_::r,n+1=>kQ r n
def kR {α:Type}:List α->Nat->List α
 |_,0=>[]
 |[],_+1=>[]
 |x::r,n+1=>x::kR r n
def u_ {α:Type}(v:α):Nat->List α
 |0=>[]
 |n+1=>v::u_ v n
def ed {α:Type}(f:α->Bool):List α->Bool
 |[]=>true
 |x::r=>match f x with|true=>ed f r|false=>false
def omap {α β:Type}(f:α->β):Option α->Option β
 |none=>none
 |some x=>some (f x)
def pad:Nat->List R->List R
 |0,l=>l
 |n+1,[]=> .un::pad n []
 |n+1,v::r=>v::pad n r
def fw {α:Type}(j:Nat):List (Nat×α)->Option α
 |[]=>none
 |(i,x)::r=>match Nat.beq i j with|true=>some x|false=>fw j r
def pk:Value->R
 | .int k n=> .d (.int k n)
 | .bool true=> .bt
 | .bool false=> .bf
 | .string s=> .d (.str (bE (fun b=>Int.ofNat b.toNat) s.data.toList))
 | .slice none 0 0=> .emp
 | .pointer none=> .xv
 |_=> .any
def tQ:Value->R
 | .agg cs=> .agg (bE pk cs.toList)
 |v=>pk v
def aN (tm:List R):Operand->R
 | .tmp t=>b6 .un tm t
 | .const v=>tQ v
 | .global _=> .any
 | .func f=> .fn f
def put (tm:List R):Option Tmp->R->List R
 |some d,v=>cK tm d v
 |none,_=>tm
def ae.at (I:aD)(id:Nat):ae:=(b6 (true, .gone) I id).2
def cz (I:aD)(id:Nat):Bool:=(b6 (true, .gone) I id).1
def R.hU (I:aD):R->U
 | .d x=>x
 | .bt=> .bool true
 | .bf=> .bool false
 | .vec id=>(ae.at I id).data
 |_=> .undef
def cb.norm (I:aD):cb->R->R
 | .cp k, .emp=> .d (.af k [])
 | .cp _, .vec id=> .d (ae.at I id).data
 | .dK an, .emp=> .d (.ar an [])
 | .dK _, .vec id=> .d (ae.at I id).data
 | .bool, .bt=> .d (.bool true)
 | .bool, .bf=> .d (.bool false)
 |_,v=>v
def iN (I:aD):List cb->List R->List R
 |s::dN,v::aH=>s.norm I v::iN I dN aH
 |_,aH=>aH
def aZ.norm (I:aD):aZ->R->R
 | .aG s,v=>s.norm I v
 | .struct _ cs, .agg aH=> .agg (iN I cs aH)
 | .arr _ _ cs, .agg aH=> .agg (iN I cs aH)
 |_,v=>v
def e_ (I:aD)(id:Nat):aD:=cK I id (true,ae.at I id)
def lA (I:aD):R->aD
 | .vec id=>e_ I id
 |_=>I
def uF (I:aD):List R->aD
 |[]=>I
 |v::aH=>uF (lA I v) aH
def freeze (I:aD):R->aD
 | .vec id=>e_ I id
 | .agg l=>uF I l
 |_=>I
def b_ (I:aD):List R->aD
 |[]=>I
 |v::aH=>b_ (freeze I v) aH
def fE (id:Nat):R->R
 | .vec i=>match Nat.beq i id with|true=> .any|false=> .vec i
 | .optr i x y=>match Nat.beq i id with|true=> .any|false=> .optr i x y
 | .ptr i x=>match Nat.beq i id with|true=> .any|false=> .ptr i x
 | .oat i x y=>match Nat.beq i id with|true=> .any|false=> .oat i x y
 | .mp i=>match Nat.beq i id with|true=> .any|false=> .mp i
 | .tail i x=>match Nat.beq i id with|true=> .any|false=> .tail i x
 |v=>v
def et (id:Nat):R->R
 | .agg l=> .agg (bE (fE id) l)
 | .tup _=> .any
 |v=>fE id v
def ae.kill (id:Nat):ae->ae
 | .cells l=> .cells (bE (fE id) l)
 |o=>o
def gF (id:Nat)(I:aD):aD:=bE (fun p=>(p.1,p.2.kill id)) I
inductive bT:Type where
 |bad
 |a8 (cq:List Prop) (v:R) (I:aD)
 |grow (cq:List Prop) (v:R) (I:aD) (id:Nat)
 |fF (p:Bool->Prop)
 |call (f:FuncId) (args:List R) (tys:List TypeId)
def gI:List Prop->Prop->Prop
 |[],q=>q
 |p::ps,q=>p/\gI ps q
def cN (op:BinOp)(k:IntKind)(a b:Int):Int:=
 let x:=BitVec.ofInt k.bits a
 let y:=BitVec.ofInt k.bits b
 match op with
 | .and=>k.wrap (x&&&y).toNat
 | .or=>k.wrap (x|||y).toNat
 | .xor=>k.wrap (x^^^y).toNat
 |_=>k.wrap (x&&&~~~y).toNat
def isNeg:Int->Bool
 | .ofNat _=>false
 | .negSucc _=>true
def C5 (o:Operand)(b:Int):List Prop:=
 match o with
 | .const (.int _ n)=>match isNeg n with|true=>[False]|false=>[]
 |_=>[0<=b]
def Ep (o:Operand)(b:Int):List Prop:=
 match o with
 | .const (.int _ (.ofNat (_+1)))=>[]
 |_=>[b≠0]
def oc (op:BinOp)(dC:Operand)(k:IntKind)(a b:Int)(I:aD):bT:=
 match op with
 | .add=> .a8 [] (.d (.int k (k.wrap (a+b)))) I
 | .sub=> .a8 [] (.d (.int k (k.wrap (a-b)))) I
 | .mul=> .a8 [] (.d (.int k (k.wrap (a*b)))) I
 | .quo=> .a8 (Ep dC b) (.d (.int k (k.wrap (a.tdiv b)))) I
 | .rem=> .a8 (Ep dC b) (.d (.int k (a.tmod b))) I
 | .and=> .a8 [] (.d (.int k (cN .and k a b))) I
 | .or=> .a8 [] (.d (.int k (cN .or k a b))) I
 | .xor=> .a8 [] (.d (.int k (cN .xor k a b))) I
 | .andNot=> .a8 [] (.d (.int k (cN .andNot k a b))) I
 | .eql=> .a8 [] (.d (.bool (decide (a=b)))) I
 | .neq=> .a8 [] (.d (.bool (!decide (a=b)))) I
 | .lss=> .a8 [] (.d (.bool (decide (a<b)))) I
 | .leq=> .a8 [] (.d (.bool (decide (a<=b)))) I
 | .gtr=> .a8 [] (.d (.bool (decide (b<a)))) I
 | .geq=> .a8 [] (.d (.bool (decide (b<=a)))) I
 |_=> .bad
def jH:IntKind->IntKind->Bool
 | .i8, .i8| .i16, .i16| .i32, .i32| .i64, .i64| .u8, .u8| .u16, .u16| .u32, .u32| .u64, .u64=>true
 |_,_=>false
def wV:List Int->List Int->Bool
 |_,[]=>false
 |[],_::_=>true
 |a::x,b::y=>decide (a<b)||(decide (a=b)&&wV x y)
def Sh (a b:Bool):Bool:=a==b
def hj:aZ->U->Bool
 | .aG (.cp k), .af cD _=>jH k cD
 | .aG (.dK an), .ar ic _=>Nat.beq an ic
 |_,_=>false
def jI:aZ->ae->Bool
 | .aG (.cp k), .af cD _=>jH k cD
 | .aG (.dK an), .ar ic _=>Nat.beq an ic
 |_,_=>false
def iH:aZ->Bool
 | .aG (.cp _)=>true
 | .aG (.dK _)=>true
 |_=>false
def jF (op:BinOp)(t:aZ)(a b:Bool)(I:aD):bT:=
 match op,t with
 | .eql, .aG .bool=> .a8 [] (.d (.bool (Sh a b))) I
 | .neq, .aG .bool=> .a8 [] (.d (.bool (!Sh a b))) I
 |_,_=> .bad
def o2 (op:BinOp)(t:aZ)(dC:Operand)(x y:R)(I:aD):bT:=
 match x,y with
 | .d (.int k a), .d (.int cD b)=>
  match op with
  | .shl=> .a8 (C5 dC b) (.d (.int k (k.wrap (a*2^min b.toNat k.bits)))) I
  | .shr=> .a8 (C5 dC b) (.d (.int k (a.fdiv (2^min b.toNat k.bits)))) I
  |_=>match jH k cD with|true=>oc op dC k a b I|false=> .bad
 | .d (.str a), .d (.str b)=>
  match op with
  | .add=> .a8 [(a.length:Int)+b.length<=9223372036854775807] (.d (.str (a++b))) I
  | .eql=> .a8 [] (.d (.bool (decide (a=b)))) I
  | .neq=> .a8 [] (.d (.bool (!decide (a=b)))) I
  | .lss=> .a8 [] (.d (.bool (wV a b))) I
  |_=> .bad
 | .d (.af _ l), .emp=>
  match op,iH t,dC with
  | .eql,true, .const _=> .fF fun b=>b=true->l=[]
  | .neq,true, .const _=> .fF fun b=>b=false->l=[]
  |_,_,_=> .bad
 | .d (.ar _ l), .emp=>
  match op,iH t,dC with
  | .eql,true, .const _=> .fF fun b=>b=true->l=[]
  | .neq,true, .const _=> .fF fun b=>b=false->l=[]
  |_,_,_=> .bad
 | .d (.bool a), .d (.bool b)=>jF op t a b I
 | .d (.bool a), .bt=>jF op t a true I
 | .d (.bool a), .bf=>jF op t a false I
 | .bt, .d (.bool a)=>jF op t true a I
 | .bf, .d (.bool a)=>jF op t false a I
 | .bt, .bt=>jF op t true true I
 | .bt, .bf=>jF op t true false I
 | .bf, .bt=>jF op t false true I
 | .bf, .bf=>jF op t false false I
 |_,_=> .bad
def xg (op:UnOp)(x:R)(I:aD):bT:=
 match op,x with
 | .neg, .d (.int k n)=> .a8 [] (.d (.int k (k.wrap (0-n)))) I
 | .xor, .d (.int k n)=> .a8 [] (.d (.int k (cN .xor k (if k.signed then-1 else k.max) n))) I
 | .not, .d (.bool b)=> .a8 [] (.d (.bool (!b))) I
 | .not, .bt=> .a8 [] .bf I
 | .not, .bf=> .a8 [] .bt I
 |_,_=> .bad
def wW (c x y:R)(I:aD):bT:=
 match c with
 | .bt=> .a8 [] x I
 | .bf=> .a8 [] y I
 | .d (.bool b)=>
  match x,y with
  | .d (.bool p), .d (.bool q)=> .a8 [] (.d (.bool (if b then p else q))) I
  | .bt, .d (.bool q)=> .a8 [] (.d (.bool (if b then true else q))) I
  | .d (.bool p), .bf=> .a8 [] (.d (.bool (if b then p else false))) I
  | .bt, .bf=> .a8 [] (.d (.bool b)) I
  | .d (.int k p), .d (.int cD q)=>match jH k cD with|true=> .a8 [] (.d (.int k (if b then p else q))) I|false=> .bad
  |_,_=> .bad
 |_=> .bad
def n6 (src dst:aZ)(x:R)(I:aD):bT:=
 match dst,x with
 | .aG (.int k), .d (.int _ n)=>(match src with| .aG (.int _)=> .a8 [] (.d (.int k (k.wrap n))) I|_=> .bad)
 | .aG .str, .d (.str l)=>(match src with| .aG .str=> .a8 [] (.d (.str l)) I|_=> .bad)
 | .aG .str, .d (.af .u8 l)=>(match src with| .aG (.cp .u8)=> .a8 [∀x∈l,0<=x/\x<256] (.d (.str l)) I|_=> .bad)
 | .aG .str, .vec id=>
  match ae.at I id,src with
  | .af .u8 l, .aG (.cp .u8)=> .a8 [∀x∈l,0<=x/\x<256] (.d (.str l)) I
  |_,_=> .bad
 | .aG .str, .emp=>(match src with| .aG (.cp .u8)=> .a8 [] (.d (.str [])) I|_=> .bad)
 |_,_=> .bad
def rC (cs:List cb)(x:U)(i j:Nat):List Prop×List R:=
 match cs with
 |[]=>([],[])
 |s::dN=>(s.ql (x.cell i j)::(rC dN x i (Nat.succ j)).1,s.take (x.cell i j)::(rC dN x i (Nat.succ j)).2)
def aZ.size:aZ->Nat
 | .aG _=>1
 | .struct _ cs| .arr _ _ cs=>bS cs
 | .no=>0
def aZ.Ij:aZ->Bool
 | .arr ..=>true
 |_=>false
def aZ.jh:aZ->Bool
 | .arr ..=>true
 | .struct _ cs=>Nat.blt 8 (bS cs)
 |_=>false
def aZ.cells:aZ->List cb
 | .struct _ cs=>cs
 | .arr _ _ cs=>cs
 |_=>[]
def lB (r:List U)(j n an:Nat):List U:=
 match Nat.beq j 0 with
 |true=>(match Nat.beq n an with|true=>r|false=>r.take n)
 |false=>(r.drop j).take n
def zr (r:List U)(j n an:Nat)(v:List U):List U:=
 match Nat.beq j 0 with
 |true=>(match Nat.beq n an with|true=>v|false=>v++r.drop n)
 |false=>r.take j++(v++r.drop (Nat.add j n))
def loadData (t:aZ)(x:U)(i:Int)(j:Nat)(I:aD):bT:=
 match x with
 | .af k l=>
  (match t,Nat.beq j 0 with
  | .aG (.int cD),true=>match jH k cD with|true=> .a8 [] (.d (.int k (l.getD i.toNat 0))) I|false=> .bad
  |_,_=> .bad)
 | .ar an l=>
  (match Nat.ble (Nat.add j t.size) an with
  |true=>
   (match t with
   | .aG s=> .a8 [s.ql (U.cell (.ar an l) i.toNat j)] (s.take (U.cell (.ar an l) i.toNat j)) I
   | .struct _ cs=>
    (match Nat.blt 8 (bS cs)with
    |true=> .a8 [(l.getD i.toNat []).length=an] (.rw (bS cs) (lB (l.getD i.toNat []) j (bS cs) an)) I
    |false=> .a8 (rC cs (.ar an l) i.toNat j).1 (.agg (rC cs (.ar an l) i.toNat j).2) I)
   | .arr _ _ cs=> .a8 [(l.getD i.toNat []).length=an] (.rw (bS cs) (lB (l.getD i.toNat []) j (bS cs) an)) I
   | .no=> .bad)
  |false=> .bad)
 |_=> .bad
def loadAt (t:aZ)(x:U)(i:Int)(j:Nat)(I:aD):bT:=
 match x,t with
 | .ar _ l, .aG s=> .a8 [s.ql ((l.getD i.toNat []).getD j .undef)] (s.take ((l.getD i.toNat []).getD j .undef)) I
 |_,_=> .bad
def o9:R->R
 | .agg _=> .any
 | .tup _=> .any
 |v=>v
def h2 (t:aZ)(p:R)(I:aD):bT:=
 match p with
 | .ptr id off=>
  match ae.at I id with
  | .cells l=>
   (match t,Nat.ble (Nat.add off t.size) (bS l)with
   | .aG _,true=> .a8 [] (o9 (b6 .un l off)) I
   | .struct _ cs,true=> .a8 [] (.agg (kR (kQ l off) (bS cs))) I
   | .arr _ _ cs,true=> .a8 [] (.agg (kR (kQ l off) (bS cs))) I
   |_,_=> .bad)
  |_=> .bad
 | .optr id i j=>loadData t (ae.at I id).data i j I
 | .rptr x i j=>loadData t x i j I
 | .oat id i j=>loadAt t (ae.at I id).data i j I
 | .rat x i j=>loadAt t x i j I
 |_=> .bad
def setCells (l:List R)(off:Nat):List R->List R
 |[]=>l
 |v::aH=>setCells (cK l off v) (Nat.succ off) aH
def setRow (r:List U)(j:Nat):List U->List U
 |[]=>r
 |v::aH=>setRow (r.set j v) (j+1) aH
def R.cellsOf:R->List R
 | .agg l=>l
 |v=>[v]
def R.n2:R->Bool
 | .any=>false
 | .un=>false
 | .rw _ _=>false
 | .oat ..=>false
 | .rat ..=>false
 | .mp _=>false
 | .tail ..=>false
 | .tup _=>false
 | .agg _=>false
 |_=>true
def R.fits:aZ->R->Bool
 | .aG _,v=>v.n2
 | .struct _ cs, .agg l=>match Nat.beq (bS l) (bS cs)with|true=>ed R.n2 l|false=>false
 | .arr _ _ cs, .agg l=>match Nat.beq (bS l) (bS cs)with|true=>ed R.n2 l|false=>false
 |_,_=>false
def R.hl:R->Bool
 | .d _=>true
 | .bt=>true
 | .bf=>true
 | .emp=>true
 |_=>false
def m5:List cb->List U->Nat->List Prop×List R
 |[],_,_=>([],[])
 |s::dN,r,j=>(s.ql (r.getD j .undef)::(m5 dN r (Nat.succ j)).1,s.take (r.getD j .undef)::(m5 dN r (Nat.succ j)).2)
def mg (I:aD)(cs:List cb)(v:R):List U:=bE (R.hU I) (iN I cs v.cellsOf)
def o3 (I:aD)(t:aZ)(v:R):Option (List U):=
 match v with
 | .rw n r=>(match Nat.beq n t.size with|true=>some r|false=>none)
 | .agg l=>(match t.jh,Nat.beq (bS l) (bS t.cells),ed R.hl l with|true,true,true=>some (mg I t.cells (.agg l))|_,_,_=>none)
 |_=>none
def Ri (r:List U)(j n an:Nat):List Prop:=match Nat.beq j 0,Nat.beq n an with|true,true=>[]|_,_=>[r.length=an]
def re (t:aZ)(p:R)(r:List U)(I:aD):bT:=
 match t.jh,p with
 |true, .optr id i j=>
  (match cz I id,ae.at I id with
  |false, .ar an l=>
   (match Nat.ble (Nat.add j t.size) an with
   |true=> .a8 (Ri (l.getD i.toNat []) j t.size an) .un (cK I id (false, .ar an (l.set i.toNat (zr (l.getD i.toNat []) j t.size an r))))
   |false=> .bad)
  |_,_=> .bad)
 |_,_=> .bad
def q9 (t:aZ)(id:Nat)(i:Int)(j:Nat)(v:R)(I:aD):bT:=
 match t with
 | .aG s=>
  (match cz I id,ae.at I id,v.hl with
  |false, .ar an l,true=> .a8 [] .un (cK I id (false, .ar an (l.set i.toNat ((l.getD i.toNat []).set j (R.hU I (s.norm I v))))))
  |_,_,_=> .bad)
 |_=> .bad
def ux (t:aZ)(p v:R)(I:aD):bT:=
 match p with
 | .ptr id off=>
  match cz I id,ae.at I id,v.fits t with
  |false, .cells l,true=>match Nat.ble (Nat.add off t.size) (bS l)with|true=> .a8 [] .un (cK I id (false, .cells (setCells l off v.cellsOf)))|false=> .bad
  |_,_,_=> .bad
 | .optr id i j=>
  match cz I id,ae.at I id,v.fits t with
  |false, .af k l,true=>
   (match v with
   | .d (.int cD n)=>match jH k cD,Nat.beq j 0 with|true,true=> .a8 [] .un (cK I id (false, .af k (l.set i.toNat n)))|_,_=> .bad
   |_=> .bad)
  |false, .ar an l,true=>
   match Nat.ble (Nat.add j t.size) an,ed R.hl v.cellsOf with
   |true,true=> .a8 [] .un (cK I id (false, .ar an (l.set i.toNat (setRow (l.getD i.toNat []) j (bE (R.hU I) (t.norm I v).cellsOf)))))
   |_,_=> .bad
  |_,_,_=> .bad
 |_=> .bad
def p2 (t:aZ)(p v:R)(I:aD):bT:=
 match o3 I t v with
 |some r=>re t p r I
 |none=>(match p with| .oat id i j=>q9 t id i j v I|_=>ux t p v I)
def cb.zero:cb->R
 | .int k=> .d (.int k 0)
 | .bool=> .d (.bool false)
 | .str=> .d (.str [])
 | .cp _=> .emp
 | .dK _=> .emp
 | .other=> .any
def cb.f_:cb->U
 | .int k=> .int k 0
 | .bool=> .bool false
 | .str=> .str []
 | .cp k=> .af k []
 | .dK an=> .ar an []
 | .other=> .undef
def aZ.zero:aZ->List R
 | .aG s=>[s.zero]
 | .struct _ cs| .arr _ _ cs=>bE cb.zero cs
 | .no=>[]
def wD (bP:List (Nat×R))(place:Nat->Nat)(cells:List R):List R:=
 match bP with
 |[]=>cells
 |(i,v)::r=>wD r place (setCells cells (place i) v.cellsOf)
def fB (t:aZ)(f:Nat):Nat:=
 match t with
 | .struct bW _=>(b6 (0,0, .no) bW f).1
 | .arr _ e _=>Nat.mul f e.size
 |_=>0
def kK (t:aZ)(f:Nat):aZ:=
 match t with
 | .struct bW _=>(b6 (0,0, .no) bW f).2.2
 |_=> .no
def placeOf (j:Nat)(n:Int):Nat:=match Nat.beq j 0 with|true=>n.toNat|false=>j+n.toNat
def o_ (t:aZ)(x:R)(n:Int)(I:aD):bT:=
 match t with
 | .arr m (.aG _) _=>
  (match x with
  | .optr id a j=>
   (match ae.at I id with
   | .ar an _=>(match Nat.ble (Nat.add j m) an with|true=> .a8 [0<=n,n<(m:Int)] (.oat id a (placeOf j n)) I|false=> .bad)
   |_=> .bad)
  | .rptr (.ar an l) a j=>(match Nat.ble (Nat.add j m) an with|true=> .a8 [0<=n,n<(m:Int)] (.rat (.ar an l) a (placeOf j n)) I|false=> .bad)
  |_=> .bad)
 |_=> .bad
def q4 (t:aZ)(x i:R)(I:aD):bT:=
 match i with
 | .d (.int _ n)=>
  match x with
  | .d a=>match hj t a with|true=> .a8 [0<=n,n<(a.len:Int)] (.rptr a n 0) I|false=> .bad
  | .vec id=>match jI t (ae.at I id)with|true=> .a8 [0<=n,n<((ae.at I id).len:Int)] (.optr id n 0) I|false=> .bad
  | .emp=> .a8 [False] .any I
  |x=>o_ t x n I
 |_=> .bad
def yX (t:aZ)(x i:R)(I:aD):bT:=
 match i with
 | .d (.int _ n)=>
  match t,x with
  | .aG .str, .d (.str l)=> .a8 [0<=n,n<(l.length:Int)] (.d (.int .u8 (l.getD n.toNat 0))) I
  | .arr m (.aG s) _, .rw z r=>(match Nat.beq z m with|true=> .a8 [0<=n,n<(m:Int),s.ql (r.getD n.toNat .undef)] (s.take (r.getD n.toNat .undef)) I|false=> .bad)
  |_,_=> .bad
 |_=> .bad
def uY (t:aZ)(x:R)(I:aD):Option Nat:=
 match x with
 | .d (.str l)=>(match t with| .aG .str=>some l.length|_=>none)
 | .d (.af _ l)=>match iH t with|true=>some l.length|false=>none
 | .d (.ar _ l)=>match iH t with|true=>some l.length|false=>none
 | .vec id=>match iH t with|true=>some (ae.at I id).len|false=>none
 | .emp=>match iH t with|true=>some 0|false=>none
 |_=>none
def madeOf (t:b7)(n:Nat):ae:=
 match t.ty with
 | .aG (.cp k)=> .af k (List.replicate n 0)
 | .aG (.dK an)=> .ar an (List.replicate n (bE cb.f_ t.fv))
 |_=> .gone
def wX (t:b7)(len cap:R)(I:aD):bT:=
 match len,cap with
 | .d (.int .i64 n), .d (.int .i64 c)=>
  match Nat.blt 0 t.bytes,iH t.ty with
  |true,true=> .a8 [0<=n,n<=c,c*t.bytes<=281474976710656] (.vec (bS I)) (ez I [(false,madeOf t n.toNat)])
  |_,_=> .bad
 |_,_=> .bad
def l_:Option R->Option (Option Int)
 |none=>some none
 |some (.d (.int _ n))=>some (some n)
 |_=>none
def kh {α:Type}(l:List α)(lo hi:Option Int):List α:=
 match lo,hi with
 |none,none=>l
 |some a,none=>l.drop a.toNat
 |none,some b=>l.take b.toNat
 |some a,some b=>(l.take b.toNat).drop a.toNat
def mh (n:Nat)(lo hi:Option Int):List Prop:=
 match lo,hi with
 |none,none=>[]
 |some a,none=>[0<=a,a<=(n:Int)]
 |none,some b=>[0<=b,b<=(n:Int)]
 |some a,some b=>[0<=a,a<=b,b<=(n:Int)]
def kI (t:aZ)(x:R)(lo hi dp:Option R)(I:aD):bT:=
 match dp with
 |none=>
  match l_ lo,l_ hi with
  |some a,some b=>
   (match x with
   | .d (.af k l)=>match hj t (.af k l)with|true=> .a8 (mh l.length a b) (.d (.af k (kh l a b))) I|false=> .bad
   | .d (.ar an l)=>match hj t (.ar an l)with|true=> .a8 (mh l.length a b) (.d (.ar an (kh l a b))) I|false=> .bad
   | .d (.str l)=>(match t with| .aG .str=> .a8 (mh l.length a b) (.d (.str (kh l a b))) I|_=> .bad)
   | .vec id=>
    (match ae.at I id with
    | .af k l=>match hj t (.af k l)with|true=> .a8 (mh l.length a b) (.d (.af k (kh l a b))) (e_ I id)|false=> .bad
    | .ar an l=>match hj t (.ar an l)with|true=> .a8 (mh l.length a b) (.d (.ar an (kh l a b))) (e_ I id)|false=> .bad
    |_=> .bad)
   | .emp=>match iH t with|true=> .a8 (mh 0 a b) .emp I|false=> .bad
   |_=> .bad)
  |_,_=> .bad
 |some (.d (.int _ (.ofNat 0)))=>
  match l_ lo,l_ hi,x with
  |some none,some (some (.ofNat 0)), .d a=>match hj t a with|true=> .a8 [] .emp I|false=> .bad
  |some (some (.ofNat 0)),some (some (.ofNat 0)), .d a=>match hj t a with|true=> .a8 [] .emp I|false=> .bad
  |_,_,_=> .bad
 |_=> .bad
def p3 (t:aZ)(x:R)(lo hi dp:Option R)(I:aD):bT:=
 match t,x,dp with
 | .arr m (.aG (.int k)) _, .optr id i j,none=>
  (match ae.at I id,l_ lo,l_ hi with
  | .ar an l,some a,some b=>
   (match Nat.ble (Nat.add j m) an with
   |true=> .a8 (((l.getD i.toNat []).length=an)::(∀x∈lB (l.getD i.toNat []) j m an,x.dQ k)::mh m a b) (.d (.af k (kh ((lB (l.getD i.toNat []) j m an).map U.toInt) a b))) (e_ I id)
   |false=> .bad)
  |_,_,_=> .bad)
 |_,_,_=> .bad
def sz (t:aZ)(x:R)(lo hi dp:Option R)(I:aD):bT:=match t.Ij with|true=>p3 t x lo hi dp I|false=>kI t x lo hi dp I
def CB (t:b7)(x:R)(lo hi dp:Option R)(I:aD):bT:=
 match x,dp with
 | .vec id,none=>
  (match cz I id,ae.at I id,jI t.ty (ae.at I id),l_ lo,l_ hi with
  |false, .ar an l,true,some none,some (some b)=> .a8 [0<=b,b<=(l.length:Int)] (.vec (bS I)) (ez (cK I id (true, .dead l.length an)) [(false, .ar an (l.take b.toNat))])
  |false, .ar _ l,true,some (some a),some none=> .a8 [0<=a,a<(l.length:Int)] (.tail id a) I
  |_,_,_,_,_=> .bad)
 |_,_=> .bad
def uG (t:b7)(x:R)(lo hi dp:Option R)(I:aD):bT:=match t.cut with|true=>CB t x lo hi dp I|false=>sz t.ty x lo hi dp I
def wO (t:b7)(x:R)(I:aD):bT:=
 match x with
 | .tail id a=>
  (match cz I id,ae.at I id,jI t.ty (ae.at I id)with
  |false, .ar an l,true=> .a8 [] .any (cK I id (false, .ar an (l.take a.toNat++List.replicate (l.length-a.toNat) (bE cb.f_ t.fv))))
  |_,_,_=> .bad)
 |_=> .bad
def sv (t:b7)(x y:R)(I:aD):bT:=
 match x,y with
 | .emp, .emp=>match iH t.ty with|true=> .a8 [] .emp I|false=> .bad
 | .emp, .d a=>
  match hj t.ty a with
  |true=>(match a with
   | .af k l=> .a8 [(l.length:Int)*t.bytes<=70368744177664] (.vec (bS I)) (ez I [(false, .af k l)])
   | .ar an l=> .a8 [(l.length:Int)*t.bytes<=70368744177664] (.vec (bS I)) (ez I [(false, .ar an l)])
   |_=> .bad)
  |false=> .bad
 | .vec id, .emp=>match jI t.ty (ae.at I id)with|true=> .a8 [] (.vec id) I|false=> .bad
 | .vec id, .d a=>
  match hj t.ty a,cz I id with
  |true,false=>(match a,ae.at I id with
   | .af k l, .af cD m=>(match jH k cD with
    |true=> .grow [((m.length:Int)+l.length)*t.bytes<=70368744177664] (.vec id) (cK I id (false, .af k (m++l))) id
    |false=> .bad)
   | .ar an l, .ar ic m=>(match Nat.beq an ic with
    |true=> .grow [((m.length:Int)+l.length)*t.bytes<=70368744177664] (.vec id) (cK I id (false, .ar an (m++l))) id
    |false=> .bad)
   |_,_=> .bad)
  |_,_=> .bad
 |_,_=> .bad
def s4 (I:aD):R->R
 | .vec id=>(match ae.at I id with| .af k l=> .d (.af k l)| .ar an l=> .d (.ar an l)|_=> .any)
 |v=>v
def sH (f:Int->Int->Int):Int->List R->Option Int
 |a,[]=>some a
 |a, .d (.int _ b)::r=>sH f (f a b) r
 |_,_=>none
def sI (t:aZ)(f:Nat):Bool:=
 match t with
 | .struct bW _=>Nat.blt f (bS bW)
 |_=>false
def kG (tb:TypeId->b7)(b:Builtin)(tys:List TypeId)(args:List R)(I:aD):bT:=
 match b,args with
 | .len,[x]=>
  match tys with
  |[]=> .bad
  |t::_=>
   match uY (tb t).ty x I with
   |some n=> .a8 [] (.d (.int .i64 n)) I
   |none=> .bad
 | .append,[x,y]=>match iH (tb (b6 0 tys 1)).ty,Nat.blt 0 (tb (b6 0 tys 0)).bytes,bS tys with|true,true,n=>(match Nat.beq n 2 with|true=>sv (tb (b6 0 tys 0)) x (s4 I y) (lA I y)|false=> .bad)|_,_,_=> .bad
 | .max, .d (.int k a)::r=>
  match sH (fun x y=>if y>x then y else x) a r with
  |some m=> .a8 [] (.d (.int k m)) I
  |none=> .bad
 | .min, .d (.int k a)::r=>
  match sH (fun x y=>if y<x then y else x) a r with
  |some m=> .a8 [] (.d (.int k m)) I
  |none=> .bad
 | .clear,[x]=>(match tys with|[t]=>wO (tb t) x I|_=> .bad)
 |_,_=> .bad
def aZ.adT:aZ->Bool
 | .struct ..=>true
 | .arr ..=>true
 |_=>false
def wY (t:aZ):List (Nat×R)->Bool
 |[]=>true
 |(i,v)::r=>
  match t with
  | .struct bW cs=>(match Nat.blt i (bS bW),Nat.ble (Nat.add (fB t i) (kK t i).size) (bS cs),v.fits (kK t i)with|true,true,true=>wY t r|_,_,_=>false)
  | .arr n e cs=>(match Nat.blt i n,Nat.ble (Nat.add (fB t i) e.size) (bS cs),v.fits e with|true,true,true=>wY t r|_,_,_=>false)
  |_=>false
def o1 (k:IntKind):Nat->List (Nat×R)->Option (List Int):=fun n bP=>go 0 n bP
  where
 go:Nat->Nat->List (Nat×R)->Option (List Int)
 |_,0,[]=>some []
 |i,n+1,(j, .d (.int cD x))::r=>
  match Nat.beq i j,jH k cD with
  |true,true=>(match go (Nat.succ i) n r with|some l=>some (x::l)|none=>none)
  |_,_=>none
 |_,_,_=>none
def hH (I:aD)(an:Nat)(cs:List cb):Nat->List (Nat×R)->Option (List (List U)):=fun n bP=>go 0 n bP
  where
 go:Nat->Nat->List (Nat×R)->Option (List (List U))
 |_,0,[]=>some []
 |i,n+1,(j, .rw m x)::r=>
  match Nat.beq i j,Nat.beq m an with
  |true,true=>(match go (Nat.succ i) n r with|some l=>some (x::l)|none=>none)
  |_,_=>none
 |i,n+1,(j,v)::r=>
  match Nat.beq i j,Nat.beq (bS v.cellsOf) an,ed R.hl v.cellsOf with
  |true,true,true=>(match go (Nat.succ i) n r with|some l=>some (mg I cs v::l)|none=>none)
  |_,_,_=>none
 |_,_,_=>none
def sQ (b:Bool)(ob:ae)(I:aD):bT:=
 match b with
 |true=> .a8 [] (.d ob.data) I
 |false=> .a8 [] (.vec (bS I)) (ez I [(false,ob)])
def xh:R->Value
 | .d (.int k n)=> .int k n
 | .d (.bool b)=> .bool b
 | .bt=> .bool true
 | .bf=> .bool false
 |_=>undef
def va:R->Value
 | .agg l=> .agg (bE xh l).toArray
 |v=>xh v
def xw:R->Bool
 | .d (.int _ _)=>true
 | .d (.bool _)=>true
 | .bt=>true
 | .bf=>true
 |_=>false
def xJ:R->Bool
 | .agg l=>ed xw l
 |v=>xw v
def zh (fn:Fn)(first cap:List R)(I:aD):bT:=
 match fn,cap with
 | .func f,[]=>
  (match first with
  |[]=> .a8 [] (.fn f) I
  |l=>match ed xJ l with|true=> .a8 [] (.cls f l) I|false=> .bad)
 |_,_=> .bad
def sJ (v:R)(args:List R)(tys:List TypeId):bT:=
 match v with
 | .fn f=> .call f args tys
 | .cls f l=> .call f (ez l args) tys
 |_=> .bad
def uy (t:aZ)(I:aD):bT:=
 match t.jh with
 |true=>(match Nat.blt 0 t.size with|true=> .a8 [] (.optr (bS I) 0 0) (ez I [(false, .ar t.size [bE cb.f_ t.cells])])|false=> .bad)
 |false=>(match t with| .no=> .bad|ty=> .a8 [] (.ptr (bS I) 0) (ez I [(false, .cells ty.zero)]))
def zs (t:aZ)(v:R)(I:aD):bT:=
 match t.jh with
 |true=>(match o3 I t v,Nat.blt 0 t.size with|some r,true=> .a8 [] (.optr (bS I) 0 0) (ez I [(false, .ar t.size [r])])|_,_=> .bad)
 |false=>(match ed R.n2 v.cellsOf with|true=> .a8 [] (.ptr (bS I) 0) (ez I [(false, .cells v.cellsOf)])|false=> .bad)
def n7 (I:aD)(t:aZ)(v:R):Option (List U):=
 match t with
 | .aG s=>(match v.hl with|true=>some [R.hU I (s.norm I v)]|false=>none)
 |t=>
  (match v with
  | .rw n r=>(match Nat.beq n t.size with|true=>some r|false=>none)
  | .agg l=>(match Nat.beq (bS l) t.size,ed R.hl l with|true,true=>some (mg I t.cells (.agg l))|_,_=>none)
  |_=>none)
def rf (I:aD)(cs:List cb)(bP:List (Nat×R)):Nat->List (Nat×Nat×aZ)->Option (List U)
 |_,[]=>some []
 |k,f::r=>
  match(match fw k bP with|some v=>n7 I f.2.2 v|none=>some (bE cb.f_ (kR (kQ cs f.1) f.2.2.size))),rf I cs bP (Nat.succ k) r with
  |some x,some y=>some (match r with|[]=>x|_=>x++y)
  |_,_=>none
def sR:List (Nat×Nat×aZ)->Nat->Nat->Bool
 |[],o,n=>Nat.beq o n
 |f::r,o,n=>match Nat.beq f.1 o,f.2.2 with|true, .no=>false|true,t=>sR r (Nat.add o t.size) n|false,_=>false
def C6 (n:Nat):List (Nat×R)->Bool
 |[]=>true
 |p::r=>match Nat.blt p.1 n,fw p.1 r with|true,none=>C6 n r|_,_=>false
def p4 (t:aZ)(bP:List (Nat×R))(I:aD):bT:=
 match t.jh with
 |true=>
  (match t with
  | .struct bW cs=>
   (match sR bW 0 (bS cs),C6 (bS bW) bP,rf I cs bP 0 bW with
   |true,true,some r=> .a8 [] (.rw (bS cs) r) I
   |_,_,_=> .bad)
  | .arr _ _ cs=>(match bP with|[]=> .a8 [] (.rw (bS cs) (bE cb.f_ cs)) I|_=> .bad)
  |_=> .bad)
 |false=>(match wY t bP,t.adT with|true,true=> .a8 [] (.agg (wD bP (fB t) t.zero)) I|_,_=> .bad)
def p5 (t:aZ)(f:Nat)(v:R)(I:aD):bT:=
 match sI t f with
 |false=> .bad
 |true=>
  match v with
  | .agg l=>
   (match Nat.ble (Nat.add (fB t f) (kK t f).size) (bS l)with
   |true=> .a8 [] (match kK t f with| .aG _=>b6 .un l (fB t f)|t'=> .agg (kR (kQ l (fB t f)) t'.size)) I
   |false=> .bad)
  | .rw n r=>
   (match Nat.ble (Nat.add (fB t f) (kK t f).size) n,Nat.beq n t.size with
   |true,true=>
    (match kK t f with
    | .aG s=> .a8 [s.ql (r.getD (fB t f) .undef)] (s.take (r.getD (fB t f) .undef)) I
    |t'=>
     (match t'.jh with
     |true=> .a8 [] (.rw t'.size (lB r (fB t f) t'.size n)) I
     |false=> .a8 (m5 t'.cells r (fB t f)).1 (.agg (m5 t'.cells r (fB t f)).2) I))
   |_,_=> .bad)
  |_=> .bad
def qm (op:BinOp)(t:aZ)(x y:R)(I:aD):bT:=
 match t with
 | .arr _ (.aG (.int k)) _=>
  (match o3 I t x,o3 I t y with
  |some a,some b=>
   (match op with
   | .eql=> .a8 [∀x∈a,x.dQ k,∀x∈b,x.dQ k] (.d (.bool (decide (a.map U.toInt=b.map U.toInt)))) I
   | .neq=> .a8 [∀x∈a,x.dQ k,∀x∈b,x.dQ k] (.d (.bool (!decide (a.map U.toInt=b.map U.toInt)))) I
   |_=> .bad)
  |_,_=> .bad)
 |_=> .bad
def zt (op:BinOp)(t:aZ)(dC:Operand)(x y:R)(I:aD):bT:=match t.Ij with|true=>qm op t x y I|false=>o2 op t dC x y I
def js (n:Nat)(r:List U):List Int:=(r.take n).map U.toInt
def mV (n:Nat):List (List U)->List Int->Bool
 |[],_=>false
 |r::l,k=>if js n r=k then true else mV n l k
def dv (n:Nat)(z:List U):List (List U)->List Int->List U
 |[],_=>z
 |r::l,k=>if js n r=k then r.drop n else dv n z l k
def ma (n:Nat)(key v:List U):List (List U)->List (List U)
 |[]=>[key++v]
 |r::l=>if js n r=key.map U.toInt then(key++v)::l else r::ma n key v l
def ke (key:List U):Prop:=∀x∈key,x.dQ .i64/\-9223372036854775808<=x.toInt/\x.toInt<=9223372036854775807
def qa:aZ->List U
 | .aG s=>[s.f_]
 |t=>bE cb.f_ t.cells
def DB (t:aZ)(r:List U):Option (List Prop×R):=
 match t with
 | .aG s=>some ([s.ql (r.getD 0 .undef)],s.take (r.getD 0 .undef))
 | .struct _ cs=>(match t.jh with|false=>some ((m5 cs r 0).1, .agg (m5 cs r 0).2)|true=>none)
 |_=>none
def yE (tb:TypeId->b7)(t:b7)(I:aD):bT:=
 match t.mp with
 |some (n,_,e)=> .a8 [] (.mp (bS I)) (ez I [(false, .map n (Nat.add n (tb e).ty.size) [])])
 |none=> .bad
def oV (tb:TypeId->b7)(t:b7)(m k:R)(c:Bool)(I:aD):bT:=
 match t.mp,m with
 |some (n,hO,e), .mp id=>
  (match ae.at I id,o3 I (tb hO).ty k with
  | .map n' an l,some key=>
   (match Nat.beq n' n,Nat.beq an (Nat.add n (tb e).ty.size),Nat.beq (tb hO).ty.size n,DB (tb e).ty (dv n (qa (tb e).ty) l (key.map U.toInt))with
   |true,true,true,some v=> .a8 (ke key::v.1) (match c with|true=> .tup [v.2, .d (.bool (mV n l (key.map U.toInt)))]|false=>v.2) I
   |_,_,_,_=> .bad)
  |_,_=> .bad)
 |_,_=> .bad
def sq (tb:TypeId->b7)(t:b7)(m k v:R)(I:aD):bT:=
 match t.mp,m with
 |some (n,hO,e), .mp id=>
  (match cz I id,ae.at I id,o3 I (tb hO).ty k,n7 I (tb e).ty v with
  |false, .map n' an l,some key,some r=>
   (match Nat.beq n' n,Nat.beq an (Nat.add n (tb e).ty.size),Nat.beq (tb hO).ty.size n with
   |true,true,true=> .a8 [ke key] .un (cK I id (false, .map n an (ma n key r l)))
   |_,_,_=> .bad)
  |_,_,_,_=> .bad)
 |_,_=> .bad
def aZ.isAgg:aZ->Bool
 | .aG _=>false
 |_=>true
def e6 (tb:TypeId->b7)(o:Oper)(tm:List R)(I:aD):bT:=
 match o.op with
 | .move x| .assign x=> .a8 [] (aN tm x) I
 | .pick c a b=>wW (aN tm c) (aN tm a) (aN tm b) I
 | .alloc t=>uy (tb t).ty I
 | .box t x=>zs (tb t).ty (aN tm x) I
 | .build t bP=>p4 (tb t).ty (bE (fun p=>(p.1,aN tm p.2)) bP.toList) I
 | .buildSlice t n bP=>
  match(tb t).ty with
  | .aG (.cp k)=>
   (match o1 k n (bE (fun p=>(p.1,aN tm p.2)) bP.toList),Nat.ble n 65536 with
   |some l,true=>sQ (tb t).lit (.af k l) I
   |_,_=> .bad)
  | .aG (.dK an)=>
   (match hH I an (tb t).fv n (bE (fun p=>(p.1,aN tm p.2)) bP.toList),Nat.ble (Nat.mul n an) 65536 with
   |some l,true=>sQ (tb t).lit (.ar an l) I
   |_,_=> .bad)
  |_=> .bad
 | .load t p=>h2 (tb t).ty (aN tm p) I
 | .store t p v=>p2 (tb t).ty (aN tm p) (aN tm v) I
 | .nilCheck x=>
  match aN tm x with
  | .ptr i j=> .a8 [] (.ptr i j) I
  | .optr i a b=> .a8 [] (.optr i a b) I
  | .rptr a i b=> .a8 [] (.rptr a i b) I
  |_=> .bad
 | .binOp op t x y _=>zt op (tb t).ty y (aN tm x) (aN tm y) I
 | .unOp op _ x=>xg op (aN tm x) I
 | .convert src dst x=>n6 (tb src).ty (tb dst).ty (aN tm x) I
 | .extract x i=>
  match aN tm x with
  | .tup l=>match Nat.blt i (bS l)with|true=> .a8 [] (b6 .any l i) I|false=> .bad
  |_=> .bad
 | .fieldAddr s x f=>
  match sI (tb s).ty f with
  |false=> .bad
  |true=>
  match aN tm x with
  | .ptr id off=> .a8 [] (.ptr id (Nat.add off (fB (tb s).ty f))) I
  | .optr id i j=> .a8 [] (.optr id i (Nat.add j (fB (tb s).ty f))) I
  | .rptr a i j=> .a8 [] (.rptr a i (Nat.add j (fB (tb s).ty f))) I
  |_=> .bad
 | .field s x f=>p5 (tb s).ty f (aN tm x) I
 | .indexAddr t x i=>q4 (tb t).ty (aN tm x) (aN tm i) I
 | .index t x i=>yX (tb t).ty (aN tm x) (aN tm i) I
 | .makeSlice t n c=>wX (tb t) (aN tm n) (aN tm c) I
 | .slice t x lo hi dp=>uG (tb t) (aN tm x) (omap (aN tm) lo) (omap (aN tm) hi) (omap (aN tm) dp) I
 | .call c=>
  match c.callee with
  | .builtin b=>kG tb b c.argTypes.toList (bE (aN tm) c.args.toList) I
  | .value (.func f)=> .call f (bE (aN tm) c.args.toList) c.argTypes.toList
  | .value (.tmp t)=>sJ (b6 .un tm t) (bE (aN tm) c.args.toList) c.argTypes.toList
  |_=> .bad
 | .makeFunc fn first cap=>zh fn (bE (aN tm) first.toList) (bE (aN tm) cap.toList) I
 | .makeMap t none=>yE tb (tb t) I
 | .lookup t m k c=>oV tb (tb t) (aN tm m) (aN tm k) c I
 | .mapUpdate t m k v=>sq tb (tb t) (aN tm m) (aN tm k) (aN tm v) I
 | .panic _=> .a8 [False] .any I
 |_=> .bad
abbrev gu:=List R->aD->(R->aD->Prop)->Prop
structure e9 where
 tm:List R
 I:aD
def l7:List Oper->Nat->Option Tmp
 |[],_=>none
 |o::_,0=>o.dst
 |_::r,n+1=>l7 r n
def s5 (i:b7)(n:Nat)(ps:List (Nat×R))(I:aD):Option ae:=
 match i.ty with
 | .aG (.cp k)=>(match o1 k n ps,Nat.ble n 65536 with|some l,true=>some (.af k l)|_,_=>none)
 | .aG (.dK an)=>(match hH I an i.fv n ps,Nat.ble (Nat.mul n an) 65536 with|some l,true=>some (.ar an l)|_,_=>none)
 |_=>none
def qd (tb:TypeId->b7)(o:Op):Bool:=
 match o with
 | .alloc _=>true
 | .buildSlice t _ _=> !(tb t).lit
 |_=>false
def cQ (tb:TypeId->b7)(aL:List (Tmp×Nat))(o:Oper)(tm:List R)(I:aD):bT:=
 match o.op,o.dst with
 | .alloc t,some d=>
  (match fw d aL with
  |some id=>(match(tb t).ty.jh,(tb t).ty,cz I id with|false, .no,_=> .bad|false,_,true=> .bad|false,ty,false=> .a8 [] (.ptr id 0) (cK I id (false, .cells ty.zero))|true,_,true=> .bad|true,ty,false=>(match Nat.blt 0 ty.size with|true=> .a8 [] (.optr id 0 0) (cK I id (false, .ar ty.size [bE cb.f_ ty.cells]))|false=> .bad))
  |none=>e6 tb o tm I)
 | .buildSlice t n bP,some d=>
  (match(tb t).lit,fw d aL with
  |false,some id=>(match s5 (tb t) n (bE (fun p=>(p.1,aN tm p.2)) bP.toList) I,cz I id with|some ob,false=> .a8 [] (.vec id) (cK I id (false,ob))|_,_=> .bad)
  |_,_=>e6 tb o tm I)
 |_,_=>e6 tb o tm I
def dw (tb:TypeId->b7)(bz:FuncId->gu)(aL:List (Tmp×Nat))(all:List Oper):List Oper->List R->aD->(List R->aD->Prop)->Prop
 |[],tm,I,K=>K tm I
 |o::br,tm,I,K=>
  let run (tm:List R):Prop:=
   match cQ tb aL o tm I with
   | .bad=>False
   | .a8 cq v al=>gI cq (dw tb bz aL all br (put tm o.dst v) al K)
   | .grow cq v al id=>gI cq (dw tb bz aL all br (put (bE (et id) tm) o.dst v) (gF id al) K)
   | .fF p=>∀b:Bool,p b->dw tb bz aL all br (put tm o.dst (.d (.bool b))) I K
   | .call f args _=>bz f args I fun v al=>dw tb bz aL all br (put tm o.dst v) al K
  let skip (tm:List R):Prop:=dw tb bz aL all br (put tm o.dst .un) I K
  match o.guard with
  |none=>run tm
  |some (j,want)=>
   match l7 all j with
   |none=>skip tm
   |some g=>
    match b6 .un tm g with
    | .bt=>match want with|true=>run tm|false=>skip tm
    | .bf=>match want with|true=>skip tm|false=>run tm
    | .un=>skip tm
    | .d (.bool b)=>
     (b=true->match want with|true=>run (cK tm g .bt)|false=>skip (cK tm g .bt))/\
     (b=false->match want with|true=>skip (cK tm g .bf)|false=>run (cK tm g .bf))
    |_=>False
def fx (tb:TypeId->b7)(o:Op):Nat:=
 match o with
 | .move _| .assign _| .pick ..| .binOp ..| .unOp ..| .extract ..| .fieldAddr ..| .field ..| .nilCheck _| .index ..| .build ..| .makeFunc ..=>0
 | .load ..| .indexAddr ..| .lookup ..=>1
 | .convert s _ _=>(match(tb s).ty with| .aG (.int _)=>0|_=>1)
 | .store ..| .makeSlice ..| .alloc _| .slice ..| .mapUpdate ..=>2
 | .box ..=>2
 | .buildSlice t _ _=>(match(tb t).lit with|true=>0|false=>2)
 | .call c=>
  (match c.callee with
  | .builtin .len=>1
  | .builtin .max=>1
  | .builtin .min=>1
  | .value (.func _)=>2
  |_=>3)
 |_=>3
def BR:Operand->Bool
 | .const (.slice ..)=>true
 |_=>false
def o4 (o:Op):Bool:=
 match o with
 | .binOp _ _ _ y _=>BR y
 |_=>false
def rk (t:Tmp):List Operand->Bool
 |[]=>false
 | .tmp u::r=>match Nat.beq u t with|true=>true|false=>rk t r
 |_::r=>rk t r
def fY:Option Tmp->Option Tmp->Bool
 |some a,some b=>Nat.beq a b
 |_,_=>false
def l8 (o:Oper):Option Tmp->Bool
 |some t=>rk t o.op.operands.toList
 |none=>false
def qn (a b:Nat):Bool:=
 match Nat.ble a 1,Nat.ble b 1 with
 |true,true=>true
 |true,false=>Nat.beq a 0&&Nat.beq b 2
 |false,true=>Nat.beq a 2&&Nat.beq b 0
 |false,false=>false
def ja (all:List Oper)(o:Oper):Option Tmp:=
 match o.guard with
 |none=>none
 |some (j,_)=>l7 all j
def mN (all:List Oper)(a i:Oper):Bool:=
 match ja all a with
 |none=>true
 |some g=> !fY (some g) i.dst&&(!rk g i.op.operands.toList||fY (ja all i) (some g))
def qe (tb:TypeId->b7)(a i:Oper):Bool:=
 qn (fx tb a.op) (fx tb i.op)&& !o4 a.op&& !o4 i.op&& !fY a.dst i.dst&& !l8 i a.dst&& !l8 a i.dst
def R.jK:R->List Nat
 | .vec i=>[i]
 | .ptr i _=>[i]
 | .optr i _ _=>[i]
 | .oat i _ _=>[i]
 | .mp i=>[i]
 | .tail i _=>[i]
 |_=>[]
def tf:List R->List Nat
 |[]=>[]
 |v::r=>ez v.jK (tf r)
def R.aL:R->List Nat
 | .agg l=>tf l
 |v=>v.jK
def gR:List R->List Nat
 |[]=>[]
 |v::r=>ez v.aL (gR r)
structure g_ where
 ok:Bool
 call:Bool
 r:List Nat
 w:List Nat
 ext:Bool
 soft:Bool
 Er:Bool
def mW:g_:=⟨false,false,[],[],false,false,false⟩
def rr:R->Bool
 | .ptr _ _=>true
 |_=>false
def ru:R->Bool
 | .d (.int _ _)=>true
 |_=>false
def kM (tb:TypeId->b7)(o:Op)(tm:List R):Bool:=
 match o with
 | .load _ p=>rr (aN tm p)
 | .fieldAddr _ x _=>rr (aN tm x)
 | .buildSlice t _ bP=>(match(tb t).lit with|true=>ed (fun p=>ru (aN tm p.2)) bP.toList|false=>false)
 |_=>false
def kL:List R->Bool
 |[.vec _, .d (.af _ _)]=>true
 |[.vec _, .d (.ar _ _)]=>true
 |_=>false
def cE (tb:TypeId->b7)(data:FuncId->Nat)(aL:List (Tmp×Nat))(n:Nat)(o:Oper)(tm:List R):g_:=
 match o.op with
 | .load _ p=>⟨true,false,(aN tm p).aL,[],false,kM tb o.op tm,false⟩
 | .store _ p _=>⟨true,false,(aN tm p).aL,(aN tm p).aL,false,false,false⟩
 | .indexAddr _ x _=>⟨true,false,(aN tm x).aL,[],false,false,false⟩
 | .slice t x _ _ _=>(match(tb t).cut with|true=>mW|false=>⟨true,false,(aN tm x).aL,(aN tm x).aL,false,false,false⟩)
 | .lookup _ m _ _=>⟨true,false,(aN tm m).aL,[],false,false,false⟩
 | .mapUpdate _ m _ _=>⟨true,false,(aN tm m).aL,(aN tm m).aL,false,false,false⟩
 | .convert _ _ x=>⟨true,false,(aN tm x).aL,[],false,false,false⟩
 | .alloc _=>(match o.dst with|some d=>(match fw d aL with|some id=>⟨true,false,[id],[id],false,false,false⟩|none=>mW)|none=>mW)
 | .buildSlice t _ _=>(match(tb t).lit with|true=>⟨true,false,[],[],false,kM tb o.op tm,false⟩|false=>(match o.dst with|some d=>(match fw d aL with|some id=>⟨true,false,[id],[id],false,false,false⟩|none=>mW)|none=>mW))
 | .call c=>
  (match c.callee with
  | .builtin .len=>⟨true,false,gR (bE (aN tm) c.args.toList),[],false,false,false⟩
  | .builtin .append=>⟨false,false,[],[],false,false,kL (bE (aN tm) c.args.toList)⟩
  | .value (.func f)=>(match data f with|1=>⟨true,true,gR (bE (aN tm) c.args.toList),gR (bE (aN tm) c.args.toList),false,false,false⟩|2=>⟨true,true,gR (bE (aN tm) c.args.toList),n::gR (bE (aN tm) c.args.toList),true,false,false⟩|_=>mW)
  |_=>mW)
 |o=>⟨Nat.beq (fx tb o) 0&& !o4 o,false,[],[],false,kM tb o tm,false⟩
def qs (x:Nat):List Nat->Bool
 |[]=>false
 |y::r=>match Nat.beq x y with|true=>true|false=>qs x r
def vb:List Nat->List Nat->Bool
 |[],_=>true
 |x::r,l=>match qs x l with|true=>false|false=>vb r l
def tg (a i:g_):Bool:=a.ok&&i.ok&& !(a.call&&i.call)&&vb a.w i.w&&vb a.w i.r&&vb i.w a.r
def uH (a i:Oper):Bool:= !fY a.dst i.dst&& !l8 i a.dst&& !l8 a i.dst
def bare (o:Oper):Bool:=
 match o.guard with
 |none=>true
 |some _=>false
def sA (a:Oper)(gd:g_)(i:Oper)(hc:g_):Bool:=gd.Er&&hc.soft&&uH a i&&bare a&&bare i
def nz (tb:TypeId->b7)(all:List Oper)(a:Oper)(gd:g_)(i:Oper)(hc:g_):Bool:=mN all a i&&mN all i a&&uH a i&&(qe tb a i||tg gd hc)
def sS (tab:List Nat):List Edge->Nat
 |[]=>0
 |e::r=>match Region.binds .any e with|true=>Nat.lor (Nat.lor (Nat.pow 2 e.on) (b6 0 tab e.on)) (sS tab r)|false=>sS tab r
def uI:List Oper->List Nat->List Nat
 |[],acc=>acc
 |o::r,acc=>uI r (ez acc [sS acc o.after.toList])
def bit (tab:List Nat)(n m:Nat):Bool:=Nat.beq (Nat.land (Nat.shiftRight (b6 0 tab n) m) 1) 1
def sT (tb:TypeId->b7)(all:List Oper)(tab:List Nat)(n:Nat)(o:Oper)(f:g_)(p:Nat×Oper×g_):Bool:=
 (match Nat.blt p.1 n with|true=>bit tab n p.1|false=>bit tab p.1 n)||nz tb all p.2.1 p.2.2 o f||(match Nat.blt p.1 n with|true=>sA p.2.1 p.2.2 o f|false=>sA o f p.2.1 p.2.2)
def k2 (tb:TypeId->b7)(all:List Oper)(tab:List Nat)(n:Nat)(o:Oper)(f:g_)(e2:List (Nat×Oper×g_)):Bool:=ed (sT tb all tab n o f) e2
def gh (tb:TypeId->b7)(bz:FuncId->gu)(data:FuncId->Nat)(aL:List (Tmp×Nat))(all:List Oper)(tab:List Nat):List (Nat×Oper×g_)->List (Nat×Oper)->List R->aD->(List R->aD->Prop)->Prop
 |_,[],tm,I,K=>K tm I
 |e2,x::br,tm,I,K=>
  match k2 tb all tab x.1 x.2 (cE tb data aL (bS I) x.2 tm) e2 with
  |false=>False
  |true=>dw tb bz aL all [x.2] tm I fun dL al=>gh tb bz data aL all tab ((x.1,x.2,cE tb data aL (bS I) x.2 tm)::e2) br dL al K
def oX (tb:TypeId->b7):List Oper->List Tmp
 |[]=>[]
 |o::r=>match qd tb o.op,o.guard,o.dst with|true,none,some d=>d::oX tb r|_,_,_=>oX tb r
def uz:List Tmp->Nat->List (Tmp×Nat)
 |[],_=>[]
 |d::r,n=>(d,n)::uz r (Nat.succ n)
def n5 (d:Tmp):List Oper->Nat
 |[]=>0
 |o::r=>match fY (some d) o.dst with|true=>Nat.succ (n5 d r)|false=>n5 d r
def indexed:List Oper->Nat->List (Nat×Oper)
 |[],_=>[]
 |o::r,n=>(n,o)::indexed r (Nat.succ n)
def zi (tb:TypeId->b7)(ops:List Oper):Bool:=ed (fun x=>x.2.after.toList.all fun e=> !Region.binds .any e||Nat.blt e.on x.1) (indexed ops 0)&&ed (fun d=>Nat.beq (n5 d ops) 1) (oX tb ops)
inductive ht where
 |normal
 |exit (id:Nat)
 |goto (l:Nat)
 |ret
inductive vQ:Type where
 |aG (s:cb)
 |agg (cs:List cb)
 |aq
inductive tn:Type where
 |aq
 |af (k:IntKind)
 |ar (an:Nat)
 |map (tP an:Nat)
 |cells (cs:List cb)
structure Head where
 conv:List (Tmp×cb):=[]
 bR:List (Tmp×vQ):=[]
 I:List tn:=[]
def cb.T:cb->Type
 | .int _=>Int
 | .bool=>Bool
 | .str=>List Int
 | .cp _=>List Int
 | .dK _=>List (List U)
 | .other=>U
def cb.mk:(s:cb)->s.T->R
 | .int k,x=> .d (.int k x)
 | .bool,x=> .d (.bool x)
 | .str,x=> .d (.str x)
 | .cp k,x=> .d (.af k x)
 | .dK an,x=> .d (.ar an x)
 | .other,x=> .d x
def dt:List cb->Type
 |[]=>Unit
 |s::dN=>s.T×dt dN
def ie:List cb->Type->Type
 |[],α=>α
 |s::dN,α=>s.T->ie dN α
def ie.app {α:Type}:(dN:List cb)->ie dN α->dt dN->α
 |[],f,_=>f
 |_::dN,f,(x,r)=>ie.app dN (f x) r
def zI:(dN:List cb)->(dt dN->Prop)->Prop
 |[],f=>f ()
 |s::dN,f=>∀x:s.T,zI dN fun r=>f (x,r)
def dt.append:(a b:List cb)->dt a->dt b->dt (ez a b)
 |[],_,_,y=>y
 |_::dN,b,(x,r),y=>(x,dt.append dN b r y)
def dt.left:(a b:List cb)->dt (ez a b)->dt a
 |[],_,_=>()
 |_::dN,b,(x,r)=>(x,dt.left dN b r)
def dt.right:(a b:List cb)->dt (ez a b)->dt b
 |[],_,r=>r
 |_::dN,b,(_,r)=>dt.right dN b r
def vQ.ps:vQ->List cb
 | .aG s=>[s]
 | .agg cs=>cs
 | .aq=>[]
def tn.ps:tn->List cb
 | .aq=>[]
 | .af k=>[.cp k]
 | .ar an=>[.dK an]
 | .map _ an=>[.dK an]
 | .cells cs=>cs
def lC:List (Tmp×vQ)->List cb
 |[]=>[]
 |(_,s)::r=>ez s.ps (lC r)
def kf:List tn->List cb
 |[]=>[]
 |s::r=>ez s.ps (kf r)
def Head.ps (h:Head):List cb:=ez (lC h.bR) (kf h.I)
def sK:(cs:List cb)->dt cs->List R
 |[],_=>[]
 |s::dN,(x,r)=>s.mk x::sK dN r
def cb.rD (I:aD):(s:cb)->R->(List Prop×s.T)
 | .int k, .d (.int cD n)=>(match jH k cD with|true=>[]|false=>[False],n)
 | .int _,_=>([False],(0:Int))
 | .bool, .d (.bool b)=>([],b)
 | .bool, .bt=>([],true)
 | .bool, .bf=>([],false)
 | .bool,_=>([False],false)
 | .str, .d (.str l)=>([],l)
 | .str,_=>([False],([]:List Int))
 | .cp k, .d (.af cD l)=>(match jH k cD with|true=>[]|false=>[False],l)
 | .cp _, .emp=>([],([]:List Int))
 | .cp k, .vec id=>
  match ae.at I id with
  | .af cD l=>(match jH k cD,cz I id with|true,true=>[]|_,_=>[False],l)
  |_=>([False],([]:List Int))
 | .cp _,_=>([False],([]:List Int))
 | .dK an, .d (.ar ic l)=>(match Nat.beq an ic with|true=>[]|false=>[False],l)
 | .dK _, .emp=>([],([]:List (List U)))
 | .dK an, .vec id=>
  match ae.at I id with
  | .ar ic l=>(match Nat.beq an ic,cz I id with|true,true=>[]|_,_=>[False],l)
  |_=>([False],([]:List (List U)))
 | .dK _,_=>([False],([]:List (List U)))
 | .other, .d x=>([],x)
 | .other,_=>([False],U.undef)
def yL (I:aD):(cs:List cb)->List R->(dt cs->Prop)->Prop
 |[],[],k=>k ()
 |s::dN,v::aH,k=>gI (s.rD I v).1 (yL I dN aH fun h=>k ((s.rD I v).2,h))
 |_,_,_=>False
def R.sU:R->R->Bool
 | .vec a, .vec b=>Nat.beq a b
 | .ptr a x, .ptr b y=>Nat.beq a b&&Nat.beq x y
 | .optr a (.ofNat 0) x, .optr b (.ofNat 0) y=>Nat.beq a b&&Nat.beq x y
 | .mp a, .mp b=>Nat.beq a b
 | .emp, .emp=>true
 | .xv, .xv=>true
 | .bt, .bt=>true
 | .bf, .bf=>true
 | .fn f, .fn g=>Nat.beq f g
 |_,_=>false
def Code.eI:Code->Tmp->Bool
 | .region _ ops _,t=>ops.toList.any fun o=>match o.dst with|some d=>Nat.beq d t|none=>false
 | .seq a b,t=>Code.eI a t||Code.eI b t
 | .cond _ a b,t=>Code.eI a t||Code.eI b t
 | .block _ c,t=>Code.eI c t
 | .loop c,t=>Code.eI c t
 | .scope c,t=>Code.eI c t
 | .rangeFunc ..,_=>true
 |_,_=>false
def R.rv:R->Bool
 | .d _=>true
 | .bt=>true
 | .bf=>true
 | .emp=>true
 | .xv=>true
 | .fn _=>true
 | .rptr ..=>true
 | .cls ..=>true
 | .un=>true
 | .any=>true
 |_=>false
def R.plain:R->Bool
 | .agg l=>ed R.rv l
 | .rw _ _=>true
 |v=>v.rv
def R.od (n:Nat):R->Bool
 | .vec i=>Nat.blt i n
 | .ptr i _=>Nat.blt i n
 | .optr i _ _=>Nat.blt i n
 | .oat i _ _=>Nat.blt i n
 | .mp i=>Nat.blt i n
 | .tail i _=>Nat.blt i n
 | .agg _=>false
 | .tup _=>false
 |_=>true
def R.under (n:Nat):R->Bool
 | .agg l=>ed (R.od n) l
 |v=>v.od n
def ae.under (n:Nat):ae->Bool
 | .cells l=>ed (R.od n) l
 |_=>true
def Si (n:Nat)(w:Bool)(v0 v:R):Bool:=
 match v0.under n with
 |false=>false
 |true=>
  match w,v0.plain with
  |false,true=>true
  |_,_=>v.sU v0
def sw (n:Nat)(w:Tmp->Bool)(I:aD)(dB:List R):(dN:List (Tmp×vQ))->List R->(dt (lC dN)->Prop)->Prop
 |[],_,k=>k ()
 |(t, .aG s)::r,tm,k=>gI (s.rD I (b6 .un tm t)).1 (sw n w I dB r tm fun h=>k ((s.rD I (b6 .un tm t)).2,h))
 |(t, .agg cs)::r,tm,k=>
  match b6 .un tm t with
  | .agg aH=>yL I cs aH fun a=>sw n w I dB r tm fun h=>k (dt.append cs (lC r) a h)
  |_=>False
 |(t, .aq)::r,tm,k=>match Si n (w t) (b6 .un dB t) (b6 .un tm t)with|true=>sw n w I dB r tm k|false=>False
def n8 (n:Nat)(ee:aD):(os:List tn)->Nat->aD->(dt (kf os)->Prop)->Prop
 |[],_,_,k=>k ()
 | .aq::r,i,I,k=>match(b6 (true, .gone) ee i).2.under n with|true=>b6 (true, .gone) I i=b6 (true, .gone) ee i/\n8 n ee r (Nat.succ i) I k|false=>False
 | .af la::r,i,I,k=>
  match b6 (true, .gone) I i with
  |(false, .af aY l)=>match jH la aY with|true=>n8 n ee r (Nat.succ i) I fun h=>k (l,h)|false=>False
  |_=>False
 | .ar yd::r,i,I,k=>
  match b6 (true, .gone) I i with
  |(false, .ar s1 l)=>match Nat.beq yd s1 with|true=>n8 n ee r (Nat.succ i) I fun h=>k (l,h)|false=>False
  |_=>False
 | .map ye yd::r,i,I,k=>
  match b6 (true, .gone) I i with
  |(false, .map fg s1 l)=>match Nat.beq ye fg,Nat.beq yd s1 with|true,true=>n8 n ee r (Nat.succ i) I fun h=>k (l,h)|_,_=>False
  |_=>False
 | .cells cs::r,i,I,k=>
  match b6 (true, .gone) I i with
  |(false, .cells aH)=>yL I cs aH fun a=>n8 n ee r (Nat.succ i) I fun h=>k (dt.append cs (kf r) a h)
  |_=>False
def p6 (w:Tmp->Bool)(h:Head)(yf S:e9)(k:dt h.ps->Prop):Prop:=
 sw (bS h.I) w S.I yf.tm h.bR S.tm fun a=>n8 (bS h.I) yf.I h.I 0 S.I fun b=>k (dt.append (lC h.bR) (kf h.I) a b)
def uJ (dB:List R):(dN:List (Tmp×vQ))->dt (lC dN)->List R->List R
 |[],_,tm=>tm
 |(t, .aG s)::r,(x,h),tm=>cK (uJ dB r h tm) t (s.mk x)
 |(t, .agg cs)::r,h,tm=>cK (uJ dB r (dt.right cs (lC r) h) tm) t (.agg (sK cs (dt.left cs (lC r) h)))
 |(t, .aq)::r,h,tm=>cK (uJ dB r h tm) t (b6 .un dB t)
def mi (ee:aD):(os:List tn)->Nat->dt (kf os)->aD
 |[],_,_=>[]
 | .aq::r,i,h=>b6 (true, .gone) ee i::mi ee r (Nat.succ i) h
 | .af k::r,i,(x,h)=>(false, .af k x)::mi ee r (Nat.succ i) h
 | .ar an::r,i,(x,h)=>(false, .ar an x)::mi ee r (Nat.succ i) h
 | .map n an::r,i,(x,h)=>(false, .map n an x)::mi ee r (Nat.succ i) h
 | .cells cs::r,i,h=>(false, .cells (sK cs (dt.left cs (kf r) h)))::mi ee r (Nat.succ i) (dt.right cs (kf r) h)
def lD (h:Head)(yf:e9)(x:dt h.ps):e9:=
 ⟨uJ yf.tm h.bR (dt.left (lC h.bR) (kf h.I) x) (u_ .any (bS yf.tm)),mi yf.I h.I 0 (dt.right (lC h.bR) (kf h.I) x)⟩
def uK:cb->ae
 | .cp k=> .af k []
 | .dK an=> .ar an []
 |_=> .gone
def iI:List (Tmp×cb)->e9->e9
 |[],S=>S
 |(t,s)::r,S=>
  match b6 .un S.tm t,s with
  | .vec id, .other=>iI r ⟨S.tm,e_ S.I id⟩
  |_, .other=>iI r S
  | .emp,s=>iI r ⟨cK S.tm t (.vec (bS S.I)),ez S.I [(false,uK s)]⟩
  |_,_=>iI r S
def mS:List (Tmp×cb)->e9->e9
 |[],S=>S
 |(t,s)::r,S=>
  match b6 .un S.tm t,s with
  | .vec id, .other=>mS r ⟨S.tm,e_ S.I id⟩
  |_,_=>mS r S
def o5:TypeDesc->Bool
 | .struct _=>true
 | .array _ _=>true
 |_=>false
def zu:cb->Value->Bool
 | .int k, .int cD n=>jH k cD&&(match n with| .ofNat 0=>true|_=>false)
 | .bool, .bool false=>true
 | .str, .string s=>Nat.beq s.data.size 0
 | .cp _, .slice none 0 0=>true
 | .dK _, .slice none 0 0=>true
 | .other,v=>v.oneCell'
 |_,_=>false
def mT:List cb->List Value->Bool
 |[],[]=>true
 |s::dN,v::aH=>zu s v&&mT dN aH
 |_,_=>false
def nE (z:Option Value)(cs:List cb):Bool:=match z with|some v=>mT cs v.cells.toList|none=>false
def Jf (k:IntKind):Option Value->Bool
 |some (.int cD (.ofNat 0))=>jH k cD
 |_=>false
def DC (P:Program)(t:TypeId):Bool:=match P.underlying t with|some d=>o5 d|none=>true
def p7 (P:Program):List (Nat×Nat×aZ)->List Field->Bool
 |[],[]=>true
 |(o,n,t)::r,f::bW=>Nat.beq o f.offset&&Nat.beq n (P.cellsOf f.type)&&Nat.beq t.size n&&Nat.blt 0 n&&(P.info? f.type).isSome&&(P.underlying f.type).isSome&&(DC P f.type==t.isAgg)&&p7 P r bW
 |_,_=>false
def c5 (P:Program)(t:TypeId)(i:b7):Bool:=
 match i.ty,P.info? t,P.underlying t with
 | .no,_,_=>true
 | .aG (.int k),some f,some (.int cD)=>jH k cD&&Nat.beq f.size 1&&nE f.zero [.int k]
 | .aG .bool,some f,some .bool=>Nat.beq f.size 1&&nE f.zero [.bool]
 | .aG .str,some f,some .string=>Nat.beq f.size 1&&nE f.zero [.str]
 | .aG (.cp k),some f,some (.slice e)=>Nat.beq f.size 1&&nE f.zero [.cp k]&&Nat.beq e i.elem&&
  (match P.info? e,P.underlying e with
  |some g,some (.int cD)=>jH k cD&&Nat.beq g.size 1&&Nat.beq g.bytes i.bytes&&Jf k g.zero
  |_,_=>false)
 | .aG (.dK an),some f,some (.slice e)=>Nat.beq f.size 1&&nE f.zero [.dK an]&&Nat.beq e i.elem&&Nat.blt 0 an&&Nat.beq (bS i.fv) an&&
  (match P.info? e,P.underlying e with
  |some g,some d=>Nat.beq g.size an&&Nat.beq g.bytes i.bytes&&nE g.zero i.fv&&(match d with| .int _=>false|_=>true)
  |_,_=>false)
 | .aG .other,some f,some d=> !o5 d&&Nat.beq f.size 1&&nE f.zero [.other]
 | .struct bW cs,some f,some (.struct a)=>Nat.beq f.size (bS cs)&&nE f.zero cs&&p7 P bW a.toList
 | .arr n e cs,some f,some (.array m el)=>Nat.beq n m&&Nat.beq f.size (bS cs)&&nE f.zero cs&&Nat.beq (P.cellsOf el) e.size&&Nat.blt 0 e.size&&(P.info? el).isSome&&(P.underlying el).isSome&&(DC P el==e.isAgg)
 |_,_,_=>false
def uZ:aZ->Bool
 | .aG _=>true
 | .struct _ cs=>(match Nat.blt 8 (bS cs),Nat.beq (bS cs) 1 with|false,false=>true|_,_=>false)
 |_=>false
def Jg:aZ->Option Value->Bool
 | .aG s,some v=>zu s v
 | .struct _ cs,some (.agg aH)=>mT cs aH.toList
 |_,_=>false
def sV (P:Program)(tb:TypeId->b7)(t:TypeId):Bool:=
 match(tb t).mp with
 |none=>true
 |some (n,hO,e)=>
  match P.underlying t,P.underlying hO with
  |some (.map k v),some (.array m q)=>Nat.beq k hO&&Nat.beq v e&&Nat.beq m n&&Nat.beq (P.cellsOf q) 1&&Nat.beq (P.cellsOf hO) n&&(match P.underlying q with|some (.int .i64)=>true|_=>false)&&Nat.blt 0 P.types.size&&Nat.blt 0 (tb e).ty.size&&uZ (tb e).ty&&(match P.info? e with|some g=>Jg (tb e).ty g.zero|none=>false)
  |_,_=>false
def zv (P:Program)(i:b7)(t:TypeId):Bool:=
 match i.ty with
 | .arr n (.aG (.int k)) cs=>
  (match P.underlying t,Nat.beq (bS cs) n with
  |some (.array _ q),true=>(match P.underlying q with|some (.int cD)=>jH k cD|_=>false)
  |_,_=>false)
 |_=>true
def qb (P:Program)(tb:TypeId->b7)(t:TypeId):Bool:=match sV P tb t with|true=>zv P (tb t) t|false=>false
structure bA where
 tys:List (Nat×b7)
 cons:List (Nat×gu)
 u0:List (Nat×Head)
 meets:List (Nat×Head)
 data:List Nat:=[]
 fresh:List Nat:=[]
def bA.kind (E:bA)(f:FuncId):Nat:=match qs f E.data with|true=>1|false=>(match qs f E.fresh with|true=>2|false=>0)
def bA.tb (E:bA)(t:TypeId):b7:=match fw t E.tys with|some i=>i|none=>{ty:= .no}
def SW:gu:=fun _ _ _=>False
def bA.bz (E:bA)(f:FuncId):gu:=match fw f E.cons with|some c=>c|none=>SW
def bA.loops (E:bA)(b:Nat):Head:=match fw b E.u0 with|some h=>h|none=>{}
def bA.SX (E:bA)(t:Tmp):Option Head:=fw t E.meets
def Ik:Code->Option Tmp
 | .cond (.tmp t) _ _=>some t
 | .seq _ b=>Ik b
 | .block id _=>some (Nat.add 100000 id)
 |_=>none
def Sj (j:Tmp->Option Head):Option Tmp->Option Head
 |none=>none
 |some t=>j t
def gT (E:bA):Code->Nat->e9->(ht->e9->Prop)->Prop
 | .skip,_,S,K=>K .normal S
 | .label _,_,S,K=>K .normal S
 | .region _ ops draw,_,S,K=>
  match draw with
  |false=>dw E.tb E.bz [] ops.toList ops.toList S.tm S.I fun tm I=>K .normal ⟨tm,I⟩
  |true=>
   (match zi E.tb ops.toList with
   |true=>gh E.tb E.bz E.kind (uz (oX E.tb ops.toList) (bS S.I)) ops.toList (uI ops.toList []) [] (indexed ops.toList 0) S.tm (ez S.I (u_ (false, .gone) (bS (oX E.tb ops.toList)))) fun tm I=>K .normal ⟨tm,I⟩
   |false=>False)
 | .seq a b,bs,S,K=>
  match Sj E.SX (Ik a)with
  |none=>gT E a bs S fun e S'=>match e with| .normal=>gT E b bs S' K|e=>K e S'
  |some h=>
   let fc:=iI h.conv S
   ∃J:ie h.ps Prop,
    gT E a bs fc (fun e S'=>match e with| .normal=>p6 (Code.eI a) h fc (mS h.conv S') (ie.app h.ps J)|e=>K e S')/\
    zI h.ps fun x=>ie.app h.ps J x->gT E b bs (lD h fc x) K
 | .cond c a b,bs,S,K=>
  match aN S.tm c with
  | .bt=>gT E a bs S K
  | .bf=>gT E b bs S K
  | .d (.bool x)=>
   (match c with
   | .tmp t=>(x=true->gT E a bs ⟨cK S.tm t .bt,S.I⟩ K)/\(x=false->gT E b bs ⟨cK S.tm t .bf,S.I⟩ K)
   |_=>False)
  |_=>False
 | .block id c,_,S,K=>gT E c id S fun e S'=>match e with| .exit i=>(match Nat.beq i id with|true=>K .normal S'|false=>K (.exit i) S')|e=>K e S'
 | .loop c,bs,S,K=>
  let h:=E.loops bs
  let fc:=iI h.conv S
  ∃aQ:ie h.ps Prop,∃m:ie h.ps Nat,p6 (fun _=>false) h fc fc (ie.app h.ps aQ)/\
   zI h.ps fun x=>ie.app h.ps aQ x->gT E c bs (lD h fc x) fun e S'=>
    match e with
    | .normal=>p6 (Code.eI c) h fc (mS h.conv S') fun y=>ie.app h.ps aQ y/\ie.app h.ps m y<ie.app h.ps m x
    |e=>K e S'
 | .exit id,_,S,K=>K (.exit id) S
 | .goto l,_,S,K=>K (.goto l) S
 | .ret,_,S,K=>K .ret S
 | .scope c,bs,S,K=>gT E c bs S fun e S'=>match e with| .goto _=>False|e=>K e S'
 | .refuse _,_,_,_=>False
 | .rangeFunc ..,_,_,_=>False
def gZ (tb:TypeId->b7)(tm:List R)(I:aD):List ResultVar->List R
 |[]=>[]
 | .tmp t::r=>b6 .un tm t::gZ tb tm I r
 | .cell a t::r=>(match h2 (tb t).ty (b6 .un tm a) I with| .a8 _ v _=>v|_=> .any)::gZ tb tm I r
def jZ (tb:TypeId->b7)(tm:List R)(I:aD):List ResultVar->List Prop
 |[]=>[]
 | .tmp _::r=>jZ tb tm I r
 | .cell a t::r=>(match h2 (tb t).ty (b6 .un tm a) I with| .a8 s _ _=>ez s (jZ tb tm I r)|_=>jZ tb tm I r)
def qc (tb:TypeId->b7)(tm:List R)(I:aD):List ResultVar->Bool
 |[]=>true
 | .tmp _::r=>qc tb tm I r
 | .cell a t::r=>match b6 .un tm a,h2 (tb t).ty (b6 .un tm a) I with| .ptr _ _, .a8 [] _ _=>qc tb tm I r|_,_=>false
def lx (tb:TypeId->b7)(tm:List R)(I:aD):List ResultVar->Bool
 |[]=>true
 | .tmp _::r=>lx tb tm I r
 | .cell a t::r=>match b6 .un tm a,h2 (tb t).ty (b6 .un tm a) I with| .ptr _ _, .a8 _ _ _=>lx tb tm I r| .optr _ _ _, .a8 _ _ _=>lx tb tm I r|_,_=>false
def one:List R->R
 |[x]=>x
 |l=> .tup l
def mU (E:bA)(ntmps:Nat)(results:List ResultVar)(c:Code)(args:List R)(I:aD)(K:R->aD->Prop):Prop:=
 gT E c 1000000 ⟨pad ntmps args,I⟩ fun e S=>
  match e with
  | .normal| .ret=>(match lx E.tb S.tm S.I results with|true=>gI (jZ E.tb S.tm S.I results) (K (one (gZ E.tb S.tm S.I results)) S.I)|false=>False)
  |_=>False
def aZ.eF (I:aD):List aZ->List R->List R
 |t::ts,v::aH=>t.norm I v::aZ.eF I ts aH
 |_,_=>[]
def mb (I:aD)(ts:List aZ)(v:R):R:=
 match ts,v with
 |[t],v=>t.norm I v
 |ts, .tup aH=> .tup (aZ.eF I ts aH)
 |_,v=>v
end Go.ak
end
section
namespace Go.ak
theorem cI {α:Type}(l:List α):bS l=l.length:=by induction l<;>simp_all [bS]
theorem dW {α:Type}(d:α):∀(l:List α) (i:Nat),b6 d l i=l.getD i d
 |[],i=>by simp[b6]
 |x::r,0=>by simp[b6]
 |x::r,n+1=>by simp[b6,dW d r n]
theorem eE {α:Type}:∀(l:List α) (i:Nat) (v:α),cK l i v=l.set i v
 |[],i,v=>by simp[cK]
 |x::r,0,v=>by simp[cK]
 |x::r,n+1,v=>by simp[cK,eE r n v]
theorem dP {α β:Type}(f:α->β)(l:List α):bE f l=l.map f:=by induction l<;>simp_all [bE]
theorem fC {α:Type}(a b:List α):ez a b=a++b:=by induction a<;>simp_all [ez]
theorem ly {α:Type}:∀(l:List α) (n:Nat),kQ l n=l.drop n
 |l,0=>by simp[kQ]
 |[],n+1=>by simp[kQ]
 |x::r,n+1=>by simp[kQ,ly r n]
theorem lz {α:Type}:∀(l:List α) (n:Nat),kR l n=l.take n
 |l,0=>by simp[kR]
 |[],n+1=>by simp[kR]
 |x::r,n+1=>by simp[kR,lz r n]
theorem Il {α:Type}(v:α)(n:Nat):u_ v n=List.replicate n v:=by induction n<;>simp_all [u_,List.replicate]
theorem sW:∀(n:Nat) (l:List R),pad n l=l++List.replicate (n-l.length) .un
 |0,l=>by simp[pad]
 |n+1,[]=>by simp[pad,sW n [],List.replicate]
 |n+1,v::r=>by simp[pad,sW n r,Nat.add_sub_add_right]
theorem eR {α:Type}(l:List α)(i j:Nat)(v d:α):(l.set i v).getD j d=if i=j/\i<l.length then v else l.getD j d:=by
 simp only[apA,aqk]
 by_cases h:i=j
 ·subst h
  by_cases ax:i<l.length<;>simp[ax]
 ·simp[h]
theorem fD {α:Type}(f:α->Bool)(l:List α):ed f l=l.all f:=by
 induction l with
 |nil=>rfl
 |cons x r bI=>simp only[ed,arb];cases f x<;>simp[bI]
theorem hk (ps:List Prop)(q:Prop):gI ps q↔(∀p∈ps,p)/\q:=by
 induction ps with
 |nil=>simp[gI]
 |cons p r bI=>rw[gI,bI,List.forall_mem_cons,and_assoc]
theorem wF {ps:List Prop}{q nQ:Prop}(h:q->nQ):gI ps q->gI ps nQ:=by
 rw[hk,hk];exact fun⟨a,b⟩=>⟨a,h b⟩
structure Loc where
 a:Option Addr
 cap:Nat
 bs:Option Nat
inductive bB (Z:Nat->Prop) (w:World):U->Value->Prop
 |int (k:IntKind) (n:Int):bB Z w (.int k n) (.int k n)
 |bool (b:Bool):bB Z w (.bool b) (.bool b)
 |str (s:ByteArray) (l:List Int) (h:l=s.data.toList.map fun b=>(b.toNat:Int)):bB Z w (.str l) (.string s)
 |jt (a:Option Addr) (cap:Nat) (k:IntKind):bB Z w (.af k []) (.slice a 0 cap)
 |af (k:IntKind) (l:List Int) (n b off cap:Nat) (aB:l.length=n) (bm:¬Z b) (aC:n<=cap)
  (h:∀i,i<n->w.cell? ⟨b,off+i,none⟩=some (.int k (l.getD i 0))):
  bB Z w (.af k l) (.slice (some ⟨b,off,none⟩) n cap)
 |kS (a:Option Addr) (cap:Nat) (an:Nat):bB Z w (.ar an []) (.slice a 0 cap)
 |ar (an:Nat) (l:List (List U)) (n b off cap:Nat) (u:Nat->Nat->Value) (aB:l.length=n) (cx:0<an) (bm:¬Z b) (aC:n<=cap)
  (h:∀i j,i<n->j<an->w.cell? ⟨b,off+i*an+j,none⟩=some (u i j))
  (ao:∀i j,i<n->j<an->bB Z w ((l.getD i []).getD j .undef) (u i j)):
  bB Z w (.ar an l) (.slice (some ⟨b,off,none⟩) n cap)
 |undef (v:Value) (h:v.oneCell'=true):bB Z w .undef v
theorem bB.one {Z:Nat->Prop}{w:World}{x:U}{v:Value}(h:bB Z w x v):v.oneCell'=true:=by
 cases h<;>first|rfl|assumption
theorem P0 {w:World}{b o:Nat}{v:Value}(h:w.cell? ⟨b,o,none⟩=some v):b<w.heap.size:=World.block_lt_of_cell? w _ h
theorem bB.mono {Z Z':Nat->Prop}{w w':World}{x:U}{v:Value}(h:bB Z w x v)
 (key:∀b,b<w.heap.size->¬Z b->w'.heap[b]? =w.heap[b]? /\¬Z' b):bB Z' w' x v:=by
 induction h with
 |int k n=>exact .int k n
 |bool b=>exact .bool b
 |str s l h=>exact .str s l h
 |jt a cap k=>exact .jt a cap k
 |af k l n b off cap aB bm aC hv=>
  cases l with
  |nil=>subst aB;exact .jt _ _ _
  |cons y r=>
   have bL:b<w.heap.size:=P0 (hv 0 (by rw[<-aB];simp));refine .af k _ n b off cap aB (key b bL bm).2 aC fun i hi=> ?_;rw[World.cell?_of_block (w:=w) (w':=w') (a:=⟨b,off+i,none⟩) (key b bL bm).1];exact hv i hi
 |kS a cap an=>exact .kS a cap an
 |ar an l n b off cap u aB cx bm aC hv ao bI=>
  cases l with
  |nil=>subst aB;exact .kS _ _ _
  |cons y r=>
   have bL:b<w.heap.size:=P0 (hv 0 0 (by rw[<-aB];simp) cx);refine .ar _ _ n b off cap u aB cx (key b bL bm).2 aC (fun i j hi aI=> ?_) bI;rw[World.cell?_of_block (w:=w) (w':=w') (a:=⟨b,off+i*an+j,none⟩) (key b bL bm).1];exact hv i j hi aI
 |undef v h=>exact .undef v h
def gi (ρ:List Loc)(I:aD)(b:Nat):Prop:=∃i av,ρ[i]? =some av/\av.bs=some b/\cz I i=false
def aK (N:Nat->Prop)(ρ:List Loc)(I:aD)(b:Nat):Prop:=N b\/gi ρ I b
def eJ (Z:Nat->Prop)(w:World)(ρ:List Loc)(I:aD):R->Value->Prop
 | .d x,v=>bB Z w x v
 | .bt,v=>v= .bool true
 | .bf,v=>v= .bool false
 | .emp,v=>∃a,v= .slice a 0 0
 | .vec id,v=>∃av,ρ[id]? =some av/\v= .slice av.a (ae.at I id).len av.cap/\(av.a=none->av.cap=0)
 | .ptr id off,v=>∃av b,ρ[id]? =some av/\av.a=some ⟨b,0,none⟩/\av.bs=some b/\v= .pointer (some ⟨b,off,none⟩)
 | .optr id i j,v=>∃av b,ρ[id]? =some av/\av.a=some ⟨b,0,none⟩/\av.bs=some b/\
  v= .pointer (some ⟨b,i.toNat*(ae.at I id).cL+j,none⟩)/\0<=i/\i<((ae.at I id).len:Int)
 | .rptr x i j,v=>∃b off cap,bB Z w x (.slice (some ⟨b,off,none⟩) x.len cap)/\0<=i/\i<(x.len:Int)/\
  v= .pointer (some ⟨b,off+i.toNat*x.cL+j,none⟩)
 | .oat id i j,v=>∃av b,ρ[id]? =some av/\av.a=some ⟨b,0,none⟩/\av.bs=some b/\
  v= .pointer (some ⟨b,i.toNat*(ae.at I id).cL+j,none⟩)/\0<=i/\i<((ae.at I id).len:Int)/\j<(ae.at I id).cL
 | .rat x i j,v=>∃b off cap,bB Z w x (.slice (some ⟨b,off,none⟩) x.len cap)/\0<=i/\i<(x.len:Int)/\j<x.cL/\
  v= .pointer (some ⟨b,off+i.toNat*x.cL+j,none⟩)
 | .mp id,v=>∃av b,ρ[id]? =some av/\av.bs=some b/\v= .map (some b)
 | .tail id i,v=>∃av b,ρ[id]? =some av/\av.a=some ⟨b,0,none⟩/\av.bs=some b/\
  v= .slice (some ⟨b,i.toNat*(ae.at I id).cL,none⟩) ((ae.at I id).len-i.toNat) (av.cap-i.toNat)/\0<=i/\i<((ae.at I id).len:Int)
 | .xv,v=>v= .pointer none
 | .fn f,v=>v= .func (.func f) #[] #[]
 | .cls f l,v=>v= .func (.func f) (bE va l).toArray #[]/\ed xJ l=true
 | .un,v=>v=undef
 | .any,_=>True
 |_,_=>False
def iv (Z:Nat->Prop)(w:World)(ρ:List Loc)(I:aD):R->Value->Prop
 | .agg l,v=>∃a:Array Value,v= .agg a/\a.size=l.length/\∀i,i<l.length->eJ Z w ρ I (l.getD i .un) (a.getD i undef)
 | .rw n r,v=>∃a:Array Value,v= .agg a/\a.size=n/\r.length=n/\∀i,i<n->bB Z w (r.getD i .undef) (a.getD i undef)
 |t,v=>eJ Z w ρ I t v
def bH (Z:Nat->Prop)(w:World)(ρ:List Loc)(I:aD):R->Value->Prop
 | .tup l,v=>∃a:Array Value,v= .tuple a/\a.size=l.length/\∀i,i<l.length->iv Z w ρ I (l.getD i .un) (a.getD i undef)
 |t,v=>iv Z w ρ I t v
def n3 (Z:Nat->Prop)(w:World)(r:List U)(v:Value):Prop:=∃a:Array Value,v= .agg a/\a.size=r.length/\∀j,j<r.length->bB Z w (r.getD j .undef) (a.getD j undef)
def rl (Z:Nat->Prop)(w:World)(r:List U)(v:Value):Prop:=(∃x,r=[x]/\bB Z w x v)\/(r.length≠1/\n3 Z w r v)
theorem n3.mono {Z Z':Nat->Prop}{w w':World}{r:List U}{v:Value}(h:n3 Z w r v)(ao:∀x u,bB Z w x u->bB Z' w' x u):n3 Z' w' r v:=by
 obtain⟨a,ab,ad,aA⟩:=h;exact⟨a,ab,ad,fun j aI=>ao _ _ (aA j aI)⟩
theorem rl.mono {Z Z':Nat->Prop}{w w':World}{r:List U}{v:Value}(h:rl Z w r v)(ao:∀x u,bB Z w x u->bB Z' w' x u):rl Z' w' r v:=by
 rcases h with⟨x,ab,ad⟩|⟨ab,ad⟩
 ·exact .inl ⟨x,ab,ao _ _ ad⟩
 ·exact .inr ⟨ab,ad.mono ao⟩
def hS (Z:Nat->Prop)(w:World)(ρ:List Loc)(I:aD)(av:Loc):ae->Prop
 | .gone=>True
 | .dead _ _=>True
 | .map tP an l=>∃b es c,av.bs=some b/\w.heap[b]? =some (.map es c)/\es.size=l.length/\tP<an/\(l.map (js tP)).Nodup/\
  ∀i,i<l.length->∃e,es[i]? =some e/\(l.getD i []).length=an/\ke ((l.getD i []).take tP)/\n3 Z w ((l.getD i []).take tP) e.key/\rl Z w ((l.getD i []).drop tP) e.val
 | .cells l=>∃b aH e,av.a=some ⟨b,0,none⟩/\av.bs=some b/\w.heap[b]? =some (.cells aH e (0,0))/\aH.size=l.length/\
  ∀i,i<l.length->eJ Z w ρ I (l.getD i .un) (aH.getD i undef)
 | .af k l=>(l=[]/\av.cap=0)\/∃b aH e,av.a=some ⟨b,0,none⟩/\av.bs=some b/\w.heap[b]? =some (.cells aH e (0,0))/\
  l.length<=av.cap/\av.cap<=aH.size/\∀i,i<l.length->aH[i]? =some (.int k (l.getD i 0))
 | .ar an l=>(l=[]/\av.cap=0)\/∃b aH e,av.a=some ⟨b,0,none⟩/\av.bs=some b/\w.heap[b]? =some (.cells aH e (0,0))/\
  l.length<=av.cap/\av.cap*an<=aH.size/\0<an/\∀i j,i<l.length->j<an->∃v,aH[i*an+j]? =some v/\bB Z w ((l.getD i []).getD j .undef) v
def hx (I:aD)(i:Nat):Prop:=cz I i=true/\∃n an,ae.at I i= .dead n an
theorem lu {I:aD}{i:Nat}(h:cz I i=false):¬hx I i:=fun⟨ab,_⟩=>by rw[h]at ab;cases ab
structure cw (N:Nat->Prop)(ρ:List Loc)(I:aD)(w:World):Prop where
 len:ρ.length=I.length
 e3:∀b,N b->b<w.heap.size
 lt:∀(i:Nat) (av:Loc) (b:Nat),ρ[i]? =some av->av.bs=some b->b<w.heap.size
 inj:∀(i j:Nat) (li cA:Loc) (b:Nat),ρ[i]? =some li->ρ[j]? =some cA->li.bs=some b->cA.bs=some b->¬hx I i->¬hx I j->i=j
 fz:∀(i:Nat) (av:Loc) (b:Nat),ρ[i]? =some av->av.bs=some b->¬N b
 ob:∀(i:Nat) (av:Loc),ρ[i]? =some av->hS (aK N ρ I) w ρ I av (ae.at I i)
structure Fr (ρ:List Loc)(I:aD)(w:World)(ρ':List Loc)(al:aD)(w':World):Prop where
 os:w'.os=w.os
 tape:w'.tape=w.tape
 output:w'.output=w.output
 size:w.heap.size<=w'.heap.size
 aq:∀b,b<w.heap.size->¬gi ρ I b->w'.heap[b]? =w.heap[b]?
 alive:∀b,gi ρ' al b->gi ρ I b\/w.heap.size<=b
theorem Fr.refl (ρ:List Loc)(I:aD)(w:World):Fr ρ I w ρ I w:=⟨rfl,rfl,rfl,apF _,fun _ _ _=>rfl,fun _ h=> .inl h⟩
theorem Fr.trans {ρ eo dF:List Loc}{I cO kT:aD}{w w1 dd:World}(h:Fr ρ I w eo cO w1)(k:Fr eo cO w1 dF kT dd):Fr ρ I w dF kT dd:=by
 refine⟨k.os.trans h.os,k.tape.trans h.tape,k.output.trans h.output,apS h.size k.size,fun b ah aR=> ?_,fun b ah=> ?_⟩
 ·have ab:=h.aq b ah aR
  have ad:¬gi eo cO b:=fun aj=>by
   rcases h.alive b aj with aA|aA
   ·exact aR aA
   ·omega
  rw[k.aq b (apW ah h.size) ad,ab]
 ·rcases k.alive b ah with ab|ab
  ·exact h.alive b ab
  ·exact .inr (apS h.size ab)
theorem Fr.reads {N:Nat->Prop}{ρ ρ':List Loc}{I al:aD}{w w':World}(h:Fr ρ I w ρ' al w'){x:U}{v:Value}
 (ao:bB (aK N ρ I) w x v):bB (aK N ρ' al) w' x v:=
 ao.mono fun b bL bm=>⟨h.aq b bL fun aR=>bm (.inr aR),fun db=>by
  rcases db with aB|aR
  ·exact bm (.inl aB)
  ·rcases h.alive b aR with ab|ab
   ·exact bm (.inr ab)
   ·omega⟩
def R.lE (id:Nat):R->Prop
 | .vec i=>i=id
 | .ptr i _=>i=id
 | .optr i _ _=>i=id
 | .oat i _ _=>i=id
 | .mp i=>i=id
 | .tail i _=>i=id
 |_=>False
def eQ (ρ:List Loc)(I:aD)(ρ':List Loc)(al:aD)(id:Nat):Prop:=
 ∀av,ρ[id]? =some av->ρ'[id]? =some av/\(ae.at al id).len=(ae.at I id).len/\(ae.at al id).cL=(ae.at I id).cL
theorem eJ.mono {Z Z':Nat->Prop}{w w':World}{ρ ρ':List Loc}{I al:aD}{t:R}{v:Value}(h:eJ Z w ρ I t v)
 (ao:∀x u,bB Z w x u->bB Z' w' x u) (ay:∀id,t.lE id->eQ ρ I ρ' al id):eJ Z' w' ρ' al t v:=by
 cases t<;>simp only[eJ]at h⊢<;>try exact h
 case d x=>exact ao _ _ h
 case vec id=>
  obtain⟨av,ab,ad⟩:=h;obtain⟨aY,bj,_⟩:=ay id rfl av ab;exact⟨av,aY,by rw[bj];exact ad⟩
 case ptr id off=>
  obtain⟨av,b,ab,ad⟩:=h;exact⟨av,b,(ay id rfl av ab).1,ad⟩
 case optr id i j=>
  obtain⟨av,b,ab,ad,aA,ba,bJ⟩:=h;obtain⟨aY,bj,bG⟩:=ay id rfl av ab;exact⟨av,b,aY,ad,aA,by rw[bG];exact ba,by rw[bj];exact bJ⟩
 case rptr x i j=>
  obtain⟨b,off,cap,ab,ad⟩:=h;exact⟨b,off,cap,ao _ _ ab,ad⟩
 case oat id i j=>
  obtain⟨av,b,ab,ad,aA,ba,bJ,cu,gO⟩:=h;obtain⟨aY,bj,bG⟩:=ay id rfl av ab;exact⟨av,b,aY,ad,aA,by rw[bG];exact ba,bJ,by rw[bj];exact cu,by rw[bG];exact gO⟩
 case rat x i j=>
  obtain⟨b,off,cap,ab,ad⟩:=h;exact⟨b,off,cap,ao _ _ ab,ad⟩
 case mp id=>
  obtain⟨av,b,ab,ad⟩:=h;exact⟨av,b,(ay id rfl av ab).1,ad⟩
 case tail id i=>
  obtain⟨av,b,ab,ad,aA,ba,bJ⟩:=h;obtain⟨aY,bj,bG⟩:=ay id rfl av ab;exact⟨av,b,aY,ad,aA,by rw[bj,bG];exact ba,by rw[bj];exact bJ⟩
def R.II (id:Nat):R->Prop
 | .agg l=>∃i,i<l.length/\(l.getD i .un).lE id
 |t=>t.lE id
def R.names (id:Nat):R->Prop
 | .tup l=>∃i,i<l.length/\(l.getD i .un).II id
 |t=>t.II id
theorem iv.mono {Z Z':Nat->Prop}{w w':World}{ρ ρ':List Loc}{I al:aD}{t:R}{v:Value}(h:iv Z w ρ I t v)
 (ao:∀x u,bB Z w x u->bB Z' w' x u) (ay:∀id,t.II id->eQ ρ I ρ' al id):iv Z' w' ρ' al t v:=by
 cases t
 case agg l=>
  obtain⟨a,ab,ad,aA⟩:=h;exact⟨a,ab,ad,fun i hi=>(aA i hi).mono ao fun id dM=>ay id ⟨i,hi,dM⟩⟩
 case rw n r=>
  obtain⟨a,ab,ad,ba,aA⟩:=h;exact⟨a,ab,ad,ba,fun i hi=>ao _ _ (aA i hi)⟩
 all_goals (unfold iv at h⊢;exact eJ.mono h ao fun id dM=>ay id dM)
theorem bH.mono {Z Z':Nat->Prop}{w w':World}{ρ ρ':List Loc}{I al:aD}{t:R}{v:Value}(h:bH Z w ρ I t v)
 (ao:∀x u,bB Z w x u->bB Z' w' x u) (ay:∀id,t.names id->eQ ρ I ρ' al id):bH Z' w' ρ' al t v:=by
 cases t
 case tup l=>
  obtain⟨a,ab,ad,aA⟩:=h;exact⟨a,ab,ad,fun i hi=>(aA i hi).mono ao fun id dM=>ay id ⟨i,hi,dM⟩⟩
 all_goals (unfold bH at h⊢;exact iv.mono h ao fun id dM=>ay id dM)
theorem iv.c7 {Z:Nat->Prop}{w:World}{ρ:List Loc}{I:aD}{t:R}{v:Value}(h:eJ Z w ρ I t v):iv Z w ρ I t v:=by
 cases t<;>first|exact h|exact h.elim
theorem bH.hn {Z:Nat->Prop}{w:World}{ρ:List Loc}{I:aD}{t:R}{v:Value}(h:iv Z w ρ I t v):bH Z w ρ I t v:=by
 cases t<;>first|exact h|exact h.elim
theorem bH.c7 {Z:Nat->Prop}{w:World}{ρ:List Loc}{I:aD}{t:R}{v:Value}(h:eJ Z w ρ I t v):bH Z w ρ I t v:= .hn (.c7 h)
structure cv (N:Nat->Prop)(ρ:List Loc)(I:aD)(w:World)(ρ':List Loc)(al:aD)(w':World):Prop extends Fr ρ I w ρ' al w' where
 rel:cw N ρ' al w'
 same:∀id,eQ ρ I ρ' al id
theorem eQ.refl (ρ:List Loc)(I:aD)(id:Nat):eQ ρ I ρ I id:=fun _ h=>⟨h,rfl,rfl⟩
theorem cv.refl {N:Nat->Prop}{ρ:List Loc}{I:aD}{w:World}(h:cw N ρ I w):cv N ρ I w ρ I w:=
 {Fr.refl ρ I w with rel:=h,same:=eQ.refl ρ I}
theorem cv.kd {N:Nat->Prop}{ρ ρ':List Loc}{I al:aD}{w w':World}(h:cv N ρ I w ρ' al w'){t:R}{v:Value}
 (aw:bH (aK N ρ I) w ρ I t v):bH (aK N ρ' al) w' ρ' al t v:=aw.mono (fun _ _=>h.toFr.reads) fun id _=>h.same id
structure ei (Z:Nat->Prop)(w:World)(ρ:List Loc)(I:aD)(tm:List R)(tmps:Array Value):Prop where
 size:tmps.size=tm.length
 at_:∀t,bH Z w ρ I (tm.getD t .un) (tmps.getD t undef)
theorem ei.step {N:Nat->Prop}{ρ ρ':List Loc}{I al:aD}{w w':World}(h:cv N ρ I w ρ' al w'){tm:List R}{tmps:Array Value}
 (aw:ei (aK N ρ I) w ρ I tm tmps):ei (aK N ρ' al) w' ρ' al tm tmps:=⟨aw.size,fun t=>h.kd (aw.at_ t)⟩
theorem bH.un {Z:Nat->Prop}{w:World}{ρ:List Loc}{I:aD}:bH Z w ρ I .un undef:=rfl
theorem wm (a:Array Value)(d i:Nat)(v:Value):(a.setIfInBounds d v).getD i undef=if d=i/\d<a.size then v else a.getD i undef:=by
 simp only[apH,arB]
 by_cases h:d=i
 ·subst h
  by_cases ax:d<a.size<;>simp[ax]
 ·simp[h]
theorem ei.put {Z:Nat->Prop}{w:World}{ρ:List Loc}{I:aD}{tm:List R}{a:Act}{t:R}{v:Value}(h:ei Z w ρ I tm a.tmps)(dst:Option Tmp)
 (aO:bH Z w ρ I t v):ei Z w ρ I (put tm dst t) (a.put dst v).tmps:=by
 cases dst with
 |none=>exact h
 |some d=>
  simp only[ak.put,eE,Act.put];refine⟨by simp[h.size],fun i=> ?_⟩;rw[eR,wm,h.size];split
  ·exact aO
  ·exact h.at_ i
end Go.ak
end
section
namespace Go.ak
theorem fQ (I:aD)(p:Bool×ae)(i:Nat):ae.at (I++[p]) i=if i=I.length then p.2 else ae.at I i:=by
 simp only[ae.at,dW,apA,ap7]
 by_cases h:i<I.length
 ·rw[apz h,apy (by omega)]
 ·rw[apy h]
  by_cases e:i=I.length
  ·rw[apz e];simp[e]
  ·rw[apy e,aqc (by simp;omega),aqc (by omega)]
theorem jJ (I:aD)(p:Bool×ae)(i:Nat):cz (I++[p]) i=if i=I.length then p.1 else cz I i:=by
 simp only[cz,dW,apA,ap7]
 by_cases h:i<I.length
 ·rw[apz h,apy (by omega)]
 ·rw[apy h]
  by_cases e:i=I.length
  ·rw[apz e];simp[e]
  ·rw[apy e,aqc (by simp;omega),aqc (by omega)]
theorem gG (I:aD)(id:Nat)(p:Bool×ae)(i:Nat):ae.at (I.set id p) i=if id=i/\id<I.length then p.2 else ae.at I i:=by
 simp only[ae.at,dW,eR];split<;>rfl
theorem h9 (I:aD)(id:Nat)(p:Bool×ae)(i:Nat):cz (I.set id p) i=if id=i/\id<I.length then p.1 else cz I i:=by
 simp only[cz,dW,eR];split<;>rfl
theorem IJ (I:aD)(i:Nat)(h:I.length<=i):cz I i=true:=by simp[cz,dW,apA,aqc h]
theorem cw.j0 {N:Nat->Prop}{ρ:List Loc}{I:aD}{w:World}(h:cw N ρ I w){i:Nat}{av:Loc}(hi:ρ[i]? =some av):i<I.length:=by
 rw[<-h.len];exact(aqp.1 hi).1
structure aov (ex:Nat->Prop)(N:Nat->Prop)(ρ:List Loc)(I:aD)(w:World)(ρ':List Loc)(al:aD)(w':World):Prop extends Fr ρ I w ρ' al w' where
 rel:cw N ρ' al w'
 same:∀id,¬ex id->eQ ρ I ρ' al id
theorem hS.mono {Z Z':Nat->Prop}{w w':World}{ρ ρ':List Loc}{I al:aD}{av:Loc}{o:ae}(h:hS Z w ρ I av o)
 (ah:∀b,av.bs=some b->w'.heap[b]? =w.heap[b]?) (ao:∀x u,bB Z w x u->bB Z' w' x u)
 (ay:∀l,o= .cells l->∀k id,k<l.length->(l.getD k .un).lE id->eQ ρ I ρ' al id):hS Z' w' ρ' al av o:=by
 cases o with
 |gone=>trivial
 |dead n an=>trivial
 |map tP an l=>
  obtain⟨b,es,c,ab,ad,aA,ba,cu,bJ⟩:=h;refine⟨b,es,c,ab,by rw[ah b ab];exact ad,aA,ba,cu,fun i hi=> ?_⟩;obtain⟨e,aY,bj,eK,bG,di⟩:=bJ i hi;exact⟨e,aY,bj,eK,bG.mono ao,di.mono ao⟩
 |cells l=>
  obtain⟨b,aH,e,ab,ad,aA,ba,bJ⟩:=h;exact⟨b,aH,e,ab,ad,by rw[ah b ad];exact aA,ba,fun i hi=>(bJ i hi).mono ao (fun id aB=>ay l rfl i id hi aB)⟩
 |af k l=>
  rcases h with h|⟨b,aH,e,ab,ad,aA,ba⟩
  ·exact .inl h
  ·exact .inr ⟨b,aH,e,ab,ad,by rw[ah b ad];exact aA,ba⟩
 |ar an l=>
  rcases h with h|⟨b,aH,e,ab,ad,aA,ba,bJ,gO,cu⟩
  ·exact .inl h
  ·refine .inr ⟨b,aH,e,ab,ad,by rw[ah b ad];exact aA,ba,bJ,gO,fun i j hi aI=> ?_⟩;obtain⟨v,aO,qD⟩:=cu i j hi aI;exact⟨v,aO,ao _ _ qD⟩
theorem cw.z1 {N:Nat->Prop}{ρ ρ':List Loc}{I al:aD}{w w':World}(h:cw N ρ I w)(aU:Fr ρ I w ρ' al w')(hlen:ρ'.length=al.length)
 (ay:∀i l,ae.at I i= .cells l->∀k id,k<l.length->(l.getD k .un).lE id->eQ ρ I ρ' al id)
 (hi:∀i av,ρ'[i]? =some av->
   (ρ[i]? =some av/\ae.at al i=ae.at I i/\(cz al i=false->cz I i=false)/\(¬hx I i->∀b,av.bs=some b->w'.heap[b]? =w.heap[b]?))\/
   ((∀b,av.bs=some b->b<w'.heap.size/\¬N b/\∀j cA,ρ'[j]? =some cA->cA.bs=some b->¬hx al j->j=i)/\
     hS (aK N ρ' al) w' ρ' al av (ae.at al i))):cw N ρ' al w' where
 len:=hlen
 e3:=fun b ah=>apW (h.e3 b ah) aU.size
 lt:=fun i av b ab ad=>by
  rcases hi i av ab with⟨aY,_⟩|⟨k,_⟩
  ·exact apW (h.lt i av b aY ad) aU.size
  ·exact(k b ad).1
 inj:=fun i j li cA b ab ad aA ba s1 s2=>by
  have back:∀i,ae.at al i=ae.at I i->(cz al i=false->cz I i=false)->¬hx al i->¬hx I i:=fun i az aJ s ⟨f,n,an,e⟩=>by
   refine s ⟨?_,n,an,by rw[az];exact e⟩
   cases aj:cz al i with
   |true=>rfl
   |false=>rw[aJ aj]at f;cases f
  rcases hi i li ab with⟨aY,bj,bG,_⟩|⟨k,_⟩
  ·rcases hi j cA ad with⟨q1,cG,cV,_⟩|⟨cD,_⟩
   ·exact h.inj i j li cA b aY q1 aA ba (back i bj bG s1) (back j cG cV s2)
   ·exact(cD b ba).2.2 i li ab aA s1
  ·exact((k b aA).2.2 j cA ad ba s2).symm
 fz:=fun i av b ab ad=>by
  rcases hi i av ab with⟨aY,_⟩|⟨k,_⟩
  ·exact h.fz i av b aY ad
  ·exact(k b ad).2.1
 ob:=fun i av ab=>by
  rcases hi i av ab with⟨aY,bj,_,di⟩|⟨_,k⟩
  ·rw[bj]
   by_cases s:hx I i
   ·obtain⟨_,n,an,e⟩:=s;rw[e];trivial
   ·exact(h.ob i av aY).mono (di s) (fun _ _=>aU.reads) (fun l ax k id ag aB=>ay i l ax k id ag aB)
  ·exact k
theorem cw.tp {N:Nat->Prop}{ρ ρ':List Loc}{I al:aD}{w w':World}(h:cw N ρ I w)(aU:Fr ρ I w ρ' al w')(hlen:ρ'.length=al.length)
 (ay:∀i l,ae.at I i= .cells l->∀k id,k<l.length->(l.getD k .un).lE id->eQ ρ I ρ' al id)
 (hi:∀i av,ρ'[i]? =some av->
   (ρ[i]? =some av/\ae.at al i=ae.at I i/\(cz al i=false->cz I i=false)/\∀b,av.bs=some b->w'.heap[b]? =w.heap[b]?)\/
   ((∀b,av.bs=some b->b<w'.heap.size/\¬N b/\∀j cA,ρ'[j]? =some cA->cA.bs=some b->¬hx al j->j=i)/\
     hS (aK N ρ' al) w' ρ' al av (ae.at al i))):cw N ρ' al w':=
 h.z1 aU hlen ay fun i av ax=>(hi i av ax).imp (fun⟨aY,bj,bG,di⟩=>⟨aY,bj,bG,fun _=>di⟩) id
theorem cv.alloc {N:Nat->Prop}{ρ:List Loc}{I:aD}{w:World}(h:cw N ρ I w)(f:Bool)(ob:ae)(obj:Obj)(cap:Nat)
 (aF:hS (aK N (ρ++[⟨some ⟨w.heap.size,0,none⟩,cap,some w.heap.size⟩]) (I++[(f,ob)])) (w.alloc obj)
   (ρ++[⟨some ⟨w.heap.size,0,none⟩,cap,some w.heap.size⟩]) (I++[(f,ob)]) ⟨some ⟨w.heap.size,0,none⟩,cap,some w.heap.size⟩ ob):
 cv N ρ I w (ρ++[⟨some ⟨w.heap.size,0,none⟩,cap,some w.heap.size⟩]) (I++[(f,ob)]) (w.alloc obj):=by
 have cy:Fr ρ I w (ρ++[⟨some ⟨w.heap.size,0,none⟩,cap,some w.heap.size⟩]) (I++[(f,ob)]) (w.alloc obj):=by
  refine⟨rfl,rfl,rfl,by simp,fun b ah _=>heap_alloc_old w obj b ah,fun b ⟨i,av,ab,ad,aA⟩=> ?_⟩;rw[ap7]at ab
  by_cases hi:i<ρ.length
  ·rw[apz hi]at ab;rw[jJ,apy (by rw[<-h.len];omega)]at aA;exact .inl ⟨i,av,ab,ad,aA⟩
  ·rw[apy hi]at ab
   cases a_:i-ρ.length with
   |zero=>simp[a_]at ab;subst ab;simp at ad;exact .inr (by omega)
   |succ n=>simp[a_]at ab
 have e1:∀id,eQ ρ I (ρ++[⟨some ⟨w.heap.size,0,none⟩,cap,some w.heap.size⟩]) (I++[(f,ob)]) id:=fun id av ax=>by
  have:=h.j0 ax;refine⟨by rw[aqr (by rw[h.len];exact this)];exact ax, ?_⟩;rw[fQ,apy (by omega)];exact⟨rfl,rfl⟩
 refine{cy with rel:=h.tp cy (by simp[h.len]) (fun _ _ _ _ id _ _=>e1 id) (fun i av ax=> ?_),same:=e1};rw[ap7]at ax
 by_cases hi:i<ρ.length
 ·rw[apz hi]at ax;refine .inl ⟨ax,by rw[fQ,apy (by rw[<-h.len];omega)],fun aj=>by rwa [jJ,apy (by rw[<-h.len];omega)]at aj,fun b ah=> ?_⟩;exact heap_alloc_old w obj b (h.lt i av b ax ah)
 ·rw[apy hi]at ax
  cases a_:i-ρ.length with
  |succ n=>simp[a_]at ax
  |zero=>
   simp[a_]at ax;subst ax;have eY:i=I.length:=by rw[<-h.len];omega
   refine .inr ⟨fun b ah=> ?_,by rw[eY,fQ,apz rfl];exact aF⟩;simp at ah;subst ah;refine⟨by simp,fun aB=>absurd (h.e3 _ aB) (by omega),fun j cA aI ah _=> ?_⟩;rw[ap7]at aI
   by_cases iR:j<ρ.length
   ·rw[apz iR]at aI;have:=h.lt j cA _ aI ah;omega
   ·rw[apy iR]at aI
    cases iS:j-ρ.length with
    |zero=>omega
    |succ n=>simp[iS]at aI
theorem cv.Sk {N:Nat->Prop}{ρ:List Loc}{I:aD}{w:World}(h:cw N ρ I w)(id:Nat)(av:Loc)(b:Nat)(dM:ρ[id]? =some av)(ah:av.bs=some b)
 (aU:cz I id=false) (ob:ae) (ax:ob.len=(ae.at I id).len) (he:ob.cL=(ae.at I id).cL) (w':World) (ab:w'.os=w.os) (ad:w'.tape=w.tape) (aA:w'.output=w.output) (cx:w'.heap.size=w.heap.size) (mc:∀x,x≠b->w'.heap[x]? =w.heap[x]?)
 (aF:hS (aK N ρ (I.set id (false,ob))) w' ρ (I.set id (false,ob)) av ob):
 cv N ρ I w ρ (I.set id (false,ob)) w':=by
 have bL:=h.j0 dM
 have iw:∀x,gi ρ (I.set id (false,ob)) x->gi ρ I x:=fun x ⟨i,l,ab,ad,aA⟩=>by
  rw[h9]at aA
  by_cases e:id=i
  ·subst e;exact⟨id,l,ab,ad,aU⟩
  ·rw[apy (by simp[e])]at aA;exact⟨i,l,ab,ad,aA⟩
 have cy:Fr ρ I w ρ (I.set id (false,ob)) w':=by
  refine⟨ab,ad,aA,by omega,fun x aj aR=> ?_,fun x aj=> .inl (iw x aj)⟩;exact mc x fun e=>aR ⟨id,av,dM,e▸ah,aU⟩
 have e1:∀i,eQ ρ I ρ (I.set id (false,ob)) i:=fun i l iT=>by
  refine⟨iT, ?_⟩;rw[gG]
  by_cases e:id=i
  ·subst e;rw[apz ⟨rfl,bL⟩];exact⟨ax,he⟩
  ·rw[apy (by simp[e])];exact⟨rfl,rfl⟩
 refine{cy with rel:=h.z1 cy (by simp[h.len]) (fun _ _ _ _ i _ _=>e1 i) (fun i l iT=> ?_),same:=e1}
 by_cases e:id=i
 ·subst e;rw[dM]at iT;obtain rfl:=apK iT;refine .inr ⟨fun x aj=>⟨by rw[cx];exact h.lt id av x dM aj,h.fz id av x dM aj,fun j cA aI tq ka=> ?_⟩, ?_⟩
  ·by_cases e:id=j
   ·exact e.symm
   ·refine h.inj j id cA av x aI dM tq aj (fun⟨s1,n,an,s2⟩=>ka ⟨by rw[h9,apy (by simp[e])];exact s1,n,an,by rw[gG,apy (by simp[e])];exact s2⟩) (lu aU)
  ·rw[gG,apz ⟨rfl,bL⟩];exact aF
 ·refine .inl ⟨iT,by rw[gG,apy (by simp[e])],fun aj=>by rwa [h9,apy (by simp[e])]at aj,fun jA x aj=> ?_⟩;exact mc x fun ajH=>e (h.inj id i av l b dM iT ah (ajH▸aj) (lu aU) jA)
theorem cv.write {N:Nat->Prop}{ρ:List Loc}{I:aD}{w:World}(h:cw N ρ I w)(id:Nat)(av:Loc)(b:Nat)(dM:ρ[id]? =some av)(ah:av.bs=some b)
 (aU:cz I id=false) (ob:ae) (ax:ob.len=(ae.at I id).len) (he:ob.cL=(ae.at I id).cL) (cs:Array Value)
 (aF:hS (aK N ρ (I.set id (false,ob))) (w.setRow b cs) ρ (I.set id (false,ob)) av ob):
 cv N ρ I w ρ (I.set id (false,ob)) (w.setRow b cs):=
 cv.Sk h id av b dM ah aU ob ax he _ rfl rfl rfl (by simp) (fun x aj=>setRow_other w b x cs aj) aF
theorem cv.shut {N:Nat->Prop}{ρ:List Loc}{I:aD}{w:World}(h:cw N ρ I w)(id:Nat):cv N ρ I w ρ (I.set id (true,ae.at I id)) w:=by
 have iw:∀x,gi ρ (I.set id (true,ae.at I id)) x->gi ρ I x:=fun x ⟨i,l,ab,ad,aA⟩=>by
  rw[h9]at aA
  by_cases e:id=i/\id<I.length
  ·rw[apz e]at aA;cases aA
  ·rw[apy e]at aA;exact⟨i,l,ab,ad,aA⟩
 have cy:Fr ρ I w ρ (I.set id (true,ae.at I id)) w:=⟨rfl,rfl,rfl,apF _,fun _ _ _=>rfl,fun x aj=> .inl (iw x aj)⟩
 have cR:∀i,ae.at (I.set id (true,ae.at I id)) i=ae.at I i:=fun i=>by
  rw[gG];split
  ·rename_i e;rw[e.1]
  ·rfl
 have e1:∀i,eQ ρ I ρ (I.set id (true,ae.at I id)) i:=fun i l iT=>⟨iT,by rw[cR];exact⟨rfl,rfl⟩⟩
 refine{cy with rel:=h.tp cy (by simp[h.len]) (fun _ _ _ _ i _ _=>e1 i) (fun i l iT=> ?_),same:=e1};refine .inl ⟨iT,cR i,fun aj=> ?_,fun _ _=>rfl⟩;rw[h9]at aj;split at aj
 ·cases aj
 ·exact aj
theorem cv.drew {N:Nat->Prop}{ρ:List Loc}{I:aD}{w w':World}(h:cw N ρ I w)(b5:w'.heap=w.heap)(ab:w'.os=w.os)(ad:w'.tape=w.tape)(aA:w'.output=w.output):
 cv N ρ I w ρ I w':=by
 have cy:Fr ρ I w ρ I w':=⟨ab,ad,aA,by rw[b5];exact apF _,fun _ _ _=>by rw[b5],fun x aj=> .inl aj⟩;refine{cy with rel:=h.tp cy h.len (fun _ _ _ _ i _ _=>eQ.refl ρ I i) (fun i l iT=> .inl ⟨iT,rfl,id,fun _ _=>by rw[b5]⟩),same:=eQ.refl ρ I}
theorem cv.trans {N:Nat->Prop}{ρ eo dF:List Loc}{I cO kT:aD}{w w1 dd:World}(h:cv N ρ I w eo cO w1)(k:cv N eo cO w1 dF kT dd):cv N ρ I w dF kT dd:=
 {h.toFr.trans k.toFr with
  rel:=k.rel
  same:=fun id av ax=>by
   obtain⟨a,b,c⟩:=h.same id av ax;obtain⟨cf,fh,Gj⟩:=k.same id av a
   exact⟨cf,fh.trans b,Gj.trans c⟩}
theorem Yt (id:Nat)(t:R):fE id t= .any\/(fE id t=t/\¬t.lE id):=by
 cases t with
 |vec j=>
  by_cases e:j=id
  ·subst e;exact .inl (by simp[fE])
  ·have aI:Nat.beq j id=false:=by
    cases ah:Nat.beq j id with
    |false=>rfl
    |true=>exact absurd (apC ah) e
   exact .inr ⟨by simp[fE,aI],e⟩
 |ptr j x=>
  by_cases e:j=id
  ·subst e;exact .inl (by simp[fE])
  ·have aI:Nat.beq j id=false:=by
    cases ah:Nat.beq j id with
    |false=>rfl
    |true=>exact absurd (apC ah) e
   exact .inr ⟨by simp[fE,aI],e⟩
 |optr j x y=>
  by_cases e:j=id
  ·subst e;exact .inl (by simp[fE])
  ·have aI:Nat.beq j id=false:=by
    cases ah:Nat.beq j id with
    |false=>rfl
    |true=>exact absurd (apC ah) e
   exact .inr ⟨by simp[fE,aI],e⟩
 |oat j x y=>
  by_cases e:j=id
  ·subst e;exact .inl (by simp[fE])
  ·have aI:Nat.beq j id=false:=by
    cases ah:Nat.beq j id with
    |false=>rfl
    |true=>exact absurd (apC ah) e
   exact .inr ⟨by simp[fE,aI],e⟩
 |mp j=>
  by_cases e:j=id
  ·subst e;exact .inl (by simp[fE])
  ·have aI:Nat.beq j id=false:=by
    cases ah:Nat.beq j id with
    |false=>rfl
    |true=>exact absurd (apC ah) e
   exact .inr ⟨by simp[fE,aI],e⟩
 |tail j x=>
  by_cases e:j=id
  ·subst e;exact .inl (by simp[fE])
  ·have aI:Nat.beq j id=false:=by
    cases ah:Nat.beq j id with
    |false=>rfl
    |true=>exact absurd (apC ah) e
   exact .inr ⟨by simp[fE,aI],e⟩
 |_=>exact .inr ⟨rfl,fun h=>h⟩
theorem eJ.kill {Z Z':Nat->Prop}{w w':World}{ρ ρ':List Loc}{I al:aD}{t:R}{v:Value}(id:Nat)(h:eJ Z w ρ I t v)
 (ao:∀x u,bB Z w x u->bB Z' w' x u) (ay:∀i,i≠id->eQ ρ I ρ' al i):eJ Z' w' ρ' al (fE id t) v:=by
 rcases Yt id t with e|⟨e,aB⟩
 ·rw[e];trivial
 ·rw[e];exact h.mono ao fun i hi=>ay i fun dM=>aB (dM▸hi)
theorem XS {Z:Nat->Prop}{w:World}{ρ:List Loc}{I:aD}{v:Value}(t:R)(ab:∀l,t≠ .agg l)(ad:∀l,t≠ .tup l)(aA:∀n r,t≠ .rw n r):
 bH Z w ρ I t v=eJ Z w ρ I t v:=by
 cases t with
 |agg l=>exact absurd rfl (ab l)
 |rw n r=>exact absurd rfl (aA n r)
 |tup l=>exact absurd rfl (ad l)
 |_=>rfl
theorem bH.kill {Z Z':Nat->Prop}{w w':World}{ρ ρ':List Loc}{I al:aD}{t:R}{v:Value}(id:Nat)(h:bH Z w ρ I t v)
 (ao:∀x u,bB Z w x u->bB Z' w' x u) (ay:∀i,i≠id->eQ ρ I ρ' al i):bH Z' w' ρ' al (et id t) v:=by
 cases t with
 |agg l=>
  obtain⟨a,ab,ad,aA⟩:=h;refine⟨a,ab,by rw[dP,apI];exact ad,fun i hi=> ?_⟩;rw[dP]at hi⊢;simp only[apI]at hi;have:=(aA i hi).kill id ao ay;simpa[apA,hi]using this
 |tup l=>trivial
 |rw n r=>
  obtain⟨a,az,aJ,cW,bX⟩:=h;exact⟨a,az,aJ,cW,fun i hi=>ao _ _ (bX i hi)⟩
 |_=>rw[XS _ (by simp) (by simp) (by simp)]at h;exact .c7 (eJ.kill id h ao ay)
theorem aci (id:Nat)(o:ae):(o.kill id).len=o.len/\(o.kill id).cL=o.cL:=by
 cases o<;>simp[ae.kill,ae.len,ae.cL,dP]
theorem Im (id:Nat)(I:aD)(i:Nat):ae.at (gF id I) i=(ae.at I i).kill id:=by
 simp only[ae.at,gF,dP,dW,apA,aqv];cases I[i]? <;>rfl
theorem adU (id:Nat)(I:aD)(i:Nat):cz (gF id I) i=cz I i:=by
 simp only[cz,gF,dP,dW,apA,aqv];cases I[i]? <;>rfl
theorem acj (id:Nat)(I:aD):(gF id I).length=I.length:=by simp[gF,dP]
theorem HT {N:Nat->Prop}{ρ:List Loc}{I:aD}{w w':World}(h:cw N ρ I w)(id:Nat)(jf:Loc)(dM:id<I.length)(ob:ae)(ag:ob.kill id=ob)
 (aU:cz I id=false)
 (ab:w'.os=w.os) (ad:w'.tape=w.tape) (aA:w'.output=w.output) (cx:w.heap.size<=w'.heap.size)
 (pa:∀b,b<w.heap.size->(∀av,ρ[id]? =some av->av.bs≠some b)->w'.heap[b]? =w.heap[b]?)
 (iO:∀b,jf.bs=some b->b<w'.heap.size/\¬N b/\(w.heap.size<=b\/∃av,ρ[id]? =some av/\av.bs=some b))
 (aF:∀Z iP fK,(∀b,b<w.heap.size->¬aK N ρ I b->¬Z b)->hS Z w' iP fK jf ob):
 let al:=gF id (I.set id (false,ob))
 cw N (ρ.set id jf) al w'/\Fr ρ I w (ρ.set id jf) al w'/\∀i,i≠id->eQ ρ I (ρ.set id jf) al i:=by
 intro al;have hlen:id<ρ.length:=by rw[h.len];exact dM
 have cR:∀i,ae.at al i=if i=id then ob else(ae.at I i).kill id:=fun i=>by
  show ae.at (gF id (I.set id (false,ob))) i=_;rw[Im,gG]
  by_cases e:i=id
  ·subst e;rw[apz ⟨rfl,dM⟩,apz rfl];exact ag
  ·rw[apy (fun x=>e x.1.symm),apy e]
 have ep:∀i,cz al i=cz I i:=fun i=>by
  show cz (gF id (I.set id (false,ob))) i=_;rw[adU,h9];split
  ·rename_i e;rw[<-e.1];exact aU.symm
  ·rfl
 have iw:∀x,gi (ρ.set id jf) al x->gi ρ I x\/w.heap.size<=x:=fun x ⟨i,l,aY,bj,bG⟩=>by
  rw[aqk]at aY
  by_cases e:id=i
  ·rw[apz e,apz hlen]at aY;obtain rfl:=apK aY;rcases(iO x bj).2.2 with b5|⟨av,ax,ah⟩
   ·exact .inr b5
   ·exact .inl ⟨id,av,ax,ah,aU⟩
  ·rw[apy e]at aY;exact .inl ⟨i,l,aY,bj,by rw[<-ep];exact bG⟩
 have cy:Fr ρ I w (ρ.set id jf) al w':=
  ⟨ab,ad,aA,cx,fun b ah aR=>pa b ah fun av ax aj=>aR ⟨id,av,ax,aj,aU⟩,iw⟩
 have e1:∀i,i≠id->eQ ρ I (ρ.set id jf) al i:=fun i hi av ax=>by
  refine⟨by rw[aqk,apy (aql hi)];exact ax, ?_⟩;rw[cR,apy hi];exact aci id _
 refine⟨?_,cy,e1⟩;refine{len:=by simp[al,acj,h.len],e3:=fun b ah=>apW (h.e3 b ah) cx,lt:= ?_,inj:= ?_,fz:= ?_,ob:= ?_}
 ·intro i av b ax ah;rw[aqk]at ax
  by_cases e:id=i
  ·rw[apz e,apz hlen]at ax;obtain rfl:=apK ax;exact(iO b ah).1
  ·rw[apy e]at ax;exact apW (h.lt i av b ax ah) cx
 ·have back:∀i,id≠i->¬hx al i->¬hx I i:=fun i e s ⟨s1,n,an,s2⟩=>s ⟨by rw[ep];exact s1,n,an,by rw[cR,apy (aql e),s2];rfl⟩
  have key:∀j cA b,id≠j->ρ[j]? =some cA->cA.bs=some b->jf.bs=some b->¬hx al j->False:=fun j cA b e aI ah ho ka=>by
   rcases(iO b ho).2.2 with b5|⟨av,ax,aj⟩
   ·have:=h.lt j cA b aI ah;omega
   ·exact e (h.inj id j av cA b ax aI aj ah (lu aU) (back j e ka))
  intro i j li cA b hi aI nb nc jA ka;rw[aqk]at hi aI
  by_cases e:id=i
  ·by_cases cg:id=j
   ·rw[<-e,<-cg]
   ·rw[apz e,apz hlen]at hi;rw[apy cg]at aI;obtain rfl:=apK hi;exact(key j cA b cg aI nc nb ka).elim
  ·rw[apy e]at hi
   by_cases cg:id=j
   ·rw[apz cg,apz hlen]at aI;obtain rfl:=apK aI;exact(key i li b e hi nb nc jA).elim
   ·rw[apy cg]at aI;exact h.inj i j li cA b hi aI nb nc (back i e jA) (back j cg ka)
 ·intro i av b ax ah;rw[aqk]at ax
  by_cases e:id=i
  ·rw[apz e,apz hlen]at ax;obtain rfl:=apK ax;exact(iO b ah).2.1
  ·rw[apy e]at ax;exact h.fz i av b ax ah
 ·intro i av ax;rw[aqk]at ax
  by_cases e:id=i
  ·rw[apz e,apz hlen]at ax;obtain rfl:=apK ax;rw[cR,apz e.symm];refine aF _ _ _ fun b ah bm db=> ?_;rcases db with aB|aR
   ·exact bm (.inl aB)
   ·rcases iw b aR with b5|b5
    ·exact bm (.inr b5)
    ·omega
  ·rw[apy e]at ax;rw[cR,apy (aql e)];have ck:=h.ob i av ax
   by_cases jA:hx I i
   ·obtain⟨_,n,an,s2⟩:=jA;rw[s2];trivial
   have J7:∀b,av.bs=some b->w'.heap[b]? =w.heap[b]? :=fun b ah=>
    pa b (h.lt i av b ax ah) fun l iT aj=>e (h.inj id i l av b iT ax aj ah (lu aU) jA)
   cases hM:ae.at I i with
   |cells l=>
    rw[hM]at ck;obtain⟨b,aH,Gk,aY,bj,bG,di,eK⟩:=ck;refine⟨b,aH,Gk,aY,bj,by rw[J7 b bj];exact bG,by rw[dP,apI];exact di,fun k tr=> ?_⟩;rw[dP]at tr⊢;simp only[apI]at tr;have:=(eK k tr).kill id (fun _ _=>cy.reads (N:=N)) e1;simpa[apA,tr]using this
   |_=>
    rw[hM]at ck;exact ck.mono J7 (fun _ _=>cy.reads) (fun l ax=>by cases ax)
end Go.ak
end
section
namespace Go.ak
section
variable {P:Program} {N:Nat->Prop} {ρ:List Loc} {I:aD} {w:World}
def Good (P:Program)(N:Nat->Prop)(ρ:List Loc)(I:aD)(w:World)(s:Sem Next)(v:R)(al:aD):Prop:=
 ∃oJ w' ρ' u,s.run P w= .ok oJ w'/\(oJ= .value u\/(oJ= .skip/\u=undef))/\cv N ρ I w ρ' al w'/\bH (aK N ρ' al) w' ρ' al v u
theorem Good.ae9 (h:cw N ρ I w){s:Sem Value}{u:Value}{v:R}(ay:s.run P w= .ok u w)(aO:bH (aK N ρ I) w ρ I v u):
 Good P N ρ I w (do pure (.value (<-s))) v I:=
 ⟨.value u,w,ρ,u,by simp[ay], .inl rfl,cv.refl h,aO⟩
theorem Good.zw (h:cw N ρ I w){u:Value}{v:R}(aO:bH (aK N ρ I) w ρ I v u):
 Good P N ρ I w (pure (.value u)) v I:=⟨.value u,w,ρ,u,rfl, .inl rfl,cv.refl h,aO⟩
theorem ack (Z:Nat->Prop)(v:Value):bH Z w ρ I (tQ v) v:=by
 have bc:∀v:Value,eJ Z w ρ I (pk v) v:=by
  intro v;unfold pk;split
  ·exact .int _ _
  ·rfl
  ·rfl
  ·exact .str _ _ (by rw[dP];rfl)
  ·exact⟨none,rfl⟩
  ·rfl
  ·trivial
 cases v with
 |agg cs=>
  refine .hn ⟨cs,rfl,by simp[dP],fun i hi=> ?_⟩;simp only[dP,aqD,apI]at hi⊢
  have:(cs.toList.map pk).getD i .un=pk (cs.getD i undef):=by
   simp[apA,apH,hi]
  rw[this];exact bc _
 |_=>unfold tQ;exact .c7 (bc _)
theorem ey {tm:List R}{a:Act}(h:ei (aK N ρ I) w ρ I tm a.tmps)(x:Operand):bH (aK N ρ I) w ρ I (aN tm x) (a.eval x):=by
 cases x with
 |tmp t=>rw[aN,dW];exact h.at_ t
 |const v=>exact ack _ v
 |global g=>exact .c7 trivial
 |func f=>exact .c7 rfl
theorem jD {a b:IntKind}:jH a b=true↔a=b:=by cases a<;>cases b<;>simp[jH]
theorem jb {Z:Nat->Prop}{k:IntKind}{n:Int}{u:Value}(h:bH Z w ρ I (.d (.int k n)) u):u= .int k n:=by
 have h:bB Z w (.int k n) u:=h;cases h;rfl
theorem mM {Z:Nat->Prop}{b:Bool}{u:Value}(h:bH Z w ρ I (.d (.bool b)) u):u= .bool b:=by
 have h:bB Z w (.bool b) u:=h;cases h;rfl
theorem uq {Z:Nat->Prop}{l:List Int}{u:Value}(h:bH Z w ρ I (.d (.str l)) u):∃s:ByteArray,u= .string s/\l=s.data.toList.map fun b=>(b.toNat:Int):=by
 have h:bB Z w (.str l) u:=h
 cases h with
 |str s _ lb=>exact⟨s,rfl,lb⟩
theorem oW {Z:Nat->Prop}(k:IntKind)(n:Int):bH Z w ρ I (.d (.int k n)) (.int k n):= .c7 (bB.int k n)
theorem jY {Z:Nat->Prop}(b:Bool):bH Z w ρ I (.d (.bool b)) (.bool b):= .c7 (bB.bool b)
theorem P1 {dC:Operand}{b:Int}{tm:List R}{k:IntKind}(ah:aN tm dC= .d (.int k b))(h:∀p∈Ep dC b,p):b≠0:=by
 unfold Ep at h;split at h
 ·rename_i cD n;simp[aN,tQ,pk]at ah;rw[<-ah.2];intro b5;omega
 ·exact h _ (by simp)
theorem Oh {dC:Operand}{b:Int}{tm:List R}{k:IntKind}(ah:aN tm dC= .d (.int k b))(h:∀p∈C5 dC b,p):0<=b:=by
 unfold C5 at h;split at h
 ·rename_i cD n;simp[aN,tQ,pk]at ah;rw[<-ah.2]
  cases n with
  |ofNat m=>exact aqw m
  |negSucc m=>exact(h False (by simp[isNeg])).elim
 ·exact h _ (by simp)
theorem Zf {op:BinOp}{dC:Operand}{k:IntKind}{a b:Int}{cq:List Prop}{v:R}{al:aD}{tm:List R}
 (Uo:aN tm dC= .d (.int k b)) (h:oc op dC k a b I= .a8 cq v al) (ay:∀p∈cq,p):
 ∃u,al=I/\(binOp op 0 (.int k a) (.int k b)).run P w= .ok u w/\bH (aK N ρ I) w ρ I v u:=by
 have ag:∀n,bH (aK N ρ I) w ρ I (.d (.int k n)) (.int k n):=oW k
 cases op<;>simp only[oc,bT.a8.injEq,reduceCtorEq]at h<;>obtain⟨rfl,rfl,rfl⟩:=h
 case quo=>exact⟨_,rfl,by simp[binOp,Op.intDiv,P1 Uo ay],ag _⟩
 case rem=>exact⟨_,rfl,by simp[binOp,Op.intDiv,P1 Uo ay],ag _⟩
 case eql=>exact⟨_,rfl,by simp[binOp,Op.intCmp];rfl,by rw[show(a==b)=decide (a=b)from rfl];exact jY _⟩
 case neq=>exact⟨_,rfl,by simp[binOp,Op.intCmp];rfl,by rw[show(a !=b)= !decide (a=b)from rfl];exact jY _⟩
 case lss=>exact⟨_,rfl,by simp[binOp,Op.intCmp],jY _⟩
 case leq=>exact⟨_,rfl,by simp[binOp,Op.intCmp],jY _⟩
 case gtr=>exact⟨_,rfl,by simp[binOp,Op.intCmp],jY _⟩
 case geq=>exact⟨_,rfl,by simp[binOp,Op.intCmp],jY _⟩
 case add=>exact⟨_,rfl,by simp[binOp,Op.intArith],ag _⟩
 case sub=>exact⟨_,rfl,by simp[binOp,Op.intArith],ag _⟩
 case mul=>exact⟨_,rfl,by simp[binOp,Op.intArith],ag _⟩
 case and=>exact⟨_,rfl,by simp only[binOp,Op.intBits,ne_eq,not_true_eq_false,if_false];rfl,ag _⟩
 case or=>exact⟨_,rfl,by simp only[binOp,Op.intBits,ne_eq,not_true_eq_false,if_false];rfl,ag _⟩
 case xor=>exact⟨_,rfl,by simp only[binOp,Op.intBits,ne_eq,not_true_eq_false,if_false];rfl,ag _⟩
 case andNot=>exact⟨_,rfl,by simp only[binOp,Op.intBits,ne_eq,not_true_eq_false,if_false];rfl,ag _⟩
theorem so (op:BinOp)(t:TypeId)(x y:Operand)(a b:Value)(ab:a≠ .nilIface)(ad:∀c,a≠ .agg c):(eqGuard op t x y a b).run P w= .ok () w:=by
 cases op<;>first|rfl|(cases a<;>first|exact absurd rfl ab|exact absurd rfl (ad _)|rfl)
theorem q2 {t:TypeId}{i:b7}(hi:c5 P t i=true)(h:iH i.ty=true):∃e,P.underlying t=some (.slice e):=by
 unfold c5 at hi;split at hi<;>simp_all [iH]
theorem Oi {t:TypeId}{i:b7}(hi:c5 P t i=true)(h:i.ty= .aG .bool):P.underlying t=some .bool:=by
 unfold c5 at hi;rw[h]at hi;split at hi<;>simp_all
theorem sx {t:TypeId}{i:b7}(hi:c5 P t i=true)(h:i.ty= .aG .str):P.underlying t=some .string:=by
 unfold c5 at hi;rw[h]at hi;split at hi<;>simp_all
theorem Yu {op:BinOp}{t:TypeId}{i:b7}(hi:c5 P t i=true){a b:Bool}{cq:List Prop}{v:R}{al:aD}
 (h:jF op i.ty a b I= .a8 cq v al):
 ∃u,al=I/\(binOp op t (.bool a) (.bool b)).run P w= .ok u w/\bH (aK N ρ I) w ρ I v u:=by
 unfold jF at h;split at h<;>simp only[bT.a8.injEq,reduceCtorEq]at h<;>obtain⟨rfl,rfl,rfl⟩:=h
 ·rename_i e;have hu:=Oi hi e;refine⟨.bool (a==b),rfl, ?_,jY _⟩;simp only[binOp,Sem.run_bind,run_equal_bool w t a b hu,Result.andThen_ok,Sem.run_pure]
 ·rename_i e;have hu:=Oi hi e;refine⟨.bool (!(a==b)),rfl, ?_,jY _⟩;simp only[binOp,Sem.run_bind,run_equal_bool w t a b hu,Result.andThen_ok,Sem.run_pure]
theorem P2 {x y:ByteArray}:(x.toList==y.toList)=decide ((x.data.toList.map fun b=>(b.toNat:Int))=(y.data.toList.map fun b=>(b.toNat:Int))):=by
 rw[ByteArray.toList_eq,ByteArray.toList_eq,Bool.eq_iff_iff];simp only[beq_iff_eq,apE];constructor
 ·intro h;rw[h]
 ·intro h
  have:∀(p q:List UInt8),p.map (fun b=>(b.toNat:Int))=q.map (fun b=>(b.toNat:Int))->p=q:=by
   intro p
   induction p with
   |nil=>intro q a6;cases q<;>simp_all
   |cons c r bI=>
    intro q a6
    cases q with
    |nil=>simp at a6
    |cons d s=>
     simp only[ap2,arl]at a6;obtain⟨ab,ad⟩:=a6;have:c=d:=by apply UInt8.toNat_inj.1;omega
     rw[this,bI s ad]
  exact this _ _ h
theorem XT (x y:List UInt8):Op.bytesLess x y=wV (x.map fun b=>(b.toNat:Int)) (y.map fun b=>(b.toNat:Int)):=by
 induction x generalizing y with
 |nil=>cases y<;>simp[Op.bytesLess,wV]
 |cons a r bI=>
  cases y with
  |nil=>simp[Op.bytesLess,wV]
  |cons b s=>
   simp only[Op.bytesLess,wV,ap2,bI]
   congr 1
   ·rw[Bool.eq_iff_iff];simp[UInt8.lt_iff_toNat_lt]
   ·congr 1
    rw[Bool.eq_iff_iff];simp[<-UInt8.toNat_inj];omega
theorem Zg {op:BinOp}{t:TypeId}{i:b7}(hi:c5 P t i=true){cZ dC:Operand}{tm:List R}{a:Act}(aw:ei (aK N ρ I) w ρ I tm a.tmps)
 {cq:List Prop} {v:R} {al:aD} (h:o2 op i.ty dC (aN tm cZ) (aN tm dC) I= .a8 cq v al) (ay:∀p∈cq,p):
 ∃u,al=I/\(do eqGuard op t cZ dC (a.eval cZ) (a.eval dC);binOp op t (a.eval cZ) (a.eval dC):Sem Value).run P w= .ok u w/\bH (aK N ρ I) w ρ I v u:=by
 have aj:=ey aw cZ;have bo:=ey aw dC;generalize hex:aN tm cZ=x at*;generalize rS:aN tm dC=y at*;generalize a.eval cZ=oK at*;generalize a.eval dC=qR at*;unfold o2 at h;split at h
 ·
  rename_i k n cD m;have az:=jb aj;have aJ:=jb bo;subst az aJ;rw[Sem.run_bind,so _ _ _ _ _ _ (by simp) (by simp),Result.andThen_ok];split at h
  ·simp only[bT.a8.injEq]at h;obtain⟨rfl,rfl,rfl⟩:=h;have:=Oh rS ay;exact⟨_,rfl,by simp[binOp,Op.shift,show ¬m<0 by omega],oW _ _⟩
  ·simp only[bT.a8.injEq]at h;obtain⟨rfl,rfl,rfl⟩:=h;have:=Oh rS ay;exact⟨_,rfl,by simp[binOp,Op.shift,show ¬m<0 by omega],oW _ _⟩
  ·split at h
   ·rename_i ag;obtain rfl:=jD.1 ag;obtain⟨u,ab,ad,aA⟩:=Zf (P:=P) (N:=N) (ρ:=ρ) (w:=w) rS h ay;refine⟨u,ab, ?_,aA⟩;rw[<-ad];cases op<;>first|rfl|(exfalso;simp_all;done)|(simp only[oc]at h;cases h)
   ·cases h
 ·
  rename_i l m;obtain⟨s1,rfl,rfl⟩:=uq aj;obtain⟨s2,rfl,rfl⟩:=uq bo;rw[Sem.run_bind,so _ _ _ _ _ _ (by simp) (by simp),Result.andThen_ok];split at h<;>simp only[bT.a8.injEq,reduceCtorEq]at h<;>obtain⟨rfl,rfl,rfl⟩:=h
  ·have hle:((s1.size+s2.size:Nat):Int)<=9223372036854775807:=by
    have:=ay _ (aqy.2 rfl);simp only[apI,aqD]at this;have ad:((s1.size+s2.size:Nat):Int)=(s1.data.size:Int)+s2.data.size:=by rw[show s1.size=s1.data.size from rfl,show s2.size=s2.data.size from rfl];omega
    rw[ad];exact this
   refine⟨.string (s1++s2),rfl, ?_, ?_⟩
   ·have:¬((s1.size+s2.size:Nat):Int)>IntKind.i64.max:=by
     have:IntKind.i64.max=9223372036854775807:=by decide
     rw[this];omega
    simp only[binOp,Op.stringOp,apy this,Sem.run_pure]
   ·exact .c7 (bB.str _ _ (by rw[<-aqo];congr 1))
  ·exact⟨_,rfl,by simp only[binOp,Op.stringOp,P2,Sem.run_pure],jY _⟩
  ·exact⟨_,rfl,by simp only[binOp,Op.stringOp,P2,Sem.run_pure],jY _⟩
  ·exact⟨_,rfl,by simp only[binOp,Op.stringOp,ByteArray.toList_eq,XT,Sem.run_pure],jY _⟩
 ·split at h<;>cases h
 ·split at h<;>cases h
 rotate_right
 ·cases h
 all_goals
  (obtain⟨u,ab,ad,aA⟩:=Yu (P:=P) (N:=N) (ρ:=ρ) (w:=w) hi h
   refine⟨u,ab, ?_,aA⟩
   first
    |(rename_i p q;have az:=mM aj;have aJ:=mM bo;subst az aJ
      rw[Sem.run_bind,so _ _ _ _ _ _ (by simp) (by simp),Result.andThen_ok];exact ad)
    |(have az:=mM aj;have aJ:qR= .bool _:=bo;subst az aJ
      rw[Sem.run_bind,so _ _ _ _ _ _ (by simp) (by simp),Result.andThen_ok];exact ad)
    |(have az:oK= .bool _:=aj;have aJ:=mM bo;subst az aJ
      rw[Sem.run_bind,so _ _ _ _ _ _ (by simp) (by simp),Result.andThen_ok];exact ad)
    |(have az:oK= .bool _:=aj;have aJ:qR= .bool _:=bo;subst az aJ
      rw[Sem.run_bind,so _ _ _ _ _ _ (by simp) (by simp),Result.andThen_ok];exact ad))
end
end Go.ak
end
section
namespace Go.ak
section
variable {P:Program} {N:Nat->Prop} {ρ:List Loc} {I:aD} {w:World}
theorem Cc {Z:Nat->Prop}{k:IntKind}{l:List Int}{u:Value}(h:bH Z w ρ I (.d (.af k l)) u):
 ∃a cap,u= .slice a l.length cap/\l.length<=cap/\(a=none->l=[]):=by
 have h:bB Z w (.af k l) u:=h
 cases h with
 |jt a cap=>exact⟨a,cap,rfl,by simp,fun _=>rfl⟩
 |af _ _ n b off cap aB bm aC h=>exact⟨_,cap,by rw[aB],by rw[aB];exact aC,fun h=>by cases h⟩
theorem Hi {Z:Nat->Prop}{an:Nat}{l:List (List U)}{u:Value}(h:bH Z w ρ I (.d (.ar an l)) u):
 ∃a cap,u= .slice a l.length cap/\l.length<=cap/\(a=none->l=[]):=by
 have h:bB Z w (.ar an l) u:=h
 cases h with
 |kS a cap=>exact⟨a,cap,rfl,by simp,fun _=>rfl⟩
 |ar _ _ n b off cap _ aB _ bm aC h=>exact⟨_,cap,by rw[aB],by rw[aB];exact aC,fun h=>by cases h⟩
theorem acm {Z:Nat->Prop}{x:U}{t:aZ}{u:Value}(aU:hj t x=true)(h:bB Z w x u)(dn:0<x.len):
 ∃b off cap,u= .slice (some ⟨b,off,none⟩) x.len cap:=by
 cases h with
 |jt a cap=>simp[U.len]at dn
 |af _ l n b off cap aB bm aC h=>exact⟨b,off,cap,by simp[U.len,aB]⟩
 |kS a cap=>simp[U.len]at dn
 |ar _ l n b off cap _ aB _ bm aC h=>exact⟨b,off,cap,by simp[U.len,aB]⟩
 |_=>cases t<;>simp[hj]at aU
theorem sr {t:TypeId}{i:b7}(hi:c5 P t i=true){x:U}(aU:hj i.ty x=true):
 ∃e g,P.underlying t=some (.slice e)/\P.info? e=some g/\g.size=x.cL/\0<x.cL/\g.bytes=i.bytes:=by
 unfold c5 at hi
 cases x<;>cases cd:i.ty<;>simp only[cd,hj,aqQ]at aU<;>rename_i s<;>cases s<;>
  simp only[aqQ]at aU<;>simp only[cd]at hi
 ·split at hi<;>simp_all;split at hi<;>simp_all [U.cL]
 ·split at hi<;>simp_all;split at hi<;>simp_all [U.cL]
theorem mP (b off n:Nat):(⟨b,off,none⟩:Addr).add n=⟨b,off+n,none⟩:=by unfold Addr.add;split<;>simp_all
theorem lr {t:TypeId}{g:TypeInfo}(h:P.info? t=some g):(sizeOf t).run P w= .ok g.size w:=by simp[sizeOf,typeInfo,h]
theorem adV {v:Value}(h:pk v= .emp):v= .slice none 0 0:=by
 unfold pk at h;split at h<;>first|rfl|cases h
theorem Sl {v:Value}(h:tQ v= .emp):v= .slice none 0 0:=by
 cases v with
 |agg c=>cases h
 |_=>exact adV h
theorem acn {op:BinOp}{t:TypeId}{i:b7}(hi:c5 P t i=true){cZ dC:Operand}{tm:List R}{a:Act}(aw:ei (aK N ρ I) w ρ I tm a.tmps)
 {p:Bool->Prop} (h:o2 op i.ty dC (aN tm cZ) (aN tm dC) I= .fF p):
 ∃b,p b/\(do eqGuard op t cZ dC (a.eval cZ) (a.eval dC);binOp op t (a.eval cZ) (a.eval dC):Sem Value).run P w= .ok (.bool b) w:=by
 have aj:=ey aw cZ;generalize hex:aN tm cZ=x at*;generalize rS:aN tm dC=y at*;unfold o2 at h
 have EY:∀v,dC= .const v->y= .emp->a.eval dC= .slice none 0 0:=by
  intro v aO bo;subst aO;rw[bo]at rS;exact Sl rS
 have key:∀u:Value,(∃fH l cap,u= .slice fH l cap)->∀fH l cap,u= .slice fH l cap->iH i.ty=true->a.eval dC= .slice none 0 0->
  (op= .eql->(do eqGuard op t cZ dC u (a.eval dC);binOp op t u (a.eval dC):Sem Value).run P w= .ok (.bool fH.isNone) w)/\
  (op= .neq->(do eqGuard op t cZ dC u (a.eval dC);binOp op t u (a.eval dC):Sem Value).run P w= .ok (.bool (!fH.isNone)) w):=by
  intro u _ fH l cap hu kp ajI;subst hu;rw[ajI];obtain⟨e,he⟩:=q2 hi kp;constructor
  ·rintro rfl;rw[Sem.run_bind,so _ _ _ _ _ _ (by simp) (by simp),Result.andThen_ok];simp only[binOp,Sem.run_bind,run_equal_slice_nil w t e fH l cap he,Result.andThen_ok,Sem.run_pure]
  ·rintro rfl;rw[Sem.run_bind,so _ _ _ _ _ _ (by simp) (by simp),Result.andThen_ok];simp only[binOp,Sem.run_bind,run_equal_slice_nil w t e fH l cap he,Result.andThen_ok,Sem.run_pure]
 split at h
 ·split at h
  ·cases h
  ·cases h
  ·split at h
   ·cases op<;>simp[oc]at h
   ·cases h
 ·split at h<;>cases h
 ·rename_i Bj l;obtain⟨fH,cap,hu,_,aB⟩:=Cc aj;split at h<;>simp only[bT.fF.injEq,reduceCtorEq]at h<;>subst h
  ·rename_i _ v kp;exact⟨fH.isNone,fun ah=>aB (by simpa using ah),(key _ ⟨_,_,_,hu⟩ _ _ _ hu kp (EY v rfl rfl)).1 rfl⟩
  ·rename_i _ v kp;exact⟨!fH.isNone,fun ah=>aB (by simpa using ah),(key _ ⟨_,_,_,hu⟩ _ _ _ hu kp (EY v rfl rfl)).2 rfl⟩
 ·rename_i Bj l;obtain⟨fH,cap,hu,_,aB⟩:=Hi aj;split at h<;>simp only[bT.fF.injEq,reduceCtorEq]at h<;>subst h
  ·rename_i _ v kp;exact⟨fH.isNone,fun ah=>aB (by simpa using ah),(key _ ⟨_,_,_,hu⟩ _ _ _ hu kp (EY v rfl rfl)).1 rfl⟩
  ·rename_i _ v kp;exact⟨!fH.isNone,fun ah=>aB (by simpa using ah),(key _ ⟨_,_,_,hu⟩ _ _ _ hu kp (EY v rfl rfl)).2 rfl⟩
 all_goals
  first
  |(simp only[jF]at h;split at h<;>cases h)
  |cases h
theorem aar {op:UnOp}{cZ:Operand}{tm:List R}{a:Act}(aw:ei (aK N ρ I) w ρ I tm a.tmps)
 {cq:List Prop} {v:R} {al:aD} (h:xg op (aN tm cZ) I= .a8 cq v al):
 ∃u,al=I/\(Op.unary op (a.eval cZ)).run P w= .ok u w/\bH (aK N ρ I) w ρ I v u:=by
 have aj:=ey aw cZ;generalize aN tm cZ=x at*;generalize a.eval cZ=oK at*;unfold xg at h;split at h<;>simp only[bT.a8.injEq,reduceCtorEq]at h<;>obtain⟨rfl,rfl,rfl⟩:=h
 ·have:=jb aj;subst this;exact⟨_,rfl,by simp[Op.unary,Op.intArith],oW _ _⟩
 ·have:=jb aj;subst this;exact⟨_,rfl,by simp only[Op.unary,Op.intBits];rfl,oW _ _⟩
 ·have:=mM aj;subst this;exact⟨_,rfl,rfl,jY _⟩
 ·have aj:oK= .bool true:=aj;subst aj;exact⟨_,rfl,rfl,rfl⟩
 ·have aj:oK= .bool false:=aj;subst aj;exact⟨_,rfl,rfl,rfl⟩
theorem Yv {se cZ dC:Operand}{tm:List R}{a:Act}(aw:ei (aK N ρ I) w ρ I tm a.tmps)
 {cq:List Prop} {v:R} {al:aD} (h:wW (aN tm se) (aN tm cZ) (aN tm dC) I= .a8 cq v al):
 ∃b,al=I/\a.eval se= .bool b/\bH (aK N ρ I) w ρ I v (if b then a.eval cZ else a.eval dC):=by
 have aC:=ey aw se;have aj:=ey aw cZ;have bo:=ey aw dC;generalize aN tm se=c at*;generalize aN tm cZ=x at*;generalize aN tm dC=y at*;unfold wW at h;split at h
 ·simp only[bT.a8.injEq]at h;obtain⟨rfl,rfl,rfl⟩:=h;exact⟨true,rfl,aC,by simpa using aj⟩
 ·simp only[bT.a8.injEq]at h;obtain⟨rfl,rfl,rfl⟩:=h;exact⟨false,rfl,aC,by simpa using bo⟩
 ·rename_i b;have ah:=mM aC;split at h
  ·simp only[bT.a8.injEq]at h;obtain⟨rfl,rfl,rfl⟩:=h;refine⟨b,rfl,ah, ?_⟩;rw[mM aj,mM bo];cases b<;>exact jY _
  ·simp only[bT.a8.injEq]at h;obtain⟨rfl,rfl,rfl⟩:=h;refine⟨b,rfl,ah, ?_⟩;rw[show a.eval cZ= .bool true from aj,mM bo];cases b<;>exact jY _
  ·simp only[bT.a8.injEq]at h;obtain⟨rfl,rfl,rfl⟩:=h;refine⟨b,rfl,ah, ?_⟩;rw[mM aj,show a.eval dC= .bool false from bo];cases b<;>exact jY _
  ·simp only[bT.a8.injEq]at h;obtain⟨rfl,rfl,rfl⟩:=h;refine⟨b,rfl,ah, ?_⟩;rw[show a.eval cZ= .bool true from aj,show a.eval dC= .bool false from bo];cases b<;>exact jY _
  ·split at h
   ·simp only[bT.a8.injEq]at h;obtain⟨rfl,rfl,rfl⟩:=h;rename_i ag;obtain rfl:=jD.1 ag;refine⟨b,rfl,ah, ?_⟩;rw[jb aj,jb bo];cases b<;>exact oW _ _
   ·cases h
  ·cases h
 ·cases h
theorem Yw {cZ:Operand}{n:Nat}{tm:List R}{a:Act}(aw:ei (aK N ρ I) w ρ I tm a.tmps){l:List R}(h:aN tm cZ= .tup l):
 n<l.length->∃u,(Instr.extract (a.eval cZ) n).run P w= .ok u w/\bH (aK N ρ I) w ρ I (b6 .any l n) u:=by
 intro aB;have aj:=ey aw cZ;rw[h]at aj;obtain⟨arr,ab,ad,aA⟩:=aj;have bL:n<arr.size:=by rw[ad];exact aB
 refine⟨arr[n],by simp[Instr.extract,ab,bL], ?_⟩;have:=aA n aB;rw[dW];simp only[apA,apT aB,aqz,apH,arn bL]at this⊢;exact .hn this
theorem aas {t:TypeId}{i:b7}(hi:c5 P t i=true){x:R}{u:Value}(aj:bH (aK N ρ I) w ρ I x u){n:Nat}(h:uY i.ty x I=some n)(ts:List TypeId)(ty:TypeId):
 (Builtin.len_ (t::ts).toArray ty #[u]).run P w= .ok (.int .i64 n) w:=by
 unfold uY at h;split at h
 ·split at h
  ·rename_i ay;simp at h;subst h;obtain⟨s,rfl,rfl⟩:=uq aj;have:=sx hi ay;have ad:(Builtin.len_ (t::ts).toArray ty #[.string s]).run P w= .ok (goInt s.size) w:=by simp[Builtin.len_,underlying,this]
   rw[ad,goInt,apI,aqD];rfl
  ·cases h
 ·split at h
  ·rename_i ay;simp at h;subst h;obtain⟨fH,cap,rfl,_⟩:=Cc aj;obtain⟨e,he⟩:=q2 hi ay;simp[Builtin.len_,underlying,he,goInt]
  ·cases h
 ·split at h
  ·rename_i ay;simp at h;subst h;obtain⟨fH,cap,rfl,_⟩:=Hi aj;obtain⟨e,he⟩:=q2 hi ay;simp[Builtin.len_,underlying,he,goInt]
  ·cases h
 ·split at h
  ·rename_i ay;simp at h;subst h;obtain⟨av,_,rfl,_⟩:=aj;obtain⟨e,he⟩:=q2 hi ay;simp[Builtin.len_,underlying,he,goInt]
  ·cases h
 ·split at h
  ·rename_i ay;simp at h;subst h;obtain⟨fH,rfl⟩:=aj;obtain⟨e,he⟩:=q2 hi ay;simp[Builtin.len_,underlying,he,goInt]
  ·cases h
 ·cases h
end
end Go.ak
end
section
namespace Go.ak
section
variable {P:Program} {N:Nat->Prop} {ρ:List Loc} {I:aD} {w:World}
theorem NT {t:aZ}{o:ae}(h:jI t o=true):hj t o.data=true/\o.data.cL=o.cL/\o.data.len=o.len:=by
 cases t with
 |aG s=>cases o<;>cases s<;>simp_all [jI,hj,ae.data,U.cL,ae.cL,U.len,ae.len]
 |_=>cases o<;>simp[jI]at h
theorem ae_ {id:Nat}{av:Loc}{t:aZ}(h:hS (aK N ρ I) w ρ I av (ae.at I id))(aU:jI t (ae.at I id)=true)(dn:0<(ae.at I id).len):
 ∃b,av.a=some ⟨b,0,none⟩/\av.bs=some b:=by
 cases aF:ae.at I id with
 |af k l=>
  rw[aF]at h dn;rcases h with⟨rfl,_⟩|⟨b,aH,e,ab,ad,_⟩
  ·simp[ae.len]at dn
  ·exact⟨b,ab,ad⟩
 |ar an l=>
  rw[aF]at h dn;rcases h with⟨rfl,_⟩|⟨b,aH,e,ab,ad,_⟩
  ·simp[ae.len]at dn
  ·exact⟨b,ab,ad⟩
 |_=>rw[aF]at aU;simp[jI]at aU
theorem run_indexAt_slice {t:TypeId}{e:TypeId}{g:TypeInfo}(hu:P.underlying t=some (.slice e))(bh:P.info? e=some g)(b off len cap:Nat)(k:IntKind)(n:Int)
 (bc:0<=n) (ab:n<(len:Int)):
 (Instr.indexAt t (.slice (some ⟨b,off,none⟩) len cap) (.int k n)).run P w= .ok (.pointer (some ⟨b,off+n.toNat*g.size,none⟩)) w:=by
 simp[Instr.indexAt,asIntOf,underlying,hu,lr bh,bc,ab,mP]
theorem yM {t:TypeId}{i:b7}(hi:c5 P t i=true){n:Nat}{e:aZ}{cs:List cb}(h:i.ty= .arr n e cs):
 ∃el g,P.underlying t=some (.array n el)/\P.info? el=some g/\g.size=e.size:=by
 unfold c5 at hi;rw[h]at hi;split at hi<;>simp_all;rename_i el _ _ _;obtain⟨g,bh⟩:=arQ.1 hi.1.1.2;exact⟨g,bh,by rw[<-hi.1.1.1.1.2];simp[Program.cellsOf,bh]⟩
theorem Zh {t:TypeId}{i:b7}(hi:c5 P t i=true){n:Nat}{e:aZ}{cs:List cb}(h:i.ty= .arr n e cs):
 ∃el g d,P.underlying t=some (.array n el)/\P.info? el=some g/\g.size=e.size/\P.underlying el=some d/\o5 d=e.isAgg:=by
 unfold c5 at hi;rw[h]at hi;split at hi<;>simp_all;rename_i el _ _ _;obtain⟨g,bh⟩:=arQ.1 hi.1.1.2;obtain⟨d,a_⟩:=arQ.1 hi.1.2;refine⟨g,bh,by rw[<-hi.1.1.1.1.2];simp[Program.cellsOf,bh],d,a_, ?_⟩;have:=hi.2;simpa[DC,a_]using this
theorem run_indexAt_array {t:TypeId}{m e:Nat}{g:TypeInfo}(hu:P.underlying t=some (.array m e))(bh:P.info? e=some g)(b off:Nat)(k:IntKind)(n:Int)
 (bc:0<=n) (ab:n<(m:Int)):
 (Instr.indexAt t (.pointer (some ⟨b,off,none⟩)) (.int k n)).run P w= .ok (.pointer (some ⟨b,off+n.toNat*g.size,none⟩)) w:=by
 simp[Instr.indexAt,Instr.sureAddr,asIntOf,underlying,hu,lr bh,bc,ab,mP]
theorem Cd (j:Nat)(n:Int):placeOf j n=j+n.toNat:=by
 unfold placeOf;split
 ·rename_i h;rw[apC h,ap3]
 ·rfl
theorem aat {t:TypeId}{i:b7}(hi:c5 P t i=true){x:R}{u:Value}(aj:bH (aK N ρ I) w ρ I x u){k:IntKind}{n:Int}
 {cq:List Prop} {v:R} {al:aD} (h:o_ i.ty x n I= .a8 cq v al) (ay:∀p∈cq,p):
 ∃c2,al=I/\(Instr.indexAt t u (.int k n)).run P w= .ok c2 w/\bH (aK N ρ I) w ρ I v c2:=by
 unfold o_ at h;split at h
 ·rename_i m s cs cd;obtain⟨el,g,q1,cG,cV⟩:=yM hi cd;have cV:g.size=1:=cV;split at h
  ·rename_i id a j;split at h
   ·rename_i an l aF;split at h
    ·rename_i ah;have ah:j+m<=an:=apZ ah;simp only[bT.a8.injEq]at h;obtain⟨rfl,rfl,rfl⟩:=h;have bc:0<=n:=ay _ (by simp);have ab:n<(m:Int):=ay _ (by simp);obtain⟨av,b,az,aJ,bX,cW,gY,jn⟩:=aj;have bm:(ae.at I id).cL=an:=by rw[aF];rfl
     refine⟨_,rfl,by rw[cW];exact run_indexAt_array q1 cG b _ k n bc ab, .c7 ⟨av,b,az,aJ,bX, ?_,gY,jn, ?_⟩⟩
     ·rw[cV,Cd];simp only[ap8,aqs]
     ·rw[bm,Cd];omega
    ·cases h
   ·cases h
  ·rename_i an l a j;split at h
   ·rename_i ah;have ah:j+m<=an:=apZ ah;simp only[bT.a8.injEq]at h;obtain⟨rfl,rfl,rfl⟩:=h;have bc:0<=n:=ay _ (by simp);have ab:n<(m:Int):=ay _ (by simp);obtain⟨b,off,cap,az,aJ,bX,cW⟩:=aj;refine⟨_,rfl,by rw[cW];exact run_indexAt_array q1 cG b _ k n bc ab, .c7 ⟨b,off,cap,az,aJ,bX, ?_, ?_⟩⟩
    ·rw[Cd];show j+n.toNat<an;omega
    ·rw[cV,Cd];simp only[ap8,aqs]
   ·cases h
  ·cases h
 ·cases h
theorem Xo {t:TypeId}{i:b7}(hi:c5 P t i=true)(bM:cw N ρ I w){cZ vR:Operand}{tm:List R}{a:Act}(aw:ei (aK N ρ I) w ρ I tm a.tmps)
 {cq:List Prop} {v:R} {al:aD} (h:q4 i.ty (aN tm cZ) (aN tm vR) I= .a8 cq v al) (ay:∀p∈cq,p):
 ∃u,al=I/\(Instr.indexAt t (a.eval cZ) (a.eval vR)).run P w= .ok u w/\bH (aK N ρ I) w ρ I v u:=by
 have aj:=ey aw cZ;have bo:=ey aw vR;generalize aN tm cZ=x at*;generalize aN tm vR=y at*;unfold q4 at h;split at h
 ·rename_i k n;have az:=jb bo;split at h
  ·rename_i x;split at h
   ·rename_i aU;simp only[bT.a8.injEq]at h;obtain⟨rfl,rfl,rfl⟩:=h;have bc:0<=n:=ay _ (by simp);have ab:n<(x.len:Int):=ay _ (by simp);have hB:bB (aK N ρ I) w x (a.eval cZ):=aj;obtain⟨b,off,cap,hu⟩:=acm aU hB (by omega);obtain⟨e,g,he,bh,cx,ki,_⟩:=sr hi aU;refine⟨.pointer (some ⟨b,off+n.toNat*g.size,none⟩),rfl, ?_, .c7 ⟨b,off,cap,hu▸hB,bc,ab,by rw[cx];simp⟩⟩;rw[hu,az];exact run_indexAt_slice he bh b off _ cap k n bc ab
   ·cases h
  ·rename_i id;split at h
   ·rename_i aU;simp only[bT.a8.injEq]at h;obtain⟨rfl,rfl,rfl⟩:=h;have bc:0<=n:=ay _ (by simp);have ab:n<((ae.at I id).len:Int):=ay _ (by simp);obtain⟨av,ax,hu,_⟩:=aj;obtain⟨b,gK,ew⟩:=ae_ (bM.ob id av ax) aU (by omega);obtain⟨vu,ajJ,_⟩:=NT aU;obtain⟨e,g,he,bh,cx,ki,_⟩:=sr hi vu;refine⟨.pointer (some ⟨b,0+n.toNat*g.size,none⟩),rfl, ?_, .c7 ⟨av,b,ax,gK,ew,by rw[cx,ajJ];simp,bc,ab⟩⟩;rw[hu,az,gK];exact run_indexAt_slice he bh b 0 _ _ k n bc ab
   ·cases h
  ·simp only[bT.a8.injEq]at h;obtain⟨rfl,_⟩:=h;exact(ay False (by simp)).elim
  ·rw[az];exact aat hi aj h ay
 ·cases h
theorem ui {Z:Nat->Prop}{s:cb}{x:U}{u:Value}(h:bB Z w x u)(aF:s.ql x):eJ Z w ρ I (s.take x) u:=by
 cases s<;>cases x<;>simp only[cb.ql,U.dQ,U.isBool,U.isStr,U.fJ,U.DA]at aF<;>simp only[cb.take,U.toInt,U.toBool,U.toStr,U.cP,U.w9]<;>
  first
  |exact h
  |(subst aF;exact h)
theorem Yx {Z:Nat->Prop}(x:U)(i:Nat)(u:Nat->Value):∀(cs:List cb) (j:Nat),(∀m,m<cs.length->bB Z w (x.cell i (j+m)) (u (j+m)))->(∀p∈(rC cs x i j).1,p)->
 (rC cs x i j).2.length=cs.length/\∀m,m<cs.length->eJ Z w ρ I ((rC cs x i j).2.getD m .un) (u (j+m)):=by
 intro cs
 induction cs with
 |nil=>intro j _ _;simp[rC]
 |cons s dN bI=>
  intro j ao ay;simp only[rC]at ay⊢;have bc:=ao 0 (by simp);have eZ:=ay _ (arC ..);obtain⟨ab,ad⟩:=bI (j+1) (fun m hm=>by have:=ao (m+1) (by simp;omega);rwa [show j+(m+1)=j+1+m by omega]at this) (fun p aE=>ay p (aqR _ aE));refine⟨by simpa using ab,fun m hm=> ?_⟩
  cases m with
  |zero=>exact ui bc eZ
  |succ m=>
   have:=ad m (by simpa using hm);rw[show j+(m+1)=j+1+m by omega];simpa using this
theorem q_ {t:TypeId}{d:TypeDesc}(h:P.underlying t=some d):(isAgg t).run P w= .ok (o5 d) w:=by
 simp only[isAgg,Sem.run_bind,run_underlying h,Result.andThen_ok];cases d<;>rfl
theorem zj {t:TypeId}{i:b7}(hi:c5 P t i=true){s:cb}(ay:i.ty= .aG s)(b o:Nat){v:Value}(aC:w.cell? ⟨b,o,none⟩=some v):
 (loadVar t ⟨b,o,none⟩).run P w= .ok v w:=by
 have:∃d,P.underlying t=some d/\o5 d=false:=by
  unfold c5 at hi;rw[ay]at hi;split at hi<;>simp_all [o5]
 obtain⟨d,ab,ad⟩:=this;simp[loadVar,q_ ab,ad,aC]
theorem Rj {t:TypeId}{i:b7}(hi:c5 P t i=true){s:cb}(ay:i.ty= .aG s):∃g,P.info? t=some g/\g.size=1:=by
 unfold c5 at hi;rw[ay]at hi;split at hi<;>simp_all
theorem wP {t:TypeId}{i:b7}(hi:c5 P t i=true){cs:List cb}(ay:(∃bW,i.ty= .struct bW cs)\/∃n e,i.ty= .arr n e cs):
 ∃g d,P.info? t=some g/\g.size=cs.length/\P.underlying t=some d/\o5 d=true/\∃z,g.zero=some z/\mT cs z.cells.toList=true:=by
 unfold c5 at hi;rcases ay with⟨bW,ay⟩|⟨n,e,ay⟩<;>rw[ay]at hi<;>split at hi<;>simp_all [o5,cI,nE]
 all_goals
  rename_i g _ _ _ _;cases bm:g.zero<;>simp_all
theorem CC {t:TypeId}{i:b7}(hi:c5 P t i=true){cs:List cb}(ay:(∃bW,i.ty= .struct bW cs)\/∃n e,i.ty= .arr n e cs)(b o:Nat)(u:Nat->Value)
 (aC:∀m,m<cs.length->w.cell? ⟨b,o+m,none⟩=some (u m)):(loadVar t ⟨b,o,none⟩).run P w= .ok (.agg ((List.range cs.length).map u).toArray) w:=by
 obtain⟨g,d,ab,ad,aA,ba,_⟩:=wP hi ay;have bJ:=run_loadCells (P:=P) w ⟨b,o,none⟩ cs.length u (fun j aI=>by rw[mP];exact aC j aI);simp[loadVar,q_ aA,ba,lr ab,ad,bJ]
theorem Ck (u:Nat->Value)(n m:Nat)(h:m<n):((List.range n).map u).toArray.getD m undef=u m:=by
 simp[apH,h]
theorem Hj {r:List U}{j n an:Nat}(ao:r.length=an)(h:j+n<=an):(lB r j n an).length=n/\∀m,m<n->(lB r j n an).getD m .undef=r.getD (j+m) .undef:=by
 unfold lB;split
 ·rename_i aI;obtain rfl:=apC aI;split
  ·rename_i aB;obtain rfl:=apC aB;exact⟨ao,fun m _=>by rw[ap3]⟩
  ·refine⟨by rw[ap_];omega,fun m hm=> ?_⟩;rw[apA,aqq,apz hm,ap3,apA]
 ·refine⟨by rw[ap_,aqL];omega,fun m hm=> ?_⟩;rw[apA,aqq,apz hm,aq1,apA]
theorem P3 {t:TypeId}{i:b7}(hi:c5 P t i=true){cs:List cb}(cd:(∃bW,i.ty= .struct bW cs)\/∃n e,i.ty= .arr n e cs){r:List U}{j an:Nat}(ao:r.length=an)(aI:j+cs.length<=an)
 (b o:Nat) (u:Nat->Value) (aC:∀m,m<an->w.cell? ⟨b,o+m,none⟩=some (u m)) (hu:∀m,m<an->bB (aK N ρ I) w (r.getD m .undef) (u m)):
 ∃v,(loadVar t ⟨b,o+j,none⟩).run P w= .ok v w/\bH (aK N ρ I) w ρ I (.rw cs.length (lB r j cs.length an)) v:=by
 obtain⟨ab,ad⟩:=Hj ao aI;refine⟨_,CC hi cd b (o+j) (fun m=>u (j+m)) (fun m hm=>by rw[aqs];exact aC (j+m) (by omega)), .hn ⟨_,rfl,by simp,ab,fun m hm=> ?_⟩⟩;rw[Ck _ _ _ hm,ad m hm];exact hu (j+m) (by omega)
theorem Nj {t:TypeId}{i:b7}(hi:c5 P t i=true){x:U}{n:Int}{j:Nat}{cq:List Prop}{v:R}{al:aD}
 (h:loadData i.ty x n j I= .a8 cq v al) (ay:∀p∈cq,p) (b o:Nat) (u:Nat->Value)
 (aC:∀m,m<x.cL->w.cell? ⟨b,o+m,none⟩=some (u m)) (ao:∀m,m<x.cL->bB (aK N ρ I) w (x.cell n.toNat m) (u m)):
 ∃u,al=I/\(loadVar t ⟨b,o+j,none⟩).run P w= .ok u w/\bH (aK N ρ I) w ρ I v u:=by
 unfold loadData at h;split at h
 ·rename_i k l;split at h
  ·rename_i cD cd xK;obtain rfl:=apC xK;split at h
   ·rename_i ag;simp only[bT.a8.injEq]at h;obtain⟨rfl,rfl,rfl⟩:=h;obtain rfl:=jD.1 ag;refine⟨u 0,rfl,zj hi cd b _ (aC 0 (by simp[U.cL])), ?_⟩;have:=ao 0 (by simp[U.cL]);exact .c7 this
   ·cases h
  ·cases h
 ·rename_i an l;split at h
  ·rename_i ah;have ah:j+i.ty.size<=an:=apZ ah;have cx:(U.ar an l).cL=an:=rfl;rw[cx]at aC ao;split at h
   ·rename_i s cd;simp only[bT.a8.injEq]at h;obtain⟨rfl,rfl,rfl⟩:=h;have aI:j<an:=by rw[cd]at ah;simp[aZ.size]at ah;omega
    exact⟨u j,rfl,zj hi cd b _ (aC j aI), .c7 (ui (ao j aI) (ay _ (by simp)))⟩
   ·rename_i bW cs cd;have aI:j+cs.length<=an:=by rw[cd]at ah;simpa[aZ.size,cI]using ah
    split at h
    ·simp only[bT.a8.injEq]at h;obtain⟨rfl,rfl,rfl⟩:=h;have hlen:(l.getD n.toNat []).length=an:=ay _ (by simp);rw[cI];obtain⟨v,aY,bj⟩:=P3 (P:=P) (N:=N) (ρ:=ρ) (I:=I) hi (.inl ⟨bW,cd⟩) hlen aI b o u aC ao;exact⟨v,rfl,aY,bj⟩
    simp only[bT.a8.injEq]at h;obtain⟨rfl,rfl,rfl⟩:=h;obtain⟨ab,ad⟩:=Yx (w:=w) (ρ:=ρ) (I:=I) (.ar an l) n.toNat u cs j (fun m hm=>ao (j+m) (by omega)) ay;refine⟨_,rfl,CC hi (.inl ⟨bW,cd⟩) b (o+j) (fun m=>u (j+m)) (fun m hm=>by rw[aqs];exact aC (j+m) (by omega)), .hn ⟨_,rfl,by simp[ab],fun m hm=> ?_⟩⟩;rw[ab]at hm;rw[Ck _ _ _ hm];exact ad m hm
   ·rename_i n' e cs cd;have aI:j+cs.length<=an:=by rw[cd]at ah;simpa[aZ.size,cI]using ah
    simp only[bT.a8.injEq]at h;obtain⟨rfl,rfl,rfl⟩:=h;have hlen:(l.getD n.toNat []).length=an:=ay _ (by simp);rw[cI];obtain⟨v,aY,bj⟩:=P3 (P:=P) (N:=N) (ρ:=ρ) (I:=I) hi (.inr ⟨n',e,cd⟩) hlen aI b o u aC ao;exact⟨v,rfl,aY,bj⟩
   ·cases h
  ·cases h
 ·cases h
theorem G6 {Z:Nat->Prop}{x:U}{b off cap:Nat}(h:bB Z w x (.slice (some ⟨b,off,none⟩) x.len cap))(n:Nat)(aB:n<x.len):
 ∃u:Nat->Value,(∀m,m<x.cL->w.cell? ⟨b,off+n*x.cL+m,none⟩=some (u m))/\∀m,m<x.cL->bB Z w (x.cell n m) (u m):=by
 generalize yg:x.len=L at*
 cases h with
 |jt a cap k=>simp[U.len]at yg;omega
 |af k l n' b off cap ax bm aC hv=>
  refine⟨fun _=> .int k (l.getD n 0),fun m hm=> ?_,fun m hm=> .int _ _⟩;simp only[U.cL]at hm⊢;have:=hv n aB;rw[show off+n*1+m=off+n by omega];exact this
 |kS a cap an=>simp[U.len]at yg;omega
 |ar an l n' b off cap u ax cx bm aC hv ao=>exact⟨fun m=>u n m,fun m hm=>hv n m aB hm,fun m hm=>ao n m aB hm⟩
 |undef v h=>simp[U.len]at yg;omega
theorem O8 {Z:Nat->Prop}{av:Loc}{o:ae}{b:Nat}(h:hS Z w ρ I av o)(ah:av.a=some ⟨b,0,none⟩)(n:Nat)(aB:n<o.data.len):
 ∃u:Nat->Value,(∀m,m<o.data.cL->w.cell? ⟨b,n*o.data.cL+m,none⟩=some (u m))/\∀m,m<o.data.cL->bB Z w (o.data.cell n m) (u m):=by
 cases o with
 |gone=>simp[ae.data,U.len]at aB
 |dead _ _=>simp[ae.data,U.len]at aB
 |map _ _ _=>simp[ae.data,U.len]at aB
 |cells l=>simp[ae.data,U.len]at aB
 |af k l=>
  simp only[ae.data,U.len,U.cL,U.cell]at*;rcases h with⟨rfl,_⟩|⟨fh,aH,e,ab,ad,aA,ba,bJ,cu⟩
  ·simp at aB
  ·rw[ah]at ab;simp at ab;subst ab;refine⟨fun _=> .int k (l.getD n 0),fun m hm=> ?_,fun m hm=> .int _ _⟩;rw[show n*1+m=n by omega];simp[World.cell?,aA,cu n aB]
 |ar an l=>
  simp only[ae.data,U.len,U.cL,U.cell]at*;rcases h with⟨rfl,_⟩|⟨fh,aH,e,ab,ad,aA,ba,bJ,_,cu⟩
  ·simp at aB
  ·rw[ah]at ab;simp at ab;subst ab;refine⟨fun m=>aH.getD (n*an+m) undef,fun m hm=> ?_,fun m hm=> ?_⟩
   ·obtain⟨v,aO,_⟩:=cu n m aB hm;simp[World.cell?,aA,apH,aO]
   ·obtain⟨v,aO,ao⟩:=cu n m aB hm;simpa[apH,aO]using ao
theorem Yy {Z:Nat->Prop}{w:World}{ρ:List Loc}{I:aD}{v:R}{u:Value}(h:eJ Z w ρ I v u):eJ Z w ρ I (o9 v) u:=by
 cases v<;>first|exact h|trivial
theorem Oj {t:TypeId}{i:b7}(hi:c5 P t i=true){x:U}{n:Int}{j:Nat}{cq:List Prop}{v:R}{al:aD}
 (h:loadAt i.ty x n j I= .a8 cq v al) (ay:∀p∈cq,p) (aI:j<x.cL) (b o:Nat) (u:Nat->Value)
 (aC:∀m,m<x.cL->w.cell? ⟨b,o+m,none⟩=some (u m)) (ao:∀m,m<x.cL->bB (aK N ρ I) w (x.cell n.toNat m) (u m)):
 ∃u,al=I/\(loadVar t ⟨b,o+j,none⟩).run P w= .ok u w/\bH (aK N ρ I) w ρ I v u:=by
 unfold loadAt at h;split at h
 ·rename_i an l s cd;simp only[bT.a8.injEq]at h;obtain⟨rfl,rfl,rfl⟩:=h;exact⟨u j,rfl,zj hi cd b _ (aC j aI), .c7 (ui (ao j aI) (ay _ (by simp)))⟩
 ·cases h
theorem G7 {t:TypeId}{i:b7}(hi:c5 P t i=true)(bM:cw N ρ I w){op:Operand}{tm:List R}{a:Act}(aw:ei (aK N ρ I) w ρ I tm a.tmps)
 {cq:List Prop} {v:R} {al:aD} (h:h2 i.ty (aN tm op) I= .a8 cq v al) (ay:∀p∈cq,p):
 ∃u,al=I/\(Instr.loadAt t (a.eval op)).run P w= .ok u w/\bH (aK N ρ I) w ρ I v u:=by
 have aj:=ey aw op;generalize aN tm op=x at*;unfold h2 at h;split at h
 ·rename_i id off;obtain⟨av,b,ax,gK,ew,hu⟩:=aj;have ck:=bM.ob id av ax;split at h
  ·rename_i l aF;rw[aF]at ck;obtain⟨fh,aH,e,aY,bj,bG,di,eK⟩:=ck;rw[gK]at aY;simp at aY;subst aY
   have hv:∀m,m<l.length->w.cell? ⟨b,m,none⟩=some (aH.getD m undef):=fun m hm=>by
    simp[World.cell?,bG,apH,show m<aH.size by omega]
   rw[hu];simp only[Instr.loadAt,Instr.sureAddr,Sem.run_bind,Sem.run_pure,Result.andThen_ok];split at h<;>simp only[bT.a8.injEq,reduceCtorEq]at h
   ·rename_i s cd hle;obtain⟨rfl,rfl,rfl⟩:=h;have hle:=apZ hle;rw[cd,cI]at hle;have bL:off<l.length:=by simp[aZ.size]at hle;omega
    refine⟨_,rfl,zj hi cd b off (hv off bL), ?_⟩;rw[dW];exact .c7 (Yy (eK off bL))
   ·rename_i bW cs cd hle;obtain⟨rfl,rfl,rfl⟩:=h;have hle:=apZ hle;rw[cd,cI]at hle;have bL:off+cs.length<=l.length:=by simpa[aZ.size,cI]using hle
    refine⟨_,rfl,CC hi (.inl ⟨bW,cd⟩) b off (fun m=>aH.getD (off+m) undef) (fun m hm=>hv (off+m) (by omega)), .hn ⟨_,rfl, ?_,fun m hm=> ?_⟩⟩
    ·simp[lz,ly,cI];omega
    ·simp only[lz,ly,cI,ap_,aqL]at hm⊢;rw[Ck _ _ _ (by omega)];have:=eK (off+m) (by omega);simpa[apA,aqq,show m<cs.length by omega]using this
   ·rename_i n' Gk cs cd hle;obtain⟨rfl,rfl,rfl⟩:=h;have hle:=apZ hle;rw[cd,cI]at hle;have bL:off+cs.length<=l.length:=by simpa[aZ.size,cI]using hle
    refine⟨_,rfl,CC hi (.inr ⟨n',Gk,cd⟩) b off (fun m=>aH.getD (off+m) undef) (fun m hm=>hv (off+m) (by omega)), .hn ⟨_,rfl, ?_,fun m hm=> ?_⟩⟩
    ·simp[lz,ly,cI];omega
    ·simp only[lz,ly,cI,ap_,aqL]at hm⊢;rw[Ck _ _ _ (by omega)];have:=eK (off+m) (by omega);simpa[apA,aqq,show m<cs.length by omega]using this
  ·cases h
 ·rename_i id n j;obtain⟨av,b,ax,gK,ew,hu,bc,ab⟩:=aj;have ck:=bM.ob id av ax
  have a_:(ae.at I id).data.cL=(ae.at I id).cL/\(ae.at I id).data.len=(ae.at I id).len\/∀t n j,loadData t (ae.at I id).data n j I= .bad:=by
   cases ae.at I id<;>simp[ae.data,U.cL,ae.cL,U.len,ae.len,loadData]
  rcases a_ with⟨j4,ig⟩|a_
  ·obtain⟨u,aC,ao⟩:=O8 ck gK n.toNat (by rw[ig];omega);obtain⟨c2,ad,aA,ba⟩:=Nj (P:=P) (N:=N) (ρ:=ρ) hi h ay b (n.toNat*(ae.at I id).data.cL) u aC ao;refine⟨c2,ad, ?_,ba⟩;rw[hu,<-j4];simpa[Instr.loadAt,Instr.sureAddr]using aA
  ·rw[a_]at h;cases h
 ·rename_i x n j;obtain⟨b,off,cap,Av,bc,ab,hu⟩:=aj;obtain⟨u,aC,ao⟩:=G6 Av n.toNat (by omega);obtain⟨c2,ad,aA,ba⟩:=Nj (P:=P) (N:=N) (ρ:=ρ) hi h ay b (off+n.toNat*x.cL) u aC ao;refine⟨c2,ad, ?_,ba⟩;rw[hu];simpa[Instr.loadAt,Instr.sureAddr]using aA
 ·rename_i id n j;obtain⟨av,b,ax,gK,ew,hu,bc,ab,mG⟩:=aj;have ck:=bM.ob id av ax
  have a_:(ae.at I id).data.cL=(ae.at I id).cL/\(ae.at I id).data.len=(ae.at I id).len\/∀t n j,loadAt t (ae.at I id).data n j I= .bad:=by
   cases ae.at I id<;>simp[ae.data,U.cL,ae.cL,U.len,ae.len,loadAt]
  rcases a_ with⟨j4,ig⟩|a_
  ·obtain⟨u,aC,ao⟩:=O8 ck gK n.toNat (by rw[ig];omega);obtain⟨c2,ad,aA,ba⟩:=Oj (P:=P) (N:=N) (ρ:=ρ) hi h ay (by rw[j4];exact mG) b (n.toNat*(ae.at I id).data.cL) u aC ao;refine⟨c2,ad, ?_,ba⟩;rw[hu,<-j4];simpa[Instr.loadAt,Instr.sureAddr]using aA
  ·rw[a_]at h;cases h
 ·rename_i x n j;obtain⟨b,off,cap,Av,bc,ab,mG,hu⟩:=aj;obtain⟨u,aC,ao⟩:=G6 Av n.toNat (by omega);obtain⟨c2,ad,aA,ba⟩:=Oj (P:=P) (N:=N) (ρ:=ρ) hi h ay mG b (off+n.toNat*x.cL) u aC ao;refine⟨c2,ad, ?_,ba⟩;rw[hu];simpa[Instr.loadAt,Instr.sureAddr]using aA
 ·cases h
end
end Go.ak
end
section
namespace Go.ak
section
variable {P:Program} {N:Nat->Prop} {ρ:List Loc} {I:aD} {w:World}
theorem Hk {bW:List (Nat×Nat×aZ)}{a:List Field}(h:p7 P bW a=true)(f:Nat)(aU:f<bW.length):
 ∃ek g,a[f]? =some ek/\P.info? ek.type=some g/\ek.offset=(bW.getD f (0,0, .no)).1/\g.size=(bW.getD f (0,0, .no)).2.2.size/\0<g.size/\
  ∃d,P.underlying ek.type=some d/\o5 d=(bW.getD f (0,0, .no)).2.2.isAgg:=by
 induction bW generalizing a f with
 |nil=>simp at aU
 |cons x r bI=>
  obtain⟨o,n,t⟩:=x
  cases a with
  |nil=>simp[p7]at h
  |cons ek br=>
   simp only[p7,apM]at h;obtain⟨⟨⟨⟨⟨⟨⟨ab,ad⟩,aA⟩,ba⟩,bJ⟩,Up⟩,cu⟩,gO⟩:=h
   cases f with
   |zero=>
    obtain⟨g,bh⟩:=arQ.1 bJ;obtain⟨d,a_⟩:=arQ.1 Up;have aJ:=apC ad;have bX:=apC aA;have cW:1<=n:=by simpa[Nat.blt]using ba
    have:P.cellsOf ek.type=g.size:=by simp[Program.cellsOf,bh]
    refine⟨ek,g,rfl,bh,(apC ab).symm, ?_,by omega,d,a_,by simpa[DC,a_]using cu⟩;simp only[List.getD_cons_zero];omega
   |succ f=>
    obtain⟨ajK,g,aY,bj⟩:=bI gO f (by simpa using aU);exact⟨ajK,g,by simpa using aY,by simpa using bj⟩
theorem yA {t:TypeId}{i:b7}(hi:c5 P t i=true){bW:List (Nat×Nat×aZ)}{cs:List cb}(h:i.ty= .struct bW cs):
 ∃a,P.underlying t=some (.struct a)/\p7 P bW a.toList=true:=by
 unfold c5 at hi;rw[h]at hi;split at hi<;>simp_all
theorem Yz {s:TypeId}{i:b7}(hi:c5 P s i=true){bW:List (Nat×Nat×aZ)}{cs:List cb}(h:i.ty= .struct bW cs)(f:Nat)(aU:f<bW.length)(b o:Nat):
 (Instr.fieldAt s (.pointer (some ⟨b,o,none⟩)) f).run P w= .ok (.pointer (some ⟨b,o+fB i.ty f,none⟩)) w:=by
 obtain⟨a,ab,ad⟩:=yA hi h;obtain⟨ek,g,aY,bj,bG,di,eK,_⟩:=Hk ad f aU;have tt:a[f]? =some ek:=by simpa using aY
 have:¬g.size=0:=by omega
 rw[h,fB,dW,<-bG];simp[Instr.fieldAt,underlying,ab,tt,Instr.sureAddr,fieldPlace,lr bj,this,mP]
theorem aau {s:TypeId}{i:b7}(hi:c5 P s i=true){bW:List (Nat×Nat×aZ)}{cs:List cb}(h:i.ty= .struct bW cs)(f:Nat)(aU:f<bW.length)(l:List R){u:Value}
 (hu:bH (aK N ρ I) w ρ I (.agg l) u) (ax:fB i.ty f+(kK i.ty f).size<=l.length):
 ∃v,(Instr.field s u f).run P w= .ok v w/\
  bH (aK N ρ I) w ρ I (match kK i.ty f with| .aG _=>b6 .un l (fB i.ty f)|t=> .agg (kR (kQ l (fB i.ty f)) t.size)) v:=by
 obtain⟨a,ab,ad⟩:=yA hi h;obtain⟨ek,g,aY,bj,bG,di,eK,gC⟩:=Hk ad f aU;have tt:a[f]? =some ek:=by simpa using aY
 obtain⟨arr,rfl,aR,ao⟩:=hu;have Jh:fB i.ty f=ek.offset:=by rw[h,fB,dW,<-bG]
 have cd:kK i.ty f=(bW.getD f (0,0, .no)).2.2:=by rw[h,kK,dW]
 rw[Jh,cd]at ax⊢;obtain⟨d,j4,ig⟩:=gC
 cases rE:(bW.getD f (0,0, .no)).2.2 with
 |aG st=>
  rw[rE]at ax ig di;have bL:ek.offset<l.length:=by simp[aZ.size]at ax;omega
  have j1:ek.offset<arr.size:=by omega
  refine⟨arr[ek.offset], ?_, ?_⟩
  ·simp[Instr.field,underlying,ab,tt,asAgg,part,q_ j4,ig,aZ.isAgg,j1]
  ·have:=ao ek.offset bL;simp only[dW];simp only[apH,arn j1,aqz]at this;exact .c7 this
 |no=>
  rw[rE]at ax di;simp[aZ.size]at di;omega
 |struct FF lN=>
  rw[rE]at ax ig di;refine⟨.agg (arr.extract ek.offset (ek.offset+g.size)),by simp[Instr.field,underlying,ab,tt,asAgg,part,q_ j4,ig,aZ.isAgg,lr bj], .hn ⟨_,rfl, ?_,fun m hm=> ?_⟩⟩
  ·simp[lz,ly,di];omega
  ·simp only[lz,ly,ap_,aqL]at hm⊢;have:=ao (ek.offset+m) (by omega)
   have az:(arr.extract ek.offset (ek.offset+g.size)).getD m undef=arr.getD (ek.offset+m) undef:=by
    rw[apH,apH,Array.getElem?_extract,apz (by omega)]
   have aJ:(List.take (aZ.struct FF lN).size (List.drop ek.offset l)).getD m .un=l.getD (ek.offset+m) .un:=by
    rw[apA,apA,aqq,apz (by omega),aq1]
   rw[az,aJ];exact this
 |arr n' cg lN=>
  rw[rE]at ax ig di;refine⟨.agg (arr.extract ek.offset (ek.offset+g.size)),by simp[Instr.field,underlying,ab,tt,asAgg,part,q_ j4,ig,aZ.isAgg,lr bj], .hn ⟨_,rfl, ?_,fun m hm=> ?_⟩⟩
  ·simp[lz,ly,di];omega
  ·simp only[lz,ly,ap_,aqL]at hm⊢;have:=ao (ek.offset+m) (by omega)
   have az:(arr.extract ek.offset (ek.offset+g.size)).getD m undef=arr.getD (ek.offset+m) undef:=by
    rw[apH,apH,Array.getElem?_extract,apz (by omega)]
   have aJ:(List.take (aZ.arr n' cg lN).size (List.drop ek.offset l)).getD m .un=l.getD (ek.offset+m) .un:=by
    rw[apA,apA,aqq,apz (by omega),aq1]
   rw[az,aJ];exact this
theorem sB {n:Nat}{lo hi:Option Int}(h:∀p∈mh n lo hi,p):
 (∀a,lo=some a->0<=a/\a.toNat<=n)/\(∀b,hi=some b->0<=b/\b.toNat<=n)/\(lo.getD 0).toNat<=(hi.map Int.toNat).getD n:=by
 have h_:∀{q:Prop} {l:List Prop},(∀p∈q::l,p)->q/\∀p∈l,p:=fun h=>List.forall_mem_cons.1 h
 cases lo with
 |none=>
  cases hi with
  |none=>exact⟨(fun a h=>by cases h),(fun b h=>by cases h),by simp⟩
  |some b=>
   obtain⟨ab,h⟩:=h_ h;obtain⟨ad,h⟩:=h_ h;refine⟨(fun a h=>by cases h),(fun fh ah=>by cases ah;exact⟨ab,by omega⟩),by simp⟩
 |some a=>
  cases hi with
  |none=>
   obtain⟨ab,h⟩:=h_ h;obtain⟨ad,h⟩:=h_ h;refine⟨(fun cf aR=>by cases aR;exact⟨ab,by omega⟩),(fun b h=>by cases h), ?_⟩;simp only[aqz,Option.map_none,Option.getD_none];omega
  |some b=>
   obtain⟨ab,h⟩:=h_ h;obtain⟨ad,h⟩:=h_ h;obtain⟨aA,h⟩:=h_ h;refine⟨(fun cf aR=>by cases aR;exact⟨ab,by omega⟩),(fun fh ah=>by cases ah;exact⟨by omega,by omega⟩), ?_⟩;simp only[aqz,aqF];omega
theorem yY {α:Type}(l:List α)(lo hi:Option Int)(h:∀p∈mh l.length lo hi,p)(d:α):
 (kh l lo hi).length=(hi.map Int.toNat).getD l.length-(lo.getD 0).toNat/\
 ∀i,i<(kh l lo hi).length->(kh l lo hi).getD i d=l.getD ((lo.getD 0).toNat+i) d:=by
 obtain⟨ab,ad,aA⟩:=sB h
 cases lo with
 |none=>
  cases hi with
  |none=>simp[kh]
  |some b=>
   have:=ad b rfl;simp only[kh,aqF,aqz,Option.getD_none,Int.toNat_zero,ap_];refine⟨by omega,fun i hi=> ?_⟩;simp[apA,show i<b.toNat by omega]
 |some a=>
  have aR:=ab a rfl
  cases hi with
  |none=>
   simp only[kh,Option.map_none,aqz,Option.getD_none,aqL];refine⟨trivial,fun i hi=>by simp[apA]⟩
  |some b=>
   have:=ad b rfl;simp only[aqz,aqF]at aA;simp only[kh,aqF,aqz,aqL,ap_];refine⟨by omega,fun i hi=>by simp[apA,show a.toNat+i<b.toNat by omega]⟩
theorem aav {Z:Nat->Prop}{x y:U}{a:Option Addr}{len cap:Nat}(h:bB Z w x (.slice a len cap))(ax:x.len=len)(lo m:Nat)(hm:lo+m<=len)
 (he:y.cL=x.cL) (bo:y.len=m) (ag:(∃k p q,x= .af k p/\y= .af k q/\∀i,i<m->q.getD i 0=p.getD (lo+i) 0)\/
   ∃an p q,x= .ar an p/\y= .ar an q/\∀i,i<m->q.getD i []=p.getD (lo+i) []):
 bB Z w y (.slice (if cap=lo then a else a.map (·.add (lo*x.cL))) m (cap-lo)):=by
 rcases ag with⟨k,p,q,rfl,rfl,a6⟩|⟨an,p,q,rfl,rfl,a6⟩
 ·simp only[U.len,U.cL]at*
  cases xL:m with
  |zero=>
   rw[xL]at bo;have:q=[]:=aqm.1 bo;subst this;exact .jt _ _ _
  |succ r=>
   cases h with
   |jt=>simp at hm;omega
   |af _ _ n b off cap aB bm aC hv=>
    have dn:¬cap=lo:=by omega
    rw[apy dn];simp only[aqF,mP];rw[<-xL];refine .af k q m b _ _ bo bm (by omega) fun i hi=> ?_;rw[a6 i hi,ap8,aqs];exact hv (lo+i) (by omega)
 ·simp only[U.len,U.cL]at*
  cases xL:m with
  |zero=>
   rw[xL]at bo;have:q=[]:=aqm.1 bo;subst this;exact .kS _ _ _
  |succ r=>
   cases h with
   |kS=>simp at hm;omega
   |ar _ _ n b off cap u aB cx bm aC hv ao=>
    have dn:¬cap=lo:=by omega
    rw[apy dn];simp only[aqF,mP];rw[<-xL];refine .ar an q m b _ _ (fun i j=>u (lo+i) j) bo cx bm (by omega) (fun i j hi aI=> ?_) (fun i j hi aI=> ?_)
    ·have:=hv (lo+i) j (by omega) aI;rwa [show off+lo*an+i*an+j=off+(lo+i)*an+j by rw[apU];omega]
    ·rw[a6 i hi];exact ao (lo+i) j (by omega) aI
theorem BN (Aw:Bool)(n len cap:Nat)(aC:len<=cap)(lo hi:Option Value)(a b:Option Int)
 (iU:∀v,lo=some v->∃k z,v= .int k z/\a=some z) (Ts:lo=none->a=none) (mA:∀v,hi=some v->∃k z,v= .int k z/\b=some z) (ag8:hi=none->b=none)
 (eV:∀p∈mh n a b,p) (aB:n=len):
 (Instr.sliceBounds Aw len cap lo hi none).run P w= .ok ((a.getD 0).toNat,(b.map Int.toNat).getD len,cap) w:=by
 subst aB;obtain⟨ab,ad,aA⟩:=sB eV
 have ah:∀(code:BoundsCode) (k:IntKind) (z:Int) (y:Nat),0<=z->z.toNat<=y->(Instr.sliceBound (.int k z) y code).run P w= .ok z.toNat w:=fun code k z y bc bo=>by
  simp[Instr.sliceBound,asIntOf,bc,show z<=(y:Int) by omega]
 cases hi with
 |none=>
  rw[ag8 rfl]at aA⊢
  cases lo with
  |none=>rw[Ts rfl];simp[Instr.sliceBounds]
  |some v=>
   obtain⟨k,z,rfl,rfl⟩:=iU v rfl;obtain⟨g1,g2⟩:=ab z rfl;simp[Instr.sliceBounds,ah _ k z n g1 g2]
 |some v=>
  obtain⟨k,z,rfl,rfl⟩:=mA v rfl;obtain⟨g1,g2⟩:=ad z rfl;have Uq:=fun c=>ah c k z cap g1 (by omega)
  cases lo with
  |none=>rw[Ts rfl];simp[Instr.sliceBounds,Uq]
  |some c8=>
   obtain⟨cD,VF,rfl,rfl⟩:=iU c8 rfl;obtain⟨ajL,aoW⟩:=ab VF rfl;simp only[aqz,aqF]at aA;simp[Instr.sliceBounds,Uq,ah _ cD VF z.toNat ajL aA]
end
end Go.ak
end
section
namespace Go.ak
section
variable {P:Program} {N:Nat->Prop} {ρ:List Loc} {I:aD} {w:World}
theorem q5 (h:cw N ρ I w){id:Nat}{av:Loc}(ax:ρ[id]? =some av)(aU:cz I id=true){t:aZ}(fj:jI t (ae.at I id)=true):
 bB (aK N ρ I) w (ae.at I id).data (.slice av.a (ae.at I id).len av.cap):=by
 have ck:=h.ob id av ax
 have bm:∀b,av.bs=some b->¬aK N ρ I b:=fun b ah bm=>by
  rcases bm with aB|⟨j,cA,ab,ad,aA⟩
  ·exact h.fz id av b ax ah aB
  ·have:=h.inj id j av cA b ax ab ah ad (fun⟨_,n,an,e⟩=>by rw[e]at fj;cases t<;>simp[jI]at fj) (lu aA);subst this;rw[aU]at aA;cases aA
 cases aF:ae.at I id with
 |af k l=>
  rw[aF]at ck;rcases ck with⟨rfl,ad⟩|⟨b,aH,e,ab,ad,aA,ba,bJ,cu⟩
  ·exact .jt _ _ _
  ·rw[ab];exact .af k l _ b 0 _ rfl (bm b ad) ba fun i hi=>by simp[World.cell?,aA,cu i hi]
 |ar an l=>
  rw[aF]at ck;rcases ck with⟨rfl,ad⟩|⟨b,aH,e,ab,ad,aA,ba,bJ,cx,cu⟩
  ·exact .kS _ _ _
  ·rw[ab];refine .ar an l _ b 0 _ (fun i j=>aH.getD (i*an+j) undef) rfl cx (bm b ad) ba (fun i j hi aI=> ?_) (fun i j hi aI=> ?_)
   ·obtain⟨v,aO,_⟩:=cu i j hi aI;simp[World.cell?,aA,apH,aO]
   ·obtain⟨v,aO,ao⟩:=cu i j hi aI;simpa[apH,aO]using ao
 |_=>rw[aF]at fj;cases t<;>simp[jI]at fj
theorem O9 {id:Nat}{u:Value}{k:IntKind}{l:List Int}(aj:bH (aK N ρ I) w ρ I (.vec id) u)(h:ae.at I id= .af k l):
 ∃av,ρ[id]? =some av/\u= .slice av.a l.length av.cap:=by
 obtain⟨av,ab,ad,_⟩:=aj;exact⟨av,ab,by rw[ad,h];rfl⟩
theorem n0 {tm:List R}{a:Act}(aw:ei (aK N ρ I) w ρ I tm a.tmps)(o:Option Operand){z:Option Int}(h:l_ (omap (aN tm) o)=some z):
 (∀v,o.map a.eval=some v->∃k y,v= .int k y/\z=some y)/\(o.map a.eval=none->z=none):=by
 cases o with
 |none=>simp[omap,l_]at h;subst h;simp
 |some x=>
  have aj:=ey aw x;simp only[omap]at h
  cases he:aN tm x with
  |d y=>
   rw[he]at h aj
   cases y with
   |int k n=>
    simp[l_]at h;subst h;have:=jb aj;exact⟨fun v aO=>by simp at aO;subst aO;exact⟨k,n,this,rfl⟩,fun aO=>by simp at aO⟩
   |_=>simp[l_]at h
  |_=>rw[he]at h;simp[l_]at h
theorem yz {t e:TypeId}{g:TypeInfo}(hu:P.underlying t=some (.slice e))(bh:P.info? e=some g)(a:Option Addr)(len cap:Nat)(lo hi dp:Option Value){l h m:Nat}
 (ah:(Instr.sliceBounds true len cap lo hi dp).run P w= .ok (l,h,m) w):
 (Instr.sliceAt t (.slice a len cap) lo hi dp).run P w= .ok (.slice (if m=l then a else a.map (·.add (l*g.size))) (h-l) (m-l)) w:=by
 simp[Instr.sliceAt,Instr.slice,underlying,hu,ah,lr bh]
theorem Ol {t:TypeId}{i:b7}(hi:c5 P t i=true)(ay:iH i.ty=true){e:TypeId}(he:P.underlying t=some (.slice e)):∃g,P.info? e=some g:=by
 have:∃x,hj i.ty x=true:=by
  cases cd:i.ty with
  |aG s=>
   rw[cd]at ay
   cases s with
   |cp k=>exact⟨.af k [],jD.2 rfl⟩
   |dK an=>exact⟨.ar an [],aqx an⟩
   |_=>simp[iH]at ay
  |_=>rw[cd]at ay;simp[iH]at ay
 obtain⟨x,aj⟩:=this;obtain⟨cg,g,ab,ad,_⟩:=sr hi aj;rw[he]at ab;cases ab;exact⟨g,ad⟩
theorem O_ {t:aZ}{o:ae}(h:hj t o.data=true):jI t o=true:=by
 cases t with
 |aG s=>cases o<;>cases s<;>simp_all [jI,hj,ae.data]
 |_=>cases o<;>simp[hj]at h
theorem XU {t:TypeId}{i:b7}(hi:c5 P t i=true)(bM:cw N ρ I w){cZ:Operand}{lo eY dp:Option Operand}{tm:List R}{a:Act}
 (aw:ei (aK N ρ I) w ρ I tm a.tmps) {cq:List Prop} {v:R} {al:aD}
 (h:kI i.ty (aN tm cZ) (omap (aN tm) lo) (omap (aN tm) eY) (omap (aN tm) dp) I= .a8 cq v al) (ay:∀p∈cq,p):
 ∃u,(Instr.sliceAt t (a.eval cZ) (lo.map a.eval) (eY.map a.eval) (dp.map a.eval)).run P w= .ok u w/\cv N ρ I w ρ al w/\bH (aK N ρ al) w ρ al v u:=by
 have aj:=ey aw cZ;generalize aN tm cZ=x at*;unfold kI at h;split at h
 ·rename_i rT;have z6:dp=none:=by cases dp<;>simp[omap]at rT⊢
  subst z6;split at h
  ·rename_i gf hp iU mA;obtain⟨de,l2⟩:=n0 aw lo iU;obtain⟨dX,dU⟩:=n0 aw eY mA
   have bounds:∀(Aw:Bool) (n cap:Nat),n<=cap->(∀p∈mh n gf hp,p)->
    (Instr.sliceBounds Aw n cap (lo.map a.eval) (eY.map a.eval) none).run P w= .ok ((gf.getD 0).toNat,(hp.map Int.toNat).getD n,cap) w:=
    fun Aw n cap aC eV=>BN Aw n n cap aC _ _ gf hp de l2 dX dU eV rfl
   have cut:∀(x y:U) (u:Value),bB (aK N ρ al) w x u->hj i.ty x=true->(∀p∈mh x.len gf hp,p)->y.cL=x.cL->y.len=(hp.map Int.toNat).getD x.len-(gf.getD 0).toNat->
    ((∃k p q,x= .af k p/\y= .af k q/\∀i,i<y.len->q.getD i 0=p.getD ((gf.getD 0).toNat+i) 0)\/
      ∃an p q,x= .ar an p/\y= .ar an q/\∀i,i<y.len->q.getD i []=p.getD ((gf.getD 0).toNat+i) [])->
    ∃c2,(Instr.sliceAt t u (lo.map a.eval) (eY.map a.eval) none).run P w= .ok c2 w/\bB (aK N ρ al) w y c2:=by
    intro x y u ao aU eV he bo ag;obtain⟨e,g,FG,bh,cx,_⟩:=sr hi aU;obtain⟨_,_,aA⟩:=sB eV
    have u1:∃fH cap,u= .slice fH x.len cap/\x.len<=cap:=by
     cases ao with
     |jt fH cap k=>exact⟨fH,cap,rfl,by simp[U.len]⟩
     |af k l n b off cap aB bm aC h=>exact⟨some ⟨b,off,none⟩,cap,by rw[show(U.af k l).len=l.length from rfl,aB],by rw[show(U.af k l).len=l.length from rfl,aB];exact aC⟩
     |kS fH cap an=>exact⟨fH,cap,rfl,by simp[U.len]⟩
     |ar an l n b off cap u aB cx bm aC h ao=>exact⟨some ⟨b,off,none⟩,cap,by rw[show(U.ar an l).len=l.length from rfl,aB],by rw[show(U.ar an l).len=l.length from rfl,aB];exact aC⟩
     |_=>cases cd:i.ty<;>simp[cd,hj]at aU
    obtain⟨fH,cap,rfl,nA⟩:=u1;have ah:=bounds true x.len cap nA eV;refine⟨_,yz FG bh fH x.len cap _ _ none ah, ?_⟩;rw[cx]
    have ag9:(hp.map Int.toNat).getD x.len<=x.len:=by
     cases hp with
     |none=>simp
     |some z=>exact((sB eV).2.1 z rfl).2
    refine aav ao rfl _ _ (by omega) he bo ?_;rw[bo]at ag;exact ag
   split at h
   ·rename_i k l;split at h
    ·rename_i aU;simp only[bT.a8.injEq]at h;obtain⟨rfl,rfl,rfl⟩:=h;obtain⟨dh,eW⟩:=yY l gf hp ay 0;obtain⟨c2,aY,bj⟩:=cut (.af k l) (.af k (kh l gf hp)) _ aj aU ay rfl dh (.inl ⟨k,l,_,rfl,rfl,eW⟩);exact⟨c2,aY,cv.refl bM, .c7 bj⟩
    ·cases h
   ·rename_i an l;split at h
    ·rename_i aU;simp only[bT.a8.injEq]at h;obtain⟨rfl,rfl,rfl⟩:=h;obtain⟨dh,eW⟩:=yY l gf hp ay [];obtain⟨c2,aY,bj⟩:=cut (.ar an l) (.ar an (kh l gf hp)) _ aj aU ay rfl dh (.inr ⟨an,l,_,rfl,rfl,eW⟩);exact⟨c2,aY,cv.refl bM, .c7 bj⟩
    ·cases h
   ·rename_i l;split at h
    ·rename_i cd;simp only[bT.a8.injEq]at h;obtain⟨rfl,rfl,rfl⟩:=h;obtain⟨s,hu,ax⟩:=uq aj;have hlen:l.length=s.size:=by rw[ax,apI,aqD];rfl
     have vc:=sx hi cd;have ah:=bounds false s.size s.size (apF _) (by rw[<-hlen];exact ay);refine⟨.string (s.extract (gf.getD 0).toNat ((hp.map Int.toNat).getD s.size)), ?_,cv.refl bM, .c7 (bB.str _ _ ?_)⟩
     ·rw[hu];simp only[Instr.sliceAt,Sem.run_bind,run_underlying vc,Result.andThen_ok,Instr.slice,Option.map_none,Option.isSome_none,aqQ,if_false,ah,Sem.run_pure]
     ·obtain⟨dh,eW,jR⟩:=sB ay
      have az:(s.extract (gf.getD 0).toNat ((hp.map Int.toNat).getD s.size)).data.toList=(s.data.toList.take ((hp.map Int.toNat).getD s.size)).drop (gf.getD 0).toNat:=by
       rw[ByteArray.data_extract,Array.toList_extract,List.extract_eq_drop_take',List.drop_take]
      rw[az,ax];have cx:s.data.toList.length=s.size:=by rw[aqD];rfl
      cases gf<;>cases hp<;>simp only[kh,Option.getD_none,aqz,Option.map_none,aqF,Int.toNat_zero,List.drop_zero,List.map_take,List.map_drop]
      ·rw[aro (by rw[apI,cx];exact apF _)]
      ·rw[aro (by rw[apI,cx];exact apF _)]
    ·cases h
   ·rename_i id;have hB:bH (aK N ρ I) w ρ I (.vec id) (a.eval cZ):=aj;split at h
    ·rename_i k l aF;split at h
     ·rename_i aU;simp only[bT.a8.injEq]at h;obtain⟨rfl,rfl,rfl⟩:=h;obtain⟨av,ax,hu⟩:=O9 hB aF;have cS:=cv.shut bM id;have fa:I.set id (true,ae.at I id)=e_ I id:=by rw[e_,eE]
      rw[fa]at cS;have cR:ae.at (e_ I id) id= .af k l:=by rw[<-fa,gG];split<;>simp[aF]
      have ep:cz (e_ I id) id=true:=by rw[<-fa,h9,apz ⟨rfl,bM.j0 ax⟩]
      have ao:=q5 cS.rel ax ep (t:=i.ty) (by rw[cR];exact O_ aU);rw[cR]at ao;obtain⟨dh,eW⟩:=yY l gf hp ay 0;obtain⟨c2,aY,bj⟩:=cut (.af k l) (.af k (kh l gf hp)) _ ao aU ay rfl dh (.inl ⟨k,l,_,rfl,rfl,eW⟩);exact⟨c2,by rw[hu];exact aY,cS, .c7 bj⟩
     ·cases h
    ·rename_i an l aF;split at h
     ·rename_i aU;simp only[bT.a8.injEq]at h;obtain⟨rfl,rfl,rfl⟩:=h;obtain⟨av,ax,hu,_⟩:=hB;have cS:=cv.shut bM id;have fa:I.set id (true,ae.at I id)=e_ I id:=by rw[e_,eE]
      rw[fa]at cS;have cR:ae.at (e_ I id) id= .ar an l:=by rw[<-fa,gG];split<;>simp[aF]
      have ep:cz (e_ I id) id=true:=by rw[<-fa,h9,apz ⟨rfl,bM.j0 ax⟩]
      have ao:=q5 cS.rel ax ep (t:=i.ty) (by rw[cR];exact O_ aU);rw[cR]at ao;obtain⟨dh,eW⟩:=yY l gf hp ay [];obtain⟨c2,aY,bj⟩:=cut (.ar an l) (.ar an (kh l gf hp)) _ ao aU ay rfl dh (.inr ⟨an,l,_,rfl,rfl,eW⟩);exact⟨c2,by rw[hu,aF];exact aY,cS, .c7 bj⟩
     ·cases h
    ·cases h
   ·split at h
    ·rename_i aU;simp only[bT.a8.injEq]at h;obtain⟨rfl,rfl,rfl⟩:=h;obtain⟨fH,hu⟩:=aj;obtain⟨e,he⟩:=q2 hi aU;obtain⟨g,bh⟩:=Ol hi aU he;have ah:=bounds true 0 0 (apF _) ay;refine⟨_,by rw[hu];exact yz he bh fH 0 0 _ _ none ah,cv.refl bM, .c7 ?_⟩
     have az:(hp.map Int.toNat).getD 0=0:=by
      cases hp with
      |none=>rfl
      |some z=>have:=((sB ay).2.1 z rfl).2;simp;omega
     have aJ:=(sB ay).2.2;rw[az]at aJ⊢;have bX:(gf.getD 0).toNat=0:=by omega
     rw[bX];exact⟨_,rfl⟩
    ·cases h
   ·cases h
  ·cases h
 ·rename_i k rT
  obtain⟨pN,ajM,ag_⟩:∃pN,dp=some pN/\aN tm pN= .d (.int k (.ofNat 0)):=by
   cases dp with
   |none=>simp[omap]at rT
   |some pN=>simp only[omap,apX]at rT;exact⟨pN,rfl,rT⟩
  have hm:=ey aw pN;rw[ag_]at hm;have hm:=jb hm
  have key:∀(y:U),x= .d y->hj i.ty y=true->(lo.map a.eval=none\/∃cD,lo.map a.eval=some (.int cD 0))->(∃cD,eY.map a.eval=some (.int cD 0))->
   ∃u,(Instr.sliceAt t (a.eval cZ) (lo.map a.eval) (eY.map a.eval) (dp.map a.eval)).run P w= .ok u w/\bH (aK N ρ I) w ρ I .emp u:=by
   intro y bo aU ab ⟨bj,ad⟩;subst bo;obtain⟨e,g,he,bh,_⟩:=sr hi aU
   have u1:∃fH n cap,a.eval cZ= .slice fH n cap:=by
    cases y with
    |af Bj l=>obtain⟨fH,cap,hu,_⟩:=Cc aj;exact⟨fH,_,cap,hu⟩
    |ar an l=>obtain⟨fH,cap,hu,_⟩:=Hi aj;exact⟨fH,_,cap,hu⟩
    |_=>cases cd:i.ty<;>simp[cd,hj]at aU
   obtain⟨fH,n,cap,hu⟩:=u1;rw[hu,ajM,ad];simp only[aqF,hm]
   have ah:(Instr.sliceBounds true n cap (lo.map a.eval) (some (.int bj 0)) (some (.int k (Int.ofNat 0)))).run P w= .ok (0,0,0) w:=by
    rcases ab with ab|⟨cD,ab⟩<;>rw[ab]<;>simp[Instr.sliceBounds,Instr.sliceBound,asIntOf]
   exact⟨_,yz he bh fH n cap _ _ _ ah, .c7 ⟨_,rfl⟩⟩
  split at h
  ·rename_i iU mA;obtain⟨de,l2⟩:=n0 aw lo iU;obtain⟨dX,dU⟩:=n0 aw eY mA;split at h
   ·rename_i y aU;simp only[bT.a8.injEq]at h;obtain⟨rfl,rfl,rfl⟩:=h
    obtain⟨u,aY,bj⟩:=key _ rfl aU
     (by cases ax:lo.map a.eval with
       |none=>exact .inl rfl
       |some v=>obtain⟨_,_,_,b5⟩:=de v ax;cases b5)
     (by cases ax:eY.map a.eval with
       |none=>have:=dU ax;cases this
       |some v=>obtain⟨cD,z,aO,b5⟩:=dX v ax;cases b5;exact⟨cD,by rw[aO];rfl⟩)
    exact⟨u,aY,cv.refl bM,bj⟩
   ·cases h
  ·rename_i iU mA;obtain⟨de,l2⟩:=n0 aw lo iU;obtain⟨dX,dU⟩:=n0 aw eY mA;split at h
   ·rename_i y aU;simp only[bT.a8.injEq]at h;obtain⟨rfl,rfl,rfl⟩:=h
    obtain⟨u,aY,bj⟩:=key _ rfl aU
     (by cases ax:lo.map a.eval with
       |none=>exact .inl rfl
       |some v=>obtain⟨cD,z,aO,b5⟩:=de v ax;cases b5;exact .inr ⟨cD,by rw[aO];rfl⟩)
     (by cases ax:eY.map a.eval with
       |none=>have:=dU ax;cases this
       |some v=>obtain⟨cD,z,aO,b5⟩:=dX v ax;cases b5;exact⟨cD,by rw[aO];rfl⟩)
    exact⟨u,aY,cv.refl bM,bj⟩
   ·cases h
  ·cases h
 ·cases h
theorem aaw {Z:Nat->Prop}{an:Nat}{l:List (List U)}{b off cap:Nat}(h:bB Z w (.ar an l) (.slice (some ⟨b,off,none⟩) l.length cap))(bc:0<l.length):¬Z b:=by
 generalize aB:l.length=n at h
 cases h with
 |kS a cap an=>omega
 |ar an l n b off cap u ax cx bm aC hv ao=>exact bm
theorem YA {Z:Nat->Prop}{x:U}{u:Value}{k:IntKind}(h:bB Z w x u)(ag:x.dQ k):u= .int k x.toInt:=by
 cases h with
 |int cD n=>obtain rfl:cD=k:=ag;rfl
 |_=>exact ag.elim
theorem aax (L:List U)(i:Nat):(L.map U.toInt).getD i 0=(L.getD i .undef).toInt:=by
 simp only[apA,aqv];cases L[i]? <;>rfl
theorem mQ {α:Type}{L:List α}{i:Nat}(d:α)(h:i<L.length):L.getD i d∈L:=by
 rw[apA,apT h];exact aqA h
theorem XV {t:TypeId}{i:b7}(hi:c5 P t i=true)(bM:cw N ρ I w){x:R}{u:Value}(aj:bH (aK N ρ I) w ρ I x u){lo eY dp:Option Operand}{tm:List R}{a:Act}
 (aw:ei (aK N ρ I) w ρ I tm a.tmps) {cq:List Prop} {v:R} {al:aD}
 (h:p3 i.ty x (omap (aN tm) lo) (omap (aN tm) eY) (omap (aN tm) dp) I= .a8 cq v al) (ay:∀p∈cq,p):
 ∃c2,(Instr.sliceAt t u (lo.map a.eval) (eY.map a.eval) (dp.map a.eval)).run P w= .ok c2 w/\cv N ρ I w ρ al w/\bH (aK N ρ al) w ρ al v c2:=by
 unfold p3 at h;split at h
 ·rename_i m k cs id n j cd rT;have z6:dp=none:=by cases dp<;>simp[omap]at rT⊢
  subst z6;split at h
  ·rename_i an l gf hp aF iU mA;split at h
   ·rename_i ah;have ah:j+m<=an:=apZ ah;simp only[bT.a8.injEq]at h;obtain⟨rfl,rfl,rfl⟩:=h;have hlen:(l.getD n.toNat []).length=an:=ay _ (by simp)
    have hint:∀x∈lB (l.getD n.toNat []) j m an,x.dQ k:=ay _ (by simp)
    have xx:∀p∈mh m gf hp,p:=fun p aE=>ay p (by simp[aE])
    obtain⟨de,l2⟩:=n0 aw lo iU;obtain⟨dX,dU⟩:=n0 aw eY mA;have qE:(Instr.sliceBounds false m m (lo.map a.eval) (eY.map a.eval) none).run P w= .ok ((gf.getD 0).toNat,(hp.map Int.toNat).getD m,m) w:=BN false m m m (apF _) _ _ gf hp de l2 dX dU xx rfl;obtain⟨el,g,q1,cG,cV⟩:=yM hi cd;have cV:g.size=1:=cV;obtain⟨av,b,az,aJ,bX,cW,gY,jn⟩:=aj;have cS:=cv.shut bM id;have fa:I.set id (true,ae.at I id)=e_ I id:=by rw[e_,eE]
    rw[fa]at cS;have cR:ae.at (e_ I id) id= .ar an l:=by rw[<-fa,gG];split<;>simp[aF]
    have ep:cz (e_ I id) id=true:=by rw[<-fa,h9,apz ⟨rfl,bM.j0 az⟩]
    have ao:=q5 cS.rel az ep (t:= .aG (.dK an)) (by rw[cR];exact aqx an);rw[cR]at ao;have ao:bB (aK N ρ (e_ I id)) w (.ar an l) (.slice av.a l.length av.cap):=ao;rw[aJ]at ao;have yg:(ae.at I id).len=l.length:=by rw[aF];rfl
    have c3:(ae.at I id).cL=an:=by rw[aF];rfl
    rw[yg]at jn;have bm:=aaw ao (by omega);obtain⟨c,j5,rU⟩:=G6 ao n.toNat (show n.toNat<l.length by omega)
    have j5:∀m,m<an->w.cell? ⟨b,0+n.toNat*an+m,none⟩=some (c m):=j5
    have rU:∀m,m<an->bB (aK N ρ (e_ I id)) w ((l.getD n.toNat []).getD m .undef) (c m):=rU
    obtain⟨g1,g2⟩:=Hj hlen ah;have Gl:((lB (l.getD n.toNat []) j m an).map U.toInt).length=m:=by rw[apI];exact g1
    obtain⟨bD,bx,cH⟩:=sB xx;obtain⟨d1,d2⟩:=yY ((lB (l.getD n.toNat []) j m an).map U.toInt) gf hp (by rw[Gl];exact xx) 0;rw[Gl]at d1
    have ag9:(hp.map Int.toNat).getD m<=m:=by
     cases hp with
     |none=>simp
     |some z=>exact(bx z rfl).2
    refine⟨.slice (some (if m=(gf.getD 0).toNat then⟨b,n.toNat*an+j,none⟩else(⟨b,n.toNat*an+j,none⟩:Addr).add ((gf.getD 0).toNat*g.size))) ((hp.map Int.toNat).getD m-(gf.getD 0).toNat) (m-(gf.getD 0).toNat), ?_,cS, .c7 ?_⟩
    ·rw[cW,c3];simp[Instr.sliceAt,Instr.sureAddr,underlying,q1,qE,lr cG]
    ·show bB _ w (.af k _) _;rw[cV,ap8,mP]
     by_cases hm:m=(gf.getD 0).toNat
     ·rw[apz hm];have bc:(hp.map Int.toNat).getD m-(gf.getD 0).toNat=0:=by omega
      rw[bc]at d1⊢;rw[arp d1];exact bB.jt _ _ _
     ·rw[apy hm];refine bB.af k _ _ b _ _ d1 bm (by omega) fun q a6=> ?_;rw[d2 q (by rw[d1];exact a6)];have xM:(gf.getD 0).toNat+q<m:=by omega
      have qS:((lB (l.getD n.toNat []) j m an).map U.toInt).getD ((gf.getD 0).toNat+q) 0=((l.getD n.toNat []).getD (j+((gf.getD 0).toNat+q)) .undef).toInt:=by
       rw[<-g2 _ xM,aax]
      rw[qS]
      have h_:(l.getD n.toNat []).getD (j+((gf.getD 0).toNat+q)) .undef∈lB (l.getD n.toNat []) j m an:=by
       rw[<-g2 _ xM];exact mQ _ (by omega)
      have:=j5 (j+((gf.getD 0).toNat+q)) (by omega);rw[YA (rU (j+((gf.getD 0).toNat+q)) (by omega)) (hint _ h_)]at this;rw[<-this]
      congr 2
      omega
   ·cases h
  ·cases h
 ·cases h
theorem XW {t:TypeId}{i:b7}(hi:c5 P t i=true)(bM:cw N ρ I w){cZ:Operand}{lo eY dp:Option Operand}{tm:List R}{a:Act}
 (aw:ei (aK N ρ I) w ρ I tm a.tmps) {cq:List Prop} {v:R} {al:aD}
 (h:sz i.ty (aN tm cZ) (omap (aN tm) lo) (omap (aN tm) eY) (omap (aN tm) dp) I= .a8 cq v al) (ay:∀p∈cq,p):
 ∃u,(Instr.sliceAt t (a.eval cZ) (lo.map a.eval) (eY.map a.eval) (dp.map a.eval)).run P w= .ok u w/\cv N ρ I w ρ al w/\bH (aK N ρ al) w ρ al v u:=by
 unfold sz at h;split at h
 ·exact XV hi bM (ey aw cZ) aw h ay
 ·exact XU hi bM aw h ay
end
end Go.ak
end
section
namespace Go.ak
section
variable {P:Program} {N:Nat->Prop} {ρ:List Loc} {I:aD} {w:World}
theorem wo {t:R}{u:Value}(ay:t.n2=true)(h:bH (aK N ρ I) w ρ I t u):eJ (aK N ρ I) w ρ I t u/\u.oneCell'=true:=by
 cases t with
 |d x=>exact⟨h,bB.one h⟩
 |bt=>have h:u= .bool true:=h;subst h;exact⟨rfl,rfl⟩
 |bf=>have h:u= .bool false:=h;subst h;exact⟨rfl,rfl⟩
 |emp=>obtain⟨a,rfl⟩:=h;exact⟨⟨a,rfl⟩,rfl⟩
 |vec id=>obtain⟨av,ab,rfl,ad⟩:=h;exact⟨⟨av,ab,rfl,ad⟩,rfl⟩
 |ptr id off=>obtain⟨av,b,ab,ad,aA,rfl⟩:=h;exact⟨⟨av,b,ab,ad,aA,rfl⟩,rfl⟩
 |optr id i j=>obtain⟨av,b,ab,ad,aA,rfl,ba⟩:=h;exact⟨⟨av,b,ab,ad,aA,rfl,ba⟩,rfl⟩
 |rptr x i j=>obtain⟨b,off,cap,ab,ad,aA,rfl⟩:=h;exact⟨⟨b,off,cap,ab,ad,aA,rfl⟩,rfl⟩
 |xv=>have h:u= .pointer none:=h;subst h;exact⟨rfl,rfl⟩
 |fn f=>have h:u= .func (.func f) #[] #[]:=h;subst h;exact⟨rfl,rfl⟩
 |cls f c=>obtain⟨rfl,ad⟩:=h;exact⟨⟨rfl,ad⟩,rfl⟩
 |_=>simp[R.n2]at ay
theorem GW {t:R}(h:t.hl=true):t.n2=true:=by cases t<;>simp_all [R.hl,R.n2]
theorem yN {u:Value}(h:u.oneCell'=true):u.cells=#[u]:=by cases u<;>simp_all [Value.oneCell',Value.cells]
theorem uj {t:aZ}{v:R}{u:Value}(aU:v.fits t=true)(h:bH (aK N ρ I) w ρ I v u):
 u.cells.size=t.size/\v.cellsOf.length=t.size/\(∀x∈u.cells.toList,x.oneCell'=true)/\∀i,i<t.size->eJ (aK N ρ I) w ρ I (v.cellsOf.getD i .un) (u.cells.getD i undef):=by
 have agg:∀(cs:List cb) (l:List R),v= .agg l->Nat.beq (bS l) (bS cs)=true->ed R.n2 l=true->bS cs=t.size->
  u.cells.size=t.size/\v.cellsOf.length=t.size/\(∀x∈u.cells.toList,x.oneCell'=true)/\∀i,i<t.size->eJ (aK N ρ I) w ρ I (v.cellsOf.getD i .un) (u.cells.getD i undef):=by
  intro cs l aO ab ad aA;subst aO;obtain⟨arr,rfl,aR,ao⟩:=h;have ab:=apC ab;rw[cI]at ab;rw[fD,apR]at ad;simp only[Value.cells,R.cellsOf];refine⟨by omega,by omega,fun x aj=> ?_,fun i hi=>ao i (by omega)⟩;obtain⟨i,hi,rfl⟩:=List.mem_iff_getElem.1 aj;have eY:i<l.length:=by rw[<-aR];simpa using hi
  have vv:=ao i eY;have ajN:=ad l[i] (aqA eY);have az:l.getD i .un=l[i]:=by simp[apA,eY]
  have aJ:arr.getD i undef=arr.toList[i]:=by simp[apH,show i<arr.size by omega]
  rw[az,aJ]at vv;exact(wo ajN (.c7 vv)).2
 cases t with
 |aG s=>
  obtain⟨ab,ad⟩:=wo aU h;have aC:=yN ad;have aO:v.cellsOf=[v]:=by cases v<;>first|rfl|simp[R.fits,R.n2]at aU
  rw[aC,aO];refine⟨rfl,rfl,by simpa using ad,fun i hi=> ?_⟩;have:i=0:=by simp[aZ.size]at hi;omega
  subst this;exact ab
 |struct bW cs=>
  cases v<;>simp only[R.fits,aqQ]at aU;split at aU
  ·rename_i l _ ah;exact agg cs l rfl ah aU rfl
  ·cases aU
 |arr n e cs=>
  cases v<;>simp only[R.fits,aqQ]at aU;split at aU
  ·rename_i l _ ah;exact agg cs l rfl ah aU rfl
  ·cases aU
 |no=>cases v<;>simp[R.fits]at aU
theorem wq (l:List R)(off:Nat)(aH:List R):(setCells l off aH).length=l.length:=by
 induction aH generalizing l off with
 |nil=>rfl
 |cons v r bI=>simp[setCells,bI,eE]
theorem Nk (l:List R)(off:Nat)(aH:List R)(k:Nat)(ag:k<l.length):
 (setCells l off aH).getD k .un=if off<=k/\k<off+aH.length then aH.getD (k-off) .un else l.getD k .un:=by
 induction aH generalizing l off with
 |nil=>rw[apy (by simp)];rfl
 |cons v r bI=>
  simp only[setCells,eE];rw[bI _ _ (by simpa using ag),eR]
  by_cases ab:off+1<=k/\k<off+1+r.length
  ·rw[apz ab,apz (by simp;omega)];rw[show k-off=(k-(off+1))+1 by omega];simp
  ·rw[apy ab]
   by_cases ad:off=k
   ·subst ad;rw[apz ⟨rfl,ag⟩,apz (by simp)];simp
   ·rw[apy (by simp[ad]),apy (by simp;omega)]
theorem uh (cur:Array Value)(o:Nat)(aH:List Value)(h:o+aH.length<=cur.size)(k:Nat):
 (cur.toList.take o++aH++cur.toList.drop (o+aH.length)).toArray[k]? =if o<=k/\k<o+aH.length then aH[k-o]? else cur[k]? :=by
 have ax:(cur.toList.take o).length=o:=by simp;omega
 simp only[List.getElem?_toArray];rw[List.append_assoc,ap7,ax]
 by_cases ab:k<o
 ·rw[apz ab,apy (by omega),aqq,apz ab];simp
 ·rw[apy ab,ap7]
  by_cases ad:k<o+aH.length
  ·rw[apz (by omega),apz (by omega)]
  ·rw[apy (by omega),apy (by omega),aq1,show o+aH.length+(k-o-aH.length)=k by omega];simp
theorem wu (cur:Array Value)(o:Nat)(aH:List Value)(h:o+aH.length<=cur.size):(cur.toList.take o++aH++cur.toList.drop (o+aH.length)).toArray.size=cur.size:=by
 simp;omega
theorem BY (_:cw N ρ I w){id:Nat}{av:Loc}{b:Nat}(dM:ρ[id]? =some av)(ah:av.bs=some b)(aU:cz I id=false)(ob:ae)(cs:Array Value):
 ∀x u,bB (aK N ρ I) w x u->bB (aK N ρ (I.set id (false,ob))) (w.setRow b cs) x u:=fun x u ao=>
 ao.mono fun fh _ bm=>⟨setRow_other w b fh cs fun e=>bm (.inr ⟨id,av,dM,e▸ah,aU⟩),fun db=>bm (by
  rcases db with aB|⟨i,l,ab,ad,aA⟩
  ·exact .inl aB
  ·refine .inr ⟨i,l,ab,ad, ?_⟩;rw[h9]at aA
   by_cases e:id=i
   ·subst e;exact aU
   ·rwa [apy (by simp[e])]at aA)⟩
theorem Zi (id:Nat)(ob:ae)(dM:id<I.length)(ax:ob.len=(ae.at I id).len)(he:ob.cL=(ae.at I id).cL)(i:Nat):
 eQ ρ I ρ (I.set id (false,ob)) i:=fun l iT=>by
 refine⟨iT, ?_⟩;rw[gG]
 by_cases e:id=i
 ·subst e;rw[apz ⟨rfl,dM⟩];exact⟨ax,he⟩
 ·rw[apy (by simp[e])];exact⟨rfl,rfl⟩
theorem BZ {Z:Nat->Prop}{fe:R}{u:Value}(a_:fe.hl=true)(h:eJ Z w ρ I fe u):bB Z w (fe.hU I) u/\∀s:cb,bB Z w ((s.norm I fe).hU I) u:=by
 cases fe<;>simp only[R.hl,aqQ]at a_
 case d x=>exact⟨h,fun s=>by cases s<;>exact h⟩
 case bt=>have h:u= .bool true:=h;subst h;exact⟨.bool true,fun s=>by cases s<;>exact .bool true⟩
 case bf=>have h:u= .bool false:=h;subst h;exact⟨.bool false,fun s=>by cases s<;>exact .bool false⟩
 case emp=>
  obtain⟨a,rfl⟩:=h;refine⟨.undef _ rfl,fun s=> ?_⟩
  cases s with
  |cp k=>exact .jt _ _ _
  |dK an=>exact .kS _ _ _
  |_=>exact .undef _ rfl
theorem yO (cs:List cb)(aH:List R):(iN I cs aH).length=aH.length:=by
 induction cs generalizing aH with
 |nil=>cases aH<;>rfl
 |cons s r bI=>cases aH with
  |nil=>rfl
  |cons v q=>simp[iN,bI]
theorem B0 {Z:Nat->Prop}(cs:List cb)(aH:List R)(us:Nat->Value)(a_:∀v∈aH,v.hl=true)(h:∀i,i<aH.length->eJ Z w ρ I (aH.getD i .un) (us i)):
 ∀i,i<aH.length->bB Z w ((bE (R.hU I) (iN I cs aH)).getD i .undef) (us i):=by
 induction cs generalizing aH us with
 |nil=>
  intro i hi;have:iN I [] aH=aH:=by cases aH<;>rfl
  rw[this,dP];have e:(aH.map (R.hU I)).getD i .undef=(aH.getD i .un).hU I:=by simp[apA,hi]
  rw[e];exact(BZ (by rw[apA,apT hi];exact a_ _ (aqA hi)) (h i hi)).1
 |cons s r bI=>
  intro i hi
  cases aH with
  |nil=>simp at hi
  |cons v q=>
   cases i with
   |zero=>exact(BZ (a_ v (by simp)) (h 0 hi)).2 s
   |succ i=>
    have:=bI q (fun i=>us (i+1)) (fun x aj=>a_ x (by simp[aj])) (fun i hi=>h (i+1) (by simpa using hi)) i (by simpa using hi);simpa[iN,bE]using this
theorem Om (r:List U)(j:Nat)(aH:List U)(k:Nat):
 (setRow r j aH).getD k .undef=if j<=k/\k<j+aH.length/\k<r.length then aH.getD (k-j) .undef else r.getD k .undef:=by
 induction aH generalizing r j with
 |nil=>rw[apy (by simp;omega)];rfl
 |cons v q bI=>
  simp only[setRow];rw[bI,apL,eR]
  by_cases ab:j+1<=k/\k<j+1+q.length/\k<r.length
  ·rw[apz ab,apz (by simp;omega)];rw[show k-j=(k-(j+1))+1 by omega];simp
  ·rw[apy ab]
   by_cases ad:j=k/\j<r.length
   ·obtain⟨rfl,ad⟩:=ad;rw[apz ⟨rfl,ad⟩,apz (by simp;omega)];simp
   ·rw[apy ad,apy (by simp;omega)]
theorem sized {t:TypeId}{i:b7}(hi:c5 P t i=true)(aB:i.ty≠ .no):∃g,P.info? t=some g/\g.size=i.ty.size:=by
 cases cd:i.ty with
 |aG s=>obtain⟨g,ab,ad⟩:=Rj hi cd;exact⟨g,ab,ad⟩
 |struct bW cs=>obtain⟨g,d,ab,ad,_⟩:=wP hi (.inl ⟨bW,cd⟩);exact⟨g,ab,by rw[ad,aZ.size,cI]⟩
 |arr n e cs=>obtain⟨g,d,ab,ad,_⟩:=wP hi (.inr ⟨n,e,cd⟩);exact⟨g,ab,by rw[ad,aZ.size,cI]⟩
 |no=>exact absurd cd aB
theorem Rk {t:aZ}{v:R}(h:v.fits t=true):t≠ .no:=by
 rintro rfl;cases v<;>simp[R.fits]at h
theorem XX {t:TypeId}{i:b7}(hi:c5 P t i=true){u:Value}(jw:i.ty≠ .no)(f1:u.cells.size=i.ty.size)(f3:∀x∈u.cells.toList,x.oneCell'=true)(b o:Nat)(cur:Array Value)(e:TypeId)
 (ah:w.heap[b]? =some (.cells cur e (0,0))) (cx:o+i.ty.size<=cur.size):
 (Instr.storeAt t (.pointer (some ⟨b,o,none⟩)) u).run P w= .ok () (w.setRow b (cur.toList.take o++u.cells.toList++cur.toList.drop (o+u.cells.toList.length)).toArray):=by
 obtain⟨g,ab,ad⟩:=sized hi jw;have cS:=run_storeCells_at P b o e u.cells.toList 0 cur w ah (by simp;omega) f3;simp only[apV]at cS;simp[Instr.storeAt,Instr.sureAddr,storeVar,lr ab,f1,ad,cS]
theorem Hl {Z:Nat->Prop}:∀(cs:List cb) (r:List U) (j:Nat) (us:Nat->Value),(∀m,m<cs.length->bB Z w (r.getD (j+m) .undef) (us m))->(∀p∈(m5 cs r j).1,p)->
 (m5 cs r j).2.length=cs.length/\∀m,m<cs.length->eJ Z w ρ I ((m5 cs r j).2.getD m .un) (us m)
 |[],r,j,us,_,_=>⟨rfl,fun m hm=>by simp at hm⟩
 |s::dN,r,j,us,h,ay=>by
  simp only[m5]at ay⊢;obtain⟨ab,ad⟩:=Hl dN r (j+1) (fun m=>us (m+1)) (fun m hm=>by have:=h (m+1) (by simp;omega);rwa [show j+(m+1)=j+1+m by omega]at this) (fun p aE=>ay p (aqR _ aE));refine⟨by simpa using ab,fun m hm=> ?_⟩
  cases m with
  |zero=>exact ui (h 0 (by simp)) (ay _ (arC ..))
  |succ m=>simpa using ad m (by simpa using hm)
theorem Zj {r v:List U}{j n an:Nat}(aO:v.length=n)(aI:j+n<=an)(ao:(j=0/\n=an)\/r.length=an)(c:Nat)(aC:c<an):
 (zr r j n an v).getD c .undef=if j<=c/\c<j+n then v.getD (c-j) .undef else r.getD c .undef:=by
 have part:j=0->n≠an->(v++r.drop n).getD c .undef=if j<=c/\c<j+n then v.getD (c-j) .undef else r.getD c .undef:=fun bc aB=>by
  subst bc;simp only[apA,ap7]
  by_cases h:c<n
  ·rw[apz (by omega),apz (by omega),Nat.sub_zero]
  ·rw[apy (by omega),apy (by omega),aq1,show n+(c-v.length)=c by omega]
 unfold zr;split
 ·rename_i bc;have bc:=apC bc;split
  ·rename_i aB;have aB:=apC aB;rw[apz (by omega),bc,Nat.sub_zero]
  ·rename_i aB;exact part bc fun e=>by subst e;rw[aqx]at aB;cases aB
 ·rename_i bc;have bc:j≠0:=fun e=>by subst e;rw[aqx]at bc;cases bc
  have ao:r.length=an:=ao.resolve_left fun e=>bc e.1;simp only[apA,ap7,ap_]
  by_cases ab:c<j
  ·rw[apz (by omega),apy (by omega),aqq,apz ab]
  ·rw[apy (by omega)]
   by_cases ad:c<j+n
   ·rw[apz (by omega),apz (by omega),show c-min j r.length=c-j by omega]
   ·rw[apy (by omega),apy (by omega),aq1];simp only[Nat.add_eq]
    congr 2
    omega
theorem Pa (bM:cw N ρ I w){id:Nat}{av:Loc}{b:Nat}(ax:ρ[id]? =some av)(gK:av.a=some ⟨b,0,none⟩)(ew:av.bs=some b)(ep:cz I id=false){an:Nat}{l:List (List U)}
 (aF:ae.at I id= .ar an l) {n:Nat} (aB:n<l.length) {j:Nat} {us:List Value} (aI:j+us.length<=an) (ld:List U)
 (ao:∀c,c<an->if j<=c/\c<j+us.length then bB (aK N ρ I) w (ld.getD c .undef) (us.getD (c-j) undef)else ld.getD c .undef=(l.getD n []).getD c .undef):
 ∃aH e,w.heap[b]? =some (.cells aH e (0,0))/\n*an+j+us.length<=aH.size/\
  cv N ρ I w ρ (cK I id (false, .ar an (l.set n ld))) (w.setRow b (aH.toList.take (n*an+j)++us++aH.toList.drop (n*an+j+us.length)).toArray):=by
 have bL:=bM.j0 ax;have ck:=bM.ob id av ax;rw[aF]at ck;rcases ck with⟨rfl,_⟩|⟨fh,aH,e,aY,bj,bG,di,eK,lf,gC⟩
 ·simp at aB
 rw[gK]at aY;simp at aY;subst aY
 have hbound:n*an+an<=aH.size:=by
  have:(n+1)*an<=av.cap*an:=apP _ (by omega);rw[apU]at this;omega
 refine⟨aH,e,bG,by omega, ?_⟩;rw[eE];have gj:(ae.ar an (l.set n ld)).len=(ae.at I id).len:=by rw[aF];simp[ae.len]
 have jx:(ae.ar an (l.set n ld)).cL=(ae.at I id).cL:=by rw[aF];rfl
 have hm:=BY bM ax ew ep (ae.ar an (l.set n ld)) ((aH.toList.take (n*an+j)++us++aH.toList.drop (n*an+j+us.length)).toArray);refine cv.write bM id av b ax ew ep _ gj jx _ (.inr ⟨b,_,e,gK,ew,setRow_heap w b aH _ e (0,0) bG,by simpa using di, ?_,lf,fun q c a6 aC=> ?_⟩)
 ·rw[wu _ _ _ (by omega)];exact eK
 ·simp only[apL]at a6;rw[uh _ _ _ (by omega),eR]
  by_cases ff:n*an+j<=q*an+c/\q*an+c<n*an+j+us.length
  ·have rV:q=n:=by
    rcases Nat.lt_trichotomy q n with j1|rfl|ajO
    ·have:(q+1)*an<=n*an:=apP _ (by omega);rw[apU]at this;omega
    ·rfl
    ·have:(n+1)*an<=q*an:=apP _ (by omega);rw[apU]at this;omega
   subst rV;rw[apz ff,apz ⟨rfl,a6⟩];have:=ao c aC;rw[apz (by omega)]at this;refine⟨us.getD (c-j) undef, ?_,hm _ _ this⟩;rw[show q*an+c-(q*an+j)=c-j by omega,apT (by omega)];simp[apA,show c-j<us.length by omega]
  ·rw[apy ff];obtain⟨qT,xN,nF⟩:=gC q c a6 aC;refine⟨qT,xN, ?_⟩
   by_cases rV:n=q
   ·subst rV;have:=ao c aC;rw[apy (by omega)]at this;rw[apz ⟨rfl,a6⟩,this];exact hm _ _ nF
   ·rw[apy (by simp[rV])];exact hm _ _ nF
theorem XY {t:TypeId}{i:b7}(hi:c5 P t i=true)(bM:cw N ρ I w){x:R}{tR u:Value}(aj:bH (aK N ρ I) w ρ I x tR){r:List U}(aO:bH (aK N ρ I) w ρ I (.rw i.ty.size r) u)
 {cq:List Prop} {v:R} {al:aD} (h:re i.ty x r I= .a8 cq v al) (rF:∀p∈cq,p):
 ∃w',v= .un/\(Instr.storeAt t tR u).run P w= .ok () w'/\cv N ρ I w ρ al w':=by
 obtain⟨a,rfl,rW,ajP,k3⟩:=aO;unfold re at h;split at h;rotate_left
 ·cases h
 rename_i id n j nB;have jw:i.ty≠ .no:=by intro e;rw[e]at nB;cases nB
 split at h;rotate_left
 ·cases h
 rename_i an l ep aF;split at h;rotate_left
 ·cases h
 rename_i hle;simp only[bT.a8.injEq]at h;obtain⟨rfl,rfl,rfl⟩:=h;have hle:j+i.ty.size<=an:=apZ hle;have Ax:r.length=i.ty.size:=ajP
 have ajQ:(j=0/\i.ty.size=an)\/(l.getD n.toNat []).length=an:=by
  by_cases a6:Nat.beq j 0=true/\Nat.beq i.ty.size an=true
  ·exact .inl ⟨apC a6.1,apC a6.2⟩
  ·refine .inr (rF _ ?_);unfold Ri;split
   ·rename_i ab ad;exact(a6 ⟨ab,ad⟩).elim
   ·simp
 obtain⟨av,b,ax,gK,ew,hu,bc,ab⟩:=aj;rw[aF]at ab hu;simp only[ae.len,ae.cL]at ab hu;have nG:(Value.agg a).cells.toList.length=i.ty.size:=by show a.toList.length=_;simp;omega
 have J8:∀c,c<an->if j<=c/\c<j+(Value.agg a).cells.toList.length then bB (aK N ρ I) w ((zr (l.getD n.toNat []) j i.ty.size an r).getD c .undef) ((Value.agg a).cells.toList.getD (c-j) undef)else(zr (l.getD n.toNat []) j i.ty.size an r).getD c .undef=(l.getD n.toNat []).getD c .undef:=fun c aC=>by
  rw[Zj Ax hle ajQ c aC,nG];split
  ·have:=k3 (c-j) (by omega);simpa[Value.cells,apH,apA]using this
  ·rfl
 obtain⟨aH,e,s1,s2,jo⟩:=Pa bM ax gK ew ep aF (n:=n.toNat) (by omega) (by rw[nG];exact hle) _ J8;rw[nG]at s2;have f1:(Value.agg a).cells.size=i.ty.size:=by rw[<-nG];simp
 have xy:∀y∈(Value.agg a).cells.toList,y.oneCell'=true:=fun y bo=>by
  simp only[Value.cells,Array.mem_toList_iff]at bo;obtain⟨m,hm,rfl⟩:=Array.getElem_of_mem bo;have:=(k3 m (by omega)).one;simpa[apH,hm]using this
 refine⟨_,rfl,by rw[hu];exact XX (w:=w) hi jw f1 xy b (n.toNat*an+j) aH e s1 s2,jo⟩
theorem wv {Z:Nat->Prop}{t:aZ}{v:R}{u:Value}{r:List U}(h:o3 I t v=some r)(aO:bH Z w ρ I v u):bH Z w ρ I (.rw t.size r) u:=by
 unfold o3 at h;split at h
 ·split at h
  ·rename_i aB;obtain rfl:=apK h;rw[<-apC aB];exact aO
  ·cases h
 ·rename_i l;split at h
  ·rename_i nB aB a_;obtain rfl:=apK h;obtain⟨a,rfl,ab,ad⟩:=aO
   have cx:l.length=t.size:=by
    have:=apC aB;rw[cI,cI]at this;rw[this];cases t<;>first|(simp[aZ.cells,aZ.size,cI];done)|cases nB
   rw[fD,apR]at a_;have ax:(mg I t.cells (.agg l)).length=l.length:=by unfold mg;rw[dP,apI,yO];rfl
   refine⟨a,rfl,by rw[<-cx];exact ab,by rw[ax];exact cx,fun m hm=> ?_⟩;rw[<-cx]at hm;exact B0 t.cells l (fun m=>a.getD m undef) a_ ad m hm
  ·cases h
 ·cases h
theorem B1 {t:TypeId}{i:b7}(hi:c5 P t i=true){v:R}{u:Value}(aU:v.fits i.ty=true)(hu:bH (aK N ρ I) w ρ I v u)(b o:Nat)(cur:Array Value)(e:TypeId)
 (ah:w.heap[b]? =some (.cells cur e (0,0))) (cx:o+i.ty.size<=cur.size):
 (Instr.storeAt t (.pointer (some ⟨b,o,none⟩)) u).run P w= .ok () (w.setRow b (cur.toList.take o++u.cells.toList++cur.toList.drop (o+u.cells.toList.length)).toArray):=by
 obtain⟨g,ab,ad⟩:=sized hi (Rk aU);obtain⟨f1,f2,f3,f4⟩:=uj aU hu;have cS:=run_storeCells_at P b o e u.cells.toList 0 cur w ah (by simp;omega) f3;simp only[apV]at cS;simp[Instr.storeAt,Instr.sureAddr,storeVar,lr ab,f1,ad,cS]
theorem Xp {t:TypeId}{i:b7}(hi:c5 P t i=true)(bM:cw N ρ I w){id:Nat}{n:Int}{j:Nat}{tR u:Value}(aj:bH (aK N ρ I) w ρ I (.oat id n j) tR){y:R}(aO:bH (aK N ρ I) w ρ I y u)
 {cq:List Prop} {v:R} {al:aD} (h:q9 i.ty id n j y I= .a8 cq v al):
 ∃w',v= .un/\(Instr.storeAt t tR u).run P w= .ok () w'/\cv N ρ I w ρ al w':=by
 unfold q9 at h;split at h;rotate_left
 ·cases h
 rename_i s cd;split at h;rotate_left
 ·cases h
 rename_i an l ep aF a_;simp only[bT.a8.injEq]at h;obtain⟨rfl,rfl,rfl⟩:=h;obtain⟨av,b,ax,gK,ew,hu,bc,ab,mG⟩:=aj;rw[aF]at ab hu mG;simp only[ae.len,ae.cL]at ab hu mG;have fj:R.fits i.ty y=true:=by rw[cd];cases y<;>first|rfl|cases a_
 obtain⟨f1,f2,f3,f4⟩:=uj fj aO;have EZ:i.ty.size=1:=by rw[cd];rfl
 have bo:y.cellsOf=[y]:=by cases y<;>first|rfl|cases a_
 have nG:u.cells.toList.length=1:=by rw[EZ]at f1;simpa using f1
 have fs:bB (aK N ρ I) w ((s.norm I y).hU I) (u.cells.getD 0 undef):=by
  have:=f4 0 (by omega);rw[bo]at this;exact(BZ a_ this).2 s
 have J8:∀c,c<an->if j<=c/\c<j+u.cells.toList.length then bB (aK N ρ I) w (((l.getD n.toNat []).set j (R.hU I (s.norm I y))).getD c .undef) (u.cells.toList.getD (c-j) undef)else((l.getD n.toNat []).set j (R.hU I (s.norm I y))).getD c .undef=(l.getD n.toNat []).getD c .undef:=fun c aC=>by
  rw[nG,eR]
  by_cases e:j=c
  ·subst e;rw[apz (by omega),Nat.sub_self];have aJ:u.cells.toList.getD 0 undef=u.cells.getD 0 undef:=by simp[apH,apA]
   rw[aJ];split
   ·exact fs
   ·rename_i jw
    have vc:(l.getD n.toNat []).getD j .undef= .undef:=by
     simp only[apA]at jw⊢;rw[aqc (by simp at jw;simpa using jw)];rfl
    rw[vc];exact .undef _ fs.one
  ·rw[apy (by omega),apy (by simp[e])]
 obtain⟨aH,e,s1,s2,jo⟩:=Pa bM ax gK ew ep aF (n:=n.toNat) (by omega) (by omega) _ J8;refine⟨_,rfl,by rw[hu];exact B1 (w:=w) hi fj aO b (n.toNat*an+j) aH e s1 (by omega),jo⟩
theorem XZ {t:TypeId}{i:b7}(hi:c5 P t i=true)(bM:cw N ρ I w){op lg:Operand}{tm:List R}{a:Act}(aw:ei (aK N ρ I) w ρ I tm a.tmps)
 {cq:List Prop} {v:R} {al:aD} (h:p2 i.ty (aN tm op) (aN tm lg) I= .a8 cq v al) (rF:∀p∈cq,p):
 ∃w',v= .un/\(Instr.storeAt t (a.eval op) (a.eval lg)).run P w= .ok () w'/\cv N ρ I w ρ al w':=by
 have aj:=ey aw op;have aO:=ey aw lg;generalize aN tm op=x at*;generalize aN tm lg=y at*;unfold p2 at h;split at h
 ·rename_i r ao;exact XY hi bM aj (wv ao aO) h rF
 split at h
 ·exact Xp hi bM aj aO h
 rename_i afJ;clear afJ;unfold ux at h;split at h
 ·rename_i id off;obtain⟨av,b,ax,gK,ew,hu⟩:=aj;have bL:=bM.j0 ax;split at h
  ·rename_i l ep aF fj;split at h
   ·rename_i hle;simp only[bT.a8.injEq]at h;obtain⟨rfl,rfl,rfl⟩:=h;have hle:=apZ hle;rw[cI]at hle;simp only[Nat.add_eq]at hle;have ck:=bM.ob id av ax;rw[aF]at ck;obtain⟨fh,aH,e,aY,bj,bG,di,eK⟩:=ck;rw[gK]at aY;simp at aY;subst aY;obtain⟨f1,f2,f3,f4⟩:=uj fj aO;have hlen:(a.eval lg).cells.toList.length=i.ty.size:=by simpa using f1
    have fq:=B1 (w:=w) hi fj aO b off aH e bG (by omega);refine⟨_,rfl,by rw[hu];exact fq, ?_⟩;rw[eE];have gj:(ae.cells (setCells l off y.cellsOf)).len=(ae.at I id).len:=by rw[aF];simp[ae.len,wq]
    have jx:(ae.cells (setCells l off y.cellsOf)).cL=(ae.at I id).cL:=by rw[aF];rfl
    refine cv.write bM id av b ax ew ep _ gj jx _ ⟨b,_,e,gK,ew,setRow_heap w b aH _ e (0,0) bG, ?_,fun k ag=> ?_⟩
    ·rw[wu _ _ _ (by omega),di,wq]
    ·rw[wq]at ag
     have hm:∀(cs:Array Value) (fe:R) (qT:Value),eJ (aK N ρ I) w ρ I fe qT->
      eJ (aK N ρ (I.set id (false, .cells (setCells l off y.cellsOf)))) (w.setRow b cs) ρ (I.set id (false, .cells (setCells l off y.cellsOf))) fe qT:=fun cs fe qT bc=>
      bc.mono (BY bM ax ew ep (.cells (setCells l off y.cellsOf)) cs) (fun idx _=>Zi id (.cells (setCells l off y.cellsOf)) bL gj jx idx)
     rw[Nk _ _ _ _ ag,apH,uh _ _ _ (by omega),hlen,f2]
     by_cases ff:off<=k/\k<off+i.ty.size
     ·rw[apz ff,apz ff];rw[show((a.eval lg).cells.toList[k-off]?).getD undef=(a.eval lg).cells.getD (k-off) undef by simp[apH]];exact hm _ _ _ (f4 (k-off) (by omega))
     ·rw[apy ff,apy ff];rw[show(aH[k]?).getD undef=aH.getD k undef by simp[apH]];exact hm _ _ _ (eK k ag)
   ·cases h
  ·cases h
 ·rename_i id n j;obtain⟨av,b,ax,gK,ew,hu,bc,ab⟩:=aj;have bL:=bM.j0 ax;have ck:=bM.ob id av ax;split at h
  ·rename_i k l ep aF fj;split at h
   ·rename_i cD z _;split at h
    ·rename_i ag xK;obtain rfl:=apC xK;simp only[bT.a8.injEq]at h;obtain⟨rfl,rfl,rfl⟩:=h;obtain rfl:=jD.1 ag;have FH:=jb aO;rw[aF]at ck ab hu;simp only[ae.len,ae.cL,ap8,apV]at ab hu;rcases ck with⟨rfl,_⟩|⟨fh,aH,e,aY,bj,bG,di,eK,gC⟩
     ·simp at ab;omega
     ·rw[gK]at aY;simp at aY;subst aY;obtain⟨f1,f2,f3,f4⟩:=uj fj aO;have j6:(a.eval lg).cells.toList=[.int k z]:=by rw[FH];rfl
      have EZ:i.ty.size=1:=by rw[<-f1,FH];rfl
      have fq:=B1 (w:=w) hi fj aO b n.toNat aH e bG (by omega);refine⟨_,rfl,by rw[hu];exact fq, ?_⟩;rw[eE];have gj:(ae.af k (l.set n.toNat z)).len=(ae.at I id).len:=by rw[aF];simp[ae.len]
      have jx:(ae.af k (l.set n.toNat z)).cL=(ae.at I id).cL:=by rw[aF];rfl
      refine cv.write bM id av b ax ew ep _ gj jx _ (.inr ⟨b,_,e,gK,ew,setRow_heap w b aH _ e (0,0) bG,by simpa using di, ?_,fun q a6=> ?_⟩)
      ·rw[wu _ _ _ (by rw[j6];simp;omega)];exact eK
      ·simp only[apL]at a6;rw[uh _ _ _ (by rw[j6];simp;omega),j6,eR]
       by_cases ff:n.toNat=q
       ·subst ff;rw[apz (by simp),apz ⟨rfl,a6⟩];simp
       ·rw[apy (by simp;omega),apy (by simp[ff])];exact gC q a6
    ·cases h
   ·cases h
  ·rename_i an l ep aF fj;split at h
   ·rename_i hle E0;simp only[bT.a8.injEq]at h;obtain⟨rfl,rfl,rfl⟩:=h;have hle:=apZ hle;simp only[Nat.add_eq]at hle;rw[fD,apR]at E0;rw[aF]at ck ab hu;simp only[ae.len,ae.cL]at ab hu;rcases ck with⟨rfl,_⟩|⟨fh,aH,e,aY,bj,bG,di,eK,lf,gC⟩
    ·simp at ab;omega
    ·rw[gK]at aY;simp at aY;subst aY;obtain⟨f1,f2,f3,f4⟩:=uj fj aO;have hlen:(a.eval lg).cells.toList.length=i.ty.size:=by simpa using f1
     have k4:n.toNat<l.length:=by omega
     have hbound:n.toNat*an+an<=aH.size:=by
      have:(n.toNat+1)*an<=av.cap*an:=apP _ (by omega);rw[apU]at this;omega
     have fq:=B1 (w:=w) hi fj aO b (n.toNat*an+j) aH e bG (by omega);refine⟨_,rfl,by rw[hu];exact fq, ?_⟩;rw[eE]
     have rK:∃ws:List U,bE (R.hU I) (i.ty.norm I y).cellsOf=ws/\ws.length=i.ty.size/\
      ∀m,m<i.ty.size->bB (aK N ρ I) w (ws.getD m .undef) ((a.eval lg).cells.getD m undef):=by
      refine⟨_,rfl, ?_⟩
      have xz:∀(cs:List cb) (q:List R),y.cellsOf=q->(i.ty.norm I y).cellsOf=iN I cs q->
       (bE (R.hU I) (i.ty.norm I y).cellsOf).length=i.ty.size/\
       ∀m,m<i.ty.size->bB (aK N ρ I) w ((bE (R.hU I) (i.ty.norm I y).cellsOf).getD m .undef) ((a.eval lg).cells.getD m undef):=by
       intro cs q a6 aB;rw[aB];refine⟨by rw[dP,apI,yO,<-a6,f2],fun m hm=> ?_⟩;rw[a6]at E0 f2 f4;exact B0 cs q (fun m=>(a.eval lg).cells.getD m undef) E0 (fun qU eY=>f4 qU (by omega)) m (by omega)
      cases cd:i.ty with
      |aG s=>
       rw[cd]at fj xz;have bo:y.cellsOf=[y]:=by cases y<;>first|rfl|simp[R.fits,R.n2]at fj
       have a_:=E0 y (by rw[bo];simp);refine xz [s] [y] bo ?_;simp only[aZ.norm,iN];cases y<;>simp only[R.hl,aqQ]at a_<;>cases s<;>rfl
      |struct bW cs=>
       rw[cd]at fj xz;cases y<;>simp only[R.fits,aqQ]at fj;exact xz cs _ rfl rfl
      |arr n' cg cs=>
       rw[cd]at fj xz;cases y<;>simp only[R.fits,aqQ]at fj;exact xz cs _ rfl rfl
      |no=>rw[cd]at fj;exact absurd rfl (Rk fj)
     obtain⟨ws,ajR,aoX,qF⟩:=rK;rw[ajR];have gj:(ae.ar an (l.set n.toNat (setRow (l.getD n.toNat []) j ws))).len=(ae.at I id).len:=by rw[aF];simp[ae.len]
     have jx:(ae.ar an (l.set n.toNat (setRow (l.getD n.toNat []) j ws))).cL=(ae.at I id).cL:=by rw[aF];rfl
     have hm:=BY bM ax ew ep (ae.ar an (l.set n.toNat (setRow (l.getD n.toNat []) j ws)))
      ((aH.toList.take (n.toNat*an+j)++(a.eval lg).cells.toList++aH.toList.drop (n.toNat*an+j+(a.eval lg).cells.toList.length)).toArray)
     refine cv.write bM id av b ax ew ep _ gj jx _ (.inr ⟨b,_,e,gK,ew,setRow_heap w b aH _ e (0,0) bG,by simpa using di, ?_,lf,fun q r a6 ao=> ?_⟩)
     ·rw[wu _ _ _ (by omega)];exact eK
     ·simp only[apL]at a6;rw[uh _ _ _ (by omega),hlen,eR];rw[hlen]at hm
      by_cases ff:n.toNat*an+j<=q*an+r/\q*an+r<n.toNat*an+j+i.ty.size
      ·
       have rV:q=n.toNat:=by
        rcases Nat.lt_trichotomy q n.toNat with j1|rfl|ajO
        ·have:(q+1)*an<=n.toNat*an:=apP _ (by omega);rw[apU]at this;omega
        ·rfl
        ·have:(n.toNat+1)*an<=q*an:=apP _ (by omega);rw[apU]at this;omega
       subst rV;rw[apz ff,apz ⟨rfl,a6⟩];have ajS:r-j<i.ty.size:=by omega
       have afK:(a.eval lg).cells.toList[n.toNat*an+r-(n.toNat*an+j)]? =some ((a.eval lg).cells.getD (r-j) undef):=by
        rw[show n.toNat*an+r-(n.toNat*an+j)=r-j by omega];simp[apH,show r-j<(a.eval lg).cells.size by omega]
       refine⟨_,afK, ?_⟩;rw[Om];have:=hm _ _ (qF (r-j) ajS);split
       ·exact this
       ·rename_i jw;have aha:¬r<(l.getD n.toNat []).length:=by omega
        have vc:(l.getD n.toNat []).getD r .undef= .undef:=by simp only[apA]at aha⊢;rw[aqc (by omega)];rfl
        rw[vc];exact .undef _ this.one
      ·rw[apy ff];obtain⟨qT,xN,nF⟩:=gC q r a6 ao;refine⟨qT,xN, ?_⟩
       by_cases rV:n.toNat=q
       ·subst rV;rw[apz ⟨rfl,a6⟩,Om,apy (by omega)];exact hm _ _ nF
       ·rw[apy (by simp[rV])];exact hm _ _ nF
   ·cases h
  ·cases h
 ·cases h
end
end Go.ak
end
section
namespace Go.ak
section
variable {P:Program} {N:Nat->Prop} {ρ:List Loc} {I:aD} {w:World}
theorem n1 (w:World)(o:Obj):(w.alloc o).heap[w.heap.size]? =some o:=heap_alloc_new w o
theorem B2 (h:cw N ρ I w)(av:Loc)(ah:av.bs=some w.heap.size\/av.bs=none)(p:Bool×ae)(o:Obj):
 ∀x u,bB (aK N ρ I) w x u->bB (aK N (ρ++[av]) (I++[p])) (w.alloc o) x u:=fun x u ao=>
 ao.mono fun b bL bm=>⟨heap_alloc_old w o b bL,fun db=>by
  rcases db with aB|⟨i,l,ab,ad,aA⟩
  ·exact bm (.inl aB)
  ·rw[ap7]at ab
   by_cases hi:i<ρ.length
   ·rw[apz hi]at ab;rw[jJ,apy (by rw[<-h.len];omega)]at aA;exact bm (.inr ⟨i,l,ab,ad,aA⟩)
   ·rw[apy hi]at ab
    cases a_:i-ρ.length with
    |zero=>
     simp[a_]at ab;subst ab;rcases ah with ah|ah<;>rw[ah]at ad
     ·simp at ad;omega
     ·cases ad
    |succ n=>simp[a_]at ab⟩
theorem Hm (h:cw N ρ I w)(av:Loc)(p:Bool×ae)(id:Nat):eQ ρ I (ρ++[av]) (I++[p]) id:=fun l ax=>by
 have:=h.j0 ax;refine⟨by rw[aqr (by rw[h.len];exact this)];exact ax, ?_⟩;rw[fQ,apy (by omega)];exact⟨rfl,rfl⟩
theorem rh (h:cw N ρ I w)(av:Loc):(ρ++[av])[I.length]? =some av:=by rw[<-h.len];simp
theorem Rl (h:cw N ρ I w)(elem:TypeId)(l:List R)(cs:Array Value)(ay:cs.size=l.length)(ao:∀i,i<l.length->eJ (aK N ρ I) w ρ I (l.getD i .un) (cs.getD i undef)):
 ∃ρ',cv N ρ I w ρ' (I++[(false, .cells l)]) (w.alloc (.cells cs elem))/\
  bH (aK N ρ' (I++[(false, .cells l)])) (w.alloc (.cells cs elem)) ρ' (I++[(false, .cells l)]) (.ptr I.length 0) (.pointer (some ⟨w.heap.size,0,none⟩)):=by
 refine⟨_,cv.alloc h false (.cells l) (.cells cs elem) 0 ⟨w.heap.size,cs,elem,rfl,rfl,n1 w _,ay,fun i hi=> ?_⟩, .c7 ⟨_,w.heap.size,rh h _,rfl,rfl,rfl⟩⟩;exact(ao i hi).mono (B2 h _ (.inl rfl) _ _) (fun id _=>Hm h _ _ id)
theorem On {Z:Nat->Prop}{s:cb}{v:Value}(h:zu s v=true):eJ Z w ρ I s.zero v:=by
 cases s<;>cases v<;>simp only[zu,aqQ,apM]at h<;>simp only[cb.zero]
 case int.int k cD n=>
  obtain⟨ab,ad⟩:=h;obtain rfl:=jD.1 ab
  cases n with
  |ofNat m=>cases m with
   |zero=>exact .int _ _
   |succ m=>exact absurd ad aqM
  |negSucc m=>exact absurd ad aqM
 case bool.bool b=>cases b<;>simp at h;exact .bool _
 case str.string s=>
  have bc:=apC h;refine .str s [] ?_;have:s.data.toList=[]:=aqm.1 (by rw[aqD];exact bc);rw[this];rfl
 case cp.slice k a l c=>cases a<;>cases l<;>cases c<;>simp at h;exact⟨none,rfl⟩
 case dK.slice k a l c=>cases a<;>cases l<;>cases c<;>simp at h;exact⟨none,rfl⟩
 all_goals trivial
theorem G8 {Z:Nat->Prop}{w:World}{ρ:List Loc}{I:aD}:∀{cs:List cb} {aH:List Value},mT cs aH=true->aH.length=cs.length/\∀i,i<cs.length->eJ Z w ρ I ((bE cb.zero cs).getD i .un) (aH.getD i undef)
 |[],[],_=>⟨rfl,fun i hi=>by simp at hi⟩
 |[],_::_,h=>by simp[mT]at h
 |_::_,[],h=>by simp[mT]at h
 |s::dN,v::aH,h=>by
  simp only[mT,apM]at h;obtain⟨ab,ad⟩:=G8 (Z:=Z) (w:=w) (ρ:=ρ) (I:=I) h.2;refine⟨by simp[ab],fun i hi=> ?_⟩
  cases i with
  |zero=>exact On h.1
  |succ i=>have:=ad i (by simpa using hi);simpa[bE]using this
theorem adW {t:TypeId}{i:b7}(hi:c5 P t i=true)(aB:i.ty≠ .no):∃g cs,P.info? t=some g/\nE g.zero cs=true/\bE cb.zero cs=i.ty.zero:=by
 unfold c5 at hi;split at hi
 ·rename_i h;exact absurd h aB
 all_goals first
  |cases hi
  |(rename_i ab ad aA
    simp only[apM]at hi;refine⟨_, ?_,ad, ?_, ?_⟩;rotate_left
    ·first|exact hi.2|exact hi.1.2|exact hi.1.1.2|exact hi.1.1.1.2|exact hi.1.1.1.1.2|exact hi.1.1.1.1.1.2
    ·rw[ab];rfl)
theorem Hy {t:TypeId}{i:b7}(hi:c5 P t i=true)(aB:i.ty≠ .no):∃g z,P.info? t=some g/\g.zero=some z/\
 z.cells.size=i.ty.zero.length/\∀(Z:Nat->Prop) k,k<i.ty.zero.length->eJ Z w ρ I (i.ty.zero.getD k .un) (z.cells.getD k undef):=by
 obtain⟨g,cs,bh,bm,aC⟩:=adW hi aB;unfold nE at bm
 cases kq:g.zero with
 |none=>rw[kq]at bm;cases bm
 |some z=>
  rw[kq]at bm;refine⟨g,z,bh,kq, ?_,fun Z k ag=> ?_⟩
  ·obtain⟨ab,_⟩:=G8 (Z:=fun _=>False) (w:=w) (ρ:=ρ) (I:=I) bm;rw[<-aC,dP,apI,<-ab];simp
  ·obtain⟨ab,ad⟩:=G8 (Z:=Z) (w:=w) (ρ:=ρ) (I:=I) bm;rw[<-aC]at ag⊢;have:=ad k (by simpa[dP]using ag);simpa[apH,apA]using this
theorem aay {t:TypeId}{i:b7}(hi:c5 P t i=true)(aB:i.ty≠ .no)(h:cw N ρ I w):
 ∃u w' ρ',(Instr.alloc t true (.tuple #[])).run P w= .ok u w'/\cv N ρ I w ρ' (I++[(false, .cells i.ty.zero)]) w'/\
  bH (aK N ρ' (I++[(false, .cells i.ty.zero)])) w' ρ' (I++[(false, .cells i.ty.zero)]) (.ptr I.length 0) u:=by
 obtain⟨g,z,ab,ad,aA,ba⟩:=Hy (w:=w) (ρ:=ρ) (I:=I) hi aB;obtain⟨ρ',aY,bj⟩:=Rl h t i.ty.zero z.cells aA (fun k ag=>ba _ k ag);exact⟨_,_,ρ',by simp[Instr.alloc,zeroValue,typeInfo,ab,ad,newVar,newRow],aY,bj⟩
theorem adX (t:TypeId)(h:cw N ρ I w){cZ:Operand}{tm:List R}{a:Act}(aw:ei (aK N ρ I) w ρ I tm a.tmps)(ay:ed R.n2 (aN tm cZ).cellsOf=true):
 ∃u w' ρ',(Instr.box t (a.eval cZ)).run P w= .ok u w'/\cv N ρ I w ρ' (I++[(false, .cells (aN tm cZ).cellsOf)]) w'/\
  bH (aK N ρ' (I++[(false, .cells (aN tm cZ).cellsOf)])) w' ρ' (I++[(false, .cells (aN tm cZ).cellsOf)]) (.ptr I.length 0) u:=by
 have aj:=ey aw cZ;generalize aN tm cZ=x at*
 have aC:(a.eval cZ).cells.size=x.cellsOf.length/\∀i,i<x.cellsOf.length->eJ (aK N ρ I) w ρ I (x.cellsOf.getD i .un) ((a.eval cZ).cells.getD i undef):=by
  cases x with
  |agg l=>
   obtain⟨arr,ab,ad,aA⟩:=aj;rw[ab];exact⟨ad,aA⟩
  |_=>
   simp only[R.cellsOf,ed]at ay⊢;split at ay
   ·rename_i eZ;obtain⟨ab,ad⟩:=wo eZ aj;rw[yN ad];refine⟨rfl,fun i hi=> ?_⟩;have:i=0:=by simp at hi;omega
    subst this;exact ab
   ·cases ay
 obtain⟨ρ',aY,bj⟩:=Rl h t x.cellsOf (a.eval cZ).cells aC.1 aC.2;exact⟨_,_,ρ',by simp[Instr.box,newVar,newRow],aY,bj⟩
theorem Nl {Z:Nat->Prop}{s:cb}{v:Value}(h:zu s v=true):bB Z w s.f_ v:=by
 have:=On (w:=w) (ρ:=[]) (I:=[]) (Z:=Z) h
 cases s with
 |int k=>exact this
 |bool=>exact this
 |str=>exact this
 |cp k=>obtain⟨a,rfl⟩:=this;exact .jt _ _ _
 |dK an=>obtain⟨a,rfl⟩:=this;exact .kS _ _ _
 |other=>exact .undef _ h
theorem q3 {Z:Nat->Prop}{w:World}:∀{cs:List cb} {aH:List Value},mT cs aH=true->aH.length=cs.length/\∀i,i<cs.length->bB Z w ((bE cb.f_ cs).getD i .undef) (aH.getD i undef)
 |[],[],_=>⟨rfl,fun i hi=>by simp at hi⟩
 |[],_::_,h=>by simp[mT]at h
 |_::_,[],h=>by simp[mT]at h
 |s::dN,v::aH,h=>by
  simp only[mT,apM]at h;obtain⟨ab,ad⟩:=q3 (Z:=Z) (w:=w) h.2;refine⟨by simp[ab],fun i hi=> ?_⟩
  cases i with
  |zero=>exact Nl h.1
  |succ i=>have:=ad i (by simpa using hi);simpa[bE]using this
theorem aaz {t:aZ}(h:t.jh=true):t.size=t.cells.length/\bE cb.zero t.cells=t.zero/\t≠ .no:=by
 cases t with
 |struct bW cs=>exact⟨by simp[aZ.size,aZ.cells,cI],rfl,by simp⟩
 |arr n e cs=>exact⟨by simp[aZ.size,aZ.cells,cI],rfl,by simp⟩
 |_=>cases h
theorem Oo (h:cw N ρ I w)(elem:TypeId){n:Nat}(aB:0<n)(r:List U)(cs:Array Value)(ay:cs.size=n)(ao:∀i,i<n->bB (aK N ρ I) w (r.getD i .undef) (cs.getD i undef)):
 ∃ρ',cv N ρ I w ρ' (I++[(false, .ar n [r])]) (w.alloc (.cells cs elem))/\
  bH (aK N ρ' (I++[(false, .ar n [r])])) (w.alloc (.cells cs elem)) ρ' (I++[(false, .ar n [r])]) (.optr I.length 0 0) (.pointer (some ⟨w.heap.size,0,none⟩)):=by
 have cR:ae.at (I++[(false, .ar n [r])]) I.length= .ar n [r]:=by rw[fQ,apz rfl]
 refine⟨_,cv.alloc h false (.ar n [r]) (.cells cs elem) 1 (.inr ⟨w.heap.size,cs,elem,rfl,rfl,n1 w _,by simp,by simp[ay],aB,fun i j hi aI=> ?_⟩),
  .c7 ⟨_,w.heap.size,rh h _,rfl,rfl,by simp,by simp,by rw[cR];simp[ae.len]⟩⟩
 have hi:i=0:=by simpa using hi
 subst hi;refine⟨cs.getD j undef,by simp[apH,show j<cs.size by omega],B2 h _ (.inl rfl) _ _ _ _ (ao j aI)⟩
theorem Nn {t:TypeId}{i:b7}(hi:c5 P t i=true)(h:cw N ρ I w){cq:List Prop}{v:R}{al:aD}(he:uy i.ty I= .a8 cq v al):
 ∃u w' ρ',(Instr.alloc t true (.tuple #[])).run P w= .ok u w'/\cv N ρ I w ρ' al w'/\bH (aK N ρ' al) w' ρ' al v u:=by
 unfold uy at he;split at he
 ·rename_i ah;split at he
  ·rename_i aB;simp only[bT.a8.injEq]at he;obtain⟨rfl,rfl,rfl⟩:=he;obtain⟨ch,df,iD⟩:=aaz ah;have aB:0<i.ty.size:=by have:0+1<=i.ty.size:=apZ aB;omega
   have u1:(∃bW,i.ty= .struct bW i.ty.cells)\/∃n e,i.ty= .arr n e i.ty.cells:=by
    cases cd:i.ty with
    |struct bW cs=>exact .inl ⟨bW,rfl⟩
    |arr n e cs=>exact .inr ⟨n,e,rfl⟩
    |_=>rw[cd]at ah;cases ah
   obtain⟨g,d,bh,_,_,_,z,kq,j6⟩:=wP hi u1;obtain⟨lh,z2⟩:=q3 (Z:=aK N ρ I) (w:=w) j6;have iV:z.cells.size=i.ty.size:=by rw[ch,<-lh];simp
   obtain⟨ρ',aY,bj⟩:=Oo h t aB (bE cb.f_ i.ty.cells) z.cells iV (fun k ag=>by
    have:=z2 k (by omega)
    simpa[apH,apA]using this)
   rw[fC,cI];exact⟨_,_,ρ',by simp[Instr.alloc,zeroValue,typeInfo,bh,kq,newVar,newRow],aY,bj⟩
  ·cases he
 ·split at he
  ·cases he
  ·rename_i aB;simp only[bT.a8.injEq]at he;obtain⟨rfl,rfl,rfl⟩:=he;rw[fC,cI];exact aay hi aB h
theorem Zk {t:TypeId}{i:b7}(h:cw N ρ I w){cZ:Operand}{tm:List R}{a:Act}(aw:ei (aK N ρ I) w ρ I tm a.tmps){cq:List Prop}{v:R}{al:aD}(he:zs i.ty (aN tm cZ) I= .a8 cq v al):
 ∃u w' ρ',(Instr.box t (a.eval cZ)).run P w= .ok u w'/\cv N ρ I w ρ' al w'/\bH (aK N ρ' al) w' ρ' al v u:=by
 unfold zs at he;split at he
 ·split at he
  ·rename_i r ao aB;simp only[bT.a8.injEq]at he;obtain⟨rfl,rfl,rfl⟩:=he;have aB:0<i.ty.size:=by have:0+1<=i.ty.size:=apZ aB;omega
   obtain⟨arr,ab,ad,aA,ba⟩:=wv ao (ey aw cZ);obtain⟨ρ',aY,bj⟩:=Oo h t aB r (a.eval cZ).cells (by rw[ab];exact ad) (fun k ag=>by rw[ab];exact ba k ag);rw[fC,cI];exact⟨_,_,ρ',by simp[Instr.box,newVar,newRow],aY,bj⟩
  ·cases he
 ·split at he
  ·rename_i ay;simp only[bT.a8.injEq]at he;obtain⟨rfl,rfl,rfl⟩:=he;rw[fC,cI];exact adX t h aw ay
  ·cases he
theorem foldl_push (l:List Int)(s:ByteArray):(l.foldl (fun r n=>r.push (UInt8.ofNat n.toNat)) s).data.toList=s.data.toList++l.map fun n=>UInt8.ofNat n.toNat:=by
 induction l generalizing s with
 |nil=>simp
 |cons x r bI=>rw[List.foldl_cons,bI];simp
theorem Pb (off:Nat):∀(l:List (Value×Nat)) (cs:Array Value),(l.foldl (fun cs (c,j)=>cs.setIfInBounds (off+j) c) cs).size=cs.size
 |[],cs=>rfl
 |x::r,cs=>by rw[List.foldl_cons,Pb off r];simp
theorem P4 (off:Nat):∀(l:List Value) (n:Nat) (cs:Array Value) (k:Nat),off+n+l.length<=cs.size->
 ((l.zipIdx n).foldl (fun cs (c,j)=>cs.setIfInBounds (off+j) c) cs)[k]? =if off+n<=k/\k<off+n+l.length then l[k-(off+n)]? else cs[k]?
 |[],n,cs,k,_=>by rw[apy (by simp)];rfl
 |x::r,n,cs,k,h=>by
  simp only[aqj]at h;rw[List.zipIdx_cons,List.foldl_cons,P4 off r (n+1) _ k (by simp;omega)]
  by_cases ab:off+(n+1)<=k/\k<off+(n+1)+r.length
  ·rw[apz ab,apz (by simp;omega),show k-(off+n)=(k-(off+(n+1)))+1 by omega];simp
  ·rw[apy ab,arB]
   by_cases ad:off+n=k
   ·subst ad;rw[apz rfl,apz (by omega),apz (by simp)];simp
   ·rw[apy ad,apy (by simp;omega)]
theorem Cl (place:Nat->Option (Nat×Nat))(cells:Array Value)(i:Nat)(v:Value)(br:List (Nat×Value))(off size:Nat)(aE:place i=some (off,size))(ay:v.cells.size=size)(ah:off+size<=cells.size):
 ∃eL,Instr.fill place cells ((i,v)::br)=Instr.fill place eL br/\eL.size=cells.size/\
  ∀k,eL[k]? =if off<=k/\k<off+size then v.cells[k-off]? else cells[k]? :=by
 refine⟨_,by simp only[Instr.fill,aE,ay];rw[apy (by simp;omega)], ?_,fun k=> ?_⟩
 ·rw[<-Array.foldl_toList];exact Pb off _ cells
 ·rw[<-Array.foldl_toList,Array.toList_zipIdx];have:=P4 off v.cells.toList 0 cells k (by simp;omega);simp only[apV,aqD,ay]at this;rw[this];split<;>simp
theorem Io {Z:Nat->Prop}(place:Nat->Option (Nat×Nat))(pO:Nat->Nat):∀(bP:List (Nat×R)) (cn:List (Nat×Value)) (cells:Array Value) (l:List R),
 bP.length=cn.length->cells.size=l.length->(∀k,k<l.length->eJ Z w ρ I (l.getD k .un) (cells.getD k undef))->
 (∀(m:Nat) (p:Nat×R) (q:Nat×Value),bP[m]? =some p->cn[m]? =some q->p.1=q.1/\place p.1=some (pO p.1,p.2.cellsOf.length)/\q.2.cells.size=p.2.cellsOf.length/\pO p.1+p.2.cellsOf.length<=l.length/\
   ∀k,k<p.2.cellsOf.length->eJ Z w ρ I (p.2.cellsOf.getD k .un) (q.2.cells.getD k undef))->
 ∃eL,Instr.fill place cells cn=some eL/\eL.size=(wD bP pO l).length/\
  ∀k,k<(wD bP pO l).length->eJ Z w ρ I ((wD bP pO l).getD k .un) (eL.getD k undef)
 |[],[],cells,l,_,ay,ao,_=>⟨cells,rfl,ay,ao⟩
 |[],_::_,_,_,h,_,_,_=>by simp at h
 |_::_,[],_,_,h,_,_,_=>by simp at h
 |(i,v)::ps,(qU,u)::nR,cells,l,ax,ay,ao,aE=>by
  obtain⟨ab,ad,aA,ba,bJ⟩:=aE 0 (i,v) (qU,u) rfl rfl;simp only at ab ad aA ba bJ;subst ab;obtain⟨sX,aY,bj,bG⟩:=Cl place cells i u nR (pO i) _ ad aA (by omega);have gk:sX.size=(setCells l (pO i) v.cellsOf).length:=by rw[wq,bj,ay]
  obtain⟨eL,az,aJ,bX⟩:=Io place pO ps nR sX (setCells l (pO i) v.cellsOf) (by simpa using ax) gk
   (fun k ag=>by
     rw[wq]at ag;rw[Nk _ _ _ _ ag,apH,bG k]
     by_cases ff:pO i<=k/\k<pO i+v.cellsOf.length
     ·rw[apz ff,apz ff,<-apH];exact bJ _ (by omega)
     ·rw[apy ff,apy ff,<-apH];exact ao k ag)
   (fun m p q hm a6=>by
     have:=aE (m+1) p q hm a6
     rw[wq];exact this)
  exact⟨eL,by rw[aY,az],aJ,bX⟩
theorem DD {tm:List R}{a:Act}(bP:Array (Nat×Operand)):(bE (fun p=>(p.1,aN tm p.2)) bP.toList).length=((bP.map fun(i,x)=>(i,a.eval x)).toList).length:=by simp[dP]
theorem NU {t:aZ}{bP:List (Nat×R)}(h:wY t bP=true)(m:Nat)(p:Nat×R)(hm:bP[m]? =some p):
 (∃bW cs,t= .struct bW cs/\p.1<bW.length/\fB t p.1+(kK t p.1).size<=cs.length/\p.2.fits (kK t p.1)=true)\/
 ∃n e cs,t= .arr n e cs/\p.1<n/\fB t p.1+e.size<=cs.length/\p.2.fits e=true:=by
 induction bP generalizing m with
 |nil=>simp at hm
 |cons x r bI=>
  obtain⟨i,v⟩:=x;unfold wY at h
  cases t with
  |struct bW cs=>
   simp only at h;split at h
   ·rename_i ab ad aA
    cases m with
    |zero=>
     simp at hm;subst hm;refine .inl ⟨bW,cs,rfl, ?_, ?_,aA⟩
     ·have:i+1<=bS bW:=by simpa[Nat.blt]using ab
      rw[cI]at this;omega
     ·have:=apZ ad;rwa [cI]at this
    |succ m=>exact bI h m (by simpa using hm)
   ·cases h
  |arr n e cs=>
   simp only at h;split at h
   ·rename_i ab ad aA
    cases m with
    |zero=>
     simp at hm;subst hm;refine .inr ⟨n,e,cs,rfl, ?_, ?_,aA⟩
     ·have:i+1<=n:=by simpa[Nat.blt]using ab
      omega
     ·have:=apZ ad;rwa [cI]at this
    |succ m=>exact bI h m (by simpa using hm)
   ·cases h
  |_=>simp at h
theorem Hz {bW:List (Nat×Nat×aZ)}:∀{a:List Field},p7 P bW a=true->a.mapM (fun(f:Field)=>(P.info? f.type).map fun i=>(f.offset,i.size))=some (bW.map fun f=>(f.1,f.2.2.size)):=by
 induction bW with
 |nil=>intro a h;cases a with
  |nil=>rfl
  |cons _ _=>simp[p7]at h
 |cons x r bI=>
  intro a h;obtain⟨o,n,t⟩:=x
  cases a with
  |nil=>simp[p7]at h
  |cons ek br=>
   have bc:=h;simp only[p7,apM]at h;obtain⟨⟨⟨⟨⟨⟨⟨ab,ad⟩,aA⟩,ba⟩,bJ⟩,Up⟩,cu⟩,gO⟩:=h;obtain⟨g,bh⟩:=arQ.1 bJ;have az:=apC ab;have aJ:=apC ad;have bX:=apC aA;have:P.cellsOf ek.type=g.size:=by simp[Program.cellsOf,bh]
   simp[bh,bI gO,<-az,show g.size=t.size by omega]
theorem aaA {t:TypeId}{i:b7}(hi:c5 P t i=true){tm:List R}{a:Act}(aw:ei (aK N ρ I) w ρ I tm a.tmps)(bP:Array (Nat×Operand))
 (aE:wY i.ty (bE (fun p=>(p.1,aN tm p.2)) bP.toList)=true) (aB:∃cs,(∃bW,i.ty= .struct bW cs)\/∃n e,i.ty= .arr n e cs):
 ∃u,(Instr.build t (bP.map fun(i,x)=>(i,a.eval x))).run P w= .ok u w/\
  bH (aK N ρ I) w ρ I (.agg (wD (bE (fun p=>(p.1,aN tm p.2)) bP.toList) (fB i.ty) i.ty.zero)) u:=by
 have jw:i.ty≠ .no:=by rcases aB with⟨cs,⟨bW,h⟩|⟨n,e,h⟩⟩<;>rw[h]<;>simp
 obtain⟨g,z,bh,bm,iV,FI⟩:=Hy (w:=w) (ρ:=ρ) (I:=I) hi jw;have rX:i.ty.zero.length=i.ty.size:=by cases i.ty<;>simp[aZ.zero,aZ.size,dP,cI]
 have h_:∀(m:Nat) (p:Nat×R) (q:Nat×Value),(bE (fun p=>(p.1,aN tm p.2)) bP.toList)[m]? =some p->((bP.map fun(i,x)=>(i,a.eval x)).toList)[m]? =some q->
  p.1=q.1/\bH (aK N ρ I) w ρ I p.2 q.2:=by
  intro m p q ab ad;rw[dP]at ab;simp only[aqv,Array.toList_map]at ab ad
  cases Ay:bP.toList[m]? with
  |none=>simp[Ay]at ab
  |some x=>
   simp[Ay]at ab ad;subst ab ad;exact⟨rfl,ey aw _⟩
 rcases aB with⟨cs,⟨bW,cd⟩|⟨n,e,cd⟩⟩
 ·obtain⟨ek,hu,FJ⟩:=yA hi cd;have ji:=run_places (P:=P) w ek.toList _ (Hz FJ)
  obtain⟨eL,ab,ad,aA⟩:=Io (Z:=aK N ρ I) (w:=w) (ρ:=ρ) (I:=I) (fun(x:Nat)=>(bW.map fun f=>(f.1,f.2.2.size))[x]?) (fB i.ty)
   (bE (fun p=>(p.1,aN tm p.2)) bP.toList) ((bP.map fun(i,x)=>(i,a.eval x)).toList) z.cells i.ty.zero (DD bP) iV (fun k ag=>FI _ k ag)
   (fun m p q hm a6=>by
     obtain⟨az,aJ⟩:=h_ m p q hm a6;rcases NU aE m p hm with⟨FF,lN,la,aY,bj,bG⟩|⟨n',cg,lN,la,_⟩
     ·rw[cd]at la;obtain⟨rfl,rfl⟩:=by simpa using la
      obtain⟨f1,f2,f3,f4⟩:=uj bG aJ;refine⟨az, ?_,by rw[f1,f2], ?_,fun k ag=>f4 k (by omega)⟩
      ·rw[f2,cd];simp[fB,kK,dW,apA,aY]
      ·rw[f2,rX,cd,aZ.size,cI];rw[cd]at bj;exact bj
     ·rw[cd]at la;cases la)
  refine⟨.agg eL, ?_, .hn ⟨eL,rfl,ad,fun k ag=>aA k ag⟩⟩;refine run_build w t _ eL ?_;unfold Program.built;simp only[bh,hu,bm,Hz FJ];have he:(fun(x:Nat)=>(bW.map fun f=>(f.1,f.2.2.size)).toArray[x]?)=fun(x:Nat)=>(bW.map fun f=>(f.1,f.2.2.size))[x]? :=by funext x;simp
  rw[he];exact ab
 ·obtain⟨el,vS,hu,ajT,cx⟩:=yM hi cd
  obtain⟨eL,ab,ad,aA⟩:=Io (Z:=aK N ρ I) (w:=w) (ρ:=ρ) (I:=I) (fun i=>some (i*vS.size,vS.size)) (fB i.ty)
   (bE (fun p=>(p.1,aN tm p.2)) bP.toList) ((bP.map fun(i,x)=>(i,a.eval x)).toList) z.cells i.ty.zero (DD bP) iV (fun k ag=>FI _ k ag)
   (fun m p q hm a6=>by
     obtain⟨az,aJ⟩:=h_ m p q hm a6;rcases NU aE m p hm with⟨FF,lN,la,_⟩|⟨n',cg,lN,la,aY,bj,bG⟩
     ·rw[cd]at la;cases la
     ·rw[cd]at la;obtain⟨rfl,rfl,rfl⟩:=by simpa using la
      obtain⟨f1,f2,f3,f4⟩:=uj bG aJ;refine⟨az, ?_,by rw[f1,f2], ?_,fun k ag=>f4 k (by omega)⟩
      ·rw[f2,cd,cx];rfl
      ·rw[f2,rX,cd,aZ.size,cI];rw[cd]at bj;exact bj)
  refine⟨.agg eL, ?_, .hn ⟨eL,rfl,ad,fun k ag=>aA k ag⟩⟩;refine run_build w t _ eL ?_;unfold Program.built;simp only[bh,hu,bm,ajT];exact ab
theorem GZ {Z:Nat->Prop}{t:aZ}{v:R}{u:Value}{r:List U}(h:n7 I t v=some r)(aB:t≠ .no)(aO:bH (aK N ρ I) w ρ I v u):
 r.length=t.size/\u.cells.size=t.size/\∀c,c<t.size->bB (aK N ρ I) w (r.getD c .undef) (u.cells.getD c undef):=by
 unfold n7 at h;split at h
 ·rename_i s;split at h
  ·rename_i a_;obtain rfl:=apK h;obtain⟨ab,ad⟩:=wo (GW a_) aO;rw[yN ad];refine⟨rfl,rfl,fun c aC=> ?_⟩;have:c=0:=by simp[aZ.size]at aC;omega
   subst this;exact(BZ a_ ab).2 s
  ·cases h
 ·split at h
  ·split at h
   ·rename_i hm;obtain rfl:=apK h;obtain⟨a,rfl,ab,ad,aA⟩:=aO;have hm:=apC hm;exact⟨by omega,by show a.size=_;omega,fun c aC=>aA c (by omega)⟩
   ·cases h
  ·rename_i l;split at h
   ·rename_i hm a_;obtain rfl:=apK h;have hm:=apC hm;rw[cI]at hm;obtain⟨a,rfl,ab,ad⟩:=aO;rw[fD,apR]at a_;have ax:(mg I t.cells (.agg l)).length=l.length:=by unfold mg;rw[dP,apI,yO];rfl
    exact⟨by omega,by show a.size=_;omega,fun c aC=>B0 t.cells l (fun m=>a.getD m undef) a_ ad c (by omega)⟩
   ·cases h
  ·cases h
theorem P5 (place:Nat->Option (Nat×Nat))(S:Nat->Value->Prop):∀(cn:List (Nat×Value)) (cells:Array Value),
 (∀q∈cn,∃o n,place q.1=some (o,n)/\q.2.cells.size=n/\o+n<=cells.size/\∀c,c<n->S (o+c) (q.2.cells.getD c undef))->
 (∀p,p<cells.size->(∃q∈cn,∃o n,place q.1=some (o,n)/\o<=p/\p<o+n)\/S p (cells.getD p undef))->
 ∃eL,Instr.fill place cells cn=some eL/\eL.size=cells.size/\∀p,p<cells.size->S p (eL.getD p undef)
 |[],cells,_,aC=>⟨cells,rfl,rfl,fun p aE=>(aC p aE).resolve_left fun⟨q,a6,_⟩=>absurd a6 aqS⟩
 |(i,u)::nR,cells,h,aC=>by
  obtain⟨o,n,ab,ad,aA,ba⟩:=h _ (arC ..);obtain⟨sX,aY,bj,bG⟩:=Cl place cells i u nR o n ab ad aA
  obtain⟨eL,az,aJ,bX⟩:=P5 place S nR sX (fun q a6=>by rw[bj];exact h q (aqR _ a6)) (fun p aE=>by
   rw[bj]at aE;rw[apH,bG p]
   by_cases ff:o<=p/\p<o+n
   ·rw[apz ff,<-apH];have:=ba (p-o) (by omega);rw[show o+(p-o)=p by omega]at this;exact .inr this
   ·rw[apy ff,<-apH];rcases aC p aE with⟨q,a6,cj,n',g1,g2,g3⟩|hC
    ·rcases ap9.1 a6 with rfl|a6
     ·rw[ab]at g1;injection g1 with g1;injection g1 with g4 g5;omega
     ·exact .inl ⟨q,a6,cj,n',g1,g2,g3⟩
    ·exact .inr hC)
  exact⟨eL,by rw[aY,az],by omega,fun p aE=>bX p (by omega)⟩
theorem G9 {f:Nat×Nat×aZ}{r:List (Nat×Nat×aZ)}{o n:Nat}(h:sR (f::r) o n=true):f.1=o/\f.2.2≠ .no/\sR r (o+f.2.2.size) n=true:=by
 unfold sR at h;split at h
 ·cases h
 ·rename_i ab ad;exact⟨apC ab,ad,h⟩
 ·cases h
theorem Pc:∀(bW:List (Nat×Nat×aZ)) (o n:Nat),sR bW o n=true->o<=n
 |[],o,n,h=>Nat.le_of_eq (apC h)
 |f::r,o,n,h=>by have:=Pc r _ n (G9 h).2.2;omega
theorem No {cs:List cb}{bP:List (Nat×R)}:∀(bW:List (Nat×Nat×aZ)) (k o n:Nat) (r:List U),sR bW o n=true->n<=cs.length->rf I cs bP k bW=some r->
 (∀(j:Nat) (f:Nat×Nat×aZ) (v:R),bW[j]? =some f->fw (k+j) bP=some v->∀x,n7 I f.2.2 v=some x->x.length=f.2.2.size)->
 r.length+o=n/\(∀(j:Nat) (f:Nat×Nat×aZ),bW[j]? =some f->o<=f.1/\f.1+f.2.2.size<=n/\f.2.2≠ .no)/\
 (∀(j:Nat) (f:Nat×Nat×aZ) (v:R),bW[j]? =some f->fw (k+j) bP=some v->∃x,n7 I f.2.2 v=some x/\∀c,c<f.2.2.size->r.getD (f.1-o+c) .undef=x.getD c .undef)/\
 (∀p,o<=p->p<n->∃j f,bW[j]? =some f/\f.1<=p/\p<f.1+f.2.2.size/\(fw (k+j) bP=none->r.getD (p-o) .undef=(bE cb.f_ cs).getD p .undef))
 |[],k,o,n,r,aC,aB,h,_=>by
  have:=apC (show Nat.beq o n=true from aC);simp[rf]at h;subst h;exact⟨by simpa using this,fun j f aU=>by simp at aU,fun j f v aU=>by simp at aU,fun p ab ad=>by omega⟩
 |f::r,k,o,n,row,aC,aB,h,aj=>by
  obtain⟨dh,eW,jR⟩:=G9 aC;have aoY:=Pc r _ n jR;unfold rf at h;split at h
  ·rename_i x y az aJ;obtain⟨i1,i2,i3,i4⟩:=No r (k+1) (o+f.2.2.size) n y jR aB aJ (fun j g v bh aO=>aj (j+1) g v (by simpa using bh) (by rw[show k+(j+1)=k+1+j by omega];exact aO))
   have xO:x.length=f.2.2.size:=by
    split at az
    ·rename_i v aO;exact aj 0 f v rfl aO x az
    ·obtain rfl:=apK az;rw[dP,apI,lz,ly,ap_,aqL];omega
   have kj:row=x++y:=by
    cases r with
    |nil=>simp[rf]at aJ;subst aJ;simpa using(apK h).symm
    |cons _ _=>exact(apK h).symm
   subst kj
   have left:∀c,c<f.2.2.size->(x++y).getD c .undef=x.getD c .undef:=fun c aC=>by
    simp only[apA];rw[aqr (by omega)]
   have right:∀c,f.2.2.size<=c->(x++y).getD c .undef=y.getD (c-f.2.2.size) .undef:=fun c aC=>by
    simp only[apA];rw[aqG (by omega),xO]
   refine⟨by simp;omega,fun j g bh=> ?_,fun j g v bh aO=> ?_,fun p ab ad=> ?_⟩
   ·cases j with
    |zero=>obtain rfl:f=g:=by simpa using bh
           exact⟨by omega,by omega,eW⟩
    |succ j=>obtain⟨q1,cG,cV⟩:=i2 j g (by simpa using bh);exact⟨by omega,cG,cV⟩
   ·cases j with
    |zero=>
     obtain rfl:f=g:=by simpa using bh
     rw[apV]at aO;rw[aO]at az;exact⟨x,az,fun c aC=>by rw[dh,Nat.sub_self,ap3];exact left c aC⟩
    |succ j=>
     obtain⟨q1,cG,cV⟩:=i2 j g (by simpa using bh);obtain⟨ik,lh,z2⟩:=i3 j g v (by simpa using bh) (by rw[show k+1+j=k+(j+1) by omega];exact aO);refine⟨ik,lh,fun c aC=> ?_⟩;rw[right _ (by omega),<-z2 c aC]
     congr 1;omega
   ·by_cases aE:p<o+f.2.2.size
    ·refine⟨0,f,rfl,by omega,by omega,fun u2=> ?_⟩;rw[apV]at u2;rw[u2]at az;obtain rfl:=apK az;rw[left _ (by omega)];simp only[dP,lz,ly,apA,aqv,aqq,aq1,dh];rw[apz (by omega),show o+(p-o)=p by omega]
    ·obtain⟨j,g,q1,cG,cV,gD⟩:=i4 p (by omega) ad;refine⟨j+1,g,by simpa using q1,cG,cV,fun u2=> ?_⟩;rw[right _ (by omega),<-gD (by rw[show k+1+j=k+(j+1) by omega];exact u2)]
     congr 1;omega
  ·cases h
theorem Np:∀{bP:List (Nat×R)} {n:Nat},C6 n bP=true->∀p∈bP,p.1<n/\fw p.1 bP=some p.2
 |[],_,_,p,aE=>absurd aE aqS
 |q::r,n,h,p,aE=>by
  unfold C6 at h;split at h
  ·rename_i ab ad;have ab:q.1+1<=n:=apZ ab;rcases ap9.1 aE with rfl|aE
   ·exact⟨by omega,by unfold fw;rw[aqx]⟩
   ·obtain⟨aY,bj⟩:=Np h p aE;refine⟨aY, ?_⟩;unfold fw;split
    ·rename_i e;rw[apC e,bj]at ad;cases ad
    ·exact bj
  ·cases h
theorem G0:∀{bP:List (Nat×R)} {k:Nat} {v:R},fw k bP=some v->(k,v)∈bP
 |[],_,_,h=>by cases h
 |(i,x)::r,k,v,h=>by
  unfold fw at h;split at h
  ·rename_i e;obtain rfl:=apC e;obtain rfl:=apK h;exact arC ..
  ·exact aqR _ (G0 h)
theorem X0 {t:TypeId}{i:b7}(hi:c5 P t i=true){tm:List R}{a:Act}(aw:ei (aK N ρ I) w ρ I tm a.tmps)(bP:Array (Nat×Operand)){cq:List Prop}{v:R}{al:aD}
 (he:p4 i.ty (bE (fun p=>(p.1,aN tm p.2)) bP.toList) I= .a8 cq v al):
 ∃u,al=I/\(Instr.build t (bP.map fun(i,x)=>(i,a.eval x))).run P w= .ok u w/\bH (aK N ρ I) w ρ I v u:=by
 unfold p4 at he;split at he;rotate_left
 ·split at he
  ·rename_i aE aR;simp only[bT.a8.injEq]at he;obtain⟨rfl,rfl,rfl⟩:=he
   have u1:∃cs,(∃bW,i.ty= .struct bW cs)\/∃n e,i.ty= .arr n e cs:=by
    cases cd:i.ty with
    |struct bW cs=>exact⟨cs, .inl ⟨bW,rfl⟩⟩
    |arr n e cs=>exact⟨cs, .inr ⟨n,e,rfl⟩⟩
    |_=>rw[cd]at aR;cases aR
   obtain⟨u,ab,ad⟩:=aaA hi aw bP aE u1;exact⟨u,rfl,ab,ad⟩
  ·cases he
 split at he;rotate_left
 ·rename_i m e cs cd;split at he;rotate_left
  ·cases he
  rename_i j7;simp only[bT.a8.injEq]at he;obtain⟨rfl,rfl,rfl⟩:=he
  have qG:bP=#[]:=by
   rw[dP]at j7;rw[<-Array.toList_inj];exact List.map_eq_nil_iff.1 j7
  subst qG;obtain⟨g,d,bh,tu,j4,_,z,bm,J9⟩:=wP hi (.inr ⟨m,e,cd⟩);obtain⟨el,vS,q1,cG,cV⟩:=yM hi cd;obtain⟨K_,La⟩:=q3 (Z:=aK N ρ I) (w:=w) J9;have iV:z.cells.size=(bE cb.f_ cs).length:=by rw[<-aqD,K_,dP];simp
  refine⟨.agg z.cells,rfl,by simp[Instr.build,zeroValue,typeInfo,bh,bm,underlying,q1,lr cG,Instr.fill], .hn ⟨_,rfl, ?_, ?_,fun k ag=> ?_⟩⟩
  ·rw[iV,dP,cI];simp
  ·rw[dP,cI];simp
  ·have:=La k (by rw[cI]at ag;exact ag);simpa[apH,apA]using this
 ·cases he
 rename_i bW cs cd;split at he;rotate_left
 ·cases he
 rename_i r vd lO kj;simp only[bT.a8.injEq]at he;obtain⟨rfl,rfl,rfl⟩:=he;obtain⟨g,d,bh,tu,j4,_,z,bm,J9⟩:=wP hi (.inl ⟨bW,cd⟩);obtain⟨ek,hu,FJ⟩:=yA hi cd;have ji:=Hz FJ;rw[cI]at vd;obtain⟨K_,La⟩:=q3 (Z:=aK N ρ I) (w:=w) J9;have iV:z.cells.size=cs.length:=by rw[<-K_];simp
 have h_:∀q∈(bP.map fun(i,x)=>(i,a.eval x)).toList,∃v,(q.1,v)∈bE (fun p=>(p.1,aN tm p.2)) bP.toList/\bH (aK N ρ I) w ρ I v q.2:=fun q a6=>by
  rw[Array.toList_map]at a6;obtain⟨x,aj,rfl⟩:=apQ.1 a6;exact⟨aN tm x.2,by rw[dP];exact apQ.2 ⟨x,aj,rfl⟩,ey aw _⟩
 have zJ:∀k v,(k,v)∈bE (fun p=>(p.1,aN tm p.2)) bP.toList->∃u,(k,u)∈(bP.map fun(i,x)=>(i,a.eval x)).toList/\bH (aK N ρ I) w ρ I v u:=fun k v ag=>by
  rw[dP]at ag;obtain⟨x,aj,e⟩:=apQ.1 ag;injection e with az aJ;refine⟨a.eval x.2, ?_,by rw[<-aJ];exact ey aw _⟩;rw[Array.toList_map];exact apQ.2 ⟨x,aj,by rw[<-az]⟩
 generalize bE (fun p=>(p.1,aN tm p.2)) bP.toList=ps at lO kj h_ zJ
 have ahb:∀(j:Nat) (f:Nat×Nat×aZ),bW[j]? =some f->f.2.2≠ .no:=by
  have key:∀(bW:List (Nat×Nat×aZ)) (o n:Nat),sR bW o n=true->∀(j:Nat) (f:Nat×Nat×aZ),bW[j]? =some f->f.2.2≠ .no:=by
   intro bW
   induction bW with
   |nil=>intro o n _ j f aU;simp at aU
   |cons f r bI=>
    intro o n aC j g bh;obtain⟨_,eW,jR⟩:=G9 aC
    cases j with
    |zero=>obtain rfl:f=g:=by simpa using bh
           exact eW
    |succ j=>exact bI _ _ jR j g (by simpa using bh)
  exact key bW 0 _ vd
 obtain⟨ch,df,iD,vT⟩:=No (I:=I) (bP:=ps) bW 0 0 cs.length r vd (apF _) kj (fun j f v aU aO x aj=>by
  rw[ap3]at aO;obtain⟨u,xN,nF⟩:=zJ j v (G0 aO)
  exact(GZ (Z:=aK N ρ I) aj (ahb j f aU) nF).1)
 have Sm:∀(j:Nat) (f:Nat×Nat×aZ),bW[j]? =some f->(bW.map fun f=>(f.1,f.2.2.size))[j]? =some (f.1,f.2.2.size):=fun j f aU=>by rw[aqv,aU];rfl
 have ahc:∀q∈(bP.map fun(i,x)=>(i,a.eval x)).toList,∃f,bW[q.1]? =some f/\q.2.cells.size=f.2.2.size/\f.1+f.2.2.size<=cs.length/\∀c,c<f.2.2.size->bB (aK N ρ I) w (r.getD (f.1+c) .undef) (q.2.cells.getD c undef):=fun q a6=>by
  obtain⟨v,pn,mB⟩:=h_ q a6;obtain⟨aY,bj⟩:=Np lO _ pn;rw[cI]at aY;have aU:bW[q.1]? =some bW[q.1]:=apT aY;obtain⟨x,cl,cr⟩:=iD q.1 _ v aU (by rw[ap3];exact bj);obtain⟨oL,pP,Gm⟩:=df q.1 _ aU;obtain⟨jq,lX,tS⟩:=GZ (Z:=aK N ρ I) cl Gm mB;refine⟨_,aU,lX,pP,fun c aC=> ?_⟩;have:=cr c aC;rw[Nat.sub_zero]at this;rw[this];exact tS c aC
 obtain⟨eL,f1,f2,f3⟩:=P5 (fun(x:Nat)=>(bW.map fun f=>(f.1,f.2.2.size))[x]?) (fun p u=>bB (aK N ρ I) w (r.getD p .undef) u) (bP.map fun(i,x)=>(i,a.eval x)).toList z.cells
  (fun q a6=>by
    obtain⟨f,q1,cG,cV,gD⟩:=ahc q a6
    exact⟨f.1,f.2.2.size,Sm _ _ q1,cG,by omega,gD⟩)
  (fun p aE=>by
    rw[iV]at aE;obtain⟨j,f,sf,e4,am0,VG⟩:=vT p (aqT _) aE;rw[ap3,Nat.sub_zero]at VG
    cases ax:fw j ps with
    |some v=>
     obtain⟨u,xN,nF⟩:=zJ j v (G0 ax);exact .inl ⟨_,xN,f.1,f.2.2.size,Sm _ _ sf,e4,am0⟩
    |none=>
     rw[VG ax];have:=La p aE
     exact .inr (by simpa[apH,apA]using this))
 rw[cI];refine⟨.agg eL,rfl, ?_, .hn ⟨eL,rfl,by omega,by omega,fun k ag=>f3 k (by omega)⟩⟩;refine run_build w t _ eL ?_;unfold Program.built;simp only[bh,hu,bm,ji];have he:(fun(x:Nat)=>(bW.map fun f=>(f.1,f.2.2.size)).toArray[x]?)=fun(x:Nat)=>(bW.map fun f=>(f.1,f.2.2.size))[x]? :=by funext x;simp
 rw[he];exact f1
end
end Go.ak
end
section
namespace Go.ak
section
variable {P:Program} {N:Nat->Prop} {ρ:List Loc} {I:aD} {w:World}
theorem adY {k:IntKind}{z:Option Value}(h:Jf k z=true):z=some (.int k 0):=by
 unfold Jf at h;split at h
 ·obtain rfl:=jD.1 h;rfl
 ·cases h
theorem Hn {t:TypeId}{i:b7}(hi:c5 P t i=true){k:IntKind}(h:i.ty= .aG (.cp k)):
 ∃e g,P.underlying t=some (.slice e)/\P.info? e=some g/\g.size=1/\g.bytes=i.bytes/\g.zero=some (.int k 0):=by
 unfold c5 at hi;rw[h]at hi;split at hi<;>simp_all;split at hi<;>simp_all;exact adY hi.2.2
theorem ss {t:TypeId}{i:b7}(hi:c5 P t i=true){an:Nat}(h:i.ty= .aG (.dK an)):
 ∃e g z,P.underlying t=some (.slice e)/\P.info? e=some g/\g.size=an/\g.bytes=i.bytes/\0<an/\i.fv.length=an/\g.zero=some z/\mT i.fv z.cells.toList=true:=by
 unfold c5 at hi;rw[h]at hi;split at hi<;>simp_all;split at hi<;>simp_all [nE,cI];rename_i g d _ _
 cases kq:TypeInfo.zero g with
 |none=>simp[kq]at hi
 |some z=>simp[kq]at hi;exact⟨z,rfl,hi.2.1.2⟩
theorem HU (z:Array Value)(m k:Nat)(ag:k<m):(madeCells z m)[k]? =some z[k%z.size]! :=by
 simp[madeCells,ag]
theorem YB {t:TypeId}{i:b7}(hi:c5 P t i=true)(bM:cw N ρ I w){on se:Operand}{tm:List R}{a:Act}(aw:ei (aK N ρ I) w ρ I tm a.tmps)
 {cq:List Prop} {v:R} {al:aD} (h:wX i (aN tm on) (aN tm se) I= .a8 cq v al) (ay:∀p∈cq,p):
 ∃u w' ρ',(Instr.makeSlice t (a.eval on) (a.eval se)).run P w= .ok u w'/\cv N ρ I w ρ' al w'/\bH (aK N ρ' al) w' ρ' al v u:=by
 have aB:=ey aw on;have aC:=ey aw se;generalize aN tm on=x at*;generalize aN tm se=y at*;unfold wX at h;split at h
 ·rename_i n c;split at h
  ·rename_i ah kp;simp only[bT.a8.injEq]at h;obtain⟨rfl,rfl,rfl⟩:=h;have az:=jb aB;have aJ:=jb aC;have bc:0<=n:=ay _ (by simp);have ab:n<=c:=ay _ (by simp);have ad:c*i.bytes<=281474976710656:=ay _ (by simp)
   have ho:(1:Int)<=i.bytes:=by
    have:1<=i.bytes:=by simpa[Nat.blt]using ah
    omega
   have po:c<=9223372036854775807:=by
    have:c*1<=c*i.bytes:=Int.mul_le_mul_of_nonneg_left ho (by omega);omega
   rw[az,aJ]
   cases cd:i.ty with
   |aG s=>
    rw[cd]at kp
    cases s with
    |cp k=>
     obtain⟨e,g,q1,cG,cV,gD,eb⟩:=Hn hi cd;have fq:=run_make (P:=P) w t e g (.int k 0) q1 cG eb .i64 .i64 n c bc ab (by rw[gD,Int.mul_comm];exact ad) po;rw[cV,ap8]at fq;have Ji:madeOf i n.toNat= .af k (List.replicate n.toNat 0):=by simp[madeOf,cd]
     rw[Ji,fC,cI];refine⟨_,_,_,fq,cv.alloc bM false (.af k (List.replicate n.toNat 0)) _ c.toNat (.inr ⟨w.heap.size,_,e,rfl,rfl,n1 w _,by simp;omega,by simp[size_madeCells],fun q a6=> ?_⟩), .c7 ⟨_,rh bM _, ?_⟩⟩
     ·simp only[arq]at a6;rw[HU _ _ _ (by omega)];simp[Value.cells,Nat.mod_one,apA,a6]
     ·rw[fQ,apz rfl];simp[ae.len]
    |dK an=>
     obtain⟨e,g,z,q1,cG,cV,gD,eb,il,hd,kA⟩:=ss hi cd;have fq:=run_make (P:=P) w t e g z q1 cG hd .i64 .i64 n c bc ab (by rw[gD,Int.mul_comm];exact ad) po;rw[cV]at fq
     obtain⟨lh,z2⟩:=q3 (Z:=aK N (ρ++[⟨some ⟨w.heap.size,0,none⟩,c.toNat,some w.heap.size⟩]) (I++[(false,madeOf i n.toNat)]))
      (w:=w.alloc (.cells (madeCells z.cells (c.toNat*an)) e)) kA
     have Ji:madeOf i n.toNat= .ar an (List.replicate n.toNat (bE cb.f_ i.fv)):=by simp[madeOf,cd]
     rw[Ji]at z2⊢;rw[fC,cI];have iV:z.cells.size=an:=by rw[<-aqD,lh,il]
     refine⟨_,_,_,fq,cv.alloc bM false (.ar an (List.replicate n.toNat (bE cb.f_ i.fv))) _ c.toNat (.inr ⟨w.heap.size,_,e,rfl,rfl,n1 w _,by simp;omega,by simp[size_madeCells],eb,fun q r a6 ao=> ?_⟩), .c7 ⟨_,rh bM _, ?_⟩⟩
     ·simp only[arq]at a6
      have bL:q*an+r<c.toNat*an:=by
       have:(q+1)*an<=c.toNat*an:=apP _ (by omega);rw[apU]at this;omega
      refine⟨_,HU _ _ _ bL, ?_⟩;have Jj:(q*an+r)%z.cells.size=r:=by rw[iV,aqa,arD,aqt ao]
      rw[Jj];have:=z2 r (by omega)
      have bX:z.cells[r]! =z.cells.toList.getD r undef:=by
       have:r<z.cells.size:=by omega
       simp[apA,this]
      rw[bX];have cW:(List.replicate n.toNat (bE cb.f_ i.fv)).getD q []=bE cb.f_ i.fv:=by simp[apA,a6]
      rw[cW];exact this
     ·rw[fQ,apz rfl];simp[ae.len]
    |_=>simp[iH]at kp
   |_=>rw[cd]at kp;simp[iH]at kp
  ·cases h
 ·cases h
theorem Nq {k:IntKind}{Z:Nat->Prop}:∀(bP:List (Nat×R)) (cn:List (Nat×Value)) (i n:Nat) (l:List Int) (cells:Array Value),o1.go k i n bP=some l->
 bP.length=cn.length->(∀(m:Nat) (p:Nat×R) (q:Nat×Value),bP[m]? =some p->cn[m]? =some q->p.1=q.1/\bH Z w ρ I p.2 q.2)->i+n<=cells.size->
 ∃eL,Instr.fill (fun i=>some (i*1,1)) cells cn=some eL/\eL.size=cells.size/\l.length=n/\(∀m,m<n->eL[i+m]? =some (.int k (l.getD m 0)))/\∀q,q<i->eL[q]? =cells[q]?
 |[],[],i,0,l,cells,h,_,_,_=>by
  simp[o1.go]at h;subst h;exact⟨cells,rfl,rfl,rfl,fun m hm=>by omega,fun _ _=>rfl⟩
 |[],[],i,n+1,l,cells,h,_,_,_=>by simp[o1.go]at h
 |[],_::_,_,_,_,_,_,h,_,_=>by simp at h
 |_::_,[],_,_,_,_,_,h,_,_=>by simp at h
 |(j,v)::ps,_::nR,i,0,l,cells,h,_,_,_=>by simp[o1.go]at h
 |(j,v)::ps,(fW,u)::nR,i,n+1,l,cells,h,ax,aE,ah=>by
  have aO:∃cD x,v= .d (.int cD x):=by
   cases v with
   |d y=>
    cases y with
    |int cD x=>exact⟨cD,x,rfl⟩
    |_=>simp[o1.go]at h
   |_=>simp[o1.go]at h
  obtain⟨cD,x,rfl⟩:=aO;simp only[o1.go]at h
  ·split at h
   ·rename_i ab ad;obtain rfl:=apC ab;obtain rfl:=jD.1 ad;obtain⟨az,aJ⟩:=aE 0 _ _ rfl rfl;simp only at az aJ;subst az;have bX:=jb aJ;subst bX
    cases bh:o1.go k (Nat.succ i) n ps with
    |none=>rw[bh]at h;cases h
    |some cm=>
     rw[bh]at h;simp at h;subst h;obtain⟨sX,aY,bj,bG⟩:=Cl (fun i=>some (i*1,1)) cells i (.int k x) nR (i*1) 1 rfl rfl (by omega);obtain⟨eL,fX,gg,h6,jS,jT⟩:=Nq ps nR (i+1) n cm sX bh (by simpa using ax) (fun m p q hm a6=>aE (m+1) p q hm a6) (by omega);refine⟨eL,by rw[aY];exact fX,by omega,by simp[h6],fun m hm=> ?_,fun q a6=> ?_⟩
     ·cases m with
      |zero=>
       rw[apV,jT i (by omega),bG i,apz (by omega)];simp[Value.cells]
      |succ m=>
       rw[show i+(m+1)=i+1+m by omega,jS m (by omega)];simp
     ·rw[jT q (by omega),bG q,apy (by omega)]
   ·cases h
theorem X1 {an:Nat}{cs:List cb}{i n j:Nat}{v:R}{ps:List (Nat×R)}{l:List (List U)}(h:hH.go I an cs i (n+1) ((j,v)::ps)=some l):
 ∃x cm,i=j/\l=x::cm/\hH.go I an cs (i+1) n ps=some cm/\(v= .rw an x\/(v.cellsOf.length=an/\(∀y∈v.cellsOf,y.hl=true)/\x=mg I cs v)):=by
 have gen:(∀m x,v≠ .rw m x)->hH.go I an cs i (n+1) ((j,v)::ps)=(match Nat.beq i j,Nat.beq (bS v.cellsOf) an,ed R.hl v.cellsOf with
  |true,true,true=>(match hH.go I an cs (Nat.succ i) n ps with|some l=>some (mg I cs v::l)|none=>none)
  |_,_,_=>none):=fun aO=>by cases v<;>first|rfl|exact absurd rfl (aO _ _)
 by_cases aO:∃m x,v= .rw m x
 ·obtain⟨m,x,rfl⟩:=aO;simp only[hH.go]at h;split at h
  ·rename_i ab ad;obtain rfl:=apC ab;obtain rfl:=apC ad
   cases bh:hH.go I m cs (Nat.succ i) n ps with
   |none=>rw[bh]at h;cases h
   |some cm=>
    rw[bh]at h;simp at h;subst h;exact⟨x,cm,rfl,rfl,rfl, .inl rfl⟩
  ·cases h
 ·rw[gen fun m x e=>aO ⟨m,x,e⟩]at h;split at h
  ·rename_i ab ad aA;obtain rfl:=apC ab;have ad:=apC ad;rw[cI]at ad;rw[fD,apR]at aA
   cases bh:hH.go I an cs (Nat.succ i) n ps with
   |none=>rw[bh]at h;cases h
   |some cm=>
    rw[bh]at h;simp at h;subst h;exact⟨_,cm,rfl,rfl,rfl, .inr ⟨ad,aA,rfl⟩⟩
  ·cases h
theorem Xq {an:Nat}{cs:List cb}{v:R}{u:Value}{x:List U}(h:v= .rw an x\/(v.cellsOf.length=an/\(∀y∈v.cellsOf,y.hl=true)/\x=mg I cs v))(aO:bH (aK N ρ I) w ρ I v u):
 u.cells.size=an/\∀r,r<an->bB (aK N ρ I) w (x.getD r .undef) (u.cells.getD r undef):=by
 rcases h with rfl|⟨ad,aA,rfl⟩
 ·obtain⟨a,rfl,a1,a2,a3⟩:=aO;exact⟨a1,a3⟩
 ·have aC:u.cells.size=an/\∀i,i<an->eJ (aK N ρ I) w ρ I (v.cellsOf.getD i .un) (u.cells.getD i undef):=by
   cases v with
   |agg q=>
    obtain⟨arr,rfl,a2,a3⟩:=aO;exact⟨by rw[<-ad];exact a2,fun i hi=>a3 i (by rw[<-ad]at hi;exact hi)⟩
   |_=>
    simp only[R.cellsOf]at ad aA⊢;have cS:=GW (aA _ (aqy.2 rfl));obtain⟨q1,cG⟩:=wo cS aO;rw[yN cG,<-ad];refine⟨rfl,fun i hi=> ?_⟩;have:i=0:=by simp at hi;omega
    subst this;exact q1
  refine⟨aC.1,fun r ao=>B0 cs v.cellsOf (fun m=>u.cells.getD m undef) aA (fun qU eY=>aC.2 qU (by omega)) r (by omega)⟩
theorem Nr {an:Nat}{cs:List cb}:∀(bP:List (Nat×R)) (cn:List (Nat×Value)) (i n:Nat) (l:List (List U)) (cells:Array Value),hH.go I an cs i n bP=some l->
 bP.length=cn.length->(∀(m:Nat) (p:Nat×R) (q:Nat×Value),bP[m]? =some p->cn[m]? =some q->p.1=q.1/\bH (aK N ρ I) w ρ I p.2 q.2)->(i+n)*an<=cells.size->
 ∃eL,Instr.fill (fun i=>some (i*an,an)) cells cn=some eL/\eL.size=cells.size/\l.length=n/\
  (∀m j,m<n->j<an->∃v,eL[(i+m)*an+j]? =some v/\bB (aK N ρ I) w ((l.getD m []).getD j .undef) v)/\∀q,q<i*an->eL[q]? =cells[q]?
 |[],[],i,0,l,cells,h,_,_,_=>by
  simp[hH.go]at h;subst h;exact⟨cells,rfl,rfl,rfl,fun m j hm=>by omega,fun _ _=>rfl⟩
 |[],[],i,n+1,l,cells,h,_,_,_=>by simp[hH.go]at h
 |[],_::_,_,_,_,_,_,h,_,_=>by simp at h
 |_::_,[],_,_,_,_,_,h,_,_=>by simp at h
 |(j,v)::ps,_::nR,i,0,l,cells,h,_,_,_=>by simp[hH.go]at h
 |(j,v)::ps,(fW,u)::nR,i,n+1,l,cells,h,ax,aE,ah=>by
  obtain⟨x,cm,rfl,rfl,bh,aj⟩:=X1 h;obtain⟨az,aJ⟩:=aE 0 _ _ rfl rfl;simp only at az aJ;subst az;obtain⟨dh,eW⟩:=Xq aj aJ;have hmul:(i+1)*an<=(i+(n+1))*an:=apP _ (by omega);obtain⟨sX,aY,bj,bG⟩:=Cl (fun i=>some (i*an,an)) cells i u nR (i*an) an rfl dh (by rw[apU]at hmul;omega);obtain⟨eL,fX,gg,h6,jS,jT⟩:=Nr ps nR (i+1) n cm sX bh (by simpa using ax) (fun m p q hm a6=>aE (m+1) p q hm a6) (by rw[show i+1+n=i+(n+1) by omega];omega);refine⟨eL,by rw[aY];exact fX,by omega,by simp[h6],fun m r hm ao=> ?_,fun q a6=> ?_⟩
  ·cases m with
   |zero=>
    rw[apV,jT _ (by rw[apU];omega),bG,apz (by omega),show i*an+r-i*an=r by omega];exact⟨u.cells.getD r undef,by simp[apH,show r<u.cells.size by omega],eW r ao⟩
   |succ m=>
    obtain⟨ec,pn,mB⟩:=jS m r (by omega) ao;exact⟨ec,by rw[show i+(m+1)=i+1+m by omega];exact pn,by simpa using mB⟩
  ·rw[jT q (by rw[apU];omega),bG q,apy (by omega)]
end
end Go.ak
end
section
namespace Go.ak
section
variable {P:Program} {N:Nat->Prop} {ρ:List Loc} {I:aD} {w:World}
theorem Pd {tm:List R}{a:Act}(aw:ei (aK N ρ I) w ρ I tm a.tmps)(bP:Array (Nat×Operand)):
 ∀(m:Nat) (p:Nat×R) (q:Nat×Value),(bE (fun p=>(p.1,aN tm p.2)) bP.toList)[m]? =some p->((bP.map fun(i,x)=>(i,a.eval x)).toList)[m]? =some q->
  p.1=q.1/\bH (aK N ρ I) w ρ I p.2 q.2:=by
 intro m p q ab ad;rw[dP]at ab;simp only[aqv,Array.toList_map]at ab ad
 cases Ay:bP.toList[m]? with
 |none=>simp[Ay]at ab
 |some x=>
  simp[Ay]at ab ad;subst ab ad;exact⟨rfl,ey aw _⟩
theorem Mq {t e:TypeId}{g:TypeInfo}{z:Value}(q1:P.underlying t=some (.slice e))(cG:P.info? e=some g)(eb:g.zero=some z)(n:Nat)(bP:Array (Nat×Value))(eL:Array Value)
 (nB:¬n*g.size>2^24) (aU:Instr.fill (fun i=>some (i*g.size,g.size)) (madeCells (if n*g.size=0 then#[]else z.cells) (n*g.size)) bP.toList=some eL):
 (Instr.buildSlice t n bP).run P w= .ok (.slice (some ⟨w.heap.size,0,none⟩) n n) (w.alloc (.cells eL e)):=by
 unfold Instr.buildSlice
 by_cases bc:n*g.size=0
 ·rw[apz bc]at aU;have vu:Instr.fill (fun i=>some (i*g.size,g.size)) ((Array.range (n*g.size)).map ((#[]:Array Value)[·%(#[]:Array Value).size]!)) bP.toList=some eL:=aU;simp only[Sem.run_bind,run_underlying q1,Result.andThen_ok,lr cG,Sem.run_ite,apy nB,apz bc,Sem.run_pure,vu];simp[newRow]
 ·rw[apy bc]at aU;have vu:Instr.fill (fun i=>some (i*g.size,g.size)) ((Array.range (n*g.size)).map (z.cells[·%z.cells.size]!)) bP.toList=some eL:=aU;have FI:(zeroValue e).run P w= .ok z w:=by simp[zeroValue,typeInfo,cG,eb]
  simp only[Sem.run_bind,run_underlying q1,Result.andThen_ok,lr cG,Sem.run_ite,apy nB,apy bc,FI,Sem.run_pure,vu];simp[newRow]
theorem Ns {t:TypeId}{i:b7}(hi:c5 P t i=true)(bM:cw N ρ I w){tm:List R}{a:Act}(aw:ei (aK N ρ I) w ρ I tm a.tmps)(bP:Array (Nat×Operand))(n:Nat)
 {k:IntKind} (cd:i.ty= .aG (.cp k)) {l:List Int} (ax:o1 k n (bE (fun p=>(p.1,aN tm p.2)) bP.toList)=some l) (aB:n<=65536):
 ∃u w' ρ',(Instr.buildSlice t n (bP.map fun(i,x)=>(i,a.eval x))).run P w= .ok u w'/\cv N ρ I w ρ' (I++[(false, .af k l)]) w'/\
  bH (aK N ρ' (I++[(false, .af k l)])) w' ρ' (I++[(false, .af k l)]) (.vec I.length) u:=by
 obtain⟨e,g,q1,cG,cV,gD,eb⟩:=Hn hi cd;obtain⟨eL,f1,f2,f3,f4,_⟩:=Nq (w:=w) (ρ:=ρ) (I:=I) (Z:=aK N ρ I) _ _ 0 n l (madeCells (if n*g.size=0 then#[]else(Value.int k 0).cells) (n*g.size)) ax (DD (tm:=tm) (a:=a) bP) (Pd aw bP) (by rw[size_madeCells,cV];omega)
 have fq:(Instr.buildSlice t n (bP.map fun(i,x)=>(i,a.eval x))).run P w= .ok (.slice (some ⟨w.heap.size,0,none⟩) n n) (w.alloc (.cells eL e)):=by
  have nB:¬n*g.size>2^24:=by rw[cV];omega
  exact Mq q1 cG eb n _ eL nB (by rw[cV]at f1⊢;exact f1)
 refine⟨_,_,_,fq,cv.alloc bM false (.af k l) _ n (.inr ⟨w.heap.size,eL,e,rfl,rfl,n1 w _,by simp[f3],by rw[f2,size_madeCells,cV];simp,fun q a6=> ?_⟩), .c7 ⟨_,rh bM _, ?_⟩⟩
 ·have:=f4 q (by omega);simpa using this
 ·rw[fQ,apz rfl];simp[ae.len,f3]
theorem G2 {t:TypeId}{i:b7}(hi:c5 P t i=true)(bM:cw N ρ I w){tm:List R}{a:Act}(aw:ei (aK N ρ I) w ρ I tm a.tmps)(bP:Array (Nat×Operand))(n:Nat)
 {an:Nat} (cd:i.ty= .aG (.dK an)) {l:List (List U)} (ax:hH I an i.fv n (bE (fun p=>(p.1,aN tm p.2)) bP.toList)=some l) (aB:n*an<=65536):
 ∃u w' ρ',(Instr.buildSlice t n (bP.map fun(i,x)=>(i,a.eval x))).run P w= .ok u w'/\cv N ρ I w ρ' (I++[(false, .ar an l)]) w'/\
  bH (aK N ρ' (I++[(false, .ar an l)])) w' ρ' (I++[(false, .ar an l)]) (.vec I.length) u:=by
 obtain⟨e,g,z,q1,cG,cV,gD,eb,il,hd,kA⟩:=ss hi cd;obtain⟨eL,f1,f2,f3,f4,_⟩:=Nr (w:=w) (ρ:=ρ) (I:=I) (N:=N) _ _ 0 n l (madeCells (if n*g.size=0 then#[]else z.cells) (n*g.size)) ax (DD (tm:=tm) (a:=a) bP) (Pd aw bP) (by rw[size_madeCells,cV];simp)
 have fq:(Instr.buildSlice t n (bP.map fun(i,x)=>(i,a.eval x))).run P w= .ok (.slice (some ⟨w.heap.size,0,none⟩) n n) (w.alloc (.cells eL e)):=by
  have nB:¬n*g.size>2^24:=by rw[cV];omega
  exact Mq q1 cG hd n _ eL nB (by rw[cV]at f1⊢;exact f1)
 refine⟨_,_,_,fq,cv.alloc bM false (.ar an l) _ n (.inr ⟨w.heap.size,eL,e,rfl,rfl,n1 w _,by simp[f3],by rw[f2,size_madeCells,cV];simp,eb,fun q r a6 ao=> ?_⟩), .c7 ⟨_,rh bM _, ?_⟩⟩
 ·obtain⟨v,pn,mB⟩:=f4 q r (by omega) ao;exact⟨v,by simpa using pn,B2 bM _ (.inl rfl) _ _ _ _ mB⟩
 ·rw[fQ,apz rfl];simp[ae.len,f3]
theorem P6 {lY cg:TypeId}(ag:P.underlying lY=some (.slice cg)){t:aZ}{x:U}{u:Value}(aU:hj t x=true)(h:bB (aK N ρ I) w x u):
 ∃news:List Value,Src P x.cL lY u x.len news w/\(∀i j,i<x.len->j<x.cL->∃v,news[i*x.cL+j]? =some v/\bB (aK N ρ I) w (x.cell i j) v):=by
 cases h with
 |jt a cap k=>
  refine⟨[], ?_,fun i j hi=>by simp[U.len]at hi⟩
  cases a with
  |none=>exact Src.ofNil w ag cap
  |some a=>exact Src.ofSlice w ag a 0 cap [] (by simp) (fun j u h=>by simp at h) (fun u h=>by cases h)
 |af k l n b off cap aB bm aC hv=>
  refine⟨l.map (Value.int k), ?_,fun i j hi aI=> ?_⟩
  ·have:=Src.ofSlice (P:=P) (size:=1) w ag ⟨b,off,none⟩ n cap (l.map (Value.int k)) (by simp[aB]) (fun j u h=>by
    rw[aqv]at h
    have aI:j<l.length:=by
     cases kr:l[j]? with
     |none=>simp[kr]at h
     |some z=>exact(aqp.1 kr).1
    rw[mP,hv j (by omega)];simp[apT aI]at h
    simp[apA,aI,h]) (fun u h=>by obtain⟨z,_,rfl⟩:=apQ.1 h;rfl)
   simpa[U.len,U.cL,aB]using this
  ·simp only[U.len,U.cL,U.cell]at hi aI⊢;have:j=0:=by omega
   subst this;exact⟨.int k (l.getD i 0),by simp[apA,hi], .int _ _⟩
 |kS a cap an=>
  refine⟨[], ?_,fun i j hi=>by simp[U.len]at hi⟩
  cases a with
  |none=>exact Src.ofNil w ag cap
  |some a=>exact Src.ofSlice w ag a 0 cap [] (by simp) (fun j u h=>by simp at h) (fun u h=>by cases h)
 |ar an l n b off cap qT aB cx bm aC hv ao=>
  simp only[U.len,U.cL,U.cell];have ki:0<an:=cx;refine⟨(List.range (n*an)).map fun m=>qT (m/an) (m%an), ?_,fun i j hi aI=> ?_⟩
  ·rw[aB];refine Src.ofSlice (P:=P) w ag ⟨b,off,none⟩ n cap _ (by simp) (fun j v h=> ?_) (fun v h=> ?_)
   ·rw[aqv]at h
    have aI:j<n*an:=by
     cases kr:(List.range (n*an))[j]? with
     |none=>simp[kr]at h
     |some z=>have:=(aqp.1 kr).1;simpa using this
    simp[aI]at h;subst h;have ab:j/an<n:=ars (by rw[aqa];exact aI);have:=hv (j/an) (j%an) ab (aqh _ ki);rw[mP];rwa [show off+j/an*an+j%an=off+j by rw[aqs,aqa,arc]]at this
   ·obtain⟨m,hm,rfl⟩:=apQ.1 h;have hm:m<n*an:=by simpa using hm
    exact(ao (m/an) (m%an) (ars (by rw[aqa];exact hm)) (aqh _ ki)).one
  ·rw[aB]at hi
   have bL:i*an+j<n*an:=by
    have:(i+1)*an<=n*an:=apP _ (by omega);rw[apU]at this;omega
   have ab:(i*an+j)/an=i:=by rw[aqa,Nat.mul_add_div ki,ard aI,apV]
   have ad:(i*an+j)%an=j:=by rw[aqa,arD,aqt aI]
   refine⟨qT i j,by simp[bL,ab,ad],ao i j hi aI⟩
 |_=>cases t<;>simp[hj]at aU
theorem BQ {t lY ty e:TypeId}{g:TypeInfo}(aw:P.underlying t=some (.slice e))(bh:P.info? e=some g)(base:Option Addr)(pd ve:Nat)(hle:pd<=ve){x:Value}(ay:Src P g.size lY x 0 [] w):
 (Builtin.append_ #[t,lY] ty #[.slice base pd ve,x]).run P w= .ok (.slice base pd ve) w:=by
 have aC:=ay.cells
 have cS:∀q:Addr,(storeCells q []).run P w= .ok () w:=fun q=>rfl
 rcases ay.kind with⟨cg,ag⟩|ag<;>cases base<;>simp[Builtin.append_,run_underlying aw,run_underlying ag,sizeOf,typeInfo,bh,ay.len,hle,aC,cS]
theorem YC {t lY ty e aJ:TypeId}{g:TypeInfo}(aw:P.underlying t=some (.slice e))(bh:P.info? e=some g)(b pd ve n:Nat){x:Value}{news:List Value}(ay:Src P g.size lY x n news w)
 (cur:Array Value) (ah:w.heap[b]? =some (.cells cur aJ (0,0))) (s6:pd+n<=ve) (fj:pd*g.size+news.length<=cur.size):
 (Builtin.append_ #[t,lY] ty #[.slice (some ⟨b,0,none⟩) pd ve,x]).run P w=
   .ok (.slice (some ⟨b,0,none⟩) (pd+n) ve) (w.setRow b (cur.toList.take (pd*g.size)++news++cur.toList.drop (pd*g.size+news.length)).toArray):=by
 have cS:=run_storeCells_at P b (pd*g.size) aJ news 0 cur w ah (by simpa using fj) ay.one;simp only[apV]at cS;rcases ay.kind with⟨cg,ag⟩|ag<;>simp[Builtin.append_,run_underlying aw,run_underlying ag,sizeOf,typeInfo,bh,ay.len,s6,ay.cells,Addr.add_lit,cS]
theorem MG (size:Nat)(a:Option Addr)(c:Nat)(w:World):(Builtin.firstCells size 0 (.slice a 0 c)).run P w= .ok #[] w:=by
 cases a with
 |none=>rfl
 |some a=>simp only[Builtin.firstCells,aqI];rfl
theorem cv.nil (h:cw N ρ I w)(f:Bool)(ob:ae)(a:Option Addr)(aF:ob= .gone\/(∃k,ob= .af k [])\/∃an,ob= .ar an []):
 cv N ρ I w (ρ++[⟨a,0,none⟩]) (I++[(f,ob)]) w:=by
 have iw:∀b,gi (ρ++[⟨a,0,none⟩]) (I++[(f,ob)]) b->gi ρ I b:=fun b ⟨i,av,ab,ad,aA⟩=>by
  rw[ap7]at ab
  by_cases hi:i<ρ.length
  ·rw[apz hi]at ab;rw[jJ,apy (by rw[<-h.len];omega)]at aA;exact⟨i,av,ab,ad,aA⟩
  ·rw[apy hi]at ab
   cases a_:i-ρ.length with
   |zero=>simp[a_]at ab;subst ab;cases ad
   |succ n=>simp[a_]at ab
 have cy:Fr ρ I w (ρ++[⟨a,0,none⟩]) (I++[(f,ob)]) w:=⟨rfl,rfl,rfl,apF _,fun _ _ _=>rfl,fun b ah=> .inl (iw b ah)⟩;have e1:=Hm h ⟨a,0,none⟩ (f,ob);refine{cy with rel:=h.tp cy (by simp[h.len]) (fun _ _ _ _ id _ _=>e1 id) (fun i av ax=> ?_),same:=e1};rw[ap7]at ax
 by_cases hi:i<ρ.length
 ·rw[apz hi]at ax;exact .inl ⟨ax,by rw[fQ,apy (by rw[<-h.len];omega)],fun aj=>by rwa [jJ,apy (by rw[<-h.len];omega)]at aj,fun _ _=>rfl⟩
 ·rw[apy hi]at ax
  cases a_:i-ρ.length with
  |succ n=>simp[a_]at ax
  |zero=>
   simp[a_]at ax;subst ax;have eY:i=I.length:=by rw[<-h.len];omega
   refine .inr ⟨fun b ah=>(by cases ah), ?_⟩;rw[eY,fQ,apz rfl];rcases aF with rfl|⟨k,rfl⟩|⟨an,rfl⟩
   ·trivial
   ·exact .inl ⟨rfl,rfl⟩
   ·exact .inl ⟨rfl,rfl⟩
theorem P7 (w:World)(Jk jy:Nat)(e:TypeId):Jk<=grownCap w Jk jy e:=grownCap_ge w Jk jy e
theorem BO (z:Array Value)(n:Nat):(Builtin.zeroCells z n).size=n*z.size:=by simp[Builtin.zeroCells]
theorem Pe {e:TypeId}{g:TypeInfo}{i:b7}{t:TypeId}(hi:c5 P t i=true)(ay:iH i.ty=true)(he:P.underlying t=some (.slice e))(bh:P.info? e=some g):
 ∃z,g.zero=some z/\z.cells.size=g.size/\0<g.size:=by
 cases cd:i.ty with
 |aG s=>
  rw[cd]at ay
  cases s with
  |cp k=>
   obtain⟨cg,vS,q1,cG,cV,gD,eb⟩:=Hn hi cd;rw[he]at q1;cases q1;rw[bh]at cG;cases cG;exact⟨_,eb,by rw[cV];rfl,by omega⟩
  |dK an=>
   obtain⟨cg,vS,z,q1,cG,cV,gD,eb,il,hd,kA⟩:=ss hi cd;rw[he]at q1;cases q1;rw[bh]at cG;cases cG;have:=(q3 (Z:=fun _=>False) (w:=default) kA).1;exact⟨z,hd,by rw[cV,<-il,<-this];simp,by omega⟩
  |_=>simp[iH]at ay
 |_=>rw[cd]at ay;simp[iH]at ay
theorem Oq {t:aZ}{x:U}(h:hj t x=true):iH t=true:=by
 cases t with
 |aG s=>cases x<;>cases s<;>simp_all [hj,iH]
 |_=>cases x<;>simp[hj]at h
theorem Cm (kU news:List Value)(Z:Array Value)(k:Nat)(v:Value)(h:(kU++news)[k]? =some v):((kU++news).toArray++Z)[k]? =some v:=by
 have ag:=(aqp.1 h).1;rw[ar2 (by simpa using ag)];simpa using h
theorem Pf {a b:Nat}(h:(a:Int)*b<=70368744177664):a*b<=70368744177664:=by
 have:((a*b:Nat):Int)<=((70368744177664:Nat):Int):=by rw[aqJ];exact h
 exact Int.ofNat_le.1 this
theorem MP {t lY ty:TypeId}{i:b7}(hi:c5 P t i=true)(bM:cw N ρ I w){cg:TypeId}(ag:P.underlying lY=some (.slice cg)){x:U}{oK qR:Value}(aj:∃a,oK= .slice a 0 0)
 (bo:bB (aK N ρ I) w x qR) (aU:hj i.ty x=true) (ob:ae) (ck:(∃k l,x= .af k l/\ob= .af k l)\/∃an l,x= .ar an l/\ob= .ar an l)
 (rY:0<i.bytes) (ah:(x.len:Int)*i.bytes<=70368744177664):
 ∃u w' ρ',(Builtin.append_ #[t,lY] ty #[oK,qR]).run P w= .ok u w'/\cv N ρ I w ρ' (I++[(false,ob)]) w'/\bH (aK N ρ' (I++[(false,ob)])) w' ρ' (I++[(false,ob)]) (.vec I.length) u:=by
 obtain⟨a,rfl⟩:=aj;obtain⟨e,g,he,bh,cx,ki,nH⟩:=sr hi aU;obtain⟨z,bm,iV,_⟩:=Pe hi (Oq aU) he bh;obtain⟨news,gp,mZ⟩:=P6 (ρ:=ρ) (I:=I) (N:=N) ag aU bo;have hlen:ob.len=x.len:=by rcases ck with⟨k,l,rfl,rfl⟩|⟨an,l,rfl,rfl⟩<;>rfl
 rw[<-cx]at gp mZ
 by_cases aB:x.len=0
 ·have k4:news=[]:=by have:=gp.newsLen;rw[aB]at this;exact aqm.1 (by simpa using this)
  rw[aB,k4]at gp;refine⟨_,w,_,BQ he bh a 0 0 (apF _) gp,cv.nil bM false ob a ?_, .c7 ⟨_,rh bM _, ?_⟩⟩
  ·rcases ck with⟨k,l,rfl,rfl⟩|⟨an,l,rfl,rfl⟩
   ·exact .inr (.inl ⟨k,by rw[aqm.1 aB]⟩)
   ·exact .inr (.inr ⟨an,by rw[aqm.1 aB]⟩)
  ·rw[fQ,apz rfl,hlen,aB];exact⟨rfl,fun _=>rfl⟩
 ·have FK:x.len*g.bytes<=70368744177664:=by rw[nH];exact Pf ah
  have po:((0+x.len:Nat):Int)<=9223372036854775807:=by
   have ab:x.len*1<=x.len*g.bytes:=apY _ (by omega);omega
  have fq:=run_append_grow_src (P:=P) w t lY ty e g z he bh bm a 0 0 [] (MG g.size a 0 w.drew) qR x.len news gp (by omega) po (growslice_fits (by omega) (by rw[ap3];omega));have jj:=P7 w (0+x.len) 0 e;generalize grownCap w (0+x.len) 0 e=cap at fq jj;have a_:=cv.drew bM (w':=w.drew) rfl rfl rfl rfl;have oh:w.drew.heap.size=w.heap.size:=rfl
  have cS:=cv.alloc a_.rel false ob (.cells (([]++news).toArray++Builtin.zeroCells z.cells (cap-(0+x.len))) e) cap (by
   rcases ck with⟨k,l,rfl,rfl⟩|⟨an,l,rfl,rfl⟩
   ·refine .inr ⟨_,_,e,rfl,rfl,n1 _ _,by simp only[U.len]at jj⊢;omega, ?_,fun q a6=> ?_⟩
    ·simp only[U.len,U.cL]at cx jj gp⊢;simp[BO,iV,cx,gp.newsLen];omega
    ·obtain⟨v,aO,ao⟩:=mZ q 0 (by simpa[U.len]using a6) (by omega);simp only[U.cL]at cx;rw[cx,ap8,apV]at aO;simp only[U.cell]at ao;have:v= .int k (l.getD q 0):=by cases ao;rfl
     subst this;have xP:q<news.length:=(aqp.1 aO).1;exact Cm [] news _ q _ (by simpa using aO)
   ·refine .inr ⟨_,_,e,rfl,rfl,n1 _ _,by simp only[U.len]at jj⊢;omega, ?_,by simpa[U.cL]using ki,fun q r a6 ao=> ?_⟩
    ·simp only[U.len,U.cL]at cx jj gp⊢;have az:(cap-(0+l.length))*an=cap*an-l.length*an:=by rw[ap3,Nat.sub_mul]
     have aJ:l.length*an<=cap*an:=apP _ (by omega);simp[BO,iV,cx,gp.newsLen];rw[Nat.sub_mul];omega
    ·simp only[U.cL]at cx ao;obtain⟨v,aO,J_⟩:=mZ q r (by simpa[U.len]using a6) (by omega);rw[cx]at aO;simp only[U.cell]at J_;have xP:q*an+r<news.length:=(aqp.1 aO).1;refine⟨v,Cm [] news _ _ _ (by simpa using aO), ?_⟩
     exact B2 a_.rel _ (.inl rfl) _ _ _ _ (a_.toFr.reads J_))
  refine⟨_,_,_,fq,a_.trans cS, .c7 ⟨_,rh a_.rel _, ?_⟩⟩;rw[fQ,apz rfl,hlen,ap3];exact⟨rfl,fun h=>by cases h⟩
end
end Go.ak
end
section
namespace Go.ak
section
variable {P:Program} {N:Nat->Prop} {ρ:List Loc} {I:aD} {w:World}
theorem Ot {Z Z':Nat->Prop}{w w':World}(ag:∀b,b<w.heap.size->¬Z b->w'.heap[b]? =w.heap[b]?)(bm:∀b,b<w.heap.size->¬Z b->¬Z' b):
 ∀x u,bB Z w x u->bB Z' w' x u:=fun _ _ h=>h.mono fun b ah aB=>⟨ag b ah aB,bm b ah aB⟩
theorem MQ {t lY ty:TypeId}{i:b7}(hi:c5 P t i=true)(bM:cw N ρ I w){cg:TypeId}(ajU:P.underlying lY=some (.slice cg)){x:U}{id:Nat}{oK qR:Value}
 (aj:bH (aK N ρ I) w ρ I (.vec id) oK) (bo:bB (aK N ρ I) w x qR) (aU:hj i.ty x=true) (ep:cz I id=false) (ob:ae)
 (ck:(∃k l m,x= .af k l/\ae.at I id= .af k m/\ob= .af k (m++l))\/∃an l m,x= .ar an l/\ae.at I id= .ar an m/\ob= .ar an (m++l))
 (rY:0<i.bytes) (ah:(((ae.at I id).len:Int)+x.len)*i.bytes<=70368744177664):
 ∃u w' ρ',(Builtin.append_ #[t,lY] ty #[oK,qR]).run P w= .ok u w'/\
  (let al:=gF id (I.set id (false,ob))
   cw N ρ' al w'/\Fr ρ I w ρ' al w'/\(∀i,i≠id->eQ ρ I ρ' al i)/\bH (aK N ρ' al) w' ρ' al (.vec id) u):=by
 obtain⟨av,ax,hu,vw⟩:=aj;have dM:=bM.j0 ax;obtain⟨e,g,he,bh,cx,ki,nH⟩:=sr hi aU;obtain⟨z,bm,iV,aow⟩:=Pe hi (Oq aU) he bh;obtain⟨news,gp,mZ⟩:=P6 (ρ:=ρ) (I:=I) (N:=N) ajU aU bo;rw[<-cx]at gp mZ
 have IK:ob.len=(ae.at I id).len+x.len:=by
  rcases ck with⟨k,l,m,rfl,ad,rfl⟩|⟨an,l,m,rfl,ad,rfl⟩<;>rw[ad]<;>simp[ae.len,U.len]
 have E1:ob.kill id=ob:=by rcases ck with⟨k,l,m,rfl,ad,rfl⟩|⟨an,l,m,rfl,ad,rfl⟩<;>rfl
 have fa:((ae.at I id).len=0/\av.cap=0)\/∃b aH aJ,av.a=some ⟨b,0,none⟩/\av.bs=some b/\w.heap[b]? =some (.cells aH aJ (0,0))/\(ae.at I id).len<=av.cap/\av.cap*g.size<=aH.size/\
  ∀q r,q<(ae.at I id).len->r<g.size->∃v,aH[q*g.size+r]? =some v/\bB (aK N ρ I) w ((ae.at I id).data.cell q r) v:=by
  have b5:=bM.ob id av ax;rcases ck with⟨k,l,m,rfl,ad,rfl⟩|⟨an,l,m,rfl,ad,rfl⟩
  ·rw[ad]at b5⊢;simp only[U.cL]at cx;rcases b5 with⟨rfl,aC⟩|⟨b,aH,aJ,aY,bj,bG,di,eK,gC⟩
   ·exact .inl ⟨rfl,aC⟩
   ·refine .inr ⟨b,aH,aJ,aY,bj,bG,di,by rw[cx,ap8];exact eK,fun q r a6 ao=>⟨.int k (m.getD q 0), ?_, .int _ _⟩⟩;have:r=0:=by omega
    subst this;rw[cx,ap8,apV];exact gC q a6
  ·rw[ad]at b5⊢;simp only[U.cL]at cx;rcases b5 with⟨rfl,aC⟩|⟨b,aH,aJ,aY,bj,bG,di,eK,lf,gC⟩
   ·exact .inl ⟨rfl,aC⟩
   ·exact .inr ⟨b,aH,aJ,aY,bj,bG,di,by rw[cx];exact eK,fun q r a6 ao=>by rw[cx]at ao⊢;exact gC q r a6 ao⟩
 have rK:∀(Z:Nat->Prop) (w':World) (iP:List Loc) (fK:aD) (jf:Loc) (b:Nat) (vx:Array Value) (aJ:TypeId),(∀x u,bB (aK N ρ I) w x u->bB Z w' x u)->
  jf.a=some ⟨b,0,none⟩->jf.bs=some b->w'.heap[b]? =some (.cells vx aJ (0,0))->(ae.at I id).len+x.len<=jf.cap->jf.cap*g.size<=vx.size->
  (∀q r,q<(ae.at I id).len->r<g.size->∃v,vx[q*g.size+r]? =some v/\bB (aK N ρ I) w ((ae.at I id).data.cell q r) v)->
  (∀q r,q<x.len->r<g.size->∃v,vx[((ae.at I id).len+q)*g.size+r]? =some v/\bB (aK N ρ I) w (x.cell q r) v)->hS Z w' iP fK jf ob:=by
  intro Z w' iP fK jf b vx aJ ao a1 a2 a3 a4 a5 qV yh;rcases ck with⟨k,l,m,rfl,ad,rfl⟩|⟨an,l,m,rfl,ad,rfl⟩
  ·rw[ad]at a4 qV yh;simp only[U.cL,ae.len,U.len,ae.data,U.cell]at cx a4 qV yh;refine .inr ⟨b,vx,aJ,a1,a2,a3,by simpa using a4,by rw[cx,ap8]at a5;exact a5,fun q a6=> ?_⟩;simp only[ap4]at a6
   by_cases vy:q<m.length
   ·obtain⟨v,aO,k5⟩:=qV q 0 vy (by omega);rw[cx,ap8,apV]at aO;have:v= .int k (m.getD q 0):=by cases k5;rfl
    rw[aO,this];simp[apA,ap7,vy]
   ·obtain⟨v,aO,k5⟩:=yh (q-m.length) 0 (by omega) (by omega);rw[cx,ap8,apV,show m.length+(q-m.length)=q by omega]at aO;have:v= .int k (l.getD (q-m.length) 0):=by cases k5;rfl
    rw[aO,this];simp[apA,ap7,vy]
  ·rw[ad]at a4 qV yh;simp only[U.cL,ae.len,U.len,ae.data,U.cell]at cx a4 qV yh;refine .inr ⟨b,vx,aJ,a1,a2,a3,by simpa using a4,by rw[cx]at a5;exact a5,by omega,fun q r a6 J_=> ?_⟩;simp only[ap4]at a6
   by_cases vy:q<m.length
   ·obtain⟨v,aO,k5⟩:=qV q r vy (by omega);rw[cx]at aO;refine⟨v,aO,ao _ _ ?_⟩;have:(m++l).getD q []=m.getD q []:=by simp[apA,ap7,vy]
    rw[this];exact k5
   ·obtain⟨v,aO,k5⟩:=yh (q-m.length) r (by omega) (by omega);rw[cx,show m.length+(q-m.length)=q by omega]at aO;refine⟨v,aO,ao _ _ ?_⟩;have:(m++l).getD q []=l.getD (q-m.length) []:=by simp[apA,ap7,vy]
    rw[this];exact k5
 have z7:∀(ρ':List Loc) (al:aD),al=gF id (I.set id (false,ob))->ae.at al id=ob:=by
  rintro ρ' al rfl;rw[Im,gG,apz ⟨rfl,dM⟩];exact E1
 by_cases s6:(ae.at I id).len+x.len<=av.cap
 ·rcases fa with⟨bc,aC⟩|⟨b,aH,aJ,a1,a2,a3,a4,a5,qV⟩
  ·
   have Ka:x.len=0:=by omega
   have k4:news=[]:=by have:=gp.newsLen;rw[Ka]at this;exact aqm.1 (by simpa using this)
   rw[Ka,k4]at gp;have fq:=BQ (P:=P) (w:=w) (ty:=ty) he bh av.a (ae.at I id).len av.cap (by omega) gp
   have hJ:ρ.set id av=ρ:=by
    apply List.ext_getElem?;intro j;rw[aqk];split
    ·rename_i aI;subst aI;rw[apz (by rw[bM.len];exact dM),ax]
    ·rfl
   obtain⟨dX,dU,dR⟩:=HT bM id av dM ob E1 ep (w':=w) rfl rfl rfl (apF _) (fun _ _ _=>rfl)
    (fun b ah=>⟨bM.lt id av b ax ah,bM.fz id av b ax ah, .inr ⟨av,ax,ah⟩⟩)
    (fun Z iP fK _=>by
      have:ob.len=0:=by omega
      rcases ck with⟨k,l,m,rfl,ad,rfl⟩|⟨an,l,m,rfl,ad,rfl⟩
      ·exact .inl ⟨aqm.1 this,aC⟩
      ·exact .inl ⟨aqm.1 this,aC⟩)
   refine⟨_,w,ρ.set id av,by rw[hu];exact fq,dX,dU,dR, .c7 ⟨av,by rw[hJ];exact ax, ?_⟩⟩;rw[z7 (ρ.set id av) _ rfl,IK,Ka];exact⟨rfl,vw⟩
  ·
   have fj:(ae.at I id).len*g.size+news.length<=aH.size:=by
    rw[gp.newsLen,<-apU];exact apS (apP _ s6) a5
   have fq:=YC (P:=P) (w:=w) (ty:=ty) he bh b (ae.at I id).len av.cap x.len gp aH a3 s6 fj
   have hJ:ρ.set id av=ρ:=by
    apply List.ext_getElem?;intro j;rw[aqk];split
    ·rename_i aI;subst aI;rw[apz (by rw[bM.len];exact dM),ax]
    ·rfl
   have mc:∀fh,fh≠b->(w.setRow b (aH.toList.take ((ae.at I id).len*g.size)++news++aH.toList.drop ((ae.at I id).len*g.size+news.length)).toArray).heap[fh]? =w.heap[fh]? :=
    fun fh ho=>setRow_other w b fh _ ho
   obtain⟨dX,dU,dR⟩:=HT bM id av dM ob E1 ep
    (w':=w.setRow b (aH.toList.take ((ae.at I id).len*g.size)++news++aH.toList.drop ((ae.at I id).len*g.size+news.length)).toArray) rfl rfl rfl (by simp)
    (fun fh _ dn=>mc fh fun h=>dn av ax (h▸a2))
    (fun fh ho=>⟨by simpa using bM.lt id av fh ax ho,bM.fz id av fh ax ho, .inr ⟨av,ax,ho⟩⟩)
    (fun Z iP fK kq=>by
      refine rK Z _ iP fK av b _ aJ (Ot (fun fh ho aB=>mc fh fun h=>aB (.inr ⟨id,av,ax,h▸a2,ep⟩)) kq) a1 a2 (setRow_heap w b aH _ aJ (0,0) a3) s6 (by rw[wu _ _ _ fj];exact a5) (fun q r a6 ao=> ?_) (fun q r a6 ao=> ?_)
      ·rw[uh _ _ _ fj];have:(q+1)*g.size<=(ae.at I id).len*g.size:=apP _ (by omega);rw[apU]at this;rw[apy (by omega)];exact qV q r a6 ao
      ·rw[uh _ _ _ fj];obtain⟨v,aO,k5⟩:=mZ q r a6 ao;have bL:=(aqp.1 aO).1;rw[apz (by rw[apU];omega)];refine⟨v, ?_,k5⟩;rw[show((ae.at I id).len+q)*g.size+r-(ae.at I id).len*g.size=q*g.size+r by rw[apU];omega]
       exact aO)
   refine⟨_,_,ρ.set id av,by rw[hu,a1];exact fq,dX,dU,dR, .c7 ⟨av,by rw[hJ];exact ax, ?_⟩⟩;rw[z7 (ρ.set id av) _ rfl,IK,a1];exact⟨rfl,fun h=>by cases h⟩
 ·
  have FK:((ae.at I id).len+x.len)*g.bytes<=70368744177664:=by rw[nH];exact Pf (by rw[arR];exact ah)
  have po:(((ae.at I id).len+x.len:Nat):Int)<=9223372036854775807:=by
   have ab:((ae.at I id).len+x.len)*1<=((ae.at I id).len+x.len)*g.bytes:=apY _ (by omega);omega
  have hold:∃kU:List Value,(Builtin.firstCells g.size (ae.at I id).len (.slice av.a (ae.at I id).len av.cap)).run P w.drew= .ok kU.toArray w.drew/\kU.length=(ae.at I id).len*g.size/\
   ∀q r,q<(ae.at I id).len->r<g.size->∃v,kU[q*g.size+r]? =some v/\bB (aK N ρ I) w ((ae.at I id).data.cell q r) v:=by
   rcases fa with⟨bc,aC⟩|⟨b,aH,aJ,a1,a2,a3,a4,a5,qV⟩
   ·exact⟨[],by rw[bc];exact MG _ _ _ _,by simp[bc],fun q r a6=>by omega⟩
   ·have hle:(ae.at I id).len*g.size<=aH.size:=apS (apP _ a4) a5;refine⟨aH.toList.take ((ae.at I id).len*g.size), ?_,by simp;omega,fun q r a6 ao=> ?_⟩
    ·rw[a1]
     exact run_firstCells_some w.drew g.size _ ⟨b,0,none⟩ _ _ _ (by simp;omega) (fun j v aI=>by
      rw[mP,ap3]
      have iR:j<(ae.at I id).len*g.size:=by
       have:=(aqp.1 aI).1;simp at this;omega
      rw[aqq,apz iR]at aI;have ajV:w.drew.heap[b]? =some (.cells aH aJ (0,0)):=a3;simp only[World.cell?,ajV]
      simpa using aI)
    ·obtain⟨v,aO,k5⟩:=qV q r a6 ao
     have bL:q*g.size+r<(ae.at I id).len*g.size:=by
      have:(q+1)*g.size<=(ae.at I id).len*g.size:=apP _ (by omega);rw[apU]at this;omega
     exact⟨v,by rw[aqq,apz bL];simpa using aO,k5⟩
  obtain⟨kU,xQ,Az,ajW⟩:=hold;have fq:=run_append_grow_src (P:=P) w t lY ty e g z he bh bm av.a (ae.at I id).len av.cap kU xQ qR x.len news gp (by omega) po (growslice_fits (by omega) (by omega));have jj:=P7 w ((ae.at I id).len+x.len) av.cap e;generalize grownCap w ((ae.at I id).len+x.len) av.cap e=cap at fq jj
  have mc:∀fh,fh<w.heap.size->(w.drew.alloc (.cells ((kU++news).toArray++Builtin.zeroCells z.cells (cap-((ae.at I id).len+x.len))) e)).heap[fh]? =w.heap[fh]? :=
   fun fh ho=>heap_alloc_old w.drew _ fh ho
  obtain⟨dX,dU,dR⟩:=HT bM id ⟨some ⟨w.heap.size,0,none⟩,cap,some w.heap.size⟩ dM ob E1 ep
   (w':=w.drew.alloc (.cells ((kU++news).toArray++Builtin.zeroCells z.cells (cap-((ae.at I id).len+x.len))) e)) rfl rfl rfl (by simp)
   (fun fh ho _=>mc fh ho)
   (fun fh ho=>by
     simp at ho;subst ho
     exact⟨by simp,fun aB=>absurd (bM.e3 _ aB) (by omega), .inl (apF _)⟩)
   (fun Z iP fK kq=>by
     refine rK Z _ iP fK _ w.heap.size _ e (Ot (fun fh ho _=>mc fh ho) kq) rfl rfl (n1 w.drew _) jj ?_ (fun q r a6 ao=> ?_) (fun q r a6 ao=> ?_)
     ·have az:((ae.at I id).len+x.len)*g.size<=cap*g.size:=apP _ jj;simp only[Array.size_append,List.size_toArray,ap4,BO,iV,Az,gp.newsLen,Nat.sub_mul];rw[apU]at az⊢;omega
     ·obtain⟨v,aO,k5⟩:=ajW q r a6 ao;have bL:=(aqp.1 aO).1;exact⟨v,Cm kU news _ _ _ (by rw[aqr bL];exact aO),k5⟩
     ·obtain⟨v,aO,k5⟩:=mZ q r a6 ao;refine⟨v,Cm kU news _ _ _ ?_,k5⟩;rw[aqG (by rw[Az,apU];omega),Az,show((ae.at I id).len+q)*g.size+r-(ae.at I id).len*g.size=q*g.size+r by rw[apU];omega]
      exact aO)
  refine⟨_,_,ρ.set id ⟨some ⟨w.heap.size,0,none⟩,cap,some w.heap.size⟩,by rw[hu];exact fq,dX,dU,dR, .c7 ⟨_,by rw[aqk,apz rfl,apz (by rw[bM.len];exact dM)], ?_⟩⟩;rw[z7 (ρ.set id av) _ rfl,IK];exact⟨rfl,fun h=>by cases h⟩
theorem G_ {Z:Nat->Prop}{l:List Int}{u:Value}(h:bB Z w (.af .u8 l) u)(ao:∀x∈l,0<=x/\x<256):
 ∃s:ByteArray,(Conv.bytesToString u).run P w= .ok (.string s) w/\l=s.data.toList.map fun b=>(b.toNat:Int):=by
 have ahd:∀(s:ByteArray),s.data.toList=(l.map fun n=>UInt8.ofNat n.toNat)->l=s.data.toList.map fun b=>(b.toNat:Int):=by
  intro s ay;rw[ay,aq2]
  have:∀x∈l,((fun b:UInt8=>(b.toNat:Int))∘fun n:Int=>UInt8.ofNat n.toNat) x=x:=by
   intro x aj;obtain⟨bc,ab⟩:=ao x aj;simp only[Function.comp,UInt8.toNat_ofNat'];omega
  rw[arS this,List.map_id']
 cases h with
 |jt a cap=>
  refine⟨ByteArray.empty, ?_,rfl⟩
  cases a with
  |none=>rfl
  |some a=>
   have:=run_bytesToString (P:=P) w a 0 cap [] rfl;simpa using this
 |af _ _ n b off cap aB bm aC hv=>
  have afL:(loadCells ⟨b,off,none⟩ n).run P w= .ok (l.map (Value.int .u8)).toArray w:=by
   have:=run_loadCells_list (P:=P) w ⟨b,off,none⟩ (l.map (Value.int .u8)) (fun j v aI=>by
    rw[aqv]at aI
    have iR:j<l.length:=by
     cases kr:l[j]? with
     |none=>simp[kr]at aI
     |some z=>exact(aqp.1 kr).1
    rw[mP,hv j (by omega)];simp[apT iR]at aI
    simp[apA,iR,aI])
   simpa[aB]using this
  exact⟨_,run_bytesToString (P:=P) w _ n cap l afL,ahd _ (by rw[foldl_push];rfl)⟩
end
end Go.ak
end
section
namespace Go.ak
section
variable {P:Program} {N:Nat->Prop} {ρ:List Loc} {I:aD} {w:World}
theorem i_ (h:cw N ρ I w){s:Sem Value}{u:Value}{v:R}(ay:s.run P w= .ok u w)(aO:bH (aK N ρ I) w ρ I v u){oJ:Sem Next}(aB:oJ=do pure (.value (<-s))):
 Good P N ρ I w oJ v I:=by subst aB;exact .ae9 h ay aO
theorem nZ {s:Sem Value}{u:Value}{v:R}{w':World}{ρ':List Loc}{al:aD}(ay:s.run P w= .ok u w')(cS:cv N ρ I w ρ' al w')
 (aO:bH (aK N ρ' al) w' ρ' al v u) {oJ:Sem Next} (aB:oJ=do pure (.value (<-s))):Good P N ρ I w oJ v al:=by
 subst aB;exact⟨.value u,w',ρ',u,by simp[ay], .inl rfl,cS,aO⟩
theorem aaB (bM:cw N ρ I w){id:Nat}{av:Loc}(ax:ρ[id]? =some av){k:IntKind}{l:List Int}(aF:ae.at I id= .af k l):
 bB (fun _=>False) w (.af k l) (.slice av.a l.length av.cap):=by
 have h:=bM.ob id av ax;rw[aF]at h;rcases h with⟨rfl,ad⟩|⟨b,aH,e,ab,ad,aA,ba,bJ,cu⟩
 ·exact .jt _ _ _
 ·rw[ab];exact .af k l _ b 0 _ rfl (fun h=>h) ba fun i hi=>by simp[World.cell?,aA,cu i hi]
theorem Ha {Z:Nat->Prop}(f:Int->Int->Int)(gg:Value->Value->Sem Value)(hm:∀(k cD:IntKind) x y,gg (.int k x) (.int cD y)=pure (.int k (f x y)))(k:IntKind):
 ∀(l:List R) (us:List Value) (a m:Int),sH f a l=some m->l.length=us.length->(∀i,i<l.length->bH Z w ρ I (l.getD i .un) (us.getD i undef))->
  (us.foldlM gg (Value.int k a)).run P w= .ok (.int k m) w
 |[],[],a,m,h,_,_=>by simp[sH]at h;subst h;rfl
 |[],_::_,_,_,_,h,_=>by simp at h
 |_::_,[],_,_,_,h,_=>by simp at h
 |t::r,u::us,a,m,h,ax,ao=>by
  have bc:=ao 0 (by simp);simp only[List.getD_cons_zero]at bc
  have aw:∃cD b,t= .d (.int cD b):=by
   cases t with
   |d x=>cases x with
    |int cD b=>exact⟨cD,b,rfl⟩
    |_=>simp[sH]at h
   |_=>simp[sH]at h
  obtain⟨cD,b,rfl⟩:=aw;have:=jb bc;subst this;simp only[sH]at h;rw[List.foldlM_cons,hm,pure_bind];exact Ha f gg hm k r us (f a b) m h (by simpa using ax) (fun i hi=>by have:=ao (i+1) (by simpa using hi);simpa using this)
theorem Ip {tm:List R}{a:Act}(aw:ei (aK N ρ I) w ρ I tm a.tmps)(args:Array Operand):
 (bE (aN tm) args.toList).length=((args.map a.eval).toList).length/\∀i,i<(bE (aN tm) args.toList).length->bH (aK N ρ I) w ρ I ((bE (aN tm) args.toList).getD i .un) ((args.map a.eval).toList.getD i undef):=by
 rw[dP];refine⟨by simp,fun i hi=> ?_⟩;simp only[apI,aqD]at hi;have:=ey aw args[i];simpa[apA,hi]using this
theorem aco {src dst:TypeId}{i j:b7}(hi:c5 P src i=true)(aI:c5 P dst j=true)(bM:cw N ρ I w){cZ:Operand}{tm:List R}{a:Act}(aw:ei (aK N ρ I) w ρ I tm a.tmps)
 {cq:List Prop} {v:R} {al:aD} (h:n6 i.ty j.ty (aN tm cZ) I= .a8 cq v al) (ay:∀p∈cq,p):
 ∃u,al=I/\(convert src dst (a.eval cZ)).run P w= .ok u w/\bH (aK N ρ I) w ρ I v u:=by
 have aj:=ey aw cZ;generalize aN tm cZ=x at*;generalize a.eval cZ=oK at*
 have hint:∀{t:TypeId} {i:b7} {k:IntKind},c5 P t i=true->i.ty= .aG (.int k)->P.underlying t=some (.int k):=by
  intro t i k hi h;unfold c5 at hi;rw[h]at hi;split at hi<;>simp_all;exact(jD.1 hi.1.1).symm
 have w_:i.ty= .aG (.cp .u8)->∃e,P.underlying src=some (.slice e)/\P.underlying e=some (.int .u8):=by
  intro h;unfold c5 at hi;rw[h]at hi;split at hi<;>simp_all;split at hi<;>simp_all;exact(jD.1 hi.2.1.1.1).symm
 unfold n6 at h;split at h
 ·rename_i k cD n rL;split at h
  ·rename_i aph gp;simp only[bT.a8.injEq]at h;obtain⟨rfl,rfl,rfl⟩:=h;have:=jb aj;subst this;have ab:=hint hi gp;have ad:=hint aI rL;exact⟨_,rfl,by simp[convert,run_underlying ab,run_underlying ad,Conv.intToInt],oW _ _⟩
  ·cases h
 ·rename_i l rL;split at h
  ·rename_i gp;simp only[bT.a8.injEq]at h;obtain⟨rfl,rfl,rfl⟩:=h;obtain⟨s,rfl,ax⟩:=uq aj;have ab:=sx hi gp;have ad:=sx aI rL;exact⟨.string s,rfl,by simp[convert,run_underlying ab,run_underlying ad],aj⟩
  ·cases h
 ·rename_i l rL;split at h
  ·rename_i gp;simp only[bT.a8.injEq]at h;obtain⟨rfl,rfl,rfl⟩:=h;obtain⟨e,ab,aA⟩:=w_ gp;have ad:=sx aI rL;obtain⟨fH,cap,hu,_⟩:=Cc aj;obtain⟨s,eN,lP⟩:=G_ (P:=P) (w:=w) aj (ay _ (by simp));refine⟨.string s,rfl, ?_, .c7 (bB.str s _ lP)⟩;rw[hu]at eN⊢;simp[convert,run_underlying ab,run_underlying ad,run_underlying aA,eN]
  ·cases h
 ·rename_i id rL;split at h
  ·rename_i l aF gp;simp only[bT.a8.injEq]at h;obtain⟨rfl,rfl,rfl⟩:=h;obtain⟨e,ab,aA⟩:=w_ gp;have ad:=sx aI rL;obtain⟨av,ax,hu⟩:=O9 aj aF;obtain⟨s,eN,lP⟩:=G_ (P:=P) (w:=w) (aaB bM ax aF) (ay _ (by simp));refine⟨.string s,rfl, ?_, .c7 (bB.str s _ lP)⟩;rw[hu];simp[convert,run_underlying ab,run_underlying ad,run_underlying aA,eN]
  ·cases h
 ·rename_i rL;split at h
  ·rename_i gp;simp only[bT.a8.injEq]at h;obtain⟨rfl,rfl,rfl⟩:=h;obtain⟨e,ab,aA⟩:=w_ gp;have ad:=sx aI rL;obtain⟨fH,rfl⟩:=aj;obtain⟨s,eN,lP⟩:=G_ (P:=P) (w:=w) (Z:=fun _=>False) (l:=[]) (.jt fH 0 .u8) (fun x aj=>by cases aj);refine⟨.string s,rfl, ?_, .c7 (bB.str s _ lP)⟩;simp[convert,run_underlying ab,run_underlying ad,run_underlying aA,eN]
  ·cases h
 ·cases h
theorem Nt {a:Act}{o:Oper}{c:Call}{b:Builtin}(aF:o.op= .call c)(aC:c.callee= .builtin b):
 ∃consts,execOp a.eval o=builtin b c.argTypes o.type consts (c.args.map a.eval):=by
 unfold execOp;rw[aF];simp only[resolve,aC,pure_bind,invoke];exact⟨_,rfl⟩
theorem wy {α:Type}(x:Array α)(l:List α)(h:x.toList=l):x=l.toArray:=by subst h;simp
theorem Tt {α:Type}:∀{l:List α},l.length=2->∃a b,l=[a,b]
 |[a,b],_=>⟨a,b,rfl⟩
theorem HV {tm:List R}{args:Array Operand}{x y:R}(h:bE (aN tm) args.toList=[x,y]):∃p q,args=#[p,q]/\aN tm p=x/\aN tm q=y:=by
 rw[dP]at h;have ax:args.toList.length=2:=by have:=aqd List.length h;simpa using this
 obtain⟨p,q,qH⟩:=Tt ax;rw[qH]at h;simp at h;exact⟨p,q,wy _ _ qH,h.1,h.2⟩
theorem Rm {tm:List R}{args:Array Operand}{x:R}(h:bE (aN tm) args.toList=[x]):∃p,args=#[p]/\aN tm p=x:=by
 rw[dP]at h;have ax:args.toList.length=1:=by have:=aqd List.length h;simpa using this
 obtain⟨p,qH⟩:=List.length_eq_one_iff.1 ax;rw[qH]at h;simp at h;exact⟨p,wy _ _ qH,h⟩
theorem P8 {tm:List R}{args:Array Operand}{x:R}{r:List R}(h:bE (aN tm) args.toList=x::r):∃p ps,args=(p::ps).toArray/\aN tm p=x/\bE (aN tm) ps=r:=by
 cases ax:args.toList with
 |nil=>rw[ax]at h;simp[bE]at h
 |cons p ps=>
  rw[ax]at h;simp only[bE,arl]at h;exact⟨p,ps,wy _ _ ax,h.1,h.2⟩
theorem Nu {tys:Array TypeId}(h:bS tys.toList=2):tys=#[b6 0 tys.toList 0,b6 0 tys.toList 1]:=by
 rw[cI]at h;obtain⟨p,q,qH⟩:=Tt h;rw[qH];exact wy _ _ qH
theorem HW {y:R}{u:Value}(bM:cw N ρ I w)(bo:bH (aK N ρ I) w ρ I y u):
 cv N ρ I w ρ (lA I y) w/\bH (aK N ρ (lA I y)) w ρ (lA I y) (s4 I y) u:=by
 cases y with
 |vec id=>
  have cS:=cv.shut bM id;have fa:I.set id (true,ae.at I id)=e_ I id:=by rw[e_,eE]
  rw[fa]at cS;refine⟨cS, ?_⟩;unfold s4 lA;simp only;obtain⟨av,ax,hu,_⟩:=bo;have ep:cz (e_ I id) id=true:=by rw[<-fa,h9,apz ⟨rfl,bM.j0 ax⟩]
  have cR:ae.at (e_ I id) id=ae.at I id:=by rw[<-fa,gG];split<;>simp
  cases aF:ae.at I id with
  |af k l=>
   have ao:=q5 cS.rel ax ep (t:= .aG (.cp k)) (by rw[cR,aF];exact jD.2 rfl);rw[cR,aF]at ao;rw[hu,aF];exact .c7 ao
  |ar an l=>
   have ao:=q5 cS.rel ax ep (t:= .aG (.dK an)) (by rw[cR,aF];exact aqx an);rw[cR,aF]at ao;rw[hu,aF];exact .c7 ao
  |_=>trivial
 |_=>exact⟨cv.refl bM,bo⟩
theorem aaC {Z:Nat->Prop}{w:World}{ρ:List Loc}{I:aD}{t:R}{v:Value}(h:eJ Z w ρ I t v){id:Nat}(aB:t.lE id):id<ρ.length:=by
 have key:∀{av:Loc},ρ[id]? =some av->id<ρ.length:=fun h=>(aqp.1 h).1
 cases t<;>simp only[R.lE]at aB
 case vec i=>subst aB;obtain⟨av,ab,_⟩:=h;exact key ab
 case ptr i o=>subst aB;obtain⟨av,b,ab,_⟩:=h;exact key ab
 case optr i x j=>subst aB;obtain⟨av,b,ab,_⟩:=h;exact key ab
 case oat i x j=>subst aB;obtain⟨av,b,ab,_⟩:=h;exact key ab
 case mp i=>subst aB;obtain⟨av,b,ab,_⟩:=h;exact key ab
 case tail i x=>subst aB;obtain⟨av,b,ab,_⟩:=h;exact key ab
theorem forget {ρ':List Loc}{w':World}{ob:ae}{u:Value}(bM:cw N ρ I w)(cS:cv N ρ I w ρ' (I++[(false,ob)]) w')
 (aO:bH (aK N ρ' (I++[(false,ob)])) w' ρ' (I++[(false,ob)]) (.vec I.length) u) (ck:(∃k l,ob= .af k l)\/∃an l,ob= .ar an l):
 cv N ρ I w ρ I w'/\bB (aK N ρ I) w' ob.data u:=by
 have hlen:ρ'.length=I.length+1:=by rw[cS.rel.len];simp
 have hold:∀(i:Nat) (av:Loc),ρ[i]? =some av->ρ'[i]? =some av:=fun i av h=>(cS.same i av h).1
 have bL:∀(i:Nat) (av:Loc),ρ[i]? =some av->i<I.length:=fun i av h=>by
  have:=(aqp.1 h).1;rw[bM.len]at this;exact this
 have cR:∀i,i<I.length->ae.at (I++[(false,ob)]) i=ae.at I i:=fun i hi=>by
  rw[fQ,apy (by omega)]
 have ep:∀i,i<I.length->cz (I++[(false,ob)]) i=cz I i:=fun i hi=>by
  unfold cz;rw[dW,dW];simp only[apA];rw[aqr hi]
 have u3:∀b,aK N ρ I b->aK N ρ' (I++[(false,ob)]) b:=fun b ah=>by
  rcases ah with ah|⟨i,av,ab,ad,aA⟩
  ·exact .inl ah
  ·exact .inr ⟨i,av,hold i av ab,ad,by rw[ep i (bL i av ab)];exact aA⟩
 have uT:∀x u,bB (aK N ρ' (I++[(false,ob)])) w' x u->bB (aK N ρ I) w' x u:=fun x u aj=>aj.mono fun b _ bm=>⟨rfl,fun ah=>bm (u3 b ah)⟩
 have afM:cw N ρ I w':=
  {len:=bM.len
   e3:=cS.rel.e3
   lt:=fun i av b ab ad=>cS.rel.lt i av b (hold i av ab) ad
   inj:=fun i j li cA b ab ad aA ba s1 s2=>cS.rel.inj i j li cA b (hold i li ab) (hold j cA ad) aA ba (fun⟨a,n,an,e⟩=>s1 ⟨by rw[<-ep i (bL i li ab)];exact a,n,an,by rw[<-cR i (bL i li ab)];exact e⟩) (fun⟨a,n,an,e⟩=>s2 ⟨by rw[<-ep j (bL j cA ad)];exact a,n,an,by rw[<-cR j (bL j cA ad)];exact e⟩)
   fz:=fun i av b ab ad=>cS.rel.fz i av b (hold i av ab) ad
   ob:=fun i av ab=>by
    have ad:=cS.rel.ob i av (hold i av ab);have aA:=bM.ob i av ab;rw[cR i (bL i av ab)]at ad;refine ad.mono (fun b _=>rfl) uT fun l ax k id ag aB=> ?_;rw[ax]at aA;obtain⟨_,aH,_,_,_,_,_,ba⟩:=aA;have dM:=aaC (ba k ag) aB;intro jf iT;have az:ρ[id]? =some ρ[id]:=by simp[dM]
    have aJ:=hold id _ az;rw[aJ]at iT;obtain rfl:=apK iT;rw[cR id (by rw[<-bM.len];exact dM)]
    exact⟨az,rfl,rfl⟩}
 refine⟨{cS.toFr with alive:=fun b h=> .inl h,rel:=afM,same:=eQ.refl ρ I}, ?_⟩;obtain⟨lP,mB⟩:=HW cS.rel aO
 have a_:s4 (I++[(false,ob)]) (.vec I.length)= .d ob.data:=by
  have aR:ae.at (I++[(false,ob)]) I.length=ob:=by rw[fQ,apz rfl]
  unfold s4;simp only[aR];rcases ck with⟨k,l,rfl⟩|⟨an,l,rfl⟩<;>rfl
 rw[a_]at mB;have Kb:bB (aK N ρ' (lA (I++[(false,ob)]) (.vec I.length))) w' ob.data u:=mB;refine Kb.mono fun b _ bm=>⟨rfl,fun ah=>bm ?_⟩;rcases ah with ah|⟨i,av,ab,ad,aA⟩
 ·exact .inl ah
 ·refine .inr ⟨i,av,hold i av ab,ad, ?_⟩;have hi:=bL i av ab;show cz (e_ (I++[(false,ob)]) I.length) i=false;rw[e_,eE,h9,apy (by omega),ep i hi];exact aA
theorem aaD {P:Program}{N:Nat->Prop}{ρ:List Loc}{I cO:aD}{w:World}{s:Sem Next}{v:R}{al:aD}(h:cv N ρ I w ρ cO w)(k:Good P N ρ cO w s v al):Good P N ρ I w s v al:=by
 obtain⟨oJ,w',ρ',u,ab,ad,aA,ba⟩:=k;exact⟨oJ,w',ρ',u,ab,ad,h.trans aA,ba⟩
theorem M4 (z:Array Value)(n k:Nat)(ag:k<n*z.size):(Builtin.zeroCells z n)[k]? =some z[k%z.size]! :=by
 simp[Builtin.zeroCells,ag]
theorem aaE {t ty:TypeId}{i:b7}(hi:c5 P t i=true)(bM:cw N ρ I w){x:R}{u:Value}(aj:bH (aK N ρ I) w ρ I x u){cq:List Prop}{v:R}{al:aD}
 (h:wO i x I= .a8 cq v al):∃w',v= .any/\(Builtin.clear_ #[t] ty #[u]).run P w= .ok (.tuple #[]) w'/\cv N ρ I w ρ al w':=by
 unfold wO at h;split at h;rotate_left
 ·cases h
 rename_i id a;split at h;rotate_left
 ·cases h
 rename_i an l ep aF fj;simp only[bT.a8.injEq]at h;obtain⟨rfl,rfl,rfl⟩:=h;obtain⟨av,b,ax,gK,ew,hu,bc,ab⟩:=aj;rw[aF]at ab hu fj;simp only[ae.len,ae.cL]at ab hu
 have cd:i.ty= .aG (.dK an):=by
  cases cd:i.ty with
  |aG s=>rw[cd]at fj;cases s<;>simp[jI]at fj;rw[fj]
  |_=>rw[cd]at fj;simp[jI]at fj
 obtain⟨e,g,z,q1,cG,cV,gD,eb,il,hd,kA⟩:=ss hi cd;obtain⟨lh,z2⟩:=q3 (Z:=aK N ρ I) (w:=w) kA;have iV:z.cells.size=an:=by rw[<-aqD,lh,il]
 have ck:=bM.ob id av ax;rw[aF]at ck;rcases ck with⟨rfl,_⟩|⟨fh,aH,aJ,aY,bj,bG,di,eK,lf,gC⟩
 ·simp at ab;omega
 rw[gK]at aY;simp at aY;subst aY;generalize aB:a.toNat=n at*;have k4:n<l.length:=by omega
 have rX:(Builtin.zeroCells z.cells (l.length-n)).toList.length=(l.length-n)*an:=by rw[aqD,BO,iV]
 have m6:n*an+(l.length-n)*an=l.length*an:=by rw[<-apU];congr 1;omega
 have nA:l.length*an<=av.cap*an:=apP _ di
 have xy:∀x∈(Builtin.zeroCells z.cells (l.length-n)).toList,x.oneCell'=true:=fun x aj=>by
  obtain⟨k,e⟩:=List.mem_iff_getElem?.1 aj;have ag:=(aqp.1 e).1;rw[rX]at ag;have bh:=M4 z.cells (l.length-n) k (by rw[iV];exact ag);rw[arT,bh]at e;obtain rfl:=apK e;have hm:k%z.cells.size<an:=by rw[iV];exact aqh _ eb
  have:=(z2 (k%z.cells.size) (by omega)).one
  have bX:z.cells[k%z.cells.size]! =z.cells.toList.getD (k%z.cells.size) undef:=by
   have:k%z.cells.size<z.cells.size:=by omega
   simp[apA,this]
  rw[bX];exact this
 have cS:=run_storeCells_at P b (n*an) aJ (Builtin.zeroCells z.cells (l.length-n)).toList 0 aH w bG (by rw[rX];omega) xy;simp only[apV]at cS;have FH:(zeroValue e).run P w= .ok z w:=by simp[zeroValue,typeInfo,cG,hd]
 have ki:l.length-n≠0:=by omega
 have fq:(Builtin.clear_ #[t] ty #[u]).run P w= .ok (.tuple #[]) (w.setRow b (aH.toList.take (n*an)++(Builtin.zeroCells z.cells (l.length-n)).toList++aH.toList.drop (n*an+(Builtin.zeroCells z.cells (l.length-n)).toList.length)).toArray):=by
  rw[hu]
  obtain⟨m,hm⟩:∃m,l.length-n=m+1:=⟨l.length-n-1,by omega⟩
  rw[hm]at cS⊢;simp[Builtin.clear_,run_underlying q1,FH,cS]
 refine⟨_,rfl,fq, ?_⟩
 ·rw[eE];have gj:(ae.ar an (l.take n++List.replicate (l.length-n) (bE cb.f_ i.fv))).len=(ae.at I id).len:=by rw[aF];simp[ae.len];omega
  have jx:(ae.ar an (l.take n++List.replicate (l.length-n) (bE cb.f_ i.fv))).cL=(ae.at I id).cL:=by rw[aF];rfl
  have hm:=BY bM ax ew ep (ae.ar an (l.take n++List.replicate (l.length-n) (bE cb.f_ i.fv)))
   ((aH.toList.take (n*an)++(Builtin.zeroCells z.cells (l.length-n)).toList++aH.toList.drop (n*an+(Builtin.zeroCells z.cells (l.length-n)).toList.length)).toArray)
  refine cv.write bM id av b ax ew ep _ gj jx _ (.inr ⟨b,_,aJ,gK,ew,setRow_heap w b aH _ aJ (0,0) bG,by simp;omega, ?_,lf,fun q r a6 ao=> ?_⟩)
  ·rw[wu _ _ _ (by rw[rX];omega)];exact eK
  ·have a6:q<l.length:=by simp at a6;omega
   rw[uh _ _ _ (by rw[rX];omega),rX];rw[rX]at hm
   have Kc:q*an+r<l.length*an:=by
    have:(q+1)*an<=l.length*an:=apP _ (by omega);rw[apU]at this;omega
   by_cases ff:q<n
   ·have:(q+1)*an<=n*an:=apP _ (by omega);rw[apU]at this;rw[apy (by omega)];obtain⟨v,aO,qD⟩:=gC q r a6 ao;refine⟨v,aO, ?_⟩
    have az:(l.take n++List.replicate (l.length-n) (bE cb.f_ i.fv)).getD q []=l.getD q []:=by
     simp only[apA];rw[aqr (by simp;omega),aqq,apz ff]
    rw[az];exact hm _ _ qD
   ·have:n*an<=q*an:=apP _ (by omega);rw[apz (by omega)];have ag:q*an+r-n*an<(l.length-n)*z.cells.size:=by rw[iV];omega
    refine⟨z.cells[(q*an+r-n*an)%z.cells.size]!,by rw[arT,M4 _ _ _ ag], ?_⟩
    have Jj:(q*an+r-n*an)%z.cells.size=r:=by
     rw[iV,show q*an+r-n*an=an*(q-n)+r by rw[aqa an,Nat.sub_mul];omega,arD,aqt ao]
    rw[Jj]
    have az:(l.take n++List.replicate (l.length-n) (bE cb.f_ i.fv)).getD q []=bE cb.f_ i.fv:=by
     simp only[apA];rw[aqG (by simp;omega),aq3,apz (by simp;omega)];rfl
    rw[az]
    have bX:z.cells[r]! =z.cells.toList.getD r undef:=by
     have:r<z.cells.size:=by omega
     simp[apA,this]
    rw[bX];exact hm _ _ (z2 r (by omega))
theorem Xr {tb:TypeId->b7}(bp:∀t,c5 P t (tb t)=true){b:Builtin}{tys:Array TypeId}{args:Array Operand}{tm:List R}{a:Act}(bM:cw N ρ I w)(aw:ei (aK N ρ I) w ρ I tm a.tmps)
 {cq:List Prop} {v:R} {al:aD} (h:kG tb b tys.toList (bE (aN tm) args.toList) I= .a8 cq v al) (ay:∀p∈cq,p) (ty:TypeId) (consts:Array Bool):
 Good P N ρ I w (builtin b tys ty consts (args.map a.eval)) v al:=by
 unfold kG at h;split at h
 ·rename_i x fR;obtain⟨p,rfl,aE⟩:=Rm fR;have aj:=ey aw p;rw[aE]at aj;split at h
  ·cases h
  rename_i t r tv;have vf:=wy _ _ tv;subst vf;split at h
  ·rename_i n aB;simp only[bT.a8.injEq]at h;obtain⟨rfl,rfl,rfl⟩:=h;have:=aas (w:=w) (ρ:=ρ) (I:=I) (N:=N) (bp t) aj aB r ty;exact i_ bM this (oW _ _) (by simp[builtin])
  ·cases h
 ·rename_i x y fR;obtain⟨p,q,rfl,aE,a6⟩:=HV fR;have aj:=ey aw p;have bo:=ey aw q;rw[aE]at aj;rw[a6]at bo;clear fR aE a6;obtain⟨cS,bo⟩:=HW bM bo
  replace aj:=cS.kd aj
  refine aaD cS ?_
  replace bM:=cS.rel
  clear cS aw;generalize lA I y=cO at*;generalize s4 I y=oL at*;split at h
  ·rename_i n kp ah;split at h
   ·rename_i ow;have ow:=apC ow;have vf:=Nu (tys:=tys) (by omega);obtain⟨cg,ag⟩:=q2 (bp _) kp
    have rY:0<(tb (b6 0 tys.toList 0)).bytes:=by
     have:1<=(tb (b6 0 tys.toList 0)).bytes:=by simpa[Nat.blt]using ah
     omega
    have oi:∀(u:Value) (w':World),(Builtin.append_ #[b6 0 tys.toList 0,b6 0 tys.toList 1] ty #[a.eval p,a.eval q]).run P w= .ok u w'->
     (Builtin.append_ tys ty (#[p,q].map a.eval)).run P w= .ok u w':=by
     intro u w' ao;rw[vf];simpa using ao
    unfold sv at h;split at h
    ·split at h
     ·rename_i Tu;simp only[bT.a8.injEq]at h;obtain⟨rfl,rfl,rfl⟩:=h;have k6:=aj;obtain⟨a1,rW⟩:=aj;obtain⟨a2,k3⟩:=bo;obtain⟨e,he⟩:=q2 (bp _) Tu;obtain⟨g,bh⟩:=Ol (bp _) Tu he
      have gp:Src P g.size (b6 0 tys.toList 1) (a.eval q) 0 [] w:=by
       rw[k3]
       cases a2 with
       |none=>exact Src.ofNil w ag 0
       |some a2=>exact Src.ofSlice w ag a2 0 0 [] (by simp) (fun j u h=>by simp at h) (fun u h=>by cases h)
      have ao:=BQ (P:=P) (w:=w) (ty:=ty) he bh a1 0 0 (apF _) gp;rw[<-rW]at ao;exact i_ bM (oi _ _ ao) k6 rfl
     ·cases h
    ·rename_i x;split at h
     ·rename_i aU;split at h
      ·rename_i k l;simp only[bT.a8.injEq]at h;obtain⟨rfl,rfl,rfl⟩:=h;obtain⟨u,w',ρ',ab,ad,aA⟩:=MP (P:=P) (N:=N) (ρ:=ρ) (I:=cO) (w:=w) (ty:=ty) (bp _) bM ag aj bo aU (.af k l) (.inl ⟨k,l,rfl,rfl⟩) rY (by have:=ay _ (aqy.2 rfl);exact this);rw[fC,cI];exact nZ (oi _ _ ab) ad aA rfl
      ·rename_i an l;simp only[bT.a8.injEq]at h;obtain⟨rfl,rfl,rfl⟩:=h;obtain⟨u,w',ρ',ab,ad,aA⟩:=MP (P:=P) (N:=N) (ρ:=ρ) (I:=cO) (w:=w) (ty:=ty) (bp _) bM ag aj bo aU (.ar an l) (.inr ⟨an,l,rfl,rfl⟩) rY (by have:=ay _ (aqy.2 rfl);exact this);rw[fC,cI];exact nZ (oi _ _ ab) ad aA rfl
      ·cases h
     ·cases h
    ·rename_i id;split at h
     ·rename_i aU;simp only[bT.a8.injEq]at h;obtain⟨rfl,rfl,rfl⟩:=h;have hB:=aj;obtain⟨av,ax,hu,_⟩:=hB;obtain⟨a2,k3⟩:=bo;obtain⟨vu,_,_⟩:=NT aU;obtain⟨e,g,he,bh,cx,_⟩:=sr (bp _) vu
      have gp:Src P g.size (b6 0 tys.toList 1) (a.eval q) 0 [] w:=by
       rw[k3]
       cases a2 with
       |none=>exact Src.ofNil w ag 0
       |some a2=>exact Src.ofSlice w ag a2 0 0 [] (by simp) (fun j u h=>by simp at h) (fun u h=>by cases h)
      have hle:(ae.at cO id).len<=av.cap:=by
       have ck:=bM.ob id av ax
       cases aF:ae.at cO id with
       |af k l=>
        rw[aF]at ck;rcases ck with⟨rfl,_⟩|⟨b,aH,e,_,_,_,ba,_⟩
        ·simp[ae.len]
        ·exact ba
       |ar an l=>
        rw[aF]at ck;rcases ck with⟨rfl,_⟩|⟨b,aH,e,_,_,_,ba,_⟩
        ·simp[ae.len]
        ·exact ba
       |_=>rw[aF]at aU;cases cd:(tb (b6 0 tys.toList 0)).ty<;>simp[cd,jI]at aU
      have ao:=BQ (P:=P) (w:=w) (ty:=ty) he bh av.a _ av.cap hle gp;rw[<-hu]at ao;exact i_ bM (oi _ _ ao) aj rfl
     ·cases h
    ·split at h
     ·split at h
      ·split at h<;>cases h
      ·split at h<;>cases h
      ·cases h
     ·cases h
    ·cases h
   ·cases h
  ·cases h
 ·rename_i k m r fR;obtain⟨p,ps,rfl,aE,j7⟩:=P8 fR;split at h
  ·rename_i Lb hm;simp only[bT.a8.injEq]at h;obtain⟨rfl,rfl,rfl⟩:=h;have aj:=ey aw p;rw[aE]at aj;have:=jb aj
   have zK:=Ha (P:=P) (w:=w) (ρ:=ρ) (I:=I) (Z:=aK N ρ I) (fun x y=>if y>x then y else x) Builtin.max2 (fun k cD x y=>rfl) k r (ps.map a.eval) m Lb hm (by rw[<-j7,dP];simp)
    (fun i hi=>by
      rw[<-j7,dP]at hi⊢;simp only[apI]at hi;have:=ey aw ps[i]
      simpa[apA,hi]using this)
   refine i_ bM (s:=Builtin.max_ tys ty ((p::ps).toArray.map a.eval)) ?_ (oW _ _) rfl;simp only[Builtin.max_,arE,ap2,this];exact zK
  ·cases h
 ·rename_i k m r fR;obtain⟨p,ps,rfl,aE,j7⟩:=P8 fR;split at h
  ·rename_i Lb hm;simp only[bT.a8.injEq]at h;obtain⟨rfl,rfl,rfl⟩:=h;have aj:=ey aw p;rw[aE]at aj;have:=jb aj
   have zK:=Ha (P:=P) (w:=w) (ρ:=ρ) (I:=I) (Z:=aK N ρ I) (fun x y=>if y<x then y else x) Builtin.min2 (fun k cD x y=>rfl) k r (ps.map a.eval) m Lb hm (by rw[<-j7,dP];simp)
    (fun i hi=>by
      rw[<-j7,dP]at hi⊢;simp only[apI]at hi;have:=ey aw ps[i]
      simpa[apA,hi]using this)
   refine i_ bM (s:=Builtin.min_ tys ty ((p::ps).toArray.map a.eval)) ?_ (oW _ _) rfl;simp only[Builtin.min_,arE,ap2,this];exact zK
  ·cases h
 ·rename_i x fR;obtain⟨p,rfl,aE⟩:=Rm fR;have aj:=ey aw p;rw[aE]at aj;split at h;rotate_left
  ·cases h
  rename_i t tv;have vf:=wy _ _ tv;subst vf;obtain⟨w',rfl,ab,ad⟩:=aaE (P:=P) (ty:=ty) (bp t) bM aj h;exact nZ (s:=Builtin.clear_ #[t] ty #[a.eval p]) ab ad (v:= .any) trivial (by simp[builtin])
 ·cases h
end
end Go.ak
end
section
namespace Go.ak
section
variable {P:Program} {N:Nat->Prop} {ρ:List Loc} {I:aD} {w:World}
theorem P9 {t:aZ}{an:Nat}{l:List (List U)}(h:jI t (.ar an l)=true):t= .aG (.dK an):=by
 cases t with
 |aG s=>cases s<;>simp[jI]at h;rw[h]
 |_=>simp[jI]at h
theorem adZ (h:cw N ρ I w){id:Nat}{av:Loc}(ax:ρ[id]? =some av)(aU:cz I id=false){an:Nat}{l:List (List U)}(aF:ae.at I id= .ar an l)(n:Nat)(aB:n<=l.length):
 cv N ρ I w (ρ++[av]) (I.set id (true, .dead l.length an)++[(false, .ar an (l.take n))]) w:=by
 have dM:=h.j0 ax;have hlen:=h.len
 have cR:∀i,ae.at (I.set id (true, .dead l.length an)++[(false, .ar an (l.take n))]) i=if i=I.length then .ar an (l.take n)else if i=id then .dead l.length an else ae.at I i:=fun i=>by
  rw[fQ,apL];split
  ·rfl
  ·rw[gG]
   by_cases e:i=id
   ·subst e;rw[apz ⟨rfl,dM⟩,apz rfl]
   ·rw[apy (fun x=>e x.1.symm),apy e]
 have ep:∀i,cz (I.set id (true, .dead l.length an)++[(false, .ar an (l.take n))]) i=if i=I.length then false else if i=id then true else cz I i:=fun i=>by
  rw[jJ,apL];split
  ·rfl
  ·rw[h9]
   by_cases e:i=id
   ·subst e;rw[apz ⟨rfl,dM⟩,apz rfl]
   ·rw[apy (fun x=>e x.1.symm),apy e]
 have get:∀i li,(ρ++[av])[i]? =some li->(i=I.length/\li=av)\/(i<I.length/\ρ[i]? =some li):=fun i li hi=>by
  rw[ap7]at hi;split at hi
  ·exact .inr ⟨by omega,hi⟩
  ·cases a_:i-ρ.length with
   |zero=>simp[a_]at hi;exact .inl ⟨by omega,hi.symm⟩
   |succ m=>simp[a_]at hi
 have iw:∀b,gi (ρ++[av]) (I.set id (true, .dead l.length an)++[(false, .ar an (l.take n))]) b->gi ρ I b:=fun b ⟨i,li,aY,bj,bG⟩=>by
  rcases get i li aY with⟨rfl,rfl⟩|⟨hi,aY⟩
  ·exact⟨id,li,ax,bj,aU⟩
  ·rw[ep,apy (by omega)]at bG;split at bG
   ·cases bG
   ·exact⟨i,li,aY,bj,bG⟩
 have cy:Fr ρ I w (ρ++[av]) (I.set id (true, .dead l.length an)++[(false, .ar an (l.take n))]) w:=⟨rfl,rfl,rfl,apF _,fun _ _ _=>rfl,fun b ah=> .inl (iw b ah)⟩
 have e1:∀i,eQ ρ I (ρ++[av]) (I.set id (true, .dead l.length an)++[(false, .ar an (l.take n))]) i:=fun i li hi=>by
  have eY:=h.j0 hi;refine⟨by rw[aqr (by omega)];exact hi, ?_⟩;rw[cR,apy (by omega)]
  by_cases e:i=id
  ·subst e;rw[apz rfl,aF];exact⟨rfl,rfl⟩
  ·rw[apy e];exact⟨rfl,rfl⟩
 have s7:∀i,i<I.length->¬hx (I.set id (true, .dead l.length an)++[(false, .ar an (l.take n))]) i->i≠id/\¬hx I i:=fun i hi ay=>by
  have dn:i≠id:=fun e=>ay ⟨by rw[ep,apy (by omega),apz e],l.length,an,by rw[cR,apy (by omega),apz e]⟩;exact⟨dn,fun⟨f,m,s,e⟩=>ay ⟨by rw[ep,apy (by omega),apy dn];exact f,m,s,by rw[cR,apy (by omega),apy dn];exact e⟩⟩
 refine{cy with rel:={len:=by simp[hlen],e3:=h.e3,lt:= ?_,inj:= ?_,fz:= ?_,ob:= ?_},same:=e1}
 ·intro i li b hi ah;rcases get i li hi with⟨_,rfl⟩|⟨_,hi⟩
  ·exact h.lt id li b ax ah
  ·exact h.lt i li b hi ah
 ·intro i j li cA b hi aI nb nc jA ka;rcases get i li hi with⟨az,Kd⟩|⟨lQ,xR⟩<;>rcases get j cA aI with⟨aJ,Ke⟩|⟨ks,nI⟩
  ·omega
  ·obtain⟨fg,hX⟩:=s7 j ks ka;exact absurd (h.inj j id cA av b nI ax nc (Kd▸nb) hX (lu aU)) fg
  ·obtain⟨fg,hX⟩:=s7 i lQ jA;exact absurd (h.inj i id li av b xR ax nb (Ke▸nc) hX (lu aU)) fg
  ·exact h.inj i j li cA b xR nI nb nc (s7 i lQ jA).2 (s7 j ks ka).2
 ·intro i li b hi ah;rcases get i li hi with⟨_,rfl⟩|⟨_,hi⟩
  ·exact h.fz id li b ax ah
  ·exact h.fz i li b hi ah
 ·intro i li hi;rw[cR];rcases get i li hi with⟨rfl,rfl⟩|⟨lQ,hi⟩
  ·rw[apz rfl];have ck:=h.ob id li ax;rw[aF]at ck;rcases ck with⟨rfl,aC⟩|⟨b,aH,e,aY,bj,bG,di,eK,lf,gC⟩
   ·exact .inl ⟨by simp,aC⟩
   ·refine .inr ⟨b,aH,e,aY,bj,bG,by simp;omega,eK,lf,fun q r a6 ao=> ?_⟩;have pq:q<n:=by simp at a6;omega
    obtain⟨v,aO,qD⟩:=gC q r (by omega) ao;refine⟨v,aO, ?_⟩
    have az:(l.take n).getD q []=l.getD q []:=by
     simp only[apA];rw[aqq,apz pq]
    rw[az];exact cy.reads qD
  ·rw[apy (by omega)];split
   ·trivial
   ·exact(h.ob i li hi).mono (fun _ _=>rfl) (fun _ _=>cy.reads) fun _ _ _ idx _ _=>e1 idx
theorem X2 {t:TypeId}{i:b7}(hi:c5 P t i=true)(bM:cw N ρ I w){cZ:Operand}{lo eY dp:Option Operand}{tm:List R}{a:Act}(aw:ei (aK N ρ I) w ρ I tm a.tmps)
 {cq:List Prop} {v:R} {al:aD} (h:CB i (aN tm cZ) (omap (aN tm) lo) (omap (aN tm) eY) (omap (aN tm) dp) I= .a8 cq v al) (ay:∀p∈cq,p):
 ∃u ρ',(Instr.sliceAt t (a.eval cZ) (lo.map a.eval) (eY.map a.eval) (dp.map a.eval)).run P w= .ok u w/\cv N ρ I w ρ' al w/\bH (aK N ρ' al) w ρ' al v u:=by
 have aj:=ey aw cZ;generalize aN tm cZ=x at*;unfold CB at h;split at h;rotate_left
 ·cases h
 rename_i id rT;have z6:dp=none:=by cases dp<;>first|rfl|cases rT
 subst z6;split at h
 ·rename_i an l b ep aF fj iU mA;simp only[bT.a8.injEq]at h;obtain⟨rfl,rfl,rfl⟩:=h;have bc:0<=b:=ay _ (by simp);have ab:b<=(l.length:Int):=ay _ (by simp);obtain⟨de,l2⟩:=n0 aw lo iU;obtain⟨dX,dU⟩:=n0 aw eY mA;rw[aF]at fj;have cd:=P9 fj;obtain⟨e,g,z,q1,cG,cV,gD,eb,il,hd,kA⟩:=ss hi cd;obtain⟨av,ax,hu,E2⟩:=aj;rw[aF]at hu;simp only[ae.len]at hu;have ck:=bM.ob id av ax;rw[aF]at ck
  have nA:l.length<=av.cap/\(av.cap=0\/∃b,av.a=some ⟨b,0,none⟩):=by
   rcases ck with⟨rfl,e⟩|⟨b,_,_,aY,_,_,di,_⟩
   ·exact⟨by simp, .inl e⟩
   ·exact⟨di, .inr ⟨b,aY⟩⟩
  have cS:=adZ bM ax ep aF b.toNat (by omega)
  have ah:=BN (P:=P) (w:=w) true l.length l.length av.cap nA.1 (lo.map a.eval) (eY.map a.eval) none (some b) de l2 dX dU (by
   intro p aE;simp only[mh,ap9,aqS,or_false]at aE;rcases aE with rfl|rfl
   ·exact bc
   ·exact ab) rfl
  refine⟨.slice av.a b.toNat av.cap,_, ?_,by rw[eE,fC];exact cS, ?_⟩
  ·rw[hu];have:=yz q1 cG av.a l.length av.cap _ _ none ah;rw[show((none:Option Operand).map a.eval)=none from rfl,this]
   have az:(if av.cap=((none:Option Int).getD 0).toNat then av.a else av.a.map (·.add (((none:Option Int).getD 0).toNat*g.size)))=av.a:=by
    rcases nA.2 with aC|⟨fh,aC⟩
    ·rw[apz (by rw[aC];rfl)]
    ·rw[aC];simp[mP]
   rw[az];simp
  ·rw[eE,fC,cI];refine .c7 ⟨av,by rw[<-bM.len];simp, ?_,E2⟩;rw[fQ,apL,apz rfl];simp only[ae.len,ap_]
   congr 1;omega
 ·rename_i an l c ep aF fj iU mA;simp only[bT.a8.injEq]at h;obtain⟨rfl,rfl,rfl⟩:=h;have bc:0<=c:=ay _ (by simp);have ab:c<(l.length:Int):=ay _ (by simp);obtain⟨de,l2⟩:=n0 aw lo iU;obtain⟨dX,dU⟩:=n0 aw eY mA;rw[aF]at fj;have cd:=P9 fj;obtain⟨e,g,z,q1,cG,cV,gD,eb,il,hd,kA⟩:=ss hi cd;obtain⟨av,ax,hu,E2⟩:=aj;rw[aF]at hu;simp only[ae.len]at hu;have ck:=bM.ob id av ax;rw[aF]at ck;rcases ck with⟨rfl,_⟩|⟨b,aH,aJ,aY,bj,bG,di,eK,lf,gC⟩
  ·simp at ab;omega
  have ah:=BN (P:=P) (w:=w) true l.length l.length av.cap di (lo.map a.eval) (eY.map a.eval) (some c) none de l2 dX dU (by
   intro p aE;simp only[mh,ap9,aqS,or_false]at aE;rcases aE with rfl|rfl
   ·exact bc
   ·omega) rfl
  refine⟨.slice (some ⟨b,c.toNat*an,none⟩) (l.length-c.toNat) (av.cap-c.toNat),ρ, ?_,cv.refl bM, .c7 ⟨av,b,ax,aY,bj,by rw[aF];rfl,bc,by rw[aF];exact ab⟩⟩;rw[hu];have:=yz q1 cG av.a l.length av.cap _ _ none ah;rw[show((none:Option Operand).map a.eval)=none from rfl,this,aY,cV];have az:((some c).getD 0).toNat=c.toNat:=rfl;rw[az,apy (by omega)];simp[mP]
 ·cases h
theorem YD {t:TypeId}{i:b7}(hi:c5 P t i=true)(bM:cw N ρ I w){cZ:Operand}{lo eY dp:Option Operand}{tm:List R}{a:Act}(aw:ei (aK N ρ I) w ρ I tm a.tmps)
 {cq:List Prop} {v:R} {al:aD} (h:uG i (aN tm cZ) (omap (aN tm) lo) (omap (aN tm) eY) (omap (aN tm) dp) I= .a8 cq v al) (ay:∀p∈cq,p):
 ∃u ρ',(Instr.sliceAt t (a.eval cZ) (lo.map a.eval) (eY.map a.eval) (dp.map a.eval)).run P w= .ok u w/\cv N ρ I w ρ' al w/\bH (aK N ρ' al) w ρ' al v u:=by
 unfold uG at h;split at h
 ·exact X2 hi bM aw h ay
 ·obtain⟨u,ab,ad,aA⟩:=XW hi bM aw h ay;exact⟨u,ρ,ab,ad,aA⟩
theorem aaF {x:U}{k:IntKind}(h:x.dQ k):x= .int k x.toInt:=by
 cases x<;>simp[U.dQ]at h;rw[h];rfl
theorem HX {Z:Nat->Prop}{r:List U}{u:Value}{k:IntKind}(h:n3 Z w r u)(ag:∀x∈r,x.dQ k):u= .agg ((r.map fun x=>Value.int k x.toInt).toArray):=by
 obtain⟨a,rfl,ab,ad⟩:=h
 congr 1
 apply Array.ext
 ·simp[ab]
 ·intro i hi xR;have mC:i<r.length:=by omega
  have:=ad i mC;have az:r.getD i .undef=r[i]:=by simp[apA,mC]
  rw[az,aaF (ag _ (aqA mC))]at this;have aJ:a.getD i undef=a[i]:=by simp[apH,hi]
  rw[aJ]at this;have:=jb (ρ:=[]) (I:=[]) (show bH Z w [] [] (.d (.int k r[i].toInt)) a[i]from this);simpa using this
theorem P_ {e:TypeId}{k:IntKind}(he:P.underlying e=some (.int k))(xs:List Int)(i:Nat)(hi:i<xs.length):
 (part e ((xs.map (Value.int k)).toArray) (i*1)).run P w= .ok (.int k (xs.getD i 0)) w:=by
 simp[part,q_ he,o5,hi,apA]
theorem Nv {e:TypeId}{k:IntKind}(he:P.underlying e=some (.int k))(d:Nat)(xs jU:List Int):∀is:List Nat,(∀i∈is,i<xs.length/\i<jU.length)->
 (Op.eqItems (d+1) e 1 ((xs.map (Value.int k)).toArray) ((jU.map (Value.int k)).toArray) is).run P w= .ok (is.all fun i=>decide (xs.getD i 0=jU.getD i 0)) w
 |[],_=>rfl
 |i::is,h=>by
  obtain⟨ab,ad⟩:=h i (by simp);have bI:=Nv he d xs jU is fun j aI=>h j (by simp[aI]);simp only[Op.eqItems,Sem.run_bind,P_ he xs i ab,P_ he jU i ad,Result.andThen_ok]
  have az:(Op.equalIn (d+1) e (.int k (xs.getD i 0)) (.int k (jU.getD i 0))).run P w= .ok (decide (xs.getD i 0=jU.getD i 0)) w:=by
   simp[Op.equalIn,run_underlying he]
   rfl
  rw[az];simp only[Result.andThen_ok,arb];cases decide (xs.getD i 0=jU.getD i 0)<;>simp[bI]
theorem Zl (xs jU:List Int)(h:xs.length=jU.length):((List.range xs.length).all fun i=>decide (xs.getD i 0=jU.getD i 0))=decide (xs=jU):=by
 rw[Bool.eq_iff_iff,apR,aqe];constructor
 ·intro b5;apply arU h;intro i ab ad;have:=b5 i (by simpa using ab);simpa[apA,ab,ad]using this
 ·rintro rfl i _;simp
theorem aaG {t e:TypeId}{n:Nat}{k:IntKind}(hu:P.underlying t=some (.array n e))(he:P.underlying e=some (.int k))(op:BinOp)(x y:Operand)(a b:Array Value):
 (eqGuard op t x y (.agg a) (.agg b)).run P w= .ok () w:=by
 have bh:P.eqGuardType P.depth t=false:=by
  have:P.depth=2*(P.types.size+Made.depth)+1+1:=rfl;rw[this];unfold Program.eqGuardType;rw[hu];simp only;unfold Program.eqGuardType;rw[he]
 cases op<;>simp[eqGuard,bh]
theorem aaH {t:TypeId}{i:b7}(hi:c5 P t i=true)(aC:zv P i t=true){op:BinOp}{cZ dC:Operand}{tm:List R}{a:Act}(aw:ei (aK N ρ I) w ρ I tm a.tmps)
 {cq:List Prop} {v:R} {al:aD} (h:qm op i.ty (aN tm cZ) (aN tm dC) I= .a8 cq v al) (ay:∀p∈cq,p):
 ∃u,al=I/\(do eqGuard op t cZ dC (a.eval cZ) (a.eval dC);binOp op t (a.eval cZ) (a.eval dC):Sem Value).run P w= .ok u w/\bH (aK N ρ I) w ρ I v u:=by
 have aj:=ey aw cZ;have bo:=ey aw dC;generalize aN tm cZ=x at*;generalize aN tm dC=y at*;unfold qm at h;split at h;rotate_left
 ·cases h
 rename_i n k cs cd;split at h;rotate_left
 ·cases h
 rename_i kB nS xS ajX
 have gk:(∀x∈kB,x.dQ k)/\(∀x∈nS,x.dQ k)/\(op= .eql\/op= .neq):=by
  split at h
  ·simp only[bT.a8.injEq]at h;obtain⟨rfl,_⟩:=h;exact⟨ay _ (by simp),ay _ (by simp), .inl rfl⟩
  ·simp only[bT.a8.injEq]at h;obtain⟨rfl,_⟩:=h;exact⟨ay _ (by simp),ay _ (by simp), .inr rfl⟩
  ·cases h
 obtain⟨Bk,am1,bO⟩:=gk;obtain⟨fH,a1,a2,a3,a4⟩:=wv xS aj;obtain⟨am2,ch,df,iD,vT⟩:=wv ajX bo;have Gn:=HX (Z:=aK N ρ I) (w:=w) ⟨fH,a1,by omega,fun j aI=>a4 j (by omega)⟩ Bk;have fo:=HX (Z:=aK N ρ I) (w:=w) ⟨am2,ch,by omega,fun j aI=>vT j (by omega)⟩ am1;obtain⟨el,g,q1,cG,cV⟩:=yM hi cd;have cV:g.size=1:=cV
 have FL:P.underlying el=some (.int k)/\cs.length=n:=by
  unfold zv at aC;rw[cd]at aC;simp only[q1]at aC;split at aC
  ·rename_i he aB;injection he with he;injection he with _ he;subst he;split at aC
   ·rename_i cD ag;exact⟨by rw[ag,jD.1 aC],by rw[<-cI];exact apC aB⟩
   ·cases aC
  ·cases aC
 obtain⟨FL,j6⟩:=FL;have cx:i.ty.size=n:=by rw[cd];simp[aZ.size,cI,j6]
 have xT:a.eval cZ= .agg (((kB.map U.toInt).map (Value.int k)).toArray):=by rw[Gn,aq2];rfl
 have xU:a.eval dC= .agg (((nS.map U.toInt).map (Value.int k)).toArray):=by rw[fo,aq2];rfl
 have heq:(Op.equal t (a.eval cZ) (a.eval dC)).run P w= .ok (decide (kB.map U.toInt=nS.map U.toInt)) w:=by
  rw[xT,xU];have:=run_equalIn_array (P:=P) w 9999 ((((kB.map U.toInt).map (Value.int k)).toArray)) ((((nS.map U.toInt).map (Value.int k)).toArray)) q1 cG;have ab:P.cellsOf el=1:=by simp[Program.cellsOf,cG,cV]
  rw[ab,Nv FL 9998 _ _ _ (fun j aI=>by
   have:j<n:=by simpa using aI
   simp only[apI];omega)]at this
  show(Op.equalIn 10000 t _ _).run P w=_;rw[this]
  congr 1
  have aJ:n=(kB.map U.toInt).length:=by simp;omega
  rw[aJ];exact Zl _ _ (by simp;omega)
 have pr:=aaG (P:=P) (w:=w) q1 FL op cZ dC (((kB.map U.toInt).map (Value.int k)).toArray) (((nS.map U.toInt).map (Value.int k)).toArray);rw[<-xT,<-xU]at pr;rcases bO with rfl|rfl
 ·simp only[bT.a8.injEq]at h;obtain⟨_,rfl,rfl⟩:=h;refine⟨_,rfl, ?_,jY _⟩;rw[Sem.run_bind,pr,Result.andThen_ok,xT,xU];rw[xT,xU]at heq;generalize ((kB.map U.toInt).map (Value.int k)).toArray=A at heq⊢;generalize ((nS.map U.toInt).map (Value.int k)).toArray=B at heq⊢;simp[binOp,heq]
 ·simp only[bT.a8.injEq]at h;obtain⟨_,rfl,rfl⟩:=h;refine⟨_,rfl, ?_,jY _⟩;rw[Sem.run_bind,pr,Result.andThen_ok,xT,xU];rw[xT,xU]at heq;generalize ((kB.map U.toInt).map (Value.int k)).toArray=A at heq⊢;generalize ((nS.map U.toInt).map (Value.int k)).toArray=B at heq⊢;simp[binOp,heq]
end
end Go.ak
end
