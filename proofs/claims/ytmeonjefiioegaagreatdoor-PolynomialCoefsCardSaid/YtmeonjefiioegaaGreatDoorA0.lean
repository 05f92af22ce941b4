/- Helpers for the statements: conditions under which code does what is wanted, and proofs that they suffice. Condition: none. -/
import Derived.Calls
import Derived.KernelRfl
import Derived.Laws.Sem
import Derived.Below
import Derived.Laws.AppendOwn
import Derived.Laws.CopyRow
import Derived.Laws.Rows
import Derived.Laws.Tables
import Derived.Laws.Cells
import Derived.Scope
import Derived.Laws.Strings
import Derived.Laws.Small
import Derived.Laws.Cover3
import Derived.Laws.IdiomCopy
import Derived.Laws.MakeOwn
import Derived.Laws.BytesString
import Derived.Deep.AppendSrc
import Derived.WideKeyArr
abbrev aoH:=@Array.getD_eq_getD_getElem?
abbrev aq0:=@Array.getElem?_append_left
abbrev aqj:=@Array.getElem?_eq_getElem
abbrev aqV:=@Array.getElem?_eq_some_iff
abbrev aqH:=@Array.getElem?_modify
abbrev aqx:=@Array.getElem?_setIfInBounds
abbrev aqU:=@Array.getElem?_toList
abbrev apD:=@Array.length_toList
abbrev aqt:=@BitVec.ofInt_natCast
abbrev aqN:=@BitVec.toNat_ofNat
abbrev aoL:=@Bool.and_eq_true
abbrev apP:=@Bool.false_eq_true
abbrev apN:=@Bool.false_ne_true
abbrev apB:=@Bool.not_eq_true'
abbrev aq1:=@Bool.or_eq_false_iff
abbrev ap3:=@Bool.or_eq_true
abbrev aqK:=@Bool.true_and
abbrev apm:=@Iff.rfl
abbrev aqX:=@Int.emod_eq_of_lt
abbrev aoG:=@Int.eq_ofNat_of_zero_le
abbrev apg:=@Int.fdiv_eq_ediv_of_nonneg
abbrev apY:=@Int.le_trans
abbrev aqT:=@Int.natCast_add
abbrev aqr:=@Int.natCast_ediv
abbrev aqM:=@Int.natCast_emod
abbrev apK:=@Int.natCast_mul
abbrev apx:=@Int.natCast_nonneg
abbrev ap8:=@Int.ofNat_lt
abbrev aqY:=@Int.tdiv_eq_ediv_of_nonneg
abbrev aqL:=@Int.tmod_eq_emod_of_nonneg
abbrev aoB:=@Int.toNat_natCast
abbrev aqb:=@List.all_cons
abbrev aoR:=@List.all_eq_true
abbrev aqk:=@List.append_assoc
abbrev aqa:=@List.append_nil
abbrev aqc:=@List.cons.injEq
abbrev apO:=@List.cons_append
abbrev apU:=@List.drop_eq_getElem_cons
abbrev aqw:=@List.drop_eq_nil_of_le
abbrev aqd:=@List.eq_nil_of_length_eq_zero
abbrev aqF:=@List.ext_getElem
abbrev aqq:=@List.filter_append
abbrev apW:=@List.filter_cons
abbrev aq3:=@List.filter_cons_of_neg
abbrev aq2:=@List.filter_cons_of_pos
abbrev aqS:=@List.foldl_cons
abbrev aqz:=@List.getD_cons_zero
abbrev aoA:=@List.getD_eq_getElem?_getD
abbrev ao5:=@List.getElem?_append
abbrev apt:=@List.getElem?_append_left
abbrev apJ:=@List.getElem?_append_right
abbrev apZ:=@List.getElem?_drop
abbrev aoM:=@List.getElem?_eq_getElem
abbrev ape:=@List.getElem?_eq_none
abbrev apr:=@List.getElem?_eq_some_iff
abbrev apu:=@List.getElem?_map
abbrev ap1:=@List.getElem?_replicate
abbrev apj:=@List.getElem?_set
abbrev aps:=@List.getElem?_take
abbrev apF:=@List.getElem_mem
abbrev aqu:=@List.getElem_of_mem
abbrev ao0:=@List.length_append
abbrev apq:=@List.length_cons
abbrev apI:=@List.length_drop
abbrev apl:=@List.length_eq_zero_iff
abbrev aqi:=@List.length_filter_le
abbrev aoF:=@List.length_map
abbrev aql:=@List.length_replicate
abbrev aoI:=@List.length_set
abbrev apL:=@List.length_singleton
abbrev ao3:=@List.length_take
abbrev apd:=@List.map_append
abbrev aqD:=@List.map_congr_left
abbrev aoX:=@List.map_cons
abbrev ap0:=@List.map_map
abbrev aqo:=@List.map_nil
abbrev aqn:=@List.map_set
abbrev aqG:=@List.map_singleton
abbrev aqA:=@List.map_take
abbrev aqE:=@List.map_toArray
abbrev apV:=@List.mem_append
abbrev ao7:=@List.mem_cons
abbrev apQ:=@List.mem_cons_of_mem
abbrev aqy:=@List.mem_cons_self
abbrev apn:=@List.mem_filter
abbrev aoQ:=@List.mem_map
abbrev aqQ:=@List.mem_map_of_mem
abbrev ap2:=@List.mem_of_getElem?
abbrev ap9:=@List.mem_or_eq_of_mem_set
abbrev apo:=@List.mem_singleton
abbrev apR:=@List.not_mem_nil
abbrev aqv:=@List.pairwise_cons
abbrev aqP:=@List.take_add_one
abbrev apG:=@List.take_length
abbrev aqB:=@List.take_of_length_le
abbrev apy:=@Nat.add_assoc
abbrev aoT:=@Nat.add_mul
abbrev aoW:=@Nat.add_zero
abbrev apz:=@Nat.beq_refl
abbrev aqe:=@Nat.div_add_mod
abbrev aqf:=@Nat.div_eq_of_lt
abbrev aqZ:=@Nat.div_le_self
abbrev aqm:=@Nat.div_lt_of_lt_mul
abbrev aqI:=@Nat.div_lt_self
abbrev aoz:=@Nat.eq_of_beq_eq_true
abbrev ap6:=@Nat.eq_zero_or_pos
abbrev aoY:=@Nat.le_of_ble_eq_true
abbrev aoE:=@Nat.le_refl
abbrev aoS:=@Nat.le_trans
abbrev ap4:=@Nat.lt_of_le_of_lt
abbrev aoV:=@Nat.lt_of_lt_of_le
abbrev apX:=@Nat.lt_of_mul_lt_mul_left
abbrev aqp:=@Nat.lt_or_ge
abbrev aqW:=@Nat.min_eq_left
abbrev apv:=@Nat.mod_eq_of_lt
abbrev aph:=@Nat.mod_lt
abbrev aoO:=@Nat.mul_add
abbrev aqC:=@Nat.mul_add_mod
abbrev apa:=@Nat.mul_assoc
abbrev ao9:=@Nat.mul_comm
abbrev ap7:=@Nat.mul_le_mul
abbrev apc:=@Nat.mul_le_mul_left
abbrev aoP:=@Nat.mul_le_mul_right
abbrev apC:=@Nat.mul_left_comm
abbrev aqO:=@Nat.mul_lt_mul_of_pos_right
abbrev ao6:=@Nat.mul_one
abbrev ao4:=@Nat.mul_zero
abbrev apM:=@Nat.one_mul
abbrev aqJ:=@Nat.pos_of_ne_zero
abbrev api:=@Nat.pow_add
abbrev apf:=@Nat.pow_le_pow_right
abbrev ao2:=@Nat.pow_succ
abbrev aqg:=@Nat.pow_zero
abbrev apw:=@Nat.two_pow_pos
abbrev ao8:=@Nat.zero_add
abbrev apS:=@Nat.zero_le
abbrev apT:=@Nat.zero_mul
abbrev apk:=@Ne.symm
abbrev apA:=@Option.getD_some
abbrev aqR:=@Option.isSome_iff_exists
abbrev apE:=@Option.map_some
abbrev aoK:=@Option.some.inj
abbrev aoU:=@Option.some.injEq
abbrev aoZ:=@Prod.mk.injEq
abbrev apH:=@Rat.add_assoc
abbrev aqh:=@Rat.zero_add
abbrev apb:=@congrArg
abbrev aqs:=@decide_eq_decide
abbrev ap5:=@decide_eq_false
abbrev aoC:=@decide_eq_false_iff_not
abbrev ap_:=@decide_eq_true
abbrev aoD:=@decide_eq_true_eq
abbrev ao1:=@decide_eq_true_iff
abbrev aox:=@if_neg
abbrev aoy:=@if_pos
abbrev ao_:=@if_true
abbrev aoN:=@of_decide_eq_false
abbrev aoJ:=@of_decide_eq_true
section
namespace Go.al
inductive R:Type where
 |int (k:IntKind) (n:Int)
 |bool (b:Bool)
 |str (l:List Int)
 |ad (k:IntKind) (l:List Int)
 |ar (ak:Nat) (l:List (List R))
 |undef
 deriving Inhabited
def R.dd:R->IntKind->Prop
 | .int k _,cy=>k=cy
 |_,_=>False
def R.toInt:R->Int
 | .int _ n=>n
 |_=>0
def R.isBool:R->Prop
 | .bool _=>True
 |_=>False
def R.toBool:R->Bool
 | .bool b=>b
 |_=>false
def R.isStr:R->Prop
 | .str _=>True
 |_=>False
def R.toStr:R->List Int
 | .str l=>l
 |_=>[]
def R.eJ:R->IntKind->Prop
 | .ad k _,cy=>k=cy
 |_,_=>False
def R.b2:R->List Int
 | .ad _ l=>l
 |_=>[]
def R.q8:R->Nat->Prop
 | .ar ak _,h3=>ak=h3
 |_,_=>False
def R.lr:R->List (List R)
 | .ar _ l=>l
 |_=>[]
def R.len:R->Nat
 | .ad _ l=>l.length
 | .ar _ l=>l.length
 | .str l=>l.length
 |_=>0
def R.cJ:R->Nat
 | .ar ak _=>ak
 |_=>1
def R.cell:R->Nat->Nat->R
 | .ad k l,i,_=> .int k (l.getD i 0)
 | .ar _ l,i,j=>(l.getD i []).getD j .undef
 |_,_,_=> .undef
inductive J:Type where
 |d (x:R)
 |bt
 |bf
 |emp
 |vec (id:Nat)
 |ptr (id off:Nat)
 |optr (id:Nat) (i:Int) (j:Nat)
 |rptr (x:R) (i:Int) (j:Nat)
 |oat (id:Nat) (i:Int) (j:Nat)
 |rat (x:R) (i:Int) (j:Nat)
 |mp (id:Nat)
 |tail (id:Nat) (i:Int)
 |w5
 |fn (f:FuncId)
 |cls (f:FuncId) (anI:List J)
 |agg (l:List J)
 |tup (l:List J)
 |rw(n:Nat) (r:List R)
 |un
 |any
 deriving Inhabited
inductive af:Type where
 |cells (l:List J)
 |ad (k:IntKind) (l:List Int)
 |ar (ak:Nat) (l:List (List R))
 |map (tA ak:Nat) (l:List (List R))
 |dead (n ak:Nat)
 |gone
 deriving Inhabited
abbrev aD:=List (Bool×af)
def af.len:af->Nat
 | .ad _ l=>l.length
 | .ar _ l=>l.length
 | .cells l=>l.length
 | .map _ _ _=>0
 | .dead n _=>n
 | .gone=>0
def af.cJ:af->Nat
 | .ar ak _=>ak
 | .map _ ak _=>ak
 | .dead _ ak=>ak
 |_=>1
def af.data:af->R
 | .ad k l=> .ad k l
 | .ar ak l=> .ar ak l
 |_=> .undef
inductive cg:Type where
 |int (k:IntKind)
 |bool
 |str
 |cu (k:IntKind)
 |dB (ak:Nat)
 |other
 deriving Inhabited
inductive a7:Type where
 |aB (s:cg)
 |struct (fields:List (Nat×Nat×a7)) (cells:List cg)
 |arr (n:Nat) (elem:a7) (cells:List cg)
 |no
 deriving Inhabited
structure b7 where
 ty:a7
 elem:TypeId:=0
 bytes:Nat:=0
 fz:List cg:=[]
 lit:Bool:=false
 cut:Bool:=false
 mp:Option (Nat×TypeId×TypeId):=none
 deriving Inhabited
def cg.take:cg->R->J
 | .int k,x=> .d (.int k x.toInt)
 | .bool,x=> .d (.bool x.toBool)
 | .str,x=> .d (.str x.toStr)
 | .cu k,x=> .d (.ad k x.b2)
 | .dB ak,x=> .d (.ar ak x.lr)
 | .other,x=> .d x
def cg.p7:cg->R->Prop
 | .int k,x=>x.dd k
 | .bool,x=>x.isBool
 | .str,x=>x.isStr
 | .cu k,x=>x.eJ k
 | .dB ak,x=>x.q8 ak
 | .other,_=>True
end Go.al
end
section
namespace Go.al
def b8 {α:Type}(d:α):List α->Nat->α
 |[],_=>d
 |x::_,0=>x
 |_::r,n+1=>b8 d r n
def cQ {α:Type}:List α->Nat->α->List α
 |[],_,_=>[]
 |_::r,0,v=>v::r
 |x::r,n+1,v=>x::cQ r n v
def bE {α β:Type}(f:α->β):List α->List β
 |[]=>[]
 |x::r=>f x::bE f r
def eM {α:Type}:List α->List α->List α
 |[],y=>y
 |x::r,y=>x::eM r y
def bU {α:Type}:List α->Nat
 |[]=>0
 |_::r=>Nat.succ (bU r)
def kL {α:Type}:List α->Nat->List α
 |l,0=>l
 |[],_+1=>[]
 |_::r,n+1=>kL r n
def kM {α:Type}:List α->Nat->List α
 |_,0=>[]
 |[],_+1=>[]
 |x::r,n+1=>x::kM r n
def uQ {α:Type}(v:α):Nat->List α
 |0=>[]
 |n+1=>v::uQ v n
def eg {α:Type}(f:α->Bool):List α->Bool
 |[]=>true
 |x::r=>match f x with|true=>eg f r|false=>false
def omap {α β:Type}(f:α->β):Option α->Option β
 |none=>none
 |some x=>some (f x)
def pad:Nat->List J->List J
 |0,l=>l
 |n+1,[]=> .un::pad n []
 |n+1,v::r=>v::pad n r
def fu {α:Type}(j:Nat):List (Nat×α)->Option α
 |[]=>none
 |(i,x)::r=>match Nat.beq i j with|true=>some x|false=>fu j r
def o_:Value->J
 | .int k n=> .d (.int k n)
 | .bool true=> .bt
 | .bool false=> .bf
 | .string s=> .d (.str (bE (fun b=>Int.ofNat b.toNat) s.data.toList))
 | .slice none 0 0=> .emp
 | .pointer none=> .w5
 |_=> .any
def tB:Value->J
 | .agg cs=> .agg (bE o_ cs.toList)
 |v=>o_ v
def aY (tm:List J):Operand->J
 | .tmp t=>b8 .un tm t
 | .const v=>tB v
 | .global _=> .any
 | .func f=> .fn f
def put (tm:List J):Option Tmp->J->List J
 |some d,v=>cQ tm d v
 |none,_=>tm
def af.at (I:aD)(id:Nat):af:=(b8 (true, .gone) I id).2
def cw (I:aD)(id:Nat):Bool:=(b8 (true, .gone) I id).1
def J.hI (I:aD):J->R
 | .d x=>x
 | .bt=> .bool true
 | .bf=> .bool false
 | .vec id=>(af.at I id).data
 |_=> .undef
def cg.norm (I:aD):cg->J->J
 | .cu k, .emp=> .d (.ad k [])
 | .cu _, .vec id=> .d (af.at I id).data
 | .dB ak, .emp=> .d (.ar ak [])
 | .dB _, .vec id=> .d (af.at I id).data
 | .bool, .bt=> .d (.bool true)
 | .bool, .bf=> .d (.bool false)
 |_,v=>v
def iE (I:aD):List cg->List J->List J
 |s::dK,v::aH=>s.norm I v::iE I dK aH
 |_,aH=>aH
def a7.norm (I:aD):a7->J->J
 | .aB s,v=>s.norm I v
 | .struct _ cs, .agg aH=> .agg (iE I cs aH)
 | .arr _ _ cs, .agg aH=> .agg (iE I cs aH)
 |_,v=>v
def e5 (I:aD)(id:Nat):aD:=cQ I id (true,af.at I id)
def lq (I:aD):J->aD
 | .vec id=>e5 I id
 |_=>I
def uk (I:aD):List J->aD
 |[]=>I
 |v::aH=>uk (lq I v) aH
def freeze (I:aD):J->aD
 | .vec id=>e5 I id
 | .agg l=>uk I l
 |_=>I
def cD (I:aD):List J->aD
 |[]=>I
 |v::aH=>cD (freeze I v) aH
def fA (id:Nat):J->J
 | .vec i=>match Nat.beq i id with|true=> .any|false=> .vec i
 | .optr i x y=>match Nat.beq i id with|true=> .any|false=> .optr i x y
 | .ptr i x=>match Nat.beq i id with|true=> .any|false=> .ptr i x
 | .oat i x y=>match Nat.beq i id with|true=> .any|false=> .oat i x y
 | .mp i=>match Nat.beq i id with|true=> .any|false=> .mp i
 | .tail i x=>match Nat.beq i id with|true=> .any|false=> .tail i x
 |v=>v
def ev (id:Nat):J->J
 | .agg l=> .agg (bE (fA id) l)
 | .tup _=> .any
 |v=>fA id v
def af.kill (id:Nat):af->af
 | .cells l=> .cells (bE (fA id) l)
 |o=>o
def gy (id:Nat)(I:aD):aD:=bE (fun p=>(p.1,p.2.kill id)) I
inductive bS:Type where
 |bad
 |aZ (cd:List Prop) (v:J) (I:aD)
 |grow (cd:List Prop) (v:J) (I:aD) (id:Nat)
 |fB (p:Bool->Prop)
 |call (f:FuncId) (args:List J) (tys:List TypeId)
def gC:List Prop->Prop->Prop
 |[],q=>q
 |p::ps,q=>p/\gC ps q
def cL (op:BinOp)(k:IntKind)(a b:Int):Int:=
 let x:=BitVec.ofInt k.bits a
 let y:=BitVec.ofInt k.bits b
 match op with
 | .and=>k.wrap (x&&&y).toNat
 | .or=>k.wrap (x|||y).toNat
 | .xor=>k.wrap (x^^^y).toNat
 |_=>k.wrap (x&&&~~~y).toNat
def isNeg:Int->Bool
 | .ofNat _=>false
 | .negSucc _=>true
def Cr (o:Operand)(b:Int):List Prop:=
 match o with
 | .const (.int _ n)=>match isNeg n with|true=>[False]|false=>[]
 |_=>[0<=b]
def DP (o:Operand)(b:Int):List Prop:=
 match o with
 | .const (.int _ (.ofNat (_+1)))=>[]
 |_=>[b≠0]
def n4 (op:BinOp)(dy:Operand)(k:IntKind)(a b:Int)(I:aD):bS:=
 match op with
 | .add=> .aZ [] (.d (.int k (k.wrap (a+b)))) I
 | .sub=> .aZ [] (.d (.int k (k.wrap (a-b)))) I
 | .mul=> .aZ [] (.d (.int k (k.wrap (a*b)))) I
 | .quo=> .aZ (DP dy b) (.d (.int k (k.wrap (a.tdiv b)))) I
 | .rem=> .aZ (DP dy b) (.d (.int k (a.tmod b))) I
 | .and=> .aZ [] (.d (.int k (cL .and k a b))) I
 | .or=> .aZ [] (.d (.int k (cL .or k a b))) I
 | .xor=> .aZ [] (.d (.int k (cL .xor k a b))) I
 | .andNot=> .aZ [] (.d (.int k (cL .andNot k a b))) I
 | .eql=> .aZ [] (.d (.bool (decide (a=b)))) I
 | .neq=> .aZ [] (.d (.bool (!decide (a=b)))) I
 | .lss=> .aZ [] (.d (.bool (decide (a<b)))) I
 | .leq=> .aZ [] (.d (.bool (decide (a<=b)))) I
 | .gtr=> .aZ [] (.d (.bool (decide (b<a)))) I
 | .geq=> .aZ [] (.d (.bool (decide (b<=a)))) I
 |_=> .bad
def jv:IntKind->IntKind->Bool
 | .i8, .i8| .i16, .i16| .i32, .i32| .i64, .i64| .u8, .u8| .u16, .u16| .u32, .u32| .u64, .u64=>true
 |_,_=>false
def wv:List Int->List Int->Bool
 |_,[]=>false
 |[],_::_=>true
 |a::x,b::y=>decide (a<b)||(decide (a=b)&&wv x y)
def Ra (a b:Bool):Bool:=a==b
def gX:a7->R->Bool
 | .aB (.cu k), .ad cy _=>jv k cy
 | .aB (.dB ak), .ar h3 _=>Nat.beq ak h3
 |_,_=>false
def jw:a7->af->Bool
 | .aB (.cu k), .ad cy _=>jv k cy
 | .aB (.dB ak), .ar h3 _=>Nat.beq ak h3
 |_,_=>false
def iz:a7->Bool
 | .aB (.cu _)=>true
 | .aB (.dB _)=>true
 |_=>false
def jt (op:BinOp)(t:a7)(a b:Bool)(I:aD):bS:=
 match op,t with
 | .eql, .aB .bool=> .aZ [] (.d (.bool (Ra a b))) I
 | .neq, .aB .bool=> .aZ [] (.d (.bool (!Ra a b))) I
 |_,_=> .bad
def oU (op:BinOp)(t:a7)(dy:Operand)(x y:J)(I:aD):bS:=
 match x,y with
 | .d (.int k a), .d (.int cy b)=>
  match op with
  | .shl=> .aZ (Cr dy b) (.d (.int k (k.wrap (a*2^min b.toNat k.bits)))) I
  | .shr=> .aZ (Cr dy b) (.d (.int k (a.fdiv (2^min b.toNat k.bits)))) I
  |_=>match jv k cy with|true=>n4 op dy k a b I|false=> .bad
 | .d (.str a), .d (.str b)=>
  match op with
  | .add=> .aZ [(a.length:Int)+b.length<=9223372036854775807] (.d (.str (a++b))) I
  | .eql=> .aZ [] (.d (.bool (decide (a=b)))) I
  | .neq=> .aZ [] (.d (.bool (!decide (a=b)))) I
  | .lss=> .aZ [] (.d (.bool (wv a b))) I
  |_=> .bad
 | .d (.ad _ l), .emp=>
  match op,iz t,dy with
  | .eql,true, .const _=> .fB fun b=>b=true->l=[]
  | .neq,true, .const _=> .fB fun b=>b=false->l=[]
  |_,_,_=> .bad
 | .d (.ar _ l), .emp=>
  match op,iz t,dy with
  | .eql,true, .const _=> .fB fun b=>b=true->l=[]
  | .neq,true, .const _=> .fB fun b=>b=false->l=[]
  |_,_,_=> .bad
 | .d (.bool a), .d (.bool b)=>jt op t a b I
 | .d (.bool a), .bt=>jt op t a true I
 | .d (.bool a), .bf=>jt op t a false I
 | .bt, .d (.bool a)=>jt op t true a I
 | .bf, .d (.bool a)=>jt op t false a I
 | .bt, .bt=>jt op t true true I
 | .bt, .bf=>jt op t true false I
 | .bf, .bt=>jt op t false true I
 | .bf, .bf=>jt op t false false I
 |_,_=> .bad
def wT (op:UnOp)(x:J)(I:aD):bS:=
 match op,x with
 | .neg, .d (.int k n)=> .aZ [] (.d (.int k (k.wrap (0-n)))) I
 | .xor, .d (.int k n)=> .aZ [] (.d (.int k (cL .xor k (if k.signed then-1 else k.max) n))) I
 | .not, .d (.bool b)=> .aZ [] (.d (.bool (!b))) I
 | .not, .bt=> .aZ [] .bf I
 | .not, .bf=> .aZ [] .bt I
 |_,_=> .bad
def wx (c x y:J)(I:aD):bS:=
 match c with
 | .bt=> .aZ [] x I
 | .bf=> .aZ [] y I
 | .d (.bool b)=>
  match x,y with
  | .d (.bool p), .d (.bool q)=> .aZ [] (.d (.bool (if b then p else q))) I
  | .bt, .d (.bool q)=> .aZ [] (.d (.bool (if b then true else q))) I
  | .d (.bool p), .bf=> .aZ [] (.d (.bool (if b then p else false))) I
  | .bt, .bf=> .aZ [] (.d (.bool b)) I
  | .d (.int k p), .d (.int cy q)=>match jv k cy with|true=> .aZ [] (.d (.int k (if b then p else q))) I|false=> .bad
  |_,_=> .bad
 |_=> .bad
def nY (src dst:a7)(x:J)(I:aD):bS:=
 match dst,x with
 | .aB (.int k), .d (.int _ n)=>(match src with| .aB (.int _)=> .aZ [] (.d (.int k (k.wrap n))) I|_=> .bad)
 | .aB .str, .d (.str l)=>(match src with| .aB .str=> .aZ [] (.d (.str l)) I|_=> .bad)
 | .aB .str, .d (.ad .u8 l)=>(match src with| .aB (.cu .u8)=> .aZ [∀x∈l,0<=x/\x<256] (.d (.str l)) I|_=> .bad)
 | .aB .str, .vec id=>
  match af.at I id,src with
  | .ad .u8 l, .aB (.cu .u8)=> .aZ [∀x∈l,0<=x/\x<256] (.d (.str l)) I
  |_,_=> .bad
 | .aB .str, .emp=>(match src with| .aB (.cu .u8)=> .aZ [] (.d (.str [])) I|_=> .bad)
 |_,_=> .bad
def ri (cs:List cg)(x:R)(i j:Nat):List Prop×List J:=
 match cs with
 |[]=>([],[])
 |s::dK=>(s.p7 (x.cell i j)::(ri dK x i (Nat.succ j)).1,s.take (x.cell i j)::(ri dK x i (Nat.succ j)).2)
def a7.size:a7->Nat
 | .aB _=>1
 | .struct _ cs| .arr _ _ cs=>bU cs
 | .no=>0
def a7.HN:a7->Bool
 | .arr ..=>true
 |_=>false
def a7.jB:a7->Bool
 | .arr ..=>true
 | .struct _ cs=>Nat.blt 8 (bU cs)
 |_=>false
def a7.cells:a7->List cg
 | .struct _ cs=>cs
 | .arr _ _ cs=>cs
 |_=>[]
def lu (r:List R)(j n ak:Nat):List R:=
 match Nat.beq j 0 with
 |true=>(match Nat.beq n ak with|true=>r|false=>r.take n)
 |false=>(r.drop j).take n
def yP (r:List R)(j n ak:Nat)(v:List R):List R:=
 match Nat.beq j 0 with
 |true=>(match Nat.beq n ak with|true=>v|false=>v++r.drop n)
 |false=>r.take j++(v++r.drop (Nat.add j n))
def loadData (t:a7)(x:R)(i:Int)(j:Nat)(I:aD):bS:=
 match x with
 | .ad k l=>
  (match t,Nat.beq j 0 with
  | .aB (.int cy),true=>match jv k cy with|true=> .aZ [] (.d (.int k (l.getD i.toNat 0))) I|false=> .bad
  |_,_=> .bad)
 | .ar ak l=>
  (match Nat.ble (Nat.add j t.size) ak with
  |true=>
   (match t with
   | .aB s=> .aZ [s.p7 (R.cell (.ar ak l) i.toNat j)] (s.take (R.cell (.ar ak l) i.toNat j)) I
   | .struct _ cs=>
    (match Nat.blt 8 (bU cs)with
    |true=> .aZ [(l.getD i.toNat []).length=ak] (.rw (bU cs) (lu (l.getD i.toNat []) j (bU cs) ak)) I
    |false=> .aZ (ri cs (.ar ak l) i.toNat j).1 (.agg (ri cs (.ar ak l) i.toNat j).2) I)
   | .arr _ _ cs=> .aZ [(l.getD i.toNat []).length=ak] (.rw (bU cs) (lu (l.getD i.toNat []) j (bU cs) ak)) I
   | .no=> .bad)
  |false=> .bad)
 |_=> .bad
def loadAt (t:a7)(x:R)(i:Int)(j:Nat)(I:aD):bS:=
 match x,t with
 | .ar _ l, .aB s=> .aZ [s.p7 ((l.getD i.toNat []).getD j .undef)] (s.take ((l.getD i.toNat []).getD j .undef)) I
 |_,_=> .bad
def o1:J->J
 | .agg _=> .any
 | .tup _=> .any
 |v=>v
def hR (t:a7)(p:J)(I:aD):bS:=
 match p with
 | .ptr id off=>
  match af.at I id with
  | .cells l=>
   (match t,Nat.ble (Nat.add off t.size) (bU l)with
   | .aB _,true=> .aZ [] (o1 (b8 .un l off)) I
   | .struct _ cs,true=> .aZ [] (.agg (kM (kL l off) (bU cs))) I
   | .arr _ _ cs,true=> .aZ [] (.agg (kM (kL l off) (bU cs))) I
   |_,_=> .bad)
  |_=> .bad
 | .optr id i j=>loadData t (af.at I id).data i j I
 | .rptr x i j=>loadData t x i j I
 | .oat id i j=>loadAt t (af.at I id).data i j I
 | .rat x i j=>loadAt t x i j I
 |_=> .bad
def setCells (l:List J)(off:Nat):List J->List J
 |[]=>l
 |v::aH=>setCells (cQ l off v) (Nat.succ off) aH
def setRow (r:List R)(j:Nat):List R->List R
 |[]=>r
 |v::aH=>setRow (r.set j v) (j+1) aH
def J.cellsOf:J->List J
 | .agg l=>l
 |v=>[v]
def J.nT:J->Bool
 | .any=>false
 | .un=>false
 | .rw _ _=>false
 | .oat ..=>false
 | .rat ..=>false
 | .mp _=>false
 | .tail ..=>false
 | .tup _=>false
 | .agg _=>false
 |_=>true
def J.fits:a7->J->Bool
 | .aB _,v=>v.nT
 | .struct _ cs, .agg l=>match Nat.beq (bU l) (bU cs)with|true=>eg J.nT l|false=>false
 | .arr _ _ cs, .agg l=>match Nat.beq (bU l) (bU cs)with|true=>eg J.nT l|false=>false
 |_,_=>false
def J.ha:J->Bool
 | .d _=>true
 | .bt=>true
 | .bf=>true
 | .emp=>true
 |_=>false
def mY:List cg->List R->Nat->List Prop×List J
 |[],_,_=>([],[])
 |s::dK,r,j=>(s.p7 (r.getD j .undef)::(mY dK r (Nat.succ j)).1,s.take (r.getD j .undef)::(mY dK r (Nat.succ j)).2)
def mi (I:aD)(cs:List cg)(v:J):List R:=bE (J.hI I) (iE I cs v.cellsOf)
def oV (I:aD)(t:a7)(v:J):Option (List R):=
 match v with
 | .rw n r=>(match Nat.beq n t.size with|true=>some r|false=>none)
 | .agg l=>(match t.jB,Nat.beq (bU l) (bU t.cells),eg J.ha l with|true,true,true=>some (mi I t.cells (.agg l))|_,_,_=>none)
 |_=>none
def Qi (r:List R)(j n ak:Nat):List Prop:=match Nat.beq j 0,Nat.beq n ak with|true,true=>[]|_,_=>[r.length=ak]
def qU (t:a7)(p:J)(r:List R)(I:aD):bS:=
 match t.jB,p with
 |true, .optr id i j=>
  (match cw I id,af.at I id with
  |false, .ar ak l=>
   (match Nat.ble (Nat.add j t.size) ak with
   |true=> .aZ (Qi (l.getD i.toNat []) j t.size ak) .un (cQ I id (false, .ar ak (l.set i.toNat (yP (l.getD i.toNat []) j t.size ak r))))
   |false=> .bad)
  |_,_=> .bad)
 |_,_=> .bad
def qN (t:a7)(id:Nat)(i:Int)(j:Nat)(v:J)(I:aD):bS:=
 match t with
 | .aB s=>
  (match cw I id,af.at I id,v.ha with
  |false, .ar ak l,true=> .aZ [] .un (cQ I id (false, .ar ak (l.set i.toNat ((l.getD i.toNat []).set j (J.hI I (s.norm I v))))))
  |_,_,_=> .bad)
 |_=> .bad
def uc (t:a7)(p v:J)(I:aD):bS:=
 match p with
 | .ptr id off=>
  match cw I id,af.at I id,v.fits t with
  |false, .cells l,true=>match Nat.ble (Nat.add off t.size) (bU l)with|true=> .aZ [] .un (cQ I id (false, .cells (setCells l off v.cellsOf)))|false=> .bad
  |_,_,_=> .bad
 | .optr id i j=>
  match cw I id,af.at I id,v.fits t with
  |false, .ad k l,true=>
   (match v with
   | .d (.int cy n)=>match jv k cy,Nat.beq j 0 with|true,true=> .aZ [] .un (cQ I id (false, .ad k (l.set i.toNat n)))|_,_=> .bad
   |_=> .bad)
  |false, .ar ak l,true=>
   match Nat.ble (Nat.add j t.size) ak,eg J.ha v.cellsOf with
   |true,true=> .aZ [] .un (cQ I id (false, .ar ak (l.set i.toNat (setRow (l.getD i.toNat []) j (bE (J.hI I) (t.norm I v).cellsOf)))))
   |_,_=> .bad
  |_,_,_=> .bad
 |_=> .bad
def pO (t:a7)(p v:J)(I:aD):bS:=
 match oV I t v with
 |some r=>qU t p r I
 |none=>(match p with| .oat id i j=>qN t id i j v I|_=>uc t p v I)
def cg.zero:cg->J
 | .int k=> .d (.int k 0)
 | .bool=> .d (.bool false)
 | .str=> .d (.str [])
 | .cu _=> .emp
 | .dB _=> .emp
 | .other=> .any
def cg.iU:cg->R
 | .int k=> .int k 0
 | .bool=> .bool false
 | .str=> .str []
 | .cu k=> .ad k []
 | .dB ak=> .ar ak []
 | .other=> .undef
def a7.zero:a7->List J
 | .aB s=>[s.zero]
 | .struct _ cs| .arr _ _ cs=>bE cg.zero cs
 | .no=>[]
def vX (bP:List (Nat×J))(place:Nat->Nat)(cells:List J):List J:=
 match bP with
 |[]=>cells
 |(i,v)::r=>vX r place (setCells cells (place i) v.cellsOf)
def fx (t:a7)(f:Nat):Nat:=
 match t with
 | .struct bY _=>(b8 (0,0, .no) bY f).1
 | .arr _ e _=>Nat.mul f e.size
 |_=>0
def kF (t:a7)(f:Nat):a7:=
 match t with
 | .struct bY _=>(b8 (0,0, .no) bY f).2.2
 |_=> .no
def placeOf (j:Nat)(n:Int):Nat:=match Nat.beq j 0 with|true=>n.toNat|false=>j+n.toNat
def o2 (t:a7)(x:J)(n:Int)(I:aD):bS:=
 match t with
 | .arr m (.aB _) _=>
  (match x with
  | .optr id a j=>
   (match af.at I id with
   | .ar ak _=>(match Nat.ble (Nat.add j m) ak with|true=> .aZ [0<=n,n<(m:Int)] (.oat id a (placeOf j n)) I|false=> .bad)
   |_=> .bad)
  | .rptr (.ar ak l) a j=>(match Nat.ble (Nat.add j m) ak with|true=> .aZ [0<=n,n<(m:Int)] (.rat (.ar ak l) a (placeOf j n)) I|false=> .bad)
  |_=> .bad)
 |_=> .bad
def qJ (t:a7)(x i:J)(I:aD):bS:=
 match i with
 | .d (.int _ n)=>
  match x with
  | .d a=>match gX t a with|true=> .aZ [0<=n,n<(a.len:Int)] (.rptr a n 0) I|false=> .bad
  | .vec id=>match jw t (af.at I id)with|true=> .aZ [0<=n,n<((af.at I id).len:Int)] (.optr id n 0) I|false=> .bad
  | .emp=> .aZ [False] .any I
  |x=>o2 t x n I
 |_=> .bad
def ym (t:a7)(x i:J)(I:aD):bS:=
 match i with
 | .d (.int _ n)=>
  match t,x with
  | .aB .str, .d (.str l)=> .aZ [0<=n,n<(l.length:Int)] (.d (.int .u8 (l.getD n.toNat 0))) I
  | .arr m (.aB s) _, .rw z r=>(match Nat.beq z m with|true=> .aZ [0<=n,n<(m:Int),s.p7 (r.getD n.toNat .undef)] (s.take (r.getD n.toNat .undef)) I|false=> .bad)
  |_,_=> .bad
 |_=> .bad
def uF (t:a7)(x:J)(I:aD):Option Nat:=
 match x with
 | .d (.str l)=>(match t with| .aB .str=>some l.length|_=>none)
 | .d (.ad _ l)=>match iz t with|true=>some l.length|false=>none
 | .d (.ar _ l)=>match iz t with|true=>some l.length|false=>none
 | .vec id=>match iz t with|true=>some (af.at I id).len|false=>none
 | .emp=>match iz t with|true=>some 0|false=>none
 |_=>none
def madeOf (t:b7)(n:Nat):af:=
 match t.ty with
 | .aB (.cu k)=> .ad k (List.replicate n 0)
 | .aB (.dB ak)=> .ar ak (List.replicate n (bE cg.iU t.fz))
 |_=> .gone
def wy (t:b7)(len cap:J)(I:aD):bS:=
 match len,cap with
 | .d (.int .i64 n), .d (.int .i64 c)=>
  match Nat.blt 0 t.bytes,iz t.ty with
  |true,true=> .aZ [0<=n,n<=c,c*t.bytes<=281474976710656] (.vec (bU I)) (eM I [(false,madeOf t n.toNat)])
  |_,_=> .bad
 |_,_=> .bad
def ma:Option J->Option (Option Int)
 |none=>some none
 |some (.d (.int _ n))=>some (some n)
 |_=>none
def kf {α:Type}(l:List α)(lo hi:Option Int):List α:=
 match lo,hi with
 |none,none=>l
 |some a,none=>l.drop a.toNat
 |none,some b=>l.take b.toNat
 |some a,some b=>(l.take b.toNat).drop a.toNat
def mj (n:Nat)(lo hi:Option Int):List Prop:=
 match lo,hi with
 |none,none=>[]
 |some a,none=>[0<=a,a<=(n:Int)]
 |none,some b=>[0<=b,b<=(n:Int)]
 |some a,some b=>[0<=a,a<=b,b<=(n:Int)]
def kE (t:a7)(x:J)(lo hi dn:Option J)(I:aD):bS:=
 match dn with
 |none=>
  match ma lo,ma hi with
  |some a,some b=>
   (match x with
   | .d (.ad k l)=>match gX t (.ad k l)with|true=> .aZ (mj l.length a b) (.d (.ad k (kf l a b))) I|false=> .bad
   | .d (.ar ak l)=>match gX t (.ar ak l)with|true=> .aZ (mj l.length a b) (.d (.ar ak (kf l a b))) I|false=> .bad
   | .d (.str l)=>(match t with| .aB .str=> .aZ (mj l.length a b) (.d (.str (kf l a b))) I|_=> .bad)
   | .vec id=>
    (match af.at I id with
    | .ad k l=>match gX t (.ad k l)with|true=> .aZ (mj l.length a b) (.d (.ad k (kf l a b))) (e5 I id)|false=> .bad
    | .ar ak l=>match gX t (.ar ak l)with|true=> .aZ (mj l.length a b) (.d (.ar ak (kf l a b))) (e5 I id)|false=> .bad
    |_=> .bad)
   | .emp=>match iz t with|true=> .aZ (mj 0 a b) .emp I|false=> .bad
   |_=> .bad)
  |_,_=> .bad
 |some (.d (.int _ (.ofNat 0)))=>
  match ma lo,ma hi,x with
  |some none,some (some (.ofNat 0)), .d a=>match gX t a with|true=> .aZ [] .emp I|false=> .bad
  |some (some (.ofNat 0)),some (some (.ofNat 0)), .d a=>match gX t a with|true=> .aZ [] .emp I|false=> .bad
  |_,_,_=> .bad
 |_=> .bad
def pP (t:a7)(x:J)(lo hi dn:Option J)(I:aD):bS:=
 match t,x,dn with
 | .arr m (.aB (.int k)) _, .optr id i j,none=>
  (match af.at I id,ma lo,ma hi with
  | .ar ak l,some a,some b=>
   (match Nat.ble (Nat.add j m) ak with
   |true=> .aZ (((l.getD i.toNat []).length=ak)::(∀x∈lu (l.getD i.toNat []) j m ak,x.dd k)::mj m a b) (.d (.ad k (kf ((lu (l.getD i.toNat []) j m ak).map R.toInt) a b))) (e5 I id)
   |false=> .bad)
  |_,_,_=> .bad)
 |_,_,_=> .bad
def sj (t:a7)(x:J)(lo hi dn:Option J)(I:aD):bS:=match t.HN with|true=>pP t x lo hi dn I|false=>kE t x lo hi dn I
def BU (t:b7)(x:J)(lo hi dn:Option J)(I:aD):bS:=
 match x,dn with
 | .vec id,none=>
  (match cw I id,af.at I id,jw t.ty (af.at I id),ma lo,ma hi with
  |false, .ar ak l,true,some none,some (some b)=> .aZ [0<=b,b<=(l.length:Int)] (.vec (bU I)) (eM (cQ I id (true, .dead l.length ak)) [(false, .ar ak (l.take b.toNat))])
  |false, .ar _ l,true,some (some a),some none=> .aZ [0<=a,a<(l.length:Int)] (.tail id a) I
  |_,_,_,_,_=> .bad)
 |_,_=> .bad
def um (t:b7)(x:J)(lo hi dn:Option J)(I:aD):bS:=match t.cut with|true=>BU t x lo hi dn I|false=>sj t.ty x lo hi dn I
def wg (t:b7)(x:J)(I:aD):bS:=
 match x with
 | .tail id a=>
  (match cw I id,af.at I id,jw t.ty (af.at I id)with
  |false, .ar ak l,true=> .aZ [] .any (cQ I id (false, .ar ak (l.take a.toNat++List.replicate (l.length-a.toNat) (bE cg.iU t.fz))))
  |_,_,_=> .bad)
 |_=> .bad
def sg (t:b7)(x y:J)(I:aD):bS:=
 match x,y with
 | .emp, .emp=>match iz t.ty with|true=> .aZ [] .emp I|false=> .bad
 | .emp, .d a=>
  match gX t.ty a with
  |true=>(match a with
   | .ad k l=> .aZ [(l.length:Int)*t.bytes<=70368744177664] (.vec (bU I)) (eM I [(false, .ad k l)])
   | .ar ak l=> .aZ [(l.length:Int)*t.bytes<=70368744177664] (.vec (bU I)) (eM I [(false, .ar ak l)])
   |_=> .bad)
  |false=> .bad
 | .vec id, .emp=>match jw t.ty (af.at I id)with|true=> .aZ [] (.vec id) I|false=> .bad
 | .vec id, .d a=>
  match gX t.ty a,cw I id with
  |true,false=>(match a,af.at I id with
   | .ad k l, .ad cy m=>(match jv k cy with
    |true=> .grow [((m.length:Int)+l.length)*t.bytes<=70368744177664] (.vec id) (cQ I id (false, .ad k (m++l))) id
    |false=> .bad)
   | .ar ak l, .ar h3 m=>(match Nat.beq ak h3 with
    |true=> .grow [((m.length:Int)+l.length)*t.bytes<=70368744177664] (.vec id) (cQ I id (false, .ar ak (m++l))) id
    |false=> .bad)
   |_,_=> .bad)
  |_,_=> .bad
 |_,_=> .bad
def sL (I:aD):J->J
 | .vec id=>(match af.at I id with| .ad k l=> .d (.ad k l)| .ar ak l=> .d (.ar ak l)|_=> .any)
 |v=>v
def ss (f:Int->Int->Int):Int->List J->Option Int
 |a,[]=>some a
 |a, .d (.int _ b)::r=>ss f (f a b) r
 |_,_=>none
def su (t:a7)(f:Nat):Bool:=
 match t with
 | .struct bY _=>Nat.blt f (bU bY)
 |_=>false
def kC (tb:TypeId->b7)(b:Builtin)(tys:List TypeId)(args:List J)(I:aD):bS:=
 match b,args with
 | .len,[x]=>
  match tys with
  |[]=> .bad
  |t::_=>
   match uF (tb t).ty x I with
   |some n=> .aZ [] (.d (.int .i64 n)) I
   |none=> .bad
 | .append,[x,y]=>match iz (tb (b8 0 tys 1)).ty,Nat.blt 0 (tb (b8 0 tys 0)).bytes,bU tys with|true,true,n=>(match Nat.beq n 2 with|true=>sg (tb (b8 0 tys 0)) x (sL I y) (lq I y)|false=> .bad)|_,_,_=> .bad
 | .max, .d (.int k a)::r=>
  match ss (fun x y=>if y>x then y else x) a r with
  |some m=> .aZ [] (.d (.int k m)) I
  |none=> .bad
 | .min, .d (.int k a)::r=>
  match ss (fun x y=>if y<x then y else x) a r with
  |some m=> .aZ [] (.d (.int k m)) I
  |none=> .bad
 | .clear,[x]=>(match tys with|[t]=>wg (tb t) x I|_=> .bad)
 |_,_=> .bad
def a7.ac5:a7->Bool
 | .struct ..=>true
 | .arr ..=>true
 |_=>false
def wz (t:a7):List (Nat×J)->Bool
 |[]=>true
 |(i,v)::r=>
  match t with
  | .struct bY cs=>(match Nat.blt i (bU bY),Nat.ble (Nat.add (fx t i) (kF t i).size) (bU cs),v.fits (kF t i)with|true,true,true=>wz t r|_,_,_=>false)
  | .arr n e cs=>(match Nat.blt i n,Nat.ble (Nat.add (fx t i) e.size) (bU cs),v.fits e with|true,true,true=>wz t r|_,_,_=>false)
  |_=>false
def oT (k:IntKind):Nat->List (Nat×J)->Option (List Int):=fun n bP=>go 0 n bP
  where
 go:Nat->Nat->List (Nat×J)->Option (List Int)
 |_,0,[]=>some []
 |i,n+1,(j, .d (.int cy x))::r=>
  match Nat.beq i j,jv k cy with
  |true,true=>(match go (Nat.succ i) n r with|some l=>some (x::l)|none=>none)
  |_,_=>none
 |_,_,_=>none
def hs (I:aD)(ak:Nat)(cs:List cg):Nat->List (Nat×J)->Option (List (List R)):=fun n bP=>go 0 n bP
  where
 go:Nat->Nat->List (Nat×J)->Option (List (List R))
 |_,0,[]=>some []
 |i,n+1,(j, .rw m x)::r=>
  match Nat.beq i j,Nat.beq m ak with
  |true,true=>(match go (Nat.succ i) n r with|some l=>some (x::l)|none=>none)
  |_,_=>none
 |i,n+1,(j,v)::r=>
  match Nat.beq i j,Nat.beq (bU v.cellsOf) ak,eg J.ha v.cellsOf with
  |true,true,true=>(match go (Nat.succ i) n r with|some l=>some (mi I cs v::l)|none=>none)
  |_,_,_=>none
 |_,_,_=>none
def sA (b:Bool)(ob:af)(I:aD):bS:=
 match b with
 |true=> .aZ [] (.d ob.data) I
 |false=> .aZ [] (.vec (bU I)) (eM I [(false,ob)])
def wU:J->Value
 | .d (.int k n)=> .int k n
 | .d (.bool b)=> .bool b
 | .bt=> .bool true
 | .bf=> .bool false
 |_=>undef
def uR:J->Value
 | .agg l=> .agg (bE wU l).toArray
 |v=>wU v
def w6:J->Bool
 | .d (.int _ _)=>true
 | .d (.bool _)=>true
 | .bt=>true
 | .bf=>true
 |_=>false
def xh:J->Bool
 | .agg l=>eg w6 l
 |v=>w6 v
def yE (fn:Fn)(first cap:List J)(I:aD):bS:=
 match fn,cap with
 | .func f,[]=>
  (match first with
  |[]=> .aZ [] (.fn f) I
  |l=>match eg xh l with|true=> .aZ [] (.cls f l) I|false=> .bad)
 |_,_=> .bad
def sv (v:J)(args:List J)(tys:List TypeId):bS:=
 match v with
 | .fn f=> .call f args tys
 | .cls f l=> .call f (eM l args) tys
 |_=> .bad
def yn (t:a7)(I:aD):bS:=
 match t.jB with
 |true=>(match Nat.blt 0 t.size with|true=> .aZ [] (.optr (bU I) 0 0) (eM I [(false, .ar t.size [bE cg.iU t.cells])])|false=> .bad)
 |false=>(match t with| .no=> .bad|ty=> .aZ [] (.ptr (bU I) 0) (eM I [(false, .cells ty.zero)]))
def yQ (t:a7)(v:J)(I:aD):bS:=
 match t.jB with
 |true=>(match oV I t v,Nat.blt 0 t.size with|some r,true=> .aZ [] (.optr (bU I) 0 0) (eM I [(false, .ar t.size [r])])|_,_=> .bad)
 |false=>(match eg J.nT v.cellsOf with|true=> .aZ [] (.ptr (bU I) 0) (eM I [(false, .cells v.cellsOf)])|false=> .bad)
def nZ (I:aD)(t:a7)(v:J):Option (List R):=
 match t with
 | .aB s=>(match v.ha with|true=>some [J.hI I (s.norm I v)]|false=>none)
 |t=>
  (match v with
  | .rw n r=>(match Nat.beq n t.size with|true=>some r|false=>none)
  | .agg l=>(match Nat.beq (bU l) t.size,eg J.ha l with|true,true=>some (mi I t.cells (.agg l))|_,_=>none)
  |_=>none)
def qV (I:aD)(cs:List cg)(bP:List (Nat×J)):Nat->List (Nat×Nat×a7)->Option (List R)
 |_,[]=>some []
 |k,f::r=>
  match(match fu k bP with|some v=>nZ I f.2.2 v|none=>some (bE cg.iU (kM (kL cs f.1) f.2.2.size))),qV I cs bP (Nat.succ k) r with
  |some x,some y=>some (match r with|[]=>x|_=>x++y)
  |_,_=>none
def sB:List (Nat×Nat×a7)->Nat->Nat->Bool
 |[],o,n=>Nat.beq o n
 |f::r,o,n=>match Nat.beq f.1 o,f.2.2 with|true, .no=>false|true,t=>sB r (Nat.add o t.size) n|false,_=>false
def Cs (n:Nat):List (Nat×J)->Bool
 |[]=>true
 |p::r=>match Nat.blt p.1 n,fu p.1 r with|true,none=>Cs n r|_,_=>false
def pQ (t:a7)(bP:List (Nat×J))(I:aD):bS:=
 match t.jB with
 |true=>
  (match t with
  | .struct bY cs=>
   (match sB bY 0 (bU cs),Cs (bU bY) bP,qV I cs bP 0 bY with
   |true,true,some r=> .aZ [] (.rw (bU cs) r) I
   |_,_,_=> .bad)
  | .arr _ _ cs=>(match bP with|[]=> .aZ [] (.rw (bU cs) (bE cg.iU cs)) I|_=> .bad)
  |_=> .bad)
 |false=>(match wz t bP,t.ac5 with|true,true=> .aZ [] (.agg (vX bP (fx t) t.zero)) I|_,_=> .bad)
def pR (t:a7)(f:Nat)(v:J)(I:aD):bS:=
 match su t f with
 |false=> .bad
 |true=>
  match v with
  | .agg l=>
   (match Nat.ble (Nat.add (fx t f) (kF t f).size) (bU l)with
   |true=> .aZ [] (match kF t f with| .aB _=>b8 .un l (fx t f)|t'=> .agg (kM (kL l (fx t f)) t'.size)) I
   |false=> .bad)
  | .rw n r=>
   (match Nat.ble (Nat.add (fx t f) (kF t f).size) n,Nat.beq n t.size with
   |true,true=>
    (match kF t f with
    | .aB s=> .aZ [s.p7 (r.getD (fx t f) .undef)] (s.take (r.getD (fx t f) .undef)) I
    |t'=>
     (match t'.jB with
     |true=> .aZ [] (.rw t'.size (lu r (fx t f) t'.size n)) I
     |false=> .aZ (mY t'.cells r (fx t f)).1 (.agg (mY t'.cells r (fx t f)).2) I))
   |_,_=> .bad)
  |_=> .bad
def p8 (op:BinOp)(t:a7)(x y:J)(I:aD):bS:=
 match t with
 | .arr _ (.aB (.int k)) _=>
  (match oV I t x,oV I t y with
  |some a,some b=>
   (match op with
   | .eql=> .aZ [∀x∈a,x.dd k,∀x∈b,x.dd k] (.d (.bool (decide (a.map R.toInt=b.map R.toInt)))) I
   | .neq=> .aZ [∀x∈a,x.dd k,∀x∈b,x.dd k] (.d (.bool (!decide (a.map R.toInt=b.map R.toInt)))) I
   |_=> .bad)
  |_,_=> .bad)
 |_=> .bad
def yR (op:BinOp)(t:a7)(dy:Operand)(x y:J)(I:aD):bS:=match t.HN with|true=>p8 op t x y I|false=>oU op t dy x y I
def jf (n:Nat)(r:List R):List Int:=(r.take n).map R.toInt
def mR (n:Nat):List (List R)->List Int->Bool
 |[],_=>false
 |r::l,k=>if jf n r=k then true else mR n l k
def du (n:Nat)(z:List R):List (List R)->List Int->List R
 |[],_=>z
 |r::l,k=>if jf n r=k then r.drop n else du n z l k
def mb (n:Nat)(key v:List R):List (List R)->List (List R)
 |[]=>[key++v]
 |r::l=>if jf n r=key.map R.toInt then(key++v)::l else r::mb n key v l
def kc (key:List R):Prop:=∀x∈key,x.dd .i64/\-9223372036854775808<=x.toInt/\x.toInt<=9223372036854775807
def pY:a7->List R
 | .aB s=>[s.iU]
 |t=>bE cg.iU t.cells
def CZ (t:a7)(r:List R):Option (List Prop×J):=
 match t with
 | .aB s=>some ([s.p7 (r.getD 0 .undef)],s.take (r.getD 0 .undef))
 | .struct _ cs=>(match t.jB with|false=>some ((mY cs r 0).1, .agg (mY cs r 0).2)|true=>none)
 |_=>none
def x3 (tb:TypeId->b7)(t:b7)(I:aD):bS:=
 match t.mp with
 |some (n,_,e)=> .aZ [] (.mp (bU I)) (eM I [(false, .map n (Nat.add n (tb e).ty.size) [])])
 |none=> .bad
def oM (tb:TypeId->b7)(t:b7)(m k:J)(c:Bool)(I:aD):bS:=
 match t.mp,m with
 |some (n,hE,e), .mp id=>
  (match af.at I id,oV I (tb hE).ty k with
  | .map n' ak l,some key=>
   (match Nat.beq n' n,Nat.beq ak (Nat.add n (tb e).ty.size),Nat.beq (tb hE).ty.size n,CZ (tb e).ty (du n (pY (tb e).ty) l (key.map R.toInt))with
   |true,true,true,some v=> .aZ (kc key::v.1) (match c with|true=> .tup [v.2, .d (.bool (mR n l (key.map R.toInt)))]|false=>v.2) I
   |_,_,_,_=> .bad)
  |_,_=> .bad)
 |_,_=> .bad
def sd (tb:TypeId->b7)(t:b7)(m k v:J)(I:aD):bS:=
 match t.mp,m with
 |some (n,hE,e), .mp id=>
  (match cw I id,af.at I id,oV I (tb hE).ty k,nZ I (tb e).ty v with
  |false, .map n' ak l,some key,some r=>
   (match Nat.beq n' n,Nat.beq ak (Nat.add n (tb e).ty.size),Nat.beq (tb hE).ty.size n with
   |true,true,true=> .aZ [kc key] .un (cQ I id (false, .map n ak (mb n key r l)))
   |_,_,_=> .bad)
  |_,_,_,_=> .bad)
 |_,_=> .bad
def a7.isAgg:a7->Bool
 | .aB _=>false
 |_=>true
def e0 (tb:TypeId->b7)(o:Oper)(tm:List J)(I:aD):bS:=
 match o.op with
 | .move x| .assign x=> .aZ [] (aY tm x) I
 | .pick c a b=>wx (aY tm c) (aY tm a) (aY tm b) I
 | .alloc t=>yn (tb t).ty I
 | .box t x=>yQ (tb t).ty (aY tm x) I
 | .build t bP=>pQ (tb t).ty (bE (fun p=>(p.1,aY tm p.2)) bP.toList) I
 | .buildSlice t n bP=>
  match(tb t).ty with
  | .aB (.cu k)=>
   (match oT k n (bE (fun p=>(p.1,aY tm p.2)) bP.toList),Nat.ble n 65536 with
   |some l,true=>sA (tb t).lit (.ad k l) I
   |_,_=> .bad)
  | .aB (.dB ak)=>
   (match hs I ak (tb t).fz n (bE (fun p=>(p.1,aY tm p.2)) bP.toList),Nat.ble (Nat.mul n ak) 65536 with
   |some l,true=>sA (tb t).lit (.ar ak l) I
   |_,_=> .bad)
  |_=> .bad
 | .load t p=>hR (tb t).ty (aY tm p) I
 | .store t p v=>pO (tb t).ty (aY tm p) (aY tm v) I
 | .nilCheck x=>
  match aY tm x with
  | .ptr i j=> .aZ [] (.ptr i j) I
  | .optr i a b=> .aZ [] (.optr i a b) I
  | .rptr a i b=> .aZ [] (.rptr a i b) I
  |_=> .bad
 | .binOp op t x y _=>yR op (tb t).ty y (aY tm x) (aY tm y) I
 | .unOp op _ x=>wT op (aY tm x) I
 | .convert src dst x=>nY (tb src).ty (tb dst).ty (aY tm x) I
 | .extract x i=>
  match aY tm x with
  | .tup l=>match Nat.blt i (bU l)with|true=> .aZ [] (b8 .any l i) I|false=> .bad
  |_=> .bad
 | .fieldAddr s x f=>
  match su (tb s).ty f with
  |false=> .bad
  |true=>
  match aY tm x with
  | .ptr id off=> .aZ [] (.ptr id (Nat.add off (fx (tb s).ty f))) I
  | .optr id i j=> .aZ [] (.optr id i (Nat.add j (fx (tb s).ty f))) I
  | .rptr a i j=> .aZ [] (.rptr a i (Nat.add j (fx (tb s).ty f))) I
  |_=> .bad
 | .field s x f=>pR (tb s).ty f (aY tm x) I
 | .indexAddr t x i=>qJ (tb t).ty (aY tm x) (aY tm i) I
 | .index t x i=>ym (tb t).ty (aY tm x) (aY tm i) I
 | .makeSlice t n c=>wy (tb t) (aY tm n) (aY tm c) I
 | .slice t x lo hi dn=>um (tb t) (aY tm x) (omap (aY tm) lo) (omap (aY tm) hi) (omap (aY tm) dn) I
 | .call c=>
  match c.callee with
  | .builtin b=>kC tb b c.argTypes.toList (bE (aY tm) c.args.toList) I
  | .value (.func f)=> .call f (bE (aY tm) c.args.toList) c.argTypes.toList
  | .value (.tmp t)=>sv (b8 .un tm t) (bE (aY tm) c.args.toList) c.argTypes.toList
  |_=> .bad
 | .makeFunc fn first cap=>yE fn (bE (aY tm) first.toList) (bE (aY tm) cap.toList) I
 | .makeMap t none=>x3 tb (tb t) I
 | .lookup t m k c=>oM tb (tb t) (aY tm m) (aY tm k) c I
 | .mapUpdate t m k v=>sd tb (tb t) (aY tm m) (aY tm k) (aY tm v) I
 | .panic _=> .aZ [False] .any I
 |_=> .bad
abbrev gw:=List J->aD->(J->aD->Prop)->Prop
structure e2 where
 tm:List J
 I:aD
def l7:List Oper->Nat->Option Tmp
 |[],_=>none
 |o::_,0=>o.dst
 |_::r,n+1=>l7 r n
def sM (i:b7)(n:Nat)(ps:List (Nat×J))(I:aD):Option af:=
 match i.ty with
 | .aB (.cu k)=>(match oT k n ps,Nat.ble n 65536 with|some l,true=>some (.ad k l)|_,_=>none)
 | .aB (.dB ak)=>(match hs I ak i.fz n ps,Nat.ble (Nat.mul n ak) 65536 with|some l,true=>some (.ar ak l)|_,_=>none)
 |_=>none
def p1 (tb:TypeId->b7)(o:Op):Bool:=
 match o with
 | .alloc _=>true
 | .buildSlice t _ _=> !(tb t).lit
 |_=>false
def cK (tb:TypeId->b7)(aJ:List (Tmp×Nat))(o:Oper)(tm:List J)(I:aD):bS:=
 match o.op,o.dst with
 | .alloc t,some d=>
  (match fu d aJ with
  |some id=>(match(tb t).ty.jB,(tb t).ty,cw I id with|false, .no,_=> .bad|false,_,true=> .bad|false,ty,false=> .aZ [] (.ptr id 0) (cQ I id (false, .cells ty.zero))|true,_,_=> .bad)
  |none=>e0 tb o tm I)
 | .buildSlice t n bP,some d=>
  (match(tb t).lit,fu d aJ with
  |false,some id=>(match sM (tb t) n (bE (fun p=>(p.1,aY tm p.2)) bP.toList) I,cw I id with|some ob,false=> .aZ [] (.vec id) (cQ I id (false,ob))|_,_=> .bad)
  |_,_=>e0 tb o tm I)
 |_,_=>e0 tb o tm I
def dw (tb:TypeId->b7)(bx:FuncId->gw)(aJ:List (Tmp×Nat))(all:List Oper):List Oper->List J->aD->(List J->aD->Prop)->Prop
 |[],tm,I,K=>K tm I
 |o::bM,tm,I,K=>
  let run (tm:List J):Prop:=
   match cK tb aJ o tm I with
   | .bad=>False
   | .aZ cd v aj=>gC cd (dw tb bx aJ all bM (put tm o.dst v) aj K)
   | .grow cd v aj id=>gC cd (dw tb bx aJ all bM (put (bE (ev id) tm) o.dst v) (gy id aj) K)
   | .fB p=>∀b:Bool,p b->dw tb bx aJ all bM (put tm o.dst (.d (.bool b))) I K
   | .call f args _=>bx f args I fun v aj=>dw tb bx aJ all bM (put tm o.dst v) aj K
  let skip (tm:List J):Prop:=dw tb bx aJ all bM (put tm o.dst .un) I K
  match o.guard with
  |none=>run tm
  |some (j,want)=>
   match l7 all j with
   |none=>skip tm
   |some g=>
    match b8 .un tm g with
    | .bt=>match want with|true=>run tm|false=>skip tm
    | .bf=>match want with|true=>skip tm|false=>run tm
    | .un=>skip tm
    | .d (.bool b)=>
     (b=true->match want with|true=>run (cQ tm g .bt)|false=>skip (cQ tm g .bt))/\
     (b=false->match want with|true=>skip (cQ tm g .bf)|false=>run (cQ tm g .bf))
    |_=>False
def fv (tb:TypeId->b7)(o:Op):Nat:=
 match o with
 | .move _| .assign _| .pick ..| .binOp ..| .unOp ..| .extract ..| .fieldAddr ..| .field ..| .nilCheck _| .index ..| .build ..| .makeFunc ..=>0
 | .load ..| .indexAddr ..| .lookup ..=>1
 | .convert s _ _=>(match(tb s).ty with| .aB (.int _)=>0|_=>1)
 | .store ..| .makeSlice ..| .alloc _| .slice ..| .mapUpdate ..=>2
 | .box ..=>2
 | .buildSlice t _ _=>(match(tb t).lit with|true=>0|false=>2)
 | .call c=>
  (match c.callee with
  | .builtin .len=>1
  | .builtin .max=>1
  | .builtin .min=>1
  | .value (.func _)=>2
  |_=>3)
 |_=>3
def A_:Operand->Bool
 | .const (.slice ..)=>true
 |_=>false
def oW (o:Op):Bool:=
 match o with
 | .binOp _ _ _ y _=>A_ y
 |_=>false
def qZ (t:Tmp):List Operand->Bool
 |[]=>false
 | .tmp u::r=>match Nat.beq u t with|true=>true|false=>qZ t r
 |_::r=>qZ t r
def fU:Option Tmp->Option Tmp->Bool
 |some a,some b=>Nat.beq a b
 |_,_=>false
def l8 (o:Oper):Option Tmp->Bool
 |some t=>qZ t o.op.operands.toList
 |none=>false
def p9 (a b:Nat):Bool:=
 match Nat.ble a 1,Nat.ble b 1 with
 |true,true=>true
 |true,false=>Nat.beq a 0&&Nat.beq b 2
 |false,true=>Nat.beq a 2&&Nat.beq b 0
 |false,false=>false
def iR (all:List Oper)(o:Oper):Option Tmp:=
 match o.guard with
 |none=>none
 |some (j,_)=>l7 all j
def mK (all:List Oper)(a i:Oper):Bool:=
 match iR all a with
 |none=>true
 |some g=> !fU (some g) i.dst&&(!qZ g i.op.operands.toList||fU (iR all i) (some g))
def p2 (tb:TypeId->b7)(a i:Oper):Bool:=
 p9 (fv tb a.op) (fv tb i.op)&& !oW a.op&& !oW i.op&& !fU a.dst i.dst&& !l8 i a.dst&& !l8 a i.dst
def J.jx:J->List Nat
 | .vec i=>[i]
 | .ptr i _=>[i]
 | .optr i _ _=>[i]
 | .oat i _ _=>[i]
 | .mp i=>[i]
 | .tail i _=>[i]
 |_=>[]
def sY:List J->List Nat
 |[]=>[]
 |v::r=>eM v.jx (sY r)
def J.aJ:J->List Nat
 | .agg l=>sY l
 |v=>v.jx
def gG:List J->List Nat
 |[]=>[]
 |v::r=>eM v.aJ (gG r)
structure gP where
 ok:Bool
 call:Bool
 r:List Nat
 w:List Nat
 ext:Bool
 soft:Bool
 DQ:Bool
def mS:gP:=⟨false,false,[],[],false,false,false⟩
def q9:J->Bool
 | .ptr _ _=>true
 |_=>false
def q_:J->Bool
 | .d (.int _ _)=>true
 |_=>false
def kH (tb:TypeId->b7)(o:Op)(tm:List J):Bool:=
 match o with
 | .load _ p=>q9 (aY tm p)
 | .fieldAddr _ x _=>q9 (aY tm x)
 | .buildSlice t _ bP=>(match(tb t).lit with|true=>eg (fun p=>q_ (aY tm p.2)) bP.toList|false=>false)
 |_=>false
def kG:List J->Bool
 |[.vec _, .d (.ad _ _)]=>true
 |[.vec _, .d (.ar _ _)]=>true
 |_=>false
def cA (tb:TypeId->b7)(data:FuncId->Nat)(aJ:List (Tmp×Nat))(n:Nat)(o:Oper)(tm:List J):gP:=
 match o.op with
 | .load _ p=>⟨true,false,(aY tm p).aJ,[],false,kH tb o.op tm,false⟩
 | .store _ p _=>⟨true,false,(aY tm p).aJ,(aY tm p).aJ,false,false,false⟩
 | .indexAddr _ x _=>⟨true,false,(aY tm x).aJ,[],false,false,false⟩
 | .slice t x _ _ _=>(match(tb t).cut with|true=>mS|false=>⟨true,false,(aY tm x).aJ,(aY tm x).aJ,false,false,false⟩)
 | .lookup _ m _ _=>⟨true,false,(aY tm m).aJ,[],false,false,false⟩
 | .mapUpdate _ m _ _=>⟨true,false,(aY tm m).aJ,(aY tm m).aJ,false,false,false⟩
 | .convert _ _ x=>⟨true,false,(aY tm x).aJ,[],false,false,false⟩
 | .alloc _=>(match o.dst with|some d=>(match fu d aJ with|some id=>⟨true,false,[id],[id],false,false,false⟩|none=>mS)|none=>mS)
 | .buildSlice t _ _=>(match(tb t).lit with|true=>⟨true,false,[],[],false,kH tb o.op tm,false⟩|false=>(match o.dst with|some d=>(match fu d aJ with|some id=>⟨true,false,[id],[id],false,false,false⟩|none=>mS)|none=>mS))
 | .call c=>
  (match c.callee with
  | .builtin .len=>⟨true,false,gG (bE (aY tm) c.args.toList),[],false,false,false⟩
  | .builtin .append=>⟨false,false,[],[],false,false,kG (bE (aY tm) c.args.toList)⟩
  | .value (.func f)=>(match data f with|1=>⟨true,true,gG (bE (aY tm) c.args.toList),gG (bE (aY tm) c.args.toList),false,false,false⟩|2=>⟨true,true,gG (bE (aY tm) c.args.toList),n::gG (bE (aY tm) c.args.toList),true,false,false⟩|_=>mS)
  |_=>mS)
 |o=>⟨Nat.beq (fv tb o) 0&& !oW o,false,[],[],false,kH tb o tm,false⟩
def qb (x:Nat):List Nat->Bool
 |[]=>false
 |y::r=>match Nat.beq x y with|true=>true|false=>qb x r
def uS:List Nat->List Nat->Bool
 |[],_=>true
 |x::r,l=>match qb x l with|true=>false|false=>uS r l
def sZ (a i:gP):Bool:=a.ok&&i.ok&& !(a.call&&i.call)&&uS a.w i.w&&uS a.w i.r&&uS i.w a.r
def uo (a i:Oper):Bool:= !fU a.dst i.dst&& !l8 i a.dst&& !l8 a i.dst
def bare (o:Oper):Bool:=
 match o.guard with
 |none=>true
 |some _=>false
def sk (a:Oper)(fX:gP)(i:Oper)(gS:gP):Bool:=fX.DQ&&gS.soft&&uo a i&&bare a&&bare i
def nr (tb:TypeId->b7)(all:List Oper)(a:Oper)(fX:gP)(i:Oper)(gS:gP):Bool:=mK all a i&&mK all i a&&uo a i&&(p2 tb a i||sZ fX gS)
def sC (tab:List Nat):List Edge->Nat
 |[]=>0
 |e::r=>match Region.binds .any e with|true=>Nat.lor (Nat.lor (Nat.pow 2 e.on) (b8 0 tab e.on)) (sC tab r)|false=>sC tab r
def uq:List Oper->List Nat->List Nat
 |[],acc=>acc
 |o::r,acc=>uq r (eM acc [sC acc o.after.toList])
def bit (tab:List Nat)(n m:Nat):Bool:=Nat.beq (Nat.land (Nat.shiftRight (b8 0 tab n) m) 1) 1
def sD (tb:TypeId->b7)(all:List Oper)(tab:List Nat)(n:Nat)(o:Oper)(f:gP)(p:Nat×Oper×gP):Bool:=
 (match Nat.blt p.1 n with|true=>bit tab n p.1|false=>bit tab p.1 n)||nr tb all p.2.1 p.2.2 o f||(match Nat.blt p.1 n with|true=>sk p.2.1 p.2.2 o f|false=>sk o f p.2.1 p.2.2)
def kV (tb:TypeId->b7)(all:List Oper)(tab:List Nat)(n:Nat)(o:Oper)(f:gP)(eZ:List (Nat×Oper×gP)):Bool:=eg (sD tb all tab n o f) eZ
def f_ (tb:TypeId->b7)(bx:FuncId->gw)(data:FuncId->Nat)(aJ:List (Tmp×Nat))(all:List Oper)(tab:List Nat):List (Nat×Oper×gP)->List (Nat×Oper)->List J->aD->(List J->aD->Prop)->Prop
 |_,[],tm,I,K=>K tm I
 |eZ,x::bM,tm,I,K=>
  match kV tb all tab x.1 x.2 (cA tb data aJ (bU I) x.2 tm) eZ with
  |false=>False
  |true=>dw tb bx aJ all [x.2] tm I fun dI aj=>f_ tb bx data aJ all tab ((x.1,x.2,cA tb data aJ (bU I) x.2 tm)::eZ) bM dI aj K
def oQ (tb:TypeId->b7):List Oper->List Tmp
 |[]=>[]
 |o::r=>match p1 tb o.op,o.guard,o.dst with|true,none,some d=>d::oQ tb r|_,_,_=>oQ tb r
def ud:List Tmp->Nat->List (Tmp×Nat)
 |[],_=>[]
 |d::r,n=>(d,n)::ud r (Nat.succ n)
def nW (d:Tmp):List Oper->Nat
 |[]=>0
 |o::r=>match fU (some d) o.dst with|true=>Nat.succ (nW d r)|false=>nW d r
def indexed:List Oper->Nat->List (Nat×Oper)
 |[],_=>[]
 |o::r,n=>(n,o)::indexed r (Nat.succ n)
def yF (tb:TypeId->b7)(ops:List Oper):Bool:=eg (fun x=>x.2.after.toList.all fun e=> !Region.binds .any e||Nat.blt e.on x.1) (indexed ops 0)&&eg (fun d=>Nat.beq (nW d ops) 1) (oQ tb ops)
inductive hd where
 |normal
 |exit (id:Nat)
 |goto (l:Nat)
 |ret
inductive vr:Type where
 |aB (s:cg)
 |agg (cs:List cg)
 |ao
inductive s6:Type where
 |ao
 |ad (k:IntKind)
 |ar (ak:Nat)
 |map (tA ak:Nat)
 |cells (cs:List cg)
structure Head where
 conv:List (Tmp×cg):=[]
 bN:List (Tmp×vr):=[]
 I:List s6:=[]
def cg.T:cg->Type
 | .int _=>Int
 | .bool=>Bool
 | .str=>List Int
 | .cu _=>List Int
 | .dB _=>List (List R)
 | .other=>R
def cg.mk:(s:cg)->s.T->J
 | .int k,x=> .d (.int k x)
 | .bool,x=> .d (.bool x)
 | .str,x=> .d (.str x)
 | .cu k,x=> .d (.ad k x)
 | .dB ak,x=> .d (.ar ak x)
 | .other,x=> .d x
def ds:List cg->Type
 |[]=>Unit
 |s::dK=>s.T×ds dK
def h4:List cg->Type->Type
 |[],α=>α
 |s::dK,α=>s.T->h4 dK α
def h4.app {α:Type}:(dK:List cg)->h4 dK α->ds dK->α
 |[],f,_=>f
 |_::dK,f,(x,r)=>h4.app dK (f x) r
def y3:(dK:List cg)->(ds dK->Prop)->Prop
 |[],f=>f ()
 |s::dK,f=>∀x:s.T,y3 dK fun r=>f (x,r)
def ds.append:(a b:List cg)->ds a->ds b->ds (eM a b)
 |[],_,_,y=>y
 |_::dK,b,(x,r),y=>(x,ds.append dK b r y)
def ds.left:(a b:List cg)->ds (eM a b)->ds a
 |[],_,_=>()
 |_::dK,b,(x,r)=>(x,ds.left dK b r)
def ds.right:(a b:List cg)->ds (eM a b)->ds b
 |[],_,r=>r
 |_::dK,b,(_,r)=>ds.right dK b r
def vr.ps:vr->List cg
 | .aB s=>[s]
 | .agg cs=>cs
 | .ao=>[]
def s6.ps:s6->List cg
 | .ao=>[]
 | .ad k=>[.cu k]
 | .ar ak=>[.dB ak]
 | .map _ ak=>[.dB ak]
 | .cells cs=>cs
def lx:List (Tmp×vr)->List cg
 |[]=>[]
 |(_,s)::r=>eM s.ps (lx r)
def kd:List s6->List cg
 |[]=>[]
 |s::r=>eM s.ps (kd r)
def Head.ps (h:Head):List cg:=eM (lx h.bN) (kd h.I)
def sw:(cs:List cg)->ds cs->List J
 |[],_=>[]
 |s::dK,(x,r)=>s.mk x::sw dK r
def cg.rj (I:aD):(s:cg)->J->(List Prop×s.T)
 | .int k, .d (.int cy n)=>(match jv k cy with|true=>[]|false=>[False],n)
 | .int _,_=>([False],(0:Int))
 | .bool, .d (.bool b)=>([],b)
 | .bool, .bt=>([],true)
 | .bool, .bf=>([],false)
 | .bool,_=>([False],false)
 | .str, .d (.str l)=>([],l)
 | .str,_=>([False],([]:List Int))
 | .cu k, .d (.ad cy l)=>(match jv k cy with|true=>[]|false=>[False],l)
 | .cu _, .emp=>([],([]:List Int))
 | .cu k, .vec id=>
  match af.at I id with
  | .ad cy l=>(match jv k cy,cw I id with|true,true=>[]|_,_=>[False],l)
  |_=>([False],([]:List Int))
 | .cu _,_=>([False],([]:List Int))
 | .dB ak, .d (.ar h3 l)=>(match Nat.beq ak h3 with|true=>[]|false=>[False],l)
 | .dB _, .emp=>([],([]:List (List R)))
 | .dB ak, .vec id=>
  match af.at I id with
  | .ar h3 l=>(match Nat.beq ak h3,cw I id with|true,true=>[]|_,_=>[False],l)
  |_=>([False],([]:List (List R)))
 | .dB _,_=>([False],([]:List (List R)))
 | .other, .d x=>([],x)
 | .other,_=>([False],R.undef)
def x_ (I:aD):(cs:List cg)->List J->(ds cs->Prop)->Prop
 |[],[],k=>k ()
 |s::dK,v::aH,k=>gC (s.rj I v).1 (x_ I dK aH fun h=>k ((s.rj I v).2,h))
 |_,_,_=>False
def J.uz:J->J->Bool
 | .vec a, .vec b=>Nat.beq a b
 | .ptr a x, .ptr b y=>Nat.beq a b&&Nat.beq x y
 | .optr a (.ofNat 0) x, .optr b (.ofNat 0) y=>Nat.beq a b&&Nat.beq x y
 | .mp a, .mp b=>Nat.beq a b
 | .emp, .emp=>true
 | .w5, .w5=>true
 | .bt, .bt=>true
 | .bf, .bf=>true
 | .fn f, .fn g=>Nat.beq f g
 |_,_=>false
def Code.eH:Code->Tmp->Bool
 | .region _ ops _,t=>ops.toList.any fun o=>match o.dst with|some d=>Nat.beq d t|none=>false
 | .seq a b,t=>Code.eH a t||Code.eH b t
 | .cond _ a b,t=>Code.eH a t||Code.eH b t
 | .block _ c,t=>Code.eH c t
 | .loop c,t=>Code.eH c t
 | .scope c,t=>Code.eH c t
 | .rangeFunc ..,_=>true
 |_,_=>false
def J.ra:J->Bool
 | .d _=>true
 | .bt=>true
 | .bf=>true
 | .emp=>true
 | .w5=>true
 | .fn _=>true
 | .rptr ..=>true
 | .cls ..=>true
 | .un=>true
 | .any=>true
 |_=>false
def J.plain:J->Bool
 | .agg l=>eg J.ra l
 | .rw _ _=>true
 |v=>v.ra
def J.n5 (n:Nat):J->Bool
 | .vec i=>Nat.blt i n
 | .ptr i _=>Nat.blt i n
 | .optr i _ _=>Nat.blt i n
 | .oat i _ _=>Nat.blt i n
 | .mp i=>Nat.blt i n
 | .tail i _=>Nat.blt i n
 | .agg _=>false
 | .tup _=>false
 |_=>true
def J.under (n:Nat):J->Bool
 | .agg l=>eg (J.n5 n) l
 |v=>v.n5 n
def af.under (n:Nat):af->Bool
 | .cells l=>eg (J.n5 n) l
 |_=>true
def Rb (n:Nat)(w:Bool)(v0 v:J):Bool:=
 match v0.under n with
 |false=>false
 |true=>
  match w,v0.plain with
  |false,true=>true
  |_,_=>v.uz v0
def sh (n:Nat)(w:Tmp->Bool)(I:aD)(dG:List J):(dK:List (Tmp×vr))->List J->(ds (lx dK)->Prop)->Prop
 |[],_,k=>k ()
 |(t, .aB s)::r,tm,k=>gC (s.rj I (b8 .un tm t)).1 (sh n w I dG r tm fun h=>k ((s.rj I (b8 .un tm t)).2,h))
 |(t, .agg cs)::r,tm,k=>
  match b8 .un tm t with
  | .agg aH=>x_ I cs aH fun a=>sh n w I dG r tm fun h=>k (ds.append cs (lx r) a h)
  |_=>False
 |(t, .ao)::r,tm,k=>match Rb n (w t) (b8 .un dG t) (b8 .un tm t)with|true=>sh n w I dG r tm k|false=>False
def n0 (n:Nat)(dY:aD):(os:List s6)->Nat->aD->(ds (kd os)->Prop)->Prop
 |[],_,_,k=>k ()
 | .ao::r,i,I,k=>match(b8 (true, .gone) dY i).2.under n with|true=>b8 (true, .gone) I i=b8 (true, .gone) dY i/\n0 n dY r (Nat.succ i) I k|false=>False
 | .ad k4::r,i,I,k=>
  match b8 (true, .gone) I i with
  |(false, .ad a6 l)=>match jv k4 a6 with|true=>n0 n dY r (Nat.succ i) I fun h=>k (l,h)|false=>False
  |_=>False
 | .ar AA::r,i,I,k=>
  match b8 (true, .gone) I i with
  |(false, .ar s1 l)=>match Nat.beq AA s1 with|true=>n0 n dY r (Nat.succ i) I fun h=>k (l,h)|false=>False
  |_=>False
 | .map FQ AA::r,i,I,k=>
  match b8 (true, .gone) I i with
  |(false, .map e9 s1 l)=>match Nat.beq FQ e9,Nat.beq AA s1 with|true,true=>n0 n dY r (Nat.succ i) I fun h=>k (l,h)|_,_=>False
  |_=>False
 | .cells cs::r,i,I,k=>
  match b8 (true, .gone) I i with
  |(false, .cells aH)=>x_ I cs aH fun a=>n0 n dY r (Nat.succ i) I fun h=>k (ds.append cs (kd r) a h)
  |_=>False
def pS (w:Tmp->Bool)(h:Head)(xK S:e2)(k:ds h.ps->Prop):Prop:=
 sh (bU h.I) w S.I xK.tm h.bN S.tm fun a=>n0 (bU h.I) xK.I h.I 0 S.I fun b=>k (ds.append (lx h.bN) (kd h.I) a b)
def ur (dG:List J):(dK:List (Tmp×vr))->ds (lx dK)->List J->List J
 |[],_,tm=>tm
 |(t, .aB s)::r,(x,h),tm=>cQ (ur dG r h tm) t (s.mk x)
 |(t, .agg cs)::r,h,tm=>cQ (ur dG r (ds.right cs (lx r) h) tm) t (.agg (sw cs (ds.left cs (lx r) h)))
 |(t, .ao)::r,h,tm=>cQ (ur dG r h tm) t (b8 .un dG t)
def ml (dY:aD):(os:List s6)->Nat->ds (kd os)->aD
 |[],_,_=>[]
 | .ao::r,i,h=>b8 (true, .gone) dY i::ml dY r (Nat.succ i) h
 | .ad k::r,i,(x,h)=>(false, .ad k x)::ml dY r (Nat.succ i) h
 | .ar ak::r,i,(x,h)=>(false, .ar ak x)::ml dY r (Nat.succ i) h
 | .map n ak::r,i,(x,h)=>(false, .map n ak x)::ml dY r (Nat.succ i) h
 | .cells cs::r,i,h=>(false, .cells (sw cs (ds.left cs (kd r) h)))::ml dY r (Nat.succ i) (ds.right cs (kd r) h)
def ly (h:Head)(xK:e2)(x:ds h.ps):e2:=
 ⟨ur xK.tm h.bN (ds.left (lx h.bN) (kd h.I) x) (uQ .any (bU xK.tm)),ml xK.I h.I 0 (ds.right (lx h.bN) (kd h.I) x)⟩
def uu:cg->af
 | .cu k=> .ad k []
 | .dB ak=> .ar ak []
 |_=> .gone
def iA:List (Tmp×cg)->e2->e2
 |[],S=>S
 |(t,s)::r,S=>
  match b8 .un S.tm t,s with
  | .vec id, .other=>iA r ⟨S.tm,e5 S.I id⟩
  |_, .other=>iA r S
  | .emp,s=>iA r ⟨cQ S.tm t (.vec (bU S.I)),eM S.I [(false,uu s)]⟩
  |_,_=>iA r S
def mO:List (Tmp×cg)->e2->e2
 |[],S=>S
 |(t,s)::r,S=>
  match b8 .un S.tm t,s with
  | .vec id, .other=>mO r ⟨S.tm,e5 S.I id⟩
  |_,_=>mO r S
def oX:TypeDesc->Bool
 | .struct _=>true
 | .array _ _=>true
 |_=>false
def yS:cg->Value->Bool
 | .int k, .int cy n=>jv k cy&&(match n with| .ofNat 0=>true|_=>false)
 | .bool, .bool false=>true
 | .str, .string s=>Nat.beq s.data.size 0
 | .cu _, .slice none 0 0=>true
 | .dB _, .slice none 0 0=>true
 | .other,v=>v.oneCell'
 |_,_=>false
def mP:List cg->List Value->Bool
 |[],[]=>true
 |s::dK,v::aH=>yS s v&&mP dK aH
 |_,_=>false
def nw (z:Option Value)(cs:List cg):Bool:=match z with|some v=>mP cs v.cells.toList|none=>false
def IJ (k:IntKind):Option Value->Bool
 |some (.int cy (.ofNat 0))=>jv k cy
 |_=>false
def C0 (P:Program)(t:TypeId):Bool:=match P.underlying t with|some d=>oX d|none=>true
def pT (P:Program):List (Nat×Nat×a7)->List Field->Bool
 |[],[]=>true
 |(o,n,t)::r,f::bY=>Nat.beq o f.offset&&Nat.beq n (P.cellsOf f.type)&&Nat.beq t.size n&&Nat.blt 0 n&&(P.info? f.type).isSome&&(P.underlying f.type).isSome&&(C0 P f.type==t.isAgg)&&pT P r bY
 |_,_=>false
def c1 (P:Program)(t:TypeId)(i:b7):Bool:=
 match i.ty,P.info? t,P.underlying t with
 | .no,_,_=>true
 | .aB (.int k),some f,some (.int cy)=>jv k cy&&Nat.beq f.size 1&&nw f.zero [.int k]
 | .aB .bool,some f,some .bool=>Nat.beq f.size 1&&nw f.zero [.bool]
 | .aB .str,some f,some .string=>Nat.beq f.size 1&&nw f.zero [.str]
 | .aB (.cu k),some f,some (.slice e)=>Nat.beq f.size 1&&nw f.zero [.cu k]&&Nat.beq e i.elem&&
  (match P.info? e,P.underlying e with
  |some g,some (.int cy)=>jv k cy&&Nat.beq g.size 1&&Nat.beq g.bytes i.bytes&&IJ k g.zero
  |_,_=>false)
 | .aB (.dB ak),some f,some (.slice e)=>Nat.beq f.size 1&&nw f.zero [.dB ak]&&Nat.beq e i.elem&&Nat.blt 0 ak&&Nat.beq (bU i.fz) ak&&
  (match P.info? e,P.underlying e with
  |some g,some d=>Nat.beq g.size ak&&Nat.beq g.bytes i.bytes&&nw g.zero i.fz&&(match d with| .int _=>false|_=>true)
  |_,_=>false)
 | .aB .other,some f,some d=> !oX d&&Nat.beq f.size 1&&nw f.zero [.other]
 | .struct bY cs,some f,some (.struct a)=>Nat.beq f.size (bU cs)&&nw f.zero cs&&pT P bY a.toList
 | .arr n e cs,some f,some (.array m el)=>Nat.beq n m&&Nat.beq f.size (bU cs)&&nw f.zero cs&&Nat.beq (P.cellsOf el) e.size&&Nat.blt 0 e.size&&(P.info? el).isSome&&(P.underlying el).isSome&&(C0 P el==e.isAgg)
 |_,_,_=>false
def uG:a7->Bool
 | .aB _=>true
 | .struct _ cs=>(match Nat.blt 8 (bU cs),Nat.beq (bU cs) 1 with|false,false=>true|_,_=>false)
 |_=>false
def IK:a7->Option Value->Bool
 | .aB s,some v=>yS s v
 | .struct _ cs,some (.agg aH)=>mP cs aH.toList
 |_,_=>false
def sE (P:Program)(tb:TypeId->b7)(t:TypeId):Bool:=
 match(tb t).mp with
 |none=>true
 |some (n,hE,e)=>
  match P.underlying t,P.underlying hE with
  |some (.map k v),some (.array m q)=>Nat.beq k hE&&Nat.beq v e&&Nat.beq m n&&Nat.beq (P.cellsOf q) 1&&Nat.beq (P.cellsOf hE) n&&(match P.underlying q with|some (.int .i64)=>true|_=>false)&&Nat.blt 0 P.types.size&&Nat.blt 0 (tb e).ty.size&&uG (tb e).ty&&(match P.info? e with|some g=>IK (tb e).ty g.zero|none=>false)
  |_,_=>false
def yT (P:Program)(i:b7)(t:TypeId):Bool:=
 match i.ty with
 | .arr n (.aB (.int k)) cs=>
  (match P.underlying t,Nat.beq (bU cs) n with
  |some (.array _ q),true=>(match P.underlying q with|some (.int cy)=>jv k cy|_=>false)
  |_,_=>false)
 |_=>true
def pZ (P:Program)(tb:TypeId->b7)(t:TypeId):Bool:=match sE P tb t with|true=>yT P (tb t) t|false=>false
structure bw where
 tys:List (Nat×b7)
 cons:List (Nat×gw)
 uH:List (Nat×Head)
 meets:List (Nat×Head)
 data:List Nat:=[]
 fresh:List Nat:=[]
def bw.kind (E:bw)(f:FuncId):Nat:=match qb f E.data with|true=>1|false=>(match qb f E.fresh with|true=>2|false=>0)
def bw.tb (E:bw)(t:TypeId):b7:=match fu t E.tys with|some i=>i|none=>{ty:= .no}
def RR:gw:=fun _ _ _=>False
def bw.bx (E:bw)(f:FuncId):gw:=match fu f E.cons with|some c=>c|none=>RR
def bw.loops (E:bw)(b:Nat):Head:=match fu b E.uH with|some h=>h|none=>{}
def bw.RS (E:bw)(t:Tmp):Option Head:=fu t E.meets
def HO:Code->Option Tmp
 | .cond (.tmp t) _ _=>some t
 | .seq _ b=>HO b
 | .block id _=>some (Nat.add 100000 id)
 |_=>none
def Rc (j:Tmp->Option Head):Option Tmp->Option Head
 |none=>none
 |some t=>j t
def gQ (E:bw):Code->Nat->e2->(hd->e2->Prop)->Prop
 | .skip,_,S,K=>K .normal S
 | .label _,_,S,K=>K .normal S
 | .region _ ops draw,_,S,K=>
  match draw with
  |false=>dw E.tb E.bx [] ops.toList ops.toList S.tm S.I fun tm I=>K .normal ⟨tm,I⟩
  |true=>
   (match yF E.tb ops.toList with
   |true=>f_ E.tb E.bx E.kind (ud (oQ E.tb ops.toList) (bU S.I)) ops.toList (uq ops.toList []) [] (indexed ops.toList 0) S.tm (eM S.I (uQ (false, .gone) (bU (oQ E.tb ops.toList)))) fun tm I=>K .normal ⟨tm,I⟩
   |false=>False)
 | .seq a b,bu,S,K=>
  match Rc E.RS (HO a)with
  |none=>gQ E a bu S fun e S'=>match e with| .normal=>gQ E b bu S' K|e=>K e S'
  |some h=>
   let e_:=iA h.conv S
   ∃bm:h4 h.ps Prop,
    gQ E a bu e_ (fun e S'=>match e with| .normal=>pS (Code.eH a) h e_ (mO h.conv S') (h4.app h.ps bm)|e=>K e S')/\
    y3 h.ps fun x=>h4.app h.ps bm x->gQ E b bu (ly h e_ x) K
 | .cond c a b,bu,S,K=>
  match aY S.tm c with
  | .bt=>gQ E a bu S K
  | .bf=>gQ E b bu S K
  | .d (.bool x)=>
   (match c with
   | .tmp t=>(x=true->gQ E a bu ⟨cQ S.tm t .bt,S.I⟩ K)/\(x=false->gQ E b bu ⟨cQ S.tm t .bf,S.I⟩ K)
   |_=>False)
  |_=>False
 | .block id c,_,S,K=>gQ E c id S fun e S'=>match e with| .exit i=>(match Nat.beq i id with|true=>K .normal S'|false=>K (.exit i) S')|e=>K e S'
 | .loop c,bu,S,K=>
  let h:=E.loops bu
  let e_:=iA h.conv S
  ∃aK:h4 h.ps Prop,∃m:h4 h.ps Nat,pS (fun _=>false) h e_ e_ (h4.app h.ps aK)/\
   y3 h.ps fun x=>h4.app h.ps aK x->gQ E c bu (ly h e_ x) fun e S'=>
    match e with
    | .normal=>pS (Code.eH c) h e_ (mO h.conv S') fun y=>h4.app h.ps aK y/\h4.app h.ps m y<h4.app h.ps m x
    |e=>K e S'
 | .exit id,_,S,K=>K (.exit id) S
 | .goto l,_,S,K=>K (.goto l) S
 | .ret,_,S,K=>K .ret S
 | .scope c,bu,S,K=>gQ E c bu S fun e S'=>match e with| .goto _=>False|e=>K e S'
 | .refuse _,_,_,_=>False
 | .rangeFunc ..,_,_,_=>False
def gO (tb:TypeId->b7)(tm:List J)(I:aD):List ResultVar->List J
 |[]=>[]
 | .tmp t::r=>b8 .un tm t::gO tb tm I r
 | .cell a t::r=>(match hR (tb t).ty (b8 .un tm a) I with| .aZ _ v _=>v|_=> .any)::gO tb tm I r
def jS (tb:TypeId->b7)(tm:List J)(I:aD):List ResultVar->List Prop
 |[]=>[]
 | .tmp _::r=>jS tb tm I r
 | .cell a t::r=>(match hR (tb t).ty (b8 .un tm a) I with| .aZ s _ _=>eM s (jS tb tm I r)|_=>jS tb tm I r)
def q0 (tb:TypeId->b7)(tm:List J)(I:aD):List ResultVar->Bool
 |[]=>true
 | .tmp _::r=>q0 tb tm I r
 | .cell a t::r=>match b8 .un tm a,hR (tb t).ty (b8 .un tm a) I with| .ptr _ _, .aZ [] _ _=>q0 tb tm I r|_,_=>false
def lj (tb:TypeId->b7)(tm:List J)(I:aD):List ResultVar->Bool
 |[]=>true
 | .tmp _::r=>lj tb tm I r
 | .cell a t::r=>match b8 .un tm a,hR (tb t).ty (b8 .un tm a) I with| .ptr _ _, .aZ _ _ _=>lj tb tm I r| .optr _ _ _, .aZ _ _ _=>lj tb tm I r|_,_=>false
def one:List J->J
 |[x]=>x
 |l=> .tup l
def mQ (E:bw)(ntmps:Nat)(results:List ResultVar)(c:Code)(args:List J)(I:aD)(K:J->aD->Prop):Prop:=
 gQ E c 1000000 ⟨pad ntmps args,I⟩ fun e S=>
  match e with
  | .normal| .ret=>(match lj E.tb S.tm S.I results with|true=>gC (jS E.tb S.tm S.I results) (K (one (gO E.tb S.tm S.I results)) S.I)|false=>False)
  |_=>False
def a7.eU (I:aD):List a7->List J->List J
 |t::ts,v::aH=>t.norm I v::a7.eU I ts aH
 |_,_=>[]
def mc (I:aD)(ts:List a7)(v:J):J:=
 match ts,v with
 |[t],v=>t.norm I v
 |ts, .tup aH=> .tup (a7.eU I ts aH)
 |_,v=>v
end Go.al
end
section
namespace Go.al
theorem cG {α:Type}(l:List α):bU l=l.length:=by induction l<;>simp_all [bU]
theorem dT {α:Type}(d:α):∀(l:List α) (i:Nat),b8 d l i=l.getD i d
 |[],i=>by simp[b8]
 |x::r,0=>by simp[b8]
 |x::r,n+1=>by simp[b8,dT d r n]
theorem eI {α:Type}:∀(l:List α) (i:Nat) (v:α),cQ l i v=l.set i v
 |[],i,v=>by simp[cQ]
 |x::r,0,v=>by simp[cQ]
 |x::r,n+1,v=>by simp[cQ,eI r n v]
theorem dM {α β:Type}(f:α->β)(l:List α):bE f l=l.map f:=by induction l<;>simp_all [bE]
theorem fV {α:Type}(a b:List α):eM a b=a++b:=by induction a<;>simp_all [eM]
theorem lk {α:Type}:∀(l:List α) (n:Nat),kL l n=l.drop n
 |l,0=>by simp[kL]
 |[],n+1=>by simp[kL]
 |x::r,n+1=>by simp[kL,lk r n]
theorem ll {α:Type}:∀(l:List α) (n:Nat),kM l n=l.take n
 |l,0=>by simp[kM]
 |[],n+1=>by simp[kM]
 |x::r,n+1=>by simp[kM,ll r n]
theorem HP {α:Type}(v:α)(n:Nat):uQ v n=List.replicate n v:=by induction n<;>simp_all [uQ,List.replicate]
theorem sF:∀(n:Nat) (l:List J),pad n l=l++List.replicate (n-l.length) .un
 |0,l=>by simp[pad]
 |n+1,[]=>by simp[pad,sF n [],List.replicate]
 |n+1,v::r=>by simp[pad,sF n r,Nat.add_sub_add_right]
theorem eu {α:Type}(l:List α)(i j:Nat)(v d:α):(l.set i v).getD j d=if i=j/\i<l.length then v else l.getD j d:=by
 simp only[aoA,apj]
 by_cases h:i=j
 ·subst h
  by_cases ax:i<l.length<;>simp[ax]
 ·simp[h]
theorem fy {α:Type}(f:α->Bool)(l:List α):eg f l=l.all f:=by
 induction l with
 |nil=>rfl
 |cons x r bF=>simp only[eg,aqb];cases f x<;>simp[bF]
theorem gY (ps:List Prop)(q:Prop):gC ps q↔(∀p∈ps,p)/\q:=by
 induction ps with
 |nil=>simp[gC]
 |cons p r bF=>rw[gC,bF,List.forall_mem_cons,and_assoc]
theorem v7 {ps:List Prop}{q nH:Prop}(h:q->nH):gC ps q->gC ps nH:=by
 rw[gY,gY];exact fun⟨a,b⟩=>⟨a,h b⟩
structure Loc where
 a:Option Addr
 cap:Nat
 bu:Option Nat
inductive bB (Z:Nat->Prop) (w:World):R->Value->Prop
 |int (k:IntKind) (n:Int):bB Z w (.int k n) (.int k n)
 |bool (b:Bool):bB Z w (.bool b) (.bool b)
 |str (s:ByteArray) (l:List Int) (h:l=s.data.toList.map fun b=>(b.toNat:Int)):bB Z w (.str l) (.string s)
 |jg (a:Option Addr) (cap:Nat) (k:IntKind):bB Z w (.ad k []) (.slice a 0 cap)
 |ad (k:IntKind) (l:List Int) (n b off cap:Nat) (av:l.length=n) (bq:¬Z b) (aC:n<=cap)
  (h:∀i,i<n->w.cell? ⟨b,off+i,none⟩=some (.int k (l.getD i 0))):
  bB Z w (.ad k l) (.slice (some ⟨b,off,none⟩) n cap)
 |kN (a:Option Addr) (cap:Nat) (ak:Nat):bB Z w (.ar ak []) (.slice a 0 cap)
 |ar (ak:Nat) (l:List (List R)) (n b off cap:Nat) (u:Nat->Nat->Value) (av:l.length=n) (cq:0<ak) (bq:¬Z b) (aC:n<=cap)
  (h:∀i j,i<n->j<ak->w.cell? ⟨b,off+i*ak+j,none⟩=some (u i j))
  (an:∀i j,i<n->j<ak->bB Z w ((l.getD i []).getD j .undef) (u i j)):
  bB Z w (.ar ak l) (.slice (some ⟨b,off,none⟩) n cap)
 |undef (v:Value) (h:v.oneCell'=true):bB Z w .undef v
theorem bB.one {Z:Nat->Prop}{w:World}{x:R}{v:Value}(h:bB Z w x v):v.oneCell'=true:=by
 cases h<;>first|rfl|assumption
theorem O6 {w:World}{b o:Nat}{v:Value}(h:w.cell? ⟨b,o,none⟩=some v):b<w.heap.size:=World.block_lt_of_cell? w _ h
theorem bB.mono {Z Z':Nat->Prop}{w w':World}{x:R}{v:Value}(h:bB Z w x v)
 (key:∀b,b<w.heap.size->¬Z b->w'.heap[b]? =w.heap[b]? /\¬Z' b):bB Z' w' x v:=by
 induction h with
 |int k n=>exact .int k n
 |bool b=>exact .bool b
 |str s l h=>exact .str s l h
 |jg a cap k=>exact .jg a cap k
 |ad k l n b off cap av bq aC hf=>
  cases l with
  |nil=>subst av;exact .jg _ _ _
  |cons y r=>
   have bG:b<w.heap.size:=O6 (hf 0 (by rw[<-av];simp));refine .ad k _ n b off cap av (key b bG bq).2 aC fun i hi=> ?_;rw[World.cell?_of_block (w:=w) (w':=w') (a:=⟨b,off+i,none⟩) (key b bG bq).1];exact hf i hi
 |kN a cap ak=>exact .kN a cap ak
 |ar ak l n b off cap u av cq bq aC hf an bF=>
  cases l with
  |nil=>subst av;exact .kN _ _ _
  |cons y r=>
   have bG:b<w.heap.size:=O6 (hf 0 0 (by rw[<-av];simp) cq);refine .ar _ _ n b off cap u av cq (key b bG bq).2 aC (fun i j hi aI=> ?_) bF;rw[World.cell?_of_block (w:=w) (w':=w') (a:=⟨b,off+i*ak+j,none⟩) (key b bG bq).1];exact hf i j hi aI
 |undef v h=>exact .undef v h
def gz (ρ:List Loc)(I:aD)(b:Nat):Prop:=∃i aw,ρ[i]? =some aw/\aw.bu=some b/\cw I i=false
def aN (N:Nat->Prop)(ρ:List Loc)(I:aD)(b:Nat):Prop:=N b\/gz ρ I b
def eD (Z:Nat->Prop)(w:World)(ρ:List Loc)(I:aD):J->Value->Prop
 | .d x,v=>bB Z w x v
 | .bt,v=>v= .bool true
 | .bf,v=>v= .bool false
 | .emp,v=>∃a,v= .slice a 0 0
 | .vec id,v=>∃aw,ρ[id]? =some aw/\v= .slice aw.a (af.at I id).len aw.cap/\(aw.a=none->aw.cap=0)
 | .ptr id off,v=>∃aw b,ρ[id]? =some aw/\aw.a=some ⟨b,0,none⟩/\aw.bu=some b/\v= .pointer (some ⟨b,off,none⟩)
 | .optr id i j,v=>∃aw b,ρ[id]? =some aw/\aw.a=some ⟨b,0,none⟩/\aw.bu=some b/\
  v= .pointer (some ⟨b,i.toNat*(af.at I id).cJ+j,none⟩)/\0<=i/\i<((af.at I id).len:Int)
 | .rptr x i j,v=>∃b off cap,bB Z w x (.slice (some ⟨b,off,none⟩) x.len cap)/\0<=i/\i<(x.len:Int)/\
  v= .pointer (some ⟨b,off+i.toNat*x.cJ+j,none⟩)
 | .oat id i j,v=>∃aw b,ρ[id]? =some aw/\aw.a=some ⟨b,0,none⟩/\aw.bu=some b/\
  v= .pointer (some ⟨b,i.toNat*(af.at I id).cJ+j,none⟩)/\0<=i/\i<((af.at I id).len:Int)/\j<(af.at I id).cJ
 | .rat x i j,v=>∃b off cap,bB Z w x (.slice (some ⟨b,off,none⟩) x.len cap)/\0<=i/\i<(x.len:Int)/\j<x.cJ/\
  v= .pointer (some ⟨b,off+i.toNat*x.cJ+j,none⟩)
 | .mp id,v=>∃aw b,ρ[id]? =some aw/\aw.bu=some b/\v= .map (some b)
 | .tail id i,v=>∃aw b,ρ[id]? =some aw/\aw.a=some ⟨b,0,none⟩/\aw.bu=some b/\
  v= .slice (some ⟨b,i.toNat*(af.at I id).cJ,none⟩) ((af.at I id).len-i.toNat) (aw.cap-i.toNat)/\0<=i/\i<((af.at I id).len:Int)
 | .w5,v=>v= .pointer none
 | .fn f,v=>v= .func (.func f) #[] #[]
 | .cls f l,v=>v= .func (.func f) (bE uR l).toArray #[]/\eg xh l=true
 | .un,v=>v=undef
 | .any,_=>True
 |_,_=>False
def ig (Z:Nat->Prop)(w:World)(ρ:List Loc)(I:aD):J->Value->Prop
 | .agg l,v=>∃a:Array Value,v= .agg a/\a.size=l.length/\∀i,i<l.length->eD Z w ρ I (l.getD i .un) (a.getD i undef)
 | .rw n r,v=>∃a:Array Value,v= .agg a/\a.size=n/\r.length=n/\∀i,i<n->bB Z w (r.getD i .undef) (a.getD i undef)
 |t,v=>eD Z w ρ I t v
def bL (Z:Nat->Prop)(w:World)(ρ:List Loc)(I:aD):J->Value->Prop
 | .tup l,v=>∃a:Array Value,v= .tuple a/\a.size=l.length/\∀i,i<l.length->ig Z w ρ I (l.getD i .un) (a.getD i undef)
 |t,v=>ig Z w ρ I t v
def nU (Z:Nat->Prop)(w:World)(r:List R)(v:Value):Prop:=∃a:Array Value,v= .agg a/\a.size=r.length/\∀j,j<r.length->bB Z w (r.getD j .undef) (a.getD j undef)
def q2 (Z:Nat->Prop)(w:World)(r:List R)(v:Value):Prop:=(∃x,r=[x]/\bB Z w x v)\/(r.length≠1/\nU Z w r v)
theorem nU.mono {Z Z':Nat->Prop}{w w':World}{r:List R}{v:Value}(h:nU Z w r v)(an:∀x u,bB Z w x u->bB Z' w' x u):nU Z' w' r v:=by
 obtain⟨a,U,aa,az⟩:=h;exact⟨a,U,aa,fun j aI=>an _ _ (az j aI)⟩
theorem q2.mono {Z Z':Nat->Prop}{w w':World}{r:List R}{v:Value}(h:q2 Z w r v)(an:∀x u,bB Z w x u->bB Z' w' x u):q2 Z' w' r v:=by
 rcases h with⟨x,U,aa⟩|⟨U,aa⟩
 ·exact .inl ⟨x,U,an _ _ aa⟩
 ·exact .inr ⟨U,aa.mono an⟩
def h0 (Z:Nat->Prop)(w:World)(ρ:List Loc)(I:aD)(aw:Loc):af->Prop
 | .gone=>True
 | .dead _ _=>True
 | .map tA ak l=>∃b es c,aw.bu=some b/\w.heap[b]? =some (.map es c)/\es.size=l.length/\tA<ak/\(l.map (jf tA)).Nodup/\
  ∀i,i<l.length->∃e,es[i]? =some e/\(l.getD i []).length=ak/\kc ((l.getD i []).take tA)/\nU Z w ((l.getD i []).take tA) e.key/\q2 Z w ((l.getD i []).drop tA) e.val
 | .cells l=>∃b aH e,aw.a=some ⟨b,0,none⟩/\aw.bu=some b/\w.heap[b]? =some (.cells aH e (0,0))/\aH.size=l.length/\
  ∀i,i<l.length->eD Z w ρ I (l.getD i .un) (aH.getD i undef)
 | .ad k l=>(l=[]/\aw.cap=0)\/∃b aH e,aw.a=some ⟨b,0,none⟩/\aw.bu=some b/\w.heap[b]? =some (.cells aH e (0,0))/\
  l.length<=aw.cap/\aw.cap<=aH.size/\∀i,i<l.length->aH[i]? =some (.int k (l.getD i 0))
 | .ar ak l=>(l=[]/\aw.cap=0)\/∃b aH e,aw.a=some ⟨b,0,none⟩/\aw.bu=some b/\w.heap[b]? =some (.cells aH e (0,0))/\
  l.length<=aw.cap/\aw.cap*ak<=aH.size/\0<ak/\∀i j,i<l.length->j<ak->∃v,aH[i*ak+j]? =some v/\bB Z w ((l.getD i []).getD j .undef) v
def hg (I:aD)(i:Nat):Prop:=cw I i=true/\∃n ak,af.at I i= .dead n ak
theorem nV {I:aD}{i:Nat}(h:cw I i=false):¬hg I i:=fun⟨U,_⟩=>by rw[h]at U;cases U
structure cv (N:Nat->Prop)(ρ:List Loc)(I:aD)(w:World):Prop where
 len:ρ.length=I.length
 fc:∀b,N b->b<w.heap.size
 lt:∀(i:Nat) (aw:Loc) (b:Nat),ρ[i]? =some aw->aw.bu=some b->b<w.heap.size
 inj:∀(i j:Nat) (li cC:Loc) (b:Nat),ρ[i]? =some li->ρ[j]? =some cC->li.bu=some b->cC.bu=some b->¬hg I i->¬hg I j->i=j
 fK:∀(i:Nat) (aw:Loc) (b:Nat),ρ[i]? =some aw->aw.bu=some b->¬N b
 ob:∀(i:Nat) (aw:Loc),ρ[i]? =some aw->h0 (aN N ρ I) w ρ I aw (af.at I i)
structure Fr (ρ:List Loc)(I:aD)(w:World)(ρ':List Loc)(aj:aD)(w':World):Prop where
 os:w'.os=w.os
 tape:w'.tape=w.tape
 output:w'.output=w.output
 size:w.heap.size<=w'.heap.size
 ao:∀b,b<w.heap.size->¬gz ρ I b->w'.heap[b]? =w.heap[b]?
 alive:∀b,gz ρ' aj b->gz ρ I b\/w.heap.size<=b
theorem Fr.refl (ρ:List Loc)(I:aD)(w:World):Fr ρ I w ρ I w:=⟨rfl,rfl,rfl,aoE _,fun _ _ _=>rfl,fun _ h=> .inl h⟩
theorem Fr.trans {ρ eE e1:List Loc}{I cR mZ:aD}{w w1 db:World}(h:Fr ρ I w eE cR w1)(k:Fr eE cR w1 e1 mZ db):Fr ρ I w e1 mZ db:=by
 refine⟨k.os.trans h.os,k.tape.trans h.tape,k.output.trans h.output,aoS h.size k.size,fun b ag aR=> ?_,fun b ag=> ?_⟩
 ·have U:=h.ao b ag aR
  have aa:¬gz eE cR b:=fun ai=>by
   rcases h.alive b ai with az|az
   ·exact aR az
   ·omega
  rw[k.ao b (aoV ag h.size) aa,U]
 ·rcases k.alive b ag with U|U
  ·exact h.alive b U
  ·exact .inr (aoS h.size U)
theorem Fr.reads {N:Nat->Prop}{ρ ρ':List Loc}{I aj:aD}{w w':World}(h:Fr ρ I w ρ' aj w'){x:R}{v:Value}
 (an:bB (aN N ρ I) w x v):bB (aN N ρ' aj) w' x v:=
 an.mono fun b bG bq=>⟨h.ao b bG fun aR=>bq (.inr aR),fun dr=>by
  rcases dr with av|aR
  ·exact bq (.inl av)
  ·rcases h.alive b aR with U|U
   ·exact bq (.inr U)
   ·omega⟩
def J.lz (id:Nat):J->Prop
 | .vec i=>i=id
 | .ptr i _=>i=id
 | .optr i _ _=>i=id
 | .oat i _ _=>i=id
 | .mp i=>i=id
 | .tail i _=>i=id
 |_=>False
def eX (ρ:List Loc)(I:aD)(ρ':List Loc)(aj:aD)(id:Nat):Prop:=
 ∀aw,ρ[id]? =some aw->ρ'[id]? =some aw/\(af.at aj id).len=(af.at I id).len/\(af.at aj id).cJ=(af.at I id).cJ
theorem eD.mono {Z Z':Nat->Prop}{w w':World}{ρ ρ':List Loc}{I aj:aD}{t:J}{v:Value}(h:eD Z w ρ I t v)
 (an:∀x u,bB Z w x u->bB Z' w' x u) (ay:∀id,t.lz id->eX ρ I ρ' aj id):eD Z' w' ρ' aj t v:=by
 cases t<;>simp only[eD]at h⊢<;>try exact h
 case d x=>exact an _ _ h
 case vec id=>
  obtain⟨aw,U,aa⟩:=h;obtain⟨a6,bj,_⟩:=ay id rfl aw U;exact⟨aw,a6,by rw[bj];exact aa⟩
 case ptr id off=>
  obtain⟨aw,b,U,aa⟩:=h;exact⟨aw,b,(ay id rfl aw U).1,aa⟩
 case optr id i j=>
  obtain⟨aw,b,U,aa,az,aW,bA⟩:=h;obtain⟨a6,bj,bH⟩:=ay id rfl aw U;exact⟨aw,b,a6,aa,az,by rw[bH];exact aW,by rw[bj];exact bA⟩
 case rptr x i j=>
  obtain⟨b,off,cap,U,aa⟩:=h;exact⟨b,off,cap,an _ _ U,aa⟩
 case oat id i j=>
  obtain⟨aw,b,U,aa,az,aW,bA,bZ,fo⟩:=h;obtain⟨a6,bj,bH⟩:=ay id rfl aw U;exact⟨aw,b,a6,aa,az,by rw[bH];exact aW,bA,by rw[bj];exact bZ,by rw[bH];exact fo⟩
 case rat x i j=>
  obtain⟨b,off,cap,U,aa⟩:=h;exact⟨b,off,cap,an _ _ U,aa⟩
 case mp id=>
  obtain⟨aw,b,U,aa⟩:=h;exact⟨aw,b,(ay id rfl aw U).1,aa⟩
 case tail id i=>
  obtain⟨aw,b,U,aa,az,aW,bA⟩:=h;obtain⟨a6,bj,bH⟩:=ay id rfl aw U;exact⟨aw,b,a6,aa,az,by rw[bj,bH];exact aW,by rw[bj];exact bA⟩
def J.Ie (id:Nat):J->Prop
 | .agg l=>∃i,i<l.length/\(l.getD i .un).lz id
 |t=>t.lz id
def J.names (id:Nat):J->Prop
 | .tup l=>∃i,i<l.length/\(l.getD i .un).Ie id
 |t=>t.Ie id
theorem ig.mono {Z Z':Nat->Prop}{w w':World}{ρ ρ':List Loc}{I aj:aD}{t:J}{v:Value}(h:ig Z w ρ I t v)
 (an:∀x u,bB Z w x u->bB Z' w' x u) (ay:∀id,t.Ie id->eX ρ I ρ' aj id):ig Z' w' ρ' aj t v:=by
 cases t
 case agg l=>
  obtain⟨a,U,aa,az⟩:=h;exact⟨a,U,aa,fun i hi=>(az i hi).mono an fun id dJ=>ay id ⟨i,hi,dJ⟩⟩
 case rw n r=>
  obtain⟨a,U,aa,aW,az⟩:=h;exact⟨a,U,aa,aW,fun i hi=>an _ _ (az i hi)⟩
 all_goals (unfold ig at h⊢;exact eD.mono h an fun id dJ=>ay id dJ)
theorem bL.mono {Z Z':Nat->Prop}{w w':World}{ρ ρ':List Loc}{I aj:aD}{t:J}{v:Value}(h:bL Z w ρ I t v)
 (an:∀x u,bB Z w x u->bB Z' w' x u) (ay:∀id,t.names id->eX ρ I ρ' aj id):bL Z' w' ρ' aj t v:=by
 cases t
 case tup l=>
  obtain⟨a,U,aa,az⟩:=h;exact⟨a,U,aa,fun i hi=>(az i hi).mono an fun id dJ=>ay id ⟨i,hi,dJ⟩⟩
 all_goals (unfold bL at h⊢;exact ig.mono h an fun id dJ=>ay id dJ)
theorem ig.c3 {Z:Nat->Prop}{w:World}{ρ:List Loc}{I:aD}{t:J}{v:Value}(h:eD Z w ρ I t v):ig Z w ρ I t v:=by
 cases t<;>first|exact h|exact h.elim
theorem bL.hj {Z:Nat->Prop}{w:World}{ρ:List Loc}{I:aD}{t:J}{v:Value}(h:ig Z w ρ I t v):bL Z w ρ I t v:=by
 cases t<;>first|exact h|exact h.elim
theorem bL.c3 {Z:Nat->Prop}{w:World}{ρ:List Loc}{I:aD}{t:J}{v:Value}(h:eD Z w ρ I t v):bL Z w ρ I t v:= .hj (.c3 h)
structure cn (N:Nat->Prop)(ρ:List Loc)(I:aD)(w:World)(ρ':List Loc)(aj:aD)(w':World):Prop extends Fr ρ I w ρ' aj w' where
 rel:cv N ρ' aj w'
 same:∀id,eX ρ I ρ' aj id
theorem eX.refl (ρ:List Loc)(I:aD)(id:Nat):eX ρ I ρ I id:=fun _ h=>⟨h,rfl,rfl⟩
theorem cn.refl {N:Nat->Prop}{ρ:List Loc}{I:aD}{w:World}(h:cv N ρ I w):cn N ρ I w ρ I w:=
 {Fr.refl ρ I w with rel:=h,same:=eX.refl ρ I}
theorem cn.lA {N:Nat->Prop}{ρ ρ':List Loc}{I aj:aD}{w w':World}(h:cn N ρ I w ρ' aj w'){t:J}{v:Value}
 (au:bL (aN N ρ I) w ρ I t v):bL (aN N ρ' aj) w' ρ' aj t v:=au.mono (fun _ _=>h.toFr.reads) fun id _=>h.same id
structure ek (Z:Nat->Prop)(w:World)(ρ:List Loc)(I:aD)(tm:List J)(tmps:Array Value):Prop where
 size:tmps.size=tm.length
 at_:∀t,bL Z w ρ I (tm.getD t .un) (tmps.getD t undef)
theorem ek.step {N:Nat->Prop}{ρ ρ':List Loc}{I aj:aD}{w w':World}(h:cn N ρ I w ρ' aj w'){tm:List J}{tmps:Array Value}
 (au:ek (aN N ρ I) w ρ I tm tmps):ek (aN N ρ' aj) w' ρ' aj tm tmps:=⟨au.size,fun t=>h.lA (au.at_ t)⟩
theorem bL.un {Z:Nat->Prop}{w:World}{ρ:List Loc}{I:aD}:bL Z w ρ I .un undef:=rfl
theorem vN (a:Array Value)(d i:Nat)(v:Value):(a.setIfInBounds d v).getD i undef=if d=i/\d<a.size then v else a.getD i undef:=by
 simp only[aoH,aqx]
 by_cases h:d=i
 ·subst h
  by_cases ax:d<a.size<;>simp[ax]
 ·simp[h]
theorem ek.put {Z:Nat->Prop}{w:World}{ρ:List Loc}{I:aD}{tm:List J}{a:Act}{t:J}{v:Value}(h:ek Z w ρ I tm a.tmps)(dst:Option Tmp)
 (aP:bL Z w ρ I t v):ek Z w ρ I (put tm dst t) (a.put dst v).tmps:=by
 cases dst with
 |none=>exact h
 |some d=>
  simp only[al.put,eI,Act.put];refine⟨by simp[h.size],fun i=> ?_⟩;rw[eu,vN,h.size];split
  ·exact aP
  ·exact h.at_ i
end Go.al
end
section
namespace Go.al
theorem gN (I:aD)(p:Bool×af)(i:Nat):af.at (I++[p]) i=if i=I.length then p.2 else af.at I i:=by
 simp only[af.at,dT,aoA,ao5]
 by_cases h:i<I.length
 ·rw[aoy h,aox (by omega)]
 ·rw[aox h]
  by_cases e:i=I.length
  ·rw[aoy e];simp[e]
  ·rw[aox e,ape (by simp;omega),ape (by omega)]
theorem kI (I:aD)(p:Bool×af)(i:Nat):cw (I++[p]) i=if i=I.length then p.1 else cw I i:=by
 simp only[cw,dT,aoA,ao5]
 by_cases h:i<I.length
 ·rw[aoy h,aox (by omega)]
 ·rw[aox h]
  by_cases e:i=I.length
  ·rw[aoy e];simp[e]
  ·rw[aox e,ape (by simp;omega),ape (by omega)]
theorem g_ (I:aD)(id:Nat)(p:Bool×af)(i:Nat):af.at (I.set id p) i=if id=i/\id<I.length then p.2 else af.at I i:=by
 simp only[af.at,dT,eu];split<;>rfl
theorem ij (I:aD)(id:Nat)(p:Bool×af)(i:Nat):cw (I.set id p) i=if id=i/\id<I.length then p.1 else cw I i:=by
 simp only[cw,dT,eu];split<;>rfl
theorem Rd (I:aD)(i:Nat)(h:I.length<=i):cw I i=true:=by simp[cw,dT,aoA,ape h]
theorem cv.jU {N:Nat->Prop}{ρ:List Loc}{I:aD}{w:World}(h:cv N ρ I w){i:Nat}{aw:Loc}(hi:ρ[i]? =some aw):i<I.length:=by
 rw[<-h.len];exact(apr.1 hi).1
structure anv (ex:Nat->Prop)(N:Nat->Prop)(ρ:List Loc)(I:aD)(w:World)(ρ':List Loc)(aj:aD)(w':World):Prop extends Fr ρ I w ρ' aj w' where
 rel:cv N ρ' aj w'
 same:∀id,¬ex id->eX ρ I ρ' aj id
theorem h0.mono {Z Z':Nat->Prop}{w w':World}{ρ ρ':List Loc}{I aj:aD}{aw:Loc}{o:af}(h:h0 Z w ρ I aw o)
 (ag:∀b,aw.bu=some b->w'.heap[b]? =w.heap[b]?) (an:∀x u,bB Z w x u->bB Z' w' x u)
 (ay:∀l,o= .cells l->∀k id,k<l.length->(l.getD k .un).lz id->eX ρ I ρ' aj id):h0 Z' w' ρ' aj aw o:=by
 cases o with
 |gone=>trivial
 |dead n ak=>trivial
 |map tA ak l=>
  obtain⟨b,es,c,U,aa,az,aW,bZ,bA⟩:=h;refine⟨b,es,c,U,by rw[ag b U];exact aa,az,aW,bZ,fun i hi=> ?_⟩;obtain⟨e,a6,bj,fi,bH,dO⟩:=bA i hi;exact⟨e,a6,bj,fi,bH.mono an,dO.mono an⟩
 |cells l=>
  obtain⟨b,aH,e,U,aa,az,aW,bA⟩:=h;exact⟨b,aH,e,U,aa,by rw[ag b aa];exact az,aW,fun i hi=>(bA i hi).mono an (fun id av=>ay l rfl i id hi av)⟩
 |ad k l=>
  rcases h with h|⟨b,aH,e,U,aa,az,aW⟩
  ·exact .inl h
  ·exact .inr ⟨b,aH,e,U,aa,by rw[ag b aa];exact az,aW⟩
 |ar ak l=>
  rcases h with h|⟨b,aH,e,U,aa,az,aW,bA,fo,bZ⟩
  ·exact .inl h
  ·refine .inr ⟨b,aH,e,U,aa,by rw[ag b aa];exact az,aW,bA,fo,fun i j hi aI=> ?_⟩;obtain⟨v,aP,qm⟩:=bZ i j hi aI;exact⟨v,aP,an _ _ qm⟩
theorem cv.Er {N:Nat->Prop}{ρ ρ':List Loc}{I aj:aD}{w w':World}(h:cv N ρ I w)(aU:Fr ρ I w ρ' aj w')(hlen:ρ'.length=aj.length)
 (ay:∀i l,af.at I i= .cells l->∀k id,k<l.length->(l.getD k .un).lz id->eX ρ I ρ' aj id)
 (hi:∀i aw,ρ'[i]? =some aw->
   (ρ[i]? =some aw/\af.at aj i=af.at I i/\(cw aj i=false->cw I i=false)/\(¬hg I i->∀b,aw.bu=some b->w'.heap[b]? =w.heap[b]?))\/
   ((∀b,aw.bu=some b->b<w'.heap.size/\¬N b/\∀j cC,ρ'[j]? =some cC->cC.bu=some b->¬hg aj j->j=i)/\
     h0 (aN N ρ' aj) w' ρ' aj aw (af.at aj i))):cv N ρ' aj w' where
 len:=hlen
 fc:=fun b ag=>aoV (h.fc b ag) aU.size
 lt:=fun i aw b U aa=>by
  rcases hi i aw U with⟨a6,_⟩|⟨k,_⟩
  ·exact aoV (h.lt i aw b a6 aa) aU.size
  ·exact(k b aa).1
 inj:=fun i j li cC b U aa az aW s1 s2=>by
  have back:∀i,af.at aj i=af.at I i->(cw aj i=false->cw I i=false)->¬hg aj i->¬hg I i:=fun i aA aL s ⟨f,n,ak,e⟩=>by
   refine s ⟨?_,n,ak,by rw[aA];exact e⟩
   cases ai:cw aj i with
   |true=>rfl
   |false=>rw[aL ai]at f;cases f
  rcases hi i li U with⟨a6,bj,bH,_⟩|⟨k,_⟩
  ·rcases hi j cC aa with⟨q1,cE,cS,_⟩|⟨cy,_⟩
   ·exact h.inj i j li cC b a6 q1 az aW (back i bj bH s1) (back j cE cS s2)
   ·exact(cy b aW).2.2 i li U az s1
  ·exact((k b az).2.2 j cC aa aW s2).symm
 fK:=fun i aw b U aa=>by
  rcases hi i aw U with⟨a6,_⟩|⟨k,_⟩
  ·exact h.fK i aw b a6 aa
  ·exact(k b aa).2.1
 ob:=fun i aw U=>by
  rcases hi i aw U with⟨a6,bj,_,dO⟩|⟨_,k⟩
  ·rw[bj]
   by_cases s:hg I i
   ·obtain⟨_,n,ak,e⟩:=s;rw[e];trivial
   ·exact(h.ob i aw a6).mono (dO s) (fun _ _=>aU.reads) (fun l ax k id ae av=>ay i l ax k id ae av)
  ·exact k
theorem cv.s7 {N:Nat->Prop}{ρ ρ':List Loc}{I aj:aD}{w w':World}(h:cv N ρ I w)(aU:Fr ρ I w ρ' aj w')(hlen:ρ'.length=aj.length)
 (ay:∀i l,af.at I i= .cells l->∀k id,k<l.length->(l.getD k .un).lz id->eX ρ I ρ' aj id)
 (hi:∀i aw,ρ'[i]? =some aw->
   (ρ[i]? =some aw/\af.at aj i=af.at I i/\(cw aj i=false->cw I i=false)/\∀b,aw.bu=some b->w'.heap[b]? =w.heap[b]?)\/
   ((∀b,aw.bu=some b->b<w'.heap.size/\¬N b/\∀j cC,ρ'[j]? =some cC->cC.bu=some b->¬hg aj j->j=i)/\
     h0 (aN N ρ' aj) w' ρ' aj aw (af.at aj i))):cv N ρ' aj w':=
 h.Er aU hlen ay fun i aw ax=>(hi i aw ax).imp (fun⟨a6,bj,bH,dO⟩=>⟨a6,bj,bH,fun _=>dO⟩) id
theorem cn.alloc {N:Nat->Prop}{ρ:List Loc}{I:aD}{w:World}(h:cv N ρ I w)(f:Bool)(ob:af)(obj:Obj)(cap:Nat)
 (aF:h0 (aN N (ρ++[⟨some ⟨w.heap.size,0,none⟩,cap,some w.heap.size⟩]) (I++[(f,ob)])) (w.alloc obj)
   (ρ++[⟨some ⟨w.heap.size,0,none⟩,cap,some w.heap.size⟩]) (I++[(f,ob)]) ⟨some ⟨w.heap.size,0,none⟩,cap,some w.heap.size⟩ ob):
 cn N ρ I w (ρ++[⟨some ⟨w.heap.size,0,none⟩,cap,some w.heap.size⟩]) (I++[(f,ob)]) (w.alloc obj):=by
 have cx:Fr ρ I w (ρ++[⟨some ⟨w.heap.size,0,none⟩,cap,some w.heap.size⟩]) (I++[(f,ob)]) (w.alloc obj):=by
  refine⟨rfl,rfl,rfl,by simp,fun b ag _=>heap_alloc_old w obj b ag,fun b ⟨i,aw,U,aa,az⟩=> ?_⟩;rw[ao5]at U
  by_cases hi:i<ρ.length
  ·rw[aoy hi]at U;rw[kI,aox (by rw[<-h.len];omega)]at az;exact .inl ⟨i,aw,U,aa,az⟩
  ·rw[aox hi]at U
   cases a8:i-ρ.length with
   |zero=>simp[a8]at U;subst U;simp at aa;exact .inr (by omega)
   |succ n=>simp[a8]at U
 have e6:∀id,eX ρ I (ρ++[⟨some ⟨w.heap.size,0,none⟩,cap,some w.heap.size⟩]) (I++[(f,ob)]) id:=fun id aw ax=>by
  have:=h.jU ax;refine⟨by rw[apt (by rw[h.len];exact this)];exact ax, ?_⟩;rw[gN,aox (by omega)];exact⟨rfl,rfl⟩
 refine{cx with rel:=h.s7 cx (by simp[h.len]) (fun _ _ _ _ id _ _=>e6 id) (fun i aw ax=> ?_),same:=e6};rw[ao5]at ax
 by_cases hi:i<ρ.length
 ·rw[aoy hi]at ax;refine .inl ⟨ax,by rw[gN,aox (by rw[<-h.len];omega)],fun ai=>by rwa [kI,aox (by rw[<-h.len];omega)]at ai,fun b ag=> ?_⟩;exact heap_alloc_old w obj b (h.lt i aw b ax ag)
 ·rw[aox hi]at ax
  cases a8:i-ρ.length with
  |succ n=>simp[a8]at ax
  |zero=>
   simp[a8]at ax;subst ax;have eL:i=I.length:=by rw[<-h.len];omega
   refine .inr ⟨fun b ag=> ?_,by rw[eL,gN,aoy rfl];exact aF⟩;simp at ag;subst ag;refine⟨by simp,fun av=>absurd (h.fc _ av) (by omega),fun j cC aI ag _=> ?_⟩;rw[ao5]at aI
   by_cases iH:j<ρ.length
   ·rw[aoy iH]at aI;have:=h.lt j cC _ aI ag;omega
   ·rw[aox iH]at aI
    cases iI:j-ρ.length with
    |zero=>omega
    |succ n=>simp[iI]at aI
theorem cn.Re {N:Nat->Prop}{ρ:List Loc}{I:aD}{w:World}(h:cv N ρ I w)(id:Nat)(aw:Loc)(b:Nat)(dJ:ρ[id]? =some aw)(ag:aw.bu=some b)
 (aU:cw I id=false) (ob:af) (ax:ob.len=(af.at I id).len) (he:ob.cJ=(af.at I id).cJ) (w':World) (U:w'.os=w.os) (aa:w'.tape=w.tape) (az:w'.output=w.output) (cq:w'.heap.size=w.heap.size) (me:∀x,x≠b->w'.heap[x]? =w.heap[x]?)
 (aF:h0 (aN N ρ (I.set id (false,ob))) w' ρ (I.set id (false,ob)) aw ob):
 cn N ρ I w ρ (I.set id (false,ob)) w':=by
 have bG:=h.jU dJ
 have iV:∀x,gz ρ (I.set id (false,ob)) x->gz ρ I x:=fun x ⟨i,l,U,aa,az⟩=>by
  rw[ij]at az
  by_cases e:id=i
  ·subst e;exact⟨id,l,U,aa,aU⟩
  ·rw[aox (by simp[e])]at az;exact⟨i,l,U,aa,az⟩
 have cx:Fr ρ I w ρ (I.set id (false,ob)) w':=by
  refine⟨U,aa,az,by omega,fun x ai aR=> ?_,fun x ai=> .inl (iV x ai)⟩;exact me x fun e=>aR ⟨id,aw,dJ,e▸ag,aU⟩
 have e6:∀i,eX ρ I ρ (I.set id (false,ob)) i:=fun i l iJ=>by
  refine⟨iJ, ?_⟩;rw[g_]
  by_cases e:id=i
  ·subst e;rw[aoy ⟨rfl,bG⟩];exact⟨ax,he⟩
  ·rw[aox (by simp[e])];exact⟨rfl,rfl⟩
 refine{cx with rel:=h.Er cx (by simp[h.len]) (fun _ _ _ _ i _ _=>e6 i) (fun i l iJ=> ?_),same:=e6}
 by_cases e:id=i
 ·subst e;rw[dJ]at iJ;obtain rfl:=aoK iJ;refine .inr ⟨fun x ai=>⟨by rw[cq];exact h.lt id aw x dJ ai,h.fK id aw x dJ ai,fun j cC aI Je lV=> ?_⟩, ?_⟩
  ·by_cases e:id=j
   ·exact e.symm
   ·refine h.inj j id cC aw x aI dJ Je ai (fun⟨s1,n,ak,s2⟩=>lV ⟨by rw[ij,aox (by simp[e])];exact s1,n,ak,by rw[g_,aox (by simp[e])];exact s2⟩) (nV aU)
  ·rw[g_,aoy ⟨rfl,bG⟩];exact aF
 ·refine .inl ⟨iJ,by rw[g_,aox (by simp[e])],fun ai=>by rwa [ij,aox (by simp[e])]at ai,fun j5 x ai=> ?_⟩;exact me x fun aiG=>e (h.inj id i aw l b dJ iJ ag (aiG▸ai) (nV aU) j5)
theorem cn.write {N:Nat->Prop}{ρ:List Loc}{I:aD}{w:World}(h:cv N ρ I w)(id:Nat)(aw:Loc)(b:Nat)(dJ:ρ[id]? =some aw)(ag:aw.bu=some b)
 (aU:cw I id=false) (ob:af) (ax:ob.len=(af.at I id).len) (he:ob.cJ=(af.at I id).cJ) (cs:Array Value)
 (aF:h0 (aN N ρ (I.set id (false,ob))) (w.setRow b cs) ρ (I.set id (false,ob)) aw ob):
 cn N ρ I w ρ (I.set id (false,ob)) (w.setRow b cs):=
 cn.Re h id aw b dJ ag aU ob ax he _ rfl rfl rfl (by simp) (fun x ai=>setRow_other w b x cs ai) aF
theorem cn.shut {N:Nat->Prop}{ρ:List Loc}{I:aD}{w:World}(h:cv N ρ I w)(id:Nat):cn N ρ I w ρ (I.set id (true,af.at I id)) w:=by
 have iV:∀x,gz ρ (I.set id (true,af.at I id)) x->gz ρ I x:=fun x ⟨i,l,U,aa,az⟩=>by
  rw[ij]at az
  by_cases e:id=i/\id<I.length
  ·rw[aoy e]at az;cases az
  ·rw[aox e]at az;exact⟨i,l,U,aa,az⟩
 have cx:Fr ρ I w ρ (I.set id (true,af.at I id)) w:=⟨rfl,rfl,rfl,aoE _,fun _ _ _=>rfl,fun x ai=> .inl (iV x ai)⟩
 have cF:∀i,af.at (I.set id (true,af.at I id)) i=af.at I i:=fun i=>by
  rw[g_];split
  ·rename_i e;rw[e.1]
  ·rfl
 have e6:∀i,eX ρ I ρ (I.set id (true,af.at I id)) i:=fun i l iJ=>⟨iJ,by rw[cF];exact⟨rfl,rfl⟩⟩
 refine{cx with rel:=h.s7 cx (by simp[h.len]) (fun _ _ _ _ i _ _=>e6 i) (fun i l iJ=> ?_),same:=e6};refine .inl ⟨iJ,cF i,fun ai=> ?_,fun _ _=>rfl⟩;rw[ij]at ai;split at ai
 ·cases ai
 ·exact ai
theorem cn.drew {N:Nat->Prop}{ρ:List Loc}{I:aD}{w w':World}(h:cv N ρ I w)(b6:w'.heap=w.heap)(U:w'.os=w.os)(aa:w'.tape=w.tape)(az:w'.output=w.output):
 cn N ρ I w ρ I w':=by
 have cx:Fr ρ I w ρ I w':=⟨U,aa,az,by rw[b6];exact aoE _,fun _ _ _=>by rw[b6],fun x ai=> .inl ai⟩;refine{cx with rel:=h.s7 cx h.len (fun _ _ _ _ i _ _=>eX.refl ρ I i) (fun i l iJ=> .inl ⟨iJ,rfl,id,fun _ _=>by rw[b6]⟩),same:=eX.refl ρ I}
theorem cn.trans {N:Nat->Prop}{ρ eE e1:List Loc}{I cR mZ:aD}{w w1 db:World}(h:cn N ρ I w eE cR w1)(k:cn N eE cR w1 e1 mZ db):cn N ρ I w e1 mZ db:=
 {h.toFr.trans k.toFr with
  rel:=k.rel
  same:=fun id aw ax=>by
   obtain⟨a,b,c⟩:=h.same id aw ax;obtain⟨b5,ed,FR⟩:=k.same id aw a
   exact⟨b5,ed.trans b,FR.trans c⟩}
theorem Xt (id:Nat)(t:J):fA id t= .any\/(fA id t=t/\¬t.lz id):=by
 cases t with
 |vec j=>
  by_cases e:j=id
  ·subst e;exact .inl (by simp[fA])
  ·have aI:Nat.beq j id=false:=by
    cases ag:Nat.beq j id with
    |false=>rfl
    |true=>exact absurd (aoz ag) e
   exact .inr ⟨by simp[fA,aI],e⟩
 |ptr j x=>
  by_cases e:j=id
  ·subst e;exact .inl (by simp[fA])
  ·have aI:Nat.beq j id=false:=by
    cases ag:Nat.beq j id with
    |false=>rfl
    |true=>exact absurd (aoz ag) e
   exact .inr ⟨by simp[fA,aI],e⟩
 |optr j x y=>
  by_cases e:j=id
  ·subst e;exact .inl (by simp[fA])
  ·have aI:Nat.beq j id=false:=by
    cases ag:Nat.beq j id with
    |false=>rfl
    |true=>exact absurd (aoz ag) e
   exact .inr ⟨by simp[fA,aI],e⟩
 |oat j x y=>
  by_cases e:j=id
  ·subst e;exact .inl (by simp[fA])
  ·have aI:Nat.beq j id=false:=by
    cases ag:Nat.beq j id with
    |false=>rfl
    |true=>exact absurd (aoz ag) e
   exact .inr ⟨by simp[fA,aI],e⟩
 |mp j=>
  by_cases e:j=id
  ·subst e;exact .inl (by simp[fA])
  ·have aI:Nat.beq j id=false:=by
    cases ag:Nat.beq j id with
    |false=>rfl
    |true=>exact absurd (aoz ag) e
   exact .inr ⟨by simp[fA,aI],e⟩
 |tail j x=>
  by_cases e:j=id
  ·subst e;exact .inl (by simp[fA])
  ·have aI:Nat.beq j id=false:=by
    cases ag:Nat.beq j id with
    |false=>rfl
    |true=>exact absurd (aoz ag) e
   exact .inr ⟨by simp[fA,aI],e⟩
 |_=>exact .inr ⟨rfl,fun h=>h⟩
theorem eD.kill {Z Z':Nat->Prop}{w w':World}{ρ ρ':List Loc}{I aj:aD}{t:J}{v:Value}(id:Nat)(h:eD Z w ρ I t v)
 (an:∀x u,bB Z w x u->bB Z' w' x u) (ay:∀i,i≠id->eX ρ I ρ' aj i):eD Z' w' ρ' aj (fA id t) v:=by
 rcases Xt id t with e|⟨e,av⟩
 ·rw[e];trivial
 ·rw[e];exact h.mono an fun i hi=>ay i fun dJ=>av (dJ▸hi)
theorem WQ {Z:Nat->Prop}{w:World}{ρ:List Loc}{I:aD}{v:Value}(t:J)(U:∀l,t≠ .agg l)(aa:∀l,t≠ .tup l)(az:∀n r,t≠ .rw n r):
 bL Z w ρ I t v=eD Z w ρ I t v:=by
 cases t with
 |agg l=>exact absurd rfl (U l)
 |rw n r=>exact absurd rfl (az n r)
 |tup l=>exact absurd rfl (aa l)
 |_=>rfl
theorem bL.kill {Z Z':Nat->Prop}{w w':World}{ρ ρ':List Loc}{I aj:aD}{t:J}{v:Value}(id:Nat)(h:bL Z w ρ I t v)
 (an:∀x u,bB Z w x u->bB Z' w' x u) (ay:∀i,i≠id->eX ρ I ρ' aj i):bL Z' w' ρ' aj (ev id t) v:=by
 cases t with
 |agg l=>
  obtain⟨a,U,aa,az⟩:=h;refine⟨a,U,by rw[dM,aoF];exact aa,fun i hi=> ?_⟩;rw[dM]at hi⊢;simp only[aoF]at hi;have:=(az i hi).kill id an ay;simpa[aoA,hi]using this
 |tup l=>trivial
 |rw n r=>
  obtain⟨a,aA,aL,cX,b3⟩:=h;exact⟨a,aA,aL,cX,fun i hi=>an _ _ (b3 i hi)⟩
 |_=>rw[WQ _ (by simp) (by simp) (by simp)]at h;exact .c3 (eD.kill id h an ay)
theorem abj (id:Nat)(o:af):(o.kill id).len=o.len/\(o.kill id).cJ=o.cJ:=by
 cases o<;>simp[af.kill,af.len,af.cJ,dM]
theorem HQ (id:Nat)(I:aD)(i:Nat):af.at (gy id I) i=(af.at I i).kill id:=by
 simp only[af.at,gy,dM,dT,aoA,apu];cases I[i]? <;>rfl
theorem ac6 (id:Nat)(I:aD)(i:Nat):cw (gy id I) i=cw I i:=by
 simp only[cw,gy,dM,dT,aoA,apu];cases I[i]? <;>rfl
theorem abk (id:Nat)(I:aD):(gy id I).length=I.length:=by simp[gy,dM]
theorem Hs {N:Nat->Prop}{ρ:List Loc}{I:aD}{w w':World}(h:cv N ρ I w)(id:Nat)(iY:Loc)(dJ:id<I.length)(ob:af)(ae:ob.kill id=ob)
 (aU:cw I id=false)
 (U:w'.os=w.os) (aa:w'.tape=w.tape) (az:w'.output=w.output) (cq:w.heap.size<=w'.heap.size)
 (sN:∀b,b<w.heap.size->(∀aw,ρ[id]? =some aw->aw.bu≠some b)->w'.heap[b]? =w.heap[b]?)
 (lG:∀b,iY.bu=some b->b<w'.heap.size/\¬N b/\(w.heap.size<=b\/∃aw,ρ[id]? =some aw/\aw.bu=some b))
 (aF:∀Z jV gu,(∀b,b<w.heap.size->¬aN N ρ I b->¬Z b)->h0 Z w' jV gu iY ob):
 let aj:=gy id (I.set id (false,ob))
 cv N (ρ.set id iY) aj w'/\Fr ρ I w (ρ.set id iY) aj w'/\∀i,i≠id->eX ρ I (ρ.set id iY) aj i:=by
 intro aj;have hlen:id<ρ.length:=by rw[h.len];exact dJ
 have cF:∀i,af.at aj i=if i=id then ob else(af.at I i).kill id:=fun i=>by
  show af.at (gy id (I.set id (false,ob))) i=_;rw[HQ,g_]
  by_cases e:i=id
  ·subst e;rw[aoy ⟨rfl,dJ⟩,aoy rfl];exact ae
  ·rw[aox (fun x=>e x.1.symm),aox e]
 have eo:∀i,cw aj i=cw I i:=fun i=>by
  show cw (gy id (I.set id (false,ob))) i=_;rw[ac6,ij];split
  ·rename_i e;rw[<-e.1];exact aU.symm
  ·rfl
 have iV:∀x,gz (ρ.set id iY) aj x->gz ρ I x\/w.heap.size<=x:=fun x ⟨i,l,a6,bj,bH⟩=>by
  rw[apj]at a6
  by_cases e:id=i
  ·rw[aoy e,aoy hlen]at a6;obtain rfl:=aoK a6;rcases(lG x bj).2.2 with b6|⟨aw,ax,ag⟩
   ·exact .inr b6
   ·exact .inl ⟨id,aw,ax,ag,aU⟩
  ·rw[aox e]at a6;exact .inl ⟨i,l,a6,bj,by rw[<-eo];exact bH⟩
 have cx:Fr ρ I w (ρ.set id iY) aj w':=
  ⟨U,aa,az,cq,fun b ag aR=>sN b ag fun aw ax ai=>aR ⟨id,aw,ax,ai,aU⟩,iV⟩
 have e6:∀i,i≠id->eX ρ I (ρ.set id iY) aj i:=fun i hi aw ax=>by
  refine⟨by rw[apj,aox (apk hi)];exact ax, ?_⟩;rw[cF,aox hi];exact abj id _
 refine⟨?_,cx,e6⟩;refine{len:=by simp[aj,abk,h.len],fc:=fun b ag=>aoV (h.fc b ag) cq,lt:= ?_,inj:= ?_,fK:= ?_,ob:= ?_}
 ·intro i aw b ax ag;rw[apj]at ax
  by_cases e:id=i
  ·rw[aoy e,aoy hlen]at ax;obtain rfl:=aoK ax;exact(lG b ag).1
  ·rw[aox e]at ax;exact aoV (h.lt i aw b ax ag) cq
 ·have back:∀i,id≠i->¬hg aj i->¬hg I i:=fun i e s ⟨s1,n,ak,s2⟩=>s ⟨by rw[eo];exact s1,n,ak,by rw[cF,aox (apk e),s2];rfl⟩
  have key:∀j cC b,id≠j->ρ[j]? =some cC->cC.bu=some b->iY.bu=some b->¬hg aj j->False:=fun j cC b e aI ag gD lV=>by
   rcases(lG b gD).2.2 with b6|⟨aw,ax,ai⟩
   ·have:=h.lt j cC b aI ag;omega
   ·exact e (h.inj id j aw cC b ax aI ai ag (nV aU) (back j e lV))
  intro i j li cC b hi aI m5 m6 j5 lV;rw[apj]at hi aI
  by_cases e:id=i
  ·by_cases b_:id=j
   ·rw[<-e,<-b_]
   ·rw[aoy e,aoy hlen]at hi;rw[aox b_]at aI;obtain rfl:=aoK hi;exact(key j cC b b_ aI m6 m5 lV).elim
  ·rw[aox e]at hi
   by_cases b_:id=j
   ·rw[aoy b_,aoy hlen]at aI;obtain rfl:=aoK aI;exact(key i li b e hi m5 m6 j5).elim
   ·rw[aox b_]at aI;exact h.inj i j li cC b hi aI m5 m6 (back i e j5) (back j b_ lV)
 ·intro i aw b ax ag;rw[apj]at ax
  by_cases e:id=i
  ·rw[aoy e,aoy hlen]at ax;obtain rfl:=aoK ax;exact(lG b ag).2.1
  ·rw[aox e]at ax;exact h.fK i aw b ax ag
 ·intro i aw ax;rw[apj]at ax
  by_cases e:id=i
  ·rw[aoy e,aoy hlen]at ax;obtain rfl:=aoK ax;rw[cF,aoy e.symm];refine aF _ _ _ fun b ag bq dr=> ?_;rcases dr with av|aR
   ·exact bq (.inl av)
   ·rcases iV b aR with b6|b6
    ·exact bq (.inr b6)
    ·omega
  ·rw[aox e]at ax;rw[cF,aox (apk e)];have cf:=h.ob i aw ax
   by_cases j5:hg I i
   ·obtain⟨_,n,ak,s2⟩:=j5;rw[s2];trivial
   have Jf:∀b,aw.bu=some b->w'.heap[b]? =w.heap[b]? :=fun b ag=>
    sN b (h.lt i aw b ax ag) fun l iJ ai=>e (h.inj id i l aw b iJ ax ai ag (nV aU) j5)
   cases hT:af.at I i with
   |cells l=>
    rw[hT]at cf;obtain⟨b,aH,vs,a6,bj,bH,dO,fi⟩:=cf;refine⟨b,aH,vs,a6,bj,by rw[Jf b bj];exact bH,by rw[dM,aoF];exact dO,fun k qn=> ?_⟩;rw[dM]at qn⊢;simp only[aoF]at qn;have:=(fi k qn).kill id (fun _ _=>cx.reads (N:=N)) e6;simpa[aoA,qn]using this
   |_=>
    rw[hT]at cf;exact cf.mono Jf (fun _ _=>cx.reads) (fun l ax=>by cases ax)
end Go.al
end
section
namespace Go.al
section
variable {P:Program} {N:Nat->Prop} {ρ:List Loc} {I:aD} {w:World}
def Good (P:Program)(N:Nat->Prop)(ρ:List Loc)(I:aD)(w:World)(s:Sem Next)(v:J)(aj:aD):Prop:=
 ∃oB w' ρ' u,s.run P w= .ok oB w'/\(oB= .value u\/(oB= .skip/\u=undef))/\cn N ρ I w ρ' aj w'/\bL (aN N ρ' aj) w' ρ' aj v u
theorem Good.aee (h:cv N ρ I w){s:Sem Value}{u:Value}{v:J}(ay:s.run P w= .ok u w)(aP:bL (aN N ρ I) w ρ I v u):
 Good P N ρ I w (do pure (.value (<-s))) v I:=
 ⟨.value u,w,ρ,u,by simp[ay], .inl rfl,cn.refl h,aP⟩
theorem Good.yU (h:cv N ρ I w){u:Value}{v:J}(aP:bL (aN N ρ I) w ρ I v u):
 Good P N ρ I w (pure (.value u)) v I:=⟨.value u,w,ρ,u,rfl, .inl rfl,cn.refl h,aP⟩
theorem abl (Z:Nat->Prop)(v:Value):bL Z w ρ I (tB v) v:=by
 have bc:∀v:Value,eD Z w ρ I (o_ v) v:=by
  intro v;unfold o_;split
  ·exact .int _ _
  ·rfl
  ·rfl
  ·exact .str _ _ (by rw[dM];rfl)
  ·exact⟨none,rfl⟩
  ·rfl
  ·trivial
 cases v with
 |agg cs=>
  refine .hj ⟨cs,rfl,by simp[dM],fun i hi=> ?_⟩;simp only[dM,apD,aoF]at hi⊢
  have:(cs.toList.map o_).getD i .un=o_ (cs.getD i undef):=by
   simp[aoA,aoH,hi]
  rw[this];exact bc _
 |_=>unfold tB;exact .c3 (bc _)
theorem eA {tm:List J}{a:Act}(h:ek (aN N ρ I) w ρ I tm a.tmps)(x:Operand):bL (aN N ρ I) w ρ I (aY tm x) (a.eval x):=by
 cases x with
 |tmp t=>rw[aY,dT];exact h.at_ t
 |const v=>exact abl _ v
 |global g=>exact .c3 trivial
 |func f=>exact .c3 rfl
theorem js {a b:IntKind}:jv a b=true↔a=b:=by cases a<;>cases b<;>simp[jv]
theorem iS {Z:Nat->Prop}{k:IntKind}{n:Int}{u:Value}(h:bL Z w ρ I (.d (.int k n)) u):u= .int k n:=by
 have h:bB Z w (.int k n) u:=h;cases h;rfl
theorem mI {Z:Nat->Prop}{b:Bool}{u:Value}(h:bL Z w ρ I (.d (.bool b)) u):u= .bool b:=by
 have h:bB Z w (.bool b) u:=h;cases h;rfl
theorem tZ {Z:Nat->Prop}{l:List Int}{u:Value}(h:bL Z w ρ I (.d (.str l)) u):∃s:ByteArray,u= .string s/\l=s.data.toList.map fun b=>(b.toNat:Int):=by
 have h:bB Z w (.str l) u:=h
 cases h with
 |str s _ k5=>exact⟨s,rfl,k5⟩
theorem oN {Z:Nat->Prop}(k:IntKind)(n:Int):bL Z w ρ I (.d (.int k n)) (.int k n):= .c3 (bB.int k n)
theorem jP {Z:Nat->Prop}(b:Bool):bL Z w ρ I (.d (.bool b)) (.bool b):= .c3 (bB.bool b)
theorem O7 {dy:Operand}{b:Int}{tm:List J}{k:IntKind}(ag:aY tm dy= .d (.int k b))(h:∀p∈DP dy b,p):b≠0:=by
 unfold DP at h;split at h
 ·rename_i cy n;simp[aY,tB,o_]at ag;rw[<-ag.2];intro b6;omega
 ·exact h _ (by simp)
theorem No {dy:Operand}{b:Int}{tm:List J}{k:IntKind}(ag:aY tm dy= .d (.int k b))(h:∀p∈Cr dy b,p):0<=b:=by
 unfold Cr at h;split at h
 ·rename_i cy n;simp[aY,tB,o_]at ag;rw[<-ag.2]
  cases n with
  |ofNat m=>exact apx m
  |negSucc m=>exact(h False (by simp[isNeg])).elim
 ·exact h _ (by simp)
theorem Yh {op:BinOp}{dy:Operand}{k:IntKind}{a b:Int}{cd:List Prop}{v:J}{aj:aD}{tm:List J}
 (Tk:aY tm dy= .d (.int k b)) (h:n4 op dy k a b I= .aZ cd v aj) (ay:∀p∈cd,p):
 ∃u,aj=I/\(binOp op 0 (.int k a) (.int k b)).run P w= .ok u w/\bL (aN N ρ I) w ρ I v u:=by
 have ae:∀n,bL (aN N ρ I) w ρ I (.d (.int k n)) (.int k n):=oN k
 cases op<;>simp only[n4,bS.aZ.injEq,reduceCtorEq]at h<;>obtain⟨rfl,rfl,rfl⟩:=h
 case quo=>exact⟨_,rfl,by simp[binOp,Op.intDiv,O7 Tk ay],ae _⟩
 case rem=>exact⟨_,rfl,by simp[binOp,Op.intDiv,O7 Tk ay],ae _⟩
 case eql=>exact⟨_,rfl,by simp[binOp,Op.intCmp];rfl,by rw[show(a==b)=decide (a=b)from rfl];exact jP _⟩
 case neq=>exact⟨_,rfl,by simp[binOp,Op.intCmp];rfl,by rw[show(a !=b)= !decide (a=b)from rfl];exact jP _⟩
 case lss=>exact⟨_,rfl,by simp[binOp,Op.intCmp],jP _⟩
 case leq=>exact⟨_,rfl,by simp[binOp,Op.intCmp],jP _⟩
 case gtr=>exact⟨_,rfl,by simp[binOp,Op.intCmp],jP _⟩
 case geq=>exact⟨_,rfl,by simp[binOp,Op.intCmp],jP _⟩
 case add=>exact⟨_,rfl,by simp[binOp,Op.intArith],ae _⟩
 case sub=>exact⟨_,rfl,by simp[binOp,Op.intArith],ae _⟩
 case mul=>exact⟨_,rfl,by simp[binOp,Op.intArith],ae _⟩
 case and=>exact⟨_,rfl,by simp only[binOp,Op.intBits,ne_eq,not_true_eq_false,if_false];rfl,ae _⟩
 case or=>exact⟨_,rfl,by simp only[binOp,Op.intBits,ne_eq,not_true_eq_false,if_false];rfl,ae _⟩
 case xor=>exact⟨_,rfl,by simp only[binOp,Op.intBits,ne_eq,not_true_eq_false,if_false];rfl,ae _⟩
 case andNot=>exact⟨_,rfl,by simp only[binOp,Op.intBits,ne_eq,not_true_eq_false,if_false];rfl,ae _⟩
theorem sc (op:BinOp)(t:TypeId)(x y:Operand)(a b:Value)(U:a≠ .nilIface)(aa:∀c,a≠ .agg c):(eqGuard op t x y a b).run P w= .ok () w:=by
 cases op<;>first|rfl|(cases a<;>first|exact absurd rfl U|exact absurd rfl (aa _)|rfl)
theorem qH {t:TypeId}{i:b7}(hi:c1 P t i=true)(h:iz i.ty=true):∃e,P.underlying t=some (.slice e):=by
 unfold c1 at hi;split at hi<;>simp_all [iz]
theorem Np {t:TypeId}{i:b7}(hi:c1 P t i=true)(h:i.ty= .aB .bool):P.underlying t=some .bool:=by
 unfold c1 at hi;rw[h]at hi;split at hi<;>simp_all
theorem si {t:TypeId}{i:b7}(hi:c1 P t i=true)(h:i.ty= .aB .str):P.underlying t=some .string:=by
 unfold c1 at hi;rw[h]at hi;split at hi<;>simp_all
theorem Xu {op:BinOp}{t:TypeId}{i:b7}(hi:c1 P t i=true){a b:Bool}{cd:List Prop}{v:J}{aj:aD}
 (h:jt op i.ty a b I= .aZ cd v aj):
 ∃u,aj=I/\(binOp op t (.bool a) (.bool b)).run P w= .ok u w/\bL (aN N ρ I) w ρ I v u:=by
 unfold jt at h;split at h<;>simp only[bS.aZ.injEq,reduceCtorEq]at h<;>obtain⟨rfl,rfl,rfl⟩:=h
 ·rename_i e;have hu:=Np hi e;refine⟨.bool (a==b),rfl, ?_,jP _⟩;simp only[binOp,Sem.run_bind,run_equal_bool w t a b hu,Result.andThen_ok,Sem.run_pure]
 ·rename_i e;have hu:=Np hi e;refine⟨.bool (!(a==b)),rfl, ?_,jP _⟩;simp only[binOp,Sem.run_bind,run_equal_bool w t a b hu,Result.andThen_ok,Sem.run_pure]
theorem O8 {x y:ByteArray}:(x.toList==y.toList)=decide ((x.data.toList.map fun b=>(b.toNat:Int))=(y.data.toList.map fun b=>(b.toNat:Int))):=by
 rw[ByteArray.toList_eq,ByteArray.toList_eq,Bool.eq_iff_iff];simp only[beq_iff_eq,aoD];constructor
 ·intro h;rw[h]
 ·intro h
  have:∀(p q:List UInt8),p.map (fun b=>(b.toNat:Int))=q.map (fun b=>(b.toNat:Int))->p=q:=by
   intro p
   induction p with
   |nil=>intro q a_;cases q<;>simp_all
   |cons c r bF=>
    intro q a_
    cases q with
    |nil=>simp at a_
    |cons d s=>
     simp only[aoX,aqc]at a_;obtain⟨U,aa⟩:=a_;have:c=d:=by apply UInt8.toNat_inj.1;omega
     rw[this,bF s aa]
  exact this _ _ h
theorem WR (x y:List UInt8):Op.bytesLess x y=wv (x.map fun b=>(b.toNat:Int)) (y.map fun b=>(b.toNat:Int)):=by
 induction x generalizing y with
 |nil=>cases y<;>simp[Op.bytesLess,wv]
 |cons a r bF=>
  cases y with
  |nil=>simp[Op.bytesLess,wv]
  |cons b s=>
   simp only[Op.bytesLess,wv,aoX,bF]
   congr 1
   ·rw[Bool.eq_iff_iff];simp[UInt8.lt_iff_toNat_lt]
   ·congr 1
    rw[Bool.eq_iff_iff];simp[<-UInt8.toNat_inj];omega
theorem Yi {op:BinOp}{t:TypeId}{i:b7}(hi:c1 P t i=true){cT dy:Operand}{tm:List J}{a:Act}(au:ek (aN N ρ I) w ρ I tm a.tmps)
 {cd:List Prop} {v:J} {aj:aD} (h:oU op i.ty dy (aY tm cT) (aY tm dy) I= .aZ cd v aj) (ay:∀p∈cd,p):
 ∃u,aj=I/\(do eqGuard op t cT dy (a.eval cT) (a.eval dy);binOp op t (a.eval cT) (a.eval dy):Sem Value).run P w= .ok u w/\bL (aN N ρ I) w ρ I v u:=by
 have ai:=eA au cT;have bp:=eA au dy;generalize hex:aY tm cT=x at*;generalize rC:aY tm dy=y at*;generalize a.eval cT=oC at*;generalize a.eval dy=qy at*;unfold oU at h;split at h
 ·
  rename_i k n cy m;have aA:=iS ai;have aL:=iS bp;subst aA aL;rw[Sem.run_bind,sc _ _ _ _ _ _ (by simp) (by simp),Result.andThen_ok];split at h
  ·simp only[bS.aZ.injEq]at h;obtain⟨rfl,rfl,rfl⟩:=h;have:=No rC ay;exact⟨_,rfl,by simp[binOp,Op.shift,show ¬m<0 by omega],oN _ _⟩
  ·simp only[bS.aZ.injEq]at h;obtain⟨rfl,rfl,rfl⟩:=h;have:=No rC ay;exact⟨_,rfl,by simp[binOp,Op.shift,show ¬m<0 by omega],oN _ _⟩
  ·split at h
   ·rename_i ae;obtain rfl:=js.1 ae;obtain⟨u,U,aa,az⟩:=Yh (P:=P) (N:=N) (ρ:=ρ) (w:=w) rC h ay;refine⟨u,U, ?_,az⟩;rw[<-aa];cases op<;>first|rfl|(exfalso;simp_all;done)|(simp only[n4]at h;cases h)
   ·cases h
 ·
  rename_i l m;obtain⟨s1,rfl,rfl⟩:=tZ ai;obtain⟨s2,rfl,rfl⟩:=tZ bp;rw[Sem.run_bind,sc _ _ _ _ _ _ (by simp) (by simp),Result.andThen_ok];split at h<;>simp only[bS.aZ.injEq,reduceCtorEq]at h<;>obtain⟨rfl,rfl,rfl⟩:=h
  ·have hle:((s1.size+s2.size:Nat):Int)<=9223372036854775807:=by
    have:=ay _ (apo.2 rfl);simp only[aoF,apD]at this;have aa:((s1.size+s2.size:Nat):Int)=(s1.data.size:Int)+s2.data.size:=by rw[show s1.size=s1.data.size from rfl,show s2.size=s2.data.size from rfl];omega
    rw[aa];exact this
   refine⟨.string (s1++s2),rfl, ?_, ?_⟩
   ·have:¬((s1.size+s2.size:Nat):Int)>IntKind.i64.max:=by
     have:IntKind.i64.max=9223372036854775807:=by decide
     rw[this];omega
    simp only[binOp,Op.stringOp,aox this,Sem.run_pure]
   ·exact .c3 (bB.str _ _ (by rw[<-apd];congr 1))
  ·exact⟨_,rfl,by simp only[binOp,Op.stringOp,O8,Sem.run_pure],jP _⟩
  ·exact⟨_,rfl,by simp only[binOp,Op.stringOp,O8,Sem.run_pure],jP _⟩
  ·exact⟨_,rfl,by simp only[binOp,Op.stringOp,ByteArray.toList_eq,WR,Sem.run_pure],jP _⟩
 ·split at h<;>cases h
 ·split at h<;>cases h
 rotate_right
 ·cases h
 all_goals
  (obtain⟨u,U,aa,az⟩:=Xu (P:=P) (N:=N) (ρ:=ρ) (w:=w) hi h
   refine⟨u,U, ?_,az⟩
   first
    |(rename_i p q;have aA:=mI ai;have aL:=mI bp;subst aA aL
      rw[Sem.run_bind,sc _ _ _ _ _ _ (by simp) (by simp),Result.andThen_ok];exact aa)
    |(have aA:=mI ai;have aL:qy= .bool _:=bp;subst aA aL
      rw[Sem.run_bind,sc _ _ _ _ _ _ (by simp) (by simp),Result.andThen_ok];exact aa)
    |(have aA:oC= .bool _:=ai;have aL:=mI bp;subst aA aL
      rw[Sem.run_bind,sc _ _ _ _ _ _ (by simp) (by simp),Result.andThen_ok];exact aa)
    |(have aA:oC= .bool _:=ai;have aL:qy= .bool _:=bp;subst aA aL
      rw[Sem.run_bind,sc _ _ _ _ _ _ (by simp) (by simp),Result.andThen_ok];exact aa))
end
end Go.al
end
section
namespace Go.al
section
variable {P:Program} {N:Nat->Prop} {ρ:List Loc} {I:aD} {w:World}
theorem Bv {Z:Nat->Prop}{k:IntKind}{l:List Int}{u:Value}(h:bL Z w ρ I (.d (.ad k l)) u):
 ∃a cap,u= .slice a l.length cap/\l.length<=cap/\(a=none->l=[]):=by
 have h:bB Z w (.ad k l) u:=h
 cases h with
 |jg a cap=>exact⟨a,cap,rfl,by simp,fun _=>rfl⟩
 |ad _ _ n b off cap av bq aC h=>exact⟨_,cap,by rw[av],by rw[av];exact aC,fun h=>by cases h⟩
theorem GO {Z:Nat->Prop}{ak:Nat}{l:List (List R)}{u:Value}(h:bL Z w ρ I (.d (.ar ak l)) u):
 ∃a cap,u= .slice a l.length cap/\l.length<=cap/\(a=none->l=[]):=by
 have h:bB Z w (.ar ak l) u:=h
 cases h with
 |kN a cap=>exact⟨a,cap,rfl,by simp,fun _=>rfl⟩
 |ar _ _ n b off cap _ av _ bq aC h=>exact⟨_,cap,by rw[av],by rw[av];exact aC,fun h=>by cases h⟩
theorem abm {Z:Nat->Prop}{x:R}{t:a7}{u:Value}(aU:gX t x=true)(h:bB Z w x u)(dg:0<x.len):
 ∃b off cap,u= .slice (some ⟨b,off,none⟩) x.len cap:=by
 cases h with
 |jg a cap=>simp[R.len]at dg
 |ad _ l n b off cap av bq aC h=>exact⟨b,off,cap,by simp[R.len,av]⟩
 |kN a cap=>simp[R.len]at dg
 |ar _ l n b off cap _ av _ bq aC h=>exact⟨b,off,cap,by simp[R.len,av]⟩
 |_=>cases t<;>simp[gX]at aU
theorem se {t:TypeId}{i:b7}(hi:c1 P t i=true){x:R}(aU:gX i.ty x=true):
 ∃e g,P.underlying t=some (.slice e)/\P.info? e=some g/\g.size=x.cJ/\0<x.cJ/\g.bytes=i.bytes:=by
 unfold c1 at hi
 cases x<;>cases b9:i.ty<;>simp only[b9,gX,apP]at aU<;>rename_i s<;>cases s<;>
  simp only[apP]at aU<;>simp only[b9]at hi
 ·split at hi<;>simp_all;split at hi<;>simp_all [R.cJ]
 ·split at hi<;>simp_all;split at hi<;>simp_all [R.cJ]
theorem mL (b off n:Nat):(⟨b,off,none⟩:Addr).add n=⟨b,off+n,none⟩:=by unfold Addr.add;split<;>simp_all
theorem lh {t:TypeId}{g:TypeInfo}(h:P.info? t=some g):(sizeOf t).run P w= .ok g.size w:=by simp[sizeOf,typeInfo,h]
theorem ac7 {v:Value}(h:o_ v= .emp):v= .slice none 0 0:=by
 unfold o_ at h;split at h<;>first|rfl|cases h
theorem Rf {v:Value}(h:tB v= .emp):v= .slice none 0 0:=by
 cases v with
 |agg c=>cases h
 |_=>exact ac7 h
theorem abn {op:BinOp}{t:TypeId}{i:b7}(hi:c1 P t i=true){cT dy:Operand}{tm:List J}{a:Act}(au:ek (aN N ρ I) w ρ I tm a.tmps)
 {p:Bool->Prop} (h:oU op i.ty dy (aY tm cT) (aY tm dy) I= .fB p):
 ∃b,p b/\(do eqGuard op t cT dy (a.eval cT) (a.eval dy);binOp op t (a.eval cT) (a.eval dy):Sem Value).run P w= .ok (.bool b) w:=by
 have ai:=eA au cT;generalize hex:aY tm cT=x at*;generalize rC:aY tm dy=y at*;unfold oU at h
 have Es:∀v,dy= .const v->y= .emp->a.eval dy= .slice none 0 0:=by
  intro v aP bp;subst aP;rw[bp]at rC;exact Rf rC
 have key:∀u:Value,(∃fE l cap,u= .slice fE l cap)->∀fE l cap,u= .slice fE l cap->iz i.ty=true->a.eval dy= .slice none 0 0->
  (op= .eql->(do eqGuard op t cT dy u (a.eval dy);binOp op t u (a.eval dy):Sem Value).run P w= .ok (.bool fE.isNone) w)/\
  (op= .neq->(do eqGuard op t cT dy u (a.eval dy);binOp op t u (a.eval dy):Sem Value).run P w= .ok (.bool (!fE.isNone)) w):=by
  intro u _ fE l cap hu km aiH;subst hu;rw[aiH];obtain⟨e,he⟩:=qH hi km;constructor
  ·rintro rfl;rw[Sem.run_bind,sc _ _ _ _ _ _ (by simp) (by simp),Result.andThen_ok];simp only[binOp,Sem.run_bind,run_equal_slice_nil w t e fE l cap he,Result.andThen_ok,Sem.run_pure]
  ·rintro rfl;rw[Sem.run_bind,sc _ _ _ _ _ _ (by simp) (by simp),Result.andThen_ok];simp only[binOp,Sem.run_bind,run_equal_slice_nil w t e fE l cap he,Result.andThen_ok,Sem.run_pure]
 split at h
 ·split at h
  ·cases h
  ·cases h
  ·split at h
   ·cases op<;>simp[n4]at h
   ·cases h
 ·split at h<;>cases h
 ·rename_i AB l;obtain⟨fE,cap,hu,_,av⟩:=Bv ai;split at h<;>simp only[bS.fB.injEq,reduceCtorEq]at h<;>subst h
  ·rename_i _ v km;exact⟨fE.isNone,fun ag=>av (by simpa using ag),(key _ ⟨_,_,_,hu⟩ _ _ _ hu km (Es v rfl rfl)).1 rfl⟩
  ·rename_i _ v km;exact⟨!fE.isNone,fun ag=>av (by simpa using ag),(key _ ⟨_,_,_,hu⟩ _ _ _ hu km (Es v rfl rfl)).2 rfl⟩
 ·rename_i AB l;obtain⟨fE,cap,hu,_,av⟩:=GO ai;split at h<;>simp only[bS.fB.injEq,reduceCtorEq]at h<;>subst h
  ·rename_i _ v km;exact⟨fE.isNone,fun ag=>av (by simpa using ag),(key _ ⟨_,_,_,hu⟩ _ _ _ hu km (Es v rfl rfl)).1 rfl⟩
  ·rename_i _ v km;exact⟨!fE.isNone,fun ag=>av (by simpa using ag),(key _ ⟨_,_,_,hu⟩ _ _ _ hu km (Es v rfl rfl)).2 rfl⟩
 all_goals
  first
  |(simp only[jt]at h;split at h<;>cases h)
  |cases h
theorem Zx {op:UnOp}{cT:Operand}{tm:List J}{a:Act}(au:ek (aN N ρ I) w ρ I tm a.tmps)
 {cd:List Prop} {v:J} {aj:aD} (h:wT op (aY tm cT) I= .aZ cd v aj):
 ∃u,aj=I/\(Op.unary op (a.eval cT)).run P w= .ok u w/\bL (aN N ρ I) w ρ I v u:=by
 have ai:=eA au cT;generalize aY tm cT=x at*;generalize a.eval cT=oC at*;unfold wT at h;split at h<;>simp only[bS.aZ.injEq,reduceCtorEq]at h<;>obtain⟨rfl,rfl,rfl⟩:=h
 ·have:=iS ai;subst this;exact⟨_,rfl,by simp[Op.unary,Op.intArith],oN _ _⟩
 ·have:=iS ai;subst this;exact⟨_,rfl,by simp only[Op.unary,Op.intBits];rfl,oN _ _⟩
 ·have:=mI ai;subst this;exact⟨_,rfl,rfl,jP _⟩
 ·have ai:oC= .bool true:=ai;subst ai;exact⟨_,rfl,rfl,rfl⟩
 ·have ai:oC= .bool false:=ai;subst ai;exact⟨_,rfl,rfl,rfl⟩
theorem Xv {r3 cT dy:Operand}{tm:List J}{a:Act}(au:ek (aN N ρ I) w ρ I tm a.tmps)
 {cd:List Prop} {v:J} {aj:aD} (h:wx (aY tm r3) (aY tm cT) (aY tm dy) I= .aZ cd v aj):
 ∃b,aj=I/\a.eval r3= .bool b/\bL (aN N ρ I) w ρ I v (if b then a.eval cT else a.eval dy):=by
 have aC:=eA au r3;have ai:=eA au cT;have bp:=eA au dy;generalize aY tm r3=c at*;generalize aY tm cT=x at*;generalize aY tm dy=y at*;unfold wx at h;split at h
 ·simp only[bS.aZ.injEq]at h;obtain⟨rfl,rfl,rfl⟩:=h;exact⟨true,rfl,aC,by simpa using ai⟩
 ·simp only[bS.aZ.injEq]at h;obtain⟨rfl,rfl,rfl⟩:=h;exact⟨false,rfl,aC,by simpa using bp⟩
 ·rename_i b;have ag:=mI aC;split at h
  ·simp only[bS.aZ.injEq]at h;obtain⟨rfl,rfl,rfl⟩:=h;refine⟨b,rfl,ag, ?_⟩;rw[mI ai,mI bp];cases b<;>exact jP _
  ·simp only[bS.aZ.injEq]at h;obtain⟨rfl,rfl,rfl⟩:=h;refine⟨b,rfl,ag, ?_⟩;rw[show a.eval cT= .bool true from ai,mI bp];cases b<;>exact jP _
  ·simp only[bS.aZ.injEq]at h;obtain⟨rfl,rfl,rfl⟩:=h;refine⟨b,rfl,ag, ?_⟩;rw[mI ai,show a.eval dy= .bool false from bp];cases b<;>exact jP _
  ·simp only[bS.aZ.injEq]at h;obtain⟨rfl,rfl,rfl⟩:=h;refine⟨b,rfl,ag, ?_⟩;rw[show a.eval cT= .bool true from ai,show a.eval dy= .bool false from bp];cases b<;>exact jP _
  ·split at h
   ·simp only[bS.aZ.injEq]at h;obtain⟨rfl,rfl,rfl⟩:=h;rename_i ae;obtain rfl:=js.1 ae;refine⟨b,rfl,ag, ?_⟩;rw[iS ai,iS bp];cases b<;>exact oN _ _
   ·cases h
  ·cases h
 ·cases h
theorem Xw {cT:Operand}{n:Nat}{tm:List J}{a:Act}(au:ek (aN N ρ I) w ρ I tm a.tmps){l:List J}(h:aY tm cT= .tup l):
 n<l.length->∃u,(Instr.extract (a.eval cT) n).run P w= .ok u w/\bL (aN N ρ I) w ρ I (b8 .any l n) u:=by
 intro av;have ai:=eA au cT;rw[h]at ai;obtain⟨arr,U,aa,az⟩:=ai;have bG:n<arr.size:=by rw[aa];exact av
 refine⟨arr[n],by simp[Instr.extract,U,bG], ?_⟩;have:=az n av;rw[dT];simp only[aoA,aoM av,apA,aoH,aqj bG]at this⊢;exact .hj this
theorem Zy {t:TypeId}{i:b7}(hi:c1 P t i=true){x:J}{u:Value}(ai:bL (aN N ρ I) w ρ I x u){n:Nat}(h:uF i.ty x I=some n)(ts:List TypeId)(ty:TypeId):
 (Builtin.len_ (t::ts).toArray ty #[u]).run P w= .ok (.int .i64 n) w:=by
 unfold uF at h;split at h
 ·split at h
  ·rename_i ay;simp at h;subst h;obtain⟨s,rfl,rfl⟩:=tZ ai;have:=si hi ay;have aa:(Builtin.len_ (t::ts).toArray ty #[.string s]).run P w= .ok (goInt s.size) w:=by simp[Builtin.len_,underlying,this]
   rw[aa,goInt,aoF,apD];rfl
  ·cases h
 ·split at h
  ·rename_i ay;simp at h;subst h;obtain⟨fE,cap,rfl,_⟩:=Bv ai;obtain⟨e,he⟩:=qH hi ay;simp[Builtin.len_,underlying,he,goInt]
  ·cases h
 ·split at h
  ·rename_i ay;simp at h;subst h;obtain⟨fE,cap,rfl,_⟩:=GO ai;obtain⟨e,he⟩:=qH hi ay;simp[Builtin.len_,underlying,he,goInt]
  ·cases h
 ·split at h
  ·rename_i ay;simp at h;subst h;obtain⟨aw,_,rfl,_⟩:=ai;obtain⟨e,he⟩:=qH hi ay;simp[Builtin.len_,underlying,he,goInt]
  ·cases h
 ·split at h
  ·rename_i ay;simp at h;subst h;obtain⟨fE,rfl⟩:=ai;obtain⟨e,he⟩:=qH hi ay;simp[Builtin.len_,underlying,he,goInt]
  ·cases h
 ·cases h
end
end Go.al
end
section
namespace Go.al
section
variable {P:Program} {N:Nat->Prop} {ρ:List Loc} {I:aD} {w:World}
theorem MW {t:a7}{o:af}(h:jw t o=true):gX t o.data=true/\o.data.cJ=o.cJ/\o.data.len=o.len:=by
 cases t with
 |aB s=>cases o<;>cases s<;>simp_all [jw,gX,af.data,R.cJ,af.cJ,R.len,af.len]
 |_=>cases o<;>simp[jw]at h
theorem aef {id:Nat}{aw:Loc}{t:a7}(h:h0 (aN N ρ I) w ρ I aw (af.at I id))(aU:jw t (af.at I id)=true)(dg:0<(af.at I id).len):
 ∃b,aw.a=some ⟨b,0,none⟩/\aw.bu=some b:=by
 cases aF:af.at I id with
 |ad k l=>
  rw[aF]at h dg;rcases h with⟨rfl,_⟩|⟨b,aH,e,U,aa,_⟩
  ·simp[af.len]at dg
  ·exact⟨b,U,aa⟩
 |ar ak l=>
  rw[aF]at h dg;rcases h with⟨rfl,_⟩|⟨b,aH,e,U,aa,_⟩
  ·simp[af.len]at dg
  ·exact⟨b,U,aa⟩
 |_=>rw[aF]at aU;simp[jw]at aU
theorem run_indexAt_slice {t:TypeId}{e:TypeId}{g:TypeInfo}(hu:P.underlying t=some (.slice e))(bh:P.info? e=some g)(b off len cap:Nat)(k:IntKind)(n:Int)
 (bc:0<=n) (U:n<(len:Int)):
 (Instr.indexAt t (.slice (some ⟨b,off,none⟩) len cap) (.int k n)).run P w= .ok (.pointer (some ⟨b,off+n.toNat*g.size,none⟩)) w:=by
 simp[Instr.indexAt,asIntOf,underlying,hu,lh bh,bc,U,mL]
theorem ya {t:TypeId}{i:b7}(hi:c1 P t i=true){n:Nat}{e:a7}{cs:List cg}(h:i.ty= .arr n e cs):
 ∃el g,P.underlying t=some (.array n el)/\P.info? el=some g/\g.size=e.size:=by
 unfold c1 at hi;rw[h]at hi;split at hi<;>simp_all;rename_i el _ _ _;obtain⟨g,bh⟩:=aqR.1 hi.1.1.2;exact⟨g,bh,by rw[<-hi.1.1.1.1.2];simp[Program.cellsOf,bh]⟩
theorem Yj {t:TypeId}{i:b7}(hi:c1 P t i=true){n:Nat}{e:a7}{cs:List cg}(h:i.ty= .arr n e cs):
 ∃el g d,P.underlying t=some (.array n el)/\P.info? el=some g/\g.size=e.size/\P.underlying el=some d/\oX d=e.isAgg:=by
 unfold c1 at hi;rw[h]at hi;split at hi<;>simp_all;rename_i el _ _ _;obtain⟨g,bh⟩:=aqR.1 hi.1.1.2;obtain⟨d,a8⟩:=aqR.1 hi.1.2;refine⟨g,bh,by rw[<-hi.1.1.1.1.2];simp[Program.cellsOf,bh],d,a8, ?_⟩;have:=hi.2;simpa[C0,a8]using this
theorem run_indexAt_array {t:TypeId}{m e:Nat}{g:TypeInfo}(hu:P.underlying t=some (.array m e))(bh:P.info? e=some g)(b off:Nat)(k:IntKind)(n:Int)
 (bc:0<=n) (U:n<(m:Int)):
 (Instr.indexAt t (.pointer (some ⟨b,off,none⟩)) (.int k n)).run P w= .ok (.pointer (some ⟨b,off+n.toNat*g.size,none⟩)) w:=by
 simp[Instr.indexAt,Instr.sureAddr,asIntOf,underlying,hu,lh bh,bc,U,mL]
theorem Bw (j:Nat)(n:Int):placeOf j n=j+n.toNat:=by
 unfold placeOf;split
 ·rename_i h;rw[aoz h,ao8]
 ·rfl
theorem Zz {t:TypeId}{i:b7}(hi:c1 P t i=true){x:J}{u:Value}(ai:bL (aN N ρ I) w ρ I x u){k:IntKind}{n:Int}
 {cd:List Prop} {v:J} {aj:aD} (h:o2 i.ty x n I= .aZ cd v aj) (ay:∀p∈cd,p):
 ∃cY,aj=I/\(Instr.indexAt t u (.int k n)).run P w= .ok cY w/\bL (aN N ρ I) w ρ I v cY:=by
 unfold o2 at h;split at h
 ·rename_i m s cs b9;obtain⟨el,g,q1,cE,cS⟩:=ya hi b9;have cS:g.size=1:=cS;split at h
  ·rename_i id a j;split at h
   ·rename_i ak l aF;split at h
    ·rename_i ag;have ag:j+m<=ak:=aoY ag;simp only[bS.aZ.injEq]at h;obtain⟨rfl,rfl,rfl⟩:=h;have bc:0<=n:=ay _ (by simp);have U:n<(m:Int):=ay _ (by simp);obtain⟨aw,b,aA,aL,b3,cX,hn,j6⟩:=ai;have bq:(af.at I id).cJ=ak:=by rw[aF];rfl
     refine⟨_,rfl,by rw[cX];exact run_indexAt_array q1 cE b _ k n bc U, .c3 ⟨aw,b,aA,aL,b3, ?_,hn,j6, ?_⟩⟩
     ·rw[cS,Bw];simp only[ao6,apy]
     ·rw[bq,Bw];omega
    ·cases h
   ·cases h
  ·rename_i ak l a j;split at h
   ·rename_i ag;have ag:j+m<=ak:=aoY ag;simp only[bS.aZ.injEq]at h;obtain⟨rfl,rfl,rfl⟩:=h;have bc:0<=n:=ay _ (by simp);have U:n<(m:Int):=ay _ (by simp);obtain⟨b,off,cap,aA,aL,b3,cX⟩:=ai;refine⟨_,rfl,by rw[cX];exact run_indexAt_array q1 cE b _ k n bc U, .c3 ⟨b,off,cap,aA,aL,b3, ?_, ?_⟩⟩
    ·rw[Bw];show j+n.toNat<ak;omega
    ·rw[cS,Bw];simp only[ao6,apy]
   ·cases h
  ·cases h
 ·cases h
theorem Wk {t:TypeId}{i:b7}(hi:c1 P t i=true)(bI:cv N ρ I w){cT vt:Operand}{tm:List J}{a:Act}(au:ek (aN N ρ I) w ρ I tm a.tmps)
 {cd:List Prop} {v:J} {aj:aD} (h:qJ i.ty (aY tm cT) (aY tm vt) I= .aZ cd v aj) (ay:∀p∈cd,p):
 ∃u,aj=I/\(Instr.indexAt t (a.eval cT) (a.eval vt)).run P w= .ok u w/\bL (aN N ρ I) w ρ I v u:=by
 have ai:=eA au cT;have bp:=eA au vt;generalize aY tm cT=x at*;generalize aY tm vt=y at*;unfold qJ at h;split at h
 ·rename_i k n;have aA:=iS bp;split at h
  ·rename_i x;split at h
   ·rename_i aU;simp only[bS.aZ.injEq]at h;obtain⟨rfl,rfl,rfl⟩:=h;have bc:0<=n:=ay _ (by simp);have U:n<(x.len:Int):=ay _ (by simp);have hk:bB (aN N ρ I) w x (a.eval cT):=ai;obtain⟨b,off,cap,hu⟩:=abm aU hk (by omega);obtain⟨e,g,he,bh,cq,kg,_⟩:=se hi aU;refine⟨.pointer (some ⟨b,off+n.toNat*g.size,none⟩),rfl, ?_, .c3 ⟨b,off,cap,hu▸hk,bc,U,by rw[cq];simp⟩⟩;rw[hu,aA];exact run_indexAt_slice he bh b off _ cap k n bc U
   ·cases h
  ·rename_i id;split at h
   ·rename_i aU;simp only[bS.aZ.injEq]at h;obtain⟨rfl,rfl,rfl⟩:=h;have bc:0<=n:=ay _ (by simp);have U:n<((af.at I id).len:Int):=ay _ (by simp);obtain⟨aw,ax,hu,_⟩:=ai;obtain⟨b,hA,ep⟩:=aef (bI.ob id aw ax) aU (by omega);obtain⟨u4,aiI,_⟩:=MW aU;obtain⟨e,g,he,bh,cq,kg,_⟩:=se hi u4;refine⟨.pointer (some ⟨b,0+n.toNat*g.size,none⟩),rfl, ?_, .c3 ⟨aw,b,ax,hA,ep,by rw[cq,aiI];simp,bc,U⟩⟩;rw[hu,aA,hA];exact run_indexAt_slice he bh b 0 _ _ k n bc U
   ·cases h
  ·simp only[bS.aZ.injEq]at h;obtain⟨rfl,_⟩:=h;exact(ay False (by simp)).elim
  ·rw[aA];exact Zz hi ai h ay
 ·cases h
theorem tU {Z:Nat->Prop}{s:cg}{x:R}{u:Value}(h:bB Z w x u)(aF:s.p7 x):eD Z w ρ I (s.take x) u:=by
 cases s<;>cases x<;>simp only[cg.p7,R.dd,R.isBool,R.isStr,R.eJ,R.q8]at aF<;>simp only[cg.take,R.toInt,R.toBool,R.toStr,R.b2,R.lr]<;>
  first
  |exact h
  |(subst aF;exact h)
theorem Xx {Z:Nat->Prop}(x:R)(i:Nat)(u:Nat->Value):∀(cs:List cg) (j:Nat),(∀m,m<cs.length->bB Z w (x.cell i (j+m)) (u (j+m)))->(∀p∈(ri cs x i j).1,p)->
 (ri cs x i j).2.length=cs.length/\∀m,m<cs.length->eD Z w ρ I ((ri cs x i j).2.getD m .un) (u (j+m)):=by
 intro cs
 induction cs with
 |nil=>intro j _ _;simp[ri]
 |cons s dK bF=>
  intro j an ay;simp only[ri]at ay⊢;have bc:=an 0 (by simp);have fe:=ay _ (aqy ..);obtain⟨U,aa⟩:=bF (j+1) (fun m hm=>by have:=an (m+1) (by simp;omega);rwa [show j+(m+1)=j+1+m by omega]at this) (fun p aE=>ay p (apQ _ aE));refine⟨by simpa using U,fun m hm=> ?_⟩
  cases m with
  |zero=>exact tU bc fe
  |succ m=>
   have:=aa m (by simpa using hm);rw[show j+(m+1)=j+1+m by omega];simpa using this
theorem qO {t:TypeId}{d:TypeDesc}(h:P.underlying t=some d):(isAgg t).run P w= .ok (oX d) w:=by
 simp only[isAgg,Sem.run_bind,run_underlying h,Result.andThen_ok];cases d<;>rfl
theorem yG {t:TypeId}{i:b7}(hi:c1 P t i=true){s:cg}(ay:i.ty= .aB s)(b o:Nat){v:Value}(aC:w.cell? ⟨b,o,none⟩=some v):
 (loadVar t ⟨b,o,none⟩).run P w= .ok v w:=by
 have:∃d,P.underlying t=some d/\oX d=false:=by
  unfold c1 at hi;rw[ay]at hi;split at hi<;>simp_all [oX]
 obtain⟨d,U,aa⟩:=this;simp[loadVar,qO U,aa,aC]
theorem Qj {t:TypeId}{i:b7}(hi:c1 P t i=true){s:cg}(ay:i.ty= .aB s):∃g,P.info? t=some g/\g.size=1:=by
 unfold c1 at hi;rw[ay]at hi;split at hi<;>simp_all
theorem wh {t:TypeId}{i:b7}(hi:c1 P t i=true){cs:List cg}(ay:(∃bY,i.ty= .struct bY cs)\/∃n e,i.ty= .arr n e cs):
 ∃g d,P.info? t=some g/\g.size=cs.length/\P.underlying t=some d/\oX d=true/\∃z,g.zero=some z/\mP cs z.cells.toList=true:=by
 unfold c1 at hi;rcases ay with⟨bY,ay⟩|⟨n,e,ay⟩<;>rw[ay]at hi<;>split at hi<;>simp_all [oX,cG,nw]
 all_goals
  rename_i g _ _ _ _;cases bq:g.zero<;>simp_all
theorem BV {t:TypeId}{i:b7}(hi:c1 P t i=true){cs:List cg}(ay:(∃bY,i.ty= .struct bY cs)\/∃n e,i.ty= .arr n e cs)(b o:Nat)(u:Nat->Value)
 (aC:∀m,m<cs.length->w.cell? ⟨b,o+m,none⟩=some (u m)):(loadVar t ⟨b,o,none⟩).run P w= .ok (.agg ((List.range cs.length).map u).toArray) w:=by
 obtain⟨g,d,U,aa,az,aW,_⟩:=wh hi ay;have bA:=run_loadCells (P:=P) w ⟨b,o,none⟩ cs.length u (fun j aI=>by rw[mL];exact aC j aI);simp[loadVar,qO az,aW,lh U,aa,bA]
theorem BD (u:Nat->Value)(n m:Nat)(h:m<n):((List.range n).map u).toArray.getD m undef=u m:=by
 simp[aoH,h]
theorem GP {r:List R}{j n ak:Nat}(an:r.length=ak)(h:j+n<=ak):(lu r j n ak).length=n/\∀m,m<n->(lu r j n ak).getD m .undef=r.getD (j+m) .undef:=by
 unfold lu;split
 ·rename_i aI;obtain rfl:=aoz aI;split
  ·rename_i av;obtain rfl:=aoz av;exact⟨an,fun m _=>by rw[ao8]⟩
  ·refine⟨by rw[ao3];omega,fun m hm=> ?_⟩;rw[aoA,aps,aoy hm,ao8,aoA]
 ·refine⟨by rw[ao3,apI];omega,fun m hm=> ?_⟩;rw[aoA,aps,aoy hm,apZ,aoA]
theorem O9 {t:TypeId}{i:b7}(hi:c1 P t i=true){cs:List cg}(b9:(∃bY,i.ty= .struct bY cs)\/∃n e,i.ty= .arr n e cs){r:List R}{j ak:Nat}(an:r.length=ak)(aI:j+cs.length<=ak)
 (b o:Nat) (u:Nat->Value) (aC:∀m,m<ak->w.cell? ⟨b,o+m,none⟩=some (u m)) (hu:∀m,m<ak->bB (aN N ρ I) w (r.getD m .undef) (u m)):
 ∃v,(loadVar t ⟨b,o+j,none⟩).run P w= .ok v w/\bL (aN N ρ I) w ρ I (.rw cs.length (lu r j cs.length ak)) v:=by
 obtain⟨U,aa⟩:=GP an aI;refine⟨_,BV hi b9 b (o+j) (fun m=>u (j+m)) (fun m hm=>by rw[apy];exact aC (j+m) (by omega)), .hj ⟨_,rfl,by simp,U,fun m hm=> ?_⟩⟩;rw[BD _ _ _ hm,aa m hm];exact hu (j+m) (by omega)
theorem Mr {t:TypeId}{i:b7}(hi:c1 P t i=true){x:R}{n:Int}{j:Nat}{cd:List Prop}{v:J}{aj:aD}
 (h:loadData i.ty x n j I= .aZ cd v aj) (ay:∀p∈cd,p) (b o:Nat) (u:Nat->Value)
 (aC:∀m,m<x.cJ->w.cell? ⟨b,o+m,none⟩=some (u m)) (an:∀m,m<x.cJ->bB (aN N ρ I) w (x.cell n.toNat m) (u m)):
 ∃u,aj=I/\(loadVar t ⟨b,o+j,none⟩).run P w= .ok u w/\bL (aN N ρ I) w ρ I v u:=by
 unfold loadData at h;split at h
 ·rename_i k l;split at h
  ·rename_i cy b9 xi;obtain rfl:=aoz xi;split at h
   ·rename_i ae;simp only[bS.aZ.injEq]at h;obtain⟨rfl,rfl,rfl⟩:=h;obtain rfl:=js.1 ae;refine⟨u 0,rfl,yG hi b9 b _ (aC 0 (by simp[R.cJ])), ?_⟩;have:=an 0 (by simp[R.cJ]);exact .c3 this
   ·cases h
  ·cases h
 ·rename_i ak l;split at h
  ·rename_i ag;have ag:j+i.ty.size<=ak:=aoY ag;have cq:(R.ar ak l).cJ=ak:=rfl;rw[cq]at aC an;split at h
   ·rename_i s b9;simp only[bS.aZ.injEq]at h;obtain⟨rfl,rfl,rfl⟩:=h;have aI:j<ak:=by rw[b9]at ag;simp[a7.size]at ag;omega
    exact⟨u j,rfl,yG hi b9 b _ (aC j aI), .c3 (tU (an j aI) (ay _ (by simp)))⟩
   ·rename_i bY cs b9;have aI:j+cs.length<=ak:=by rw[b9]at ag;simpa[a7.size,cG]using ag
    split at h
    ·simp only[bS.aZ.injEq]at h;obtain⟨rfl,rfl,rfl⟩:=h;have hlen:(l.getD n.toNat []).length=ak:=ay _ (by simp);rw[cG];obtain⟨v,a6,bj⟩:=O9 (P:=P) (N:=N) (ρ:=ρ) (I:=I) hi (.inl ⟨bY,b9⟩) hlen aI b o u aC an;exact⟨v,rfl,a6,bj⟩
    simp only[bS.aZ.injEq]at h;obtain⟨rfl,rfl,rfl⟩:=h;obtain⟨U,aa⟩:=Xx (w:=w) (ρ:=ρ) (I:=I) (.ar ak l) n.toNat u cs j (fun m hm=>an (j+m) (by omega)) ay;refine⟨_,rfl,BV hi (.inl ⟨bY,b9⟩) b (o+j) (fun m=>u (j+m)) (fun m hm=>by rw[apy];exact aC (j+m) (by omega)), .hj ⟨_,rfl,by simp[U],fun m hm=> ?_⟩⟩;rw[U]at hm;rw[BD _ _ _ hm];exact aa m hm
   ·rename_i n' e cs b9;have aI:j+cs.length<=ak:=by rw[b9]at ag;simpa[a7.size,cG]using ag
    simp only[bS.aZ.injEq]at h;obtain⟨rfl,rfl,rfl⟩:=h;have hlen:(l.getD n.toNat []).length=ak:=ay _ (by simp);rw[cG];obtain⟨v,a6,bj⟩:=O9 (P:=P) (N:=N) (ρ:=ρ) (I:=I) hi (.inr ⟨n',e,b9⟩) hlen aI b o u aC an;exact⟨v,rfl,a6,bj⟩
   ·cases h
  ·cases h
 ·cases h
theorem GB {Z:Nat->Prop}{x:R}{b off cap:Nat}(h:bB Z w x (.slice (some ⟨b,off,none⟩) x.len cap))(n:Nat)(av:n<x.len):
 ∃u:Nat->Value,(∀m,m<x.cJ->w.cell? ⟨b,off+n*x.cJ+m,none⟩=some (u m))/\∀m,m<x.cJ->bB Z w (x.cell n m) (u m):=by
 generalize r4:x.len=L at*
 cases h with
 |jg a cap k=>simp[R.len]at r4;omega
 |ad k l n' b off cap ax bq aC hf=>
  refine⟨fun _=> .int k (l.getD n 0),fun m hm=> ?_,fun m hm=> .int _ _⟩;simp only[R.cJ]at hm⊢;have:=hf n av;rw[show off+n*1+m=off+n by omega];exact this
 |kN a cap ak=>simp[R.len]at r4;omega
 |ar ak l n' b off cap u ax cq bq aC hf an=>exact⟨fun m=>u n m,fun m hm=>hf n m av hm,fun m hm=>an n m av hm⟩
 |undef v h=>simp[R.len]at r4;omega
theorem N_ {Z:Nat->Prop}{aw:Loc}{o:af}{b:Nat}(h:h0 Z w ρ I aw o)(ag:aw.a=some ⟨b,0,none⟩)(n:Nat)(av:n<o.data.len):
 ∃u:Nat->Value,(∀m,m<o.data.cJ->w.cell? ⟨b,n*o.data.cJ+m,none⟩=some (u m))/\∀m,m<o.data.cJ->bB Z w (o.data.cell n m) (u m):=by
 cases o with
 |gone=>simp[af.data,R.len]at av
 |dead _ _=>simp[af.data,R.len]at av
 |map _ _ _=>simp[af.data,R.len]at av
 |cells l=>simp[af.data,R.len]at av
 |ad k l=>
  simp only[af.data,R.len,R.cJ,R.cell]at*;rcases h with⟨rfl,_⟩|⟨ed,aH,e,U,aa,az,aW,bA,bZ⟩
  ·simp at av
  ·rw[ag]at U;simp at U;subst U;refine⟨fun _=> .int k (l.getD n 0),fun m hm=> ?_,fun m hm=> .int _ _⟩;rw[show n*1+m=n by omega];simp[World.cell?,az,bZ n av]
 |ar ak l=>
  simp only[af.data,R.len,R.cJ,R.cell]at*;rcases h with⟨rfl,_⟩|⟨ed,aH,e,U,aa,az,aW,bA,_,bZ⟩
  ·simp at av
  ·rw[ag]at U;simp at U;subst U;refine⟨fun m=>aH.getD (n*ak+m) undef,fun m hm=> ?_,fun m hm=> ?_⟩
   ·obtain⟨v,aP,_⟩:=bZ n m av hm;simp[World.cell?,az,aoH,aP]
   ·obtain⟨v,aP,an⟩:=bZ n m av hm;simpa[aoH,aP]using an
theorem Xy {Z:Nat->Prop}{w:World}{ρ:List Loc}{I:aD}{v:J}{u:Value}(h:eD Z w ρ I v u):eD Z w ρ I (o1 v) u:=by
 cases v<;>first|exact h|trivial
theorem Nq {t:TypeId}{i:b7}(hi:c1 P t i=true){x:R}{n:Int}{j:Nat}{cd:List Prop}{v:J}{aj:aD}
 (h:loadAt i.ty x n j I= .aZ cd v aj) (ay:∀p∈cd,p) (aI:j<x.cJ) (b o:Nat) (u:Nat->Value)
 (aC:∀m,m<x.cJ->w.cell? ⟨b,o+m,none⟩=some (u m)) (an:∀m,m<x.cJ->bB (aN N ρ I) w (x.cell n.toNat m) (u m)):
 ∃u,aj=I/\(loadVar t ⟨b,o+j,none⟩).run P w= .ok u w/\bL (aN N ρ I) w ρ I v u:=by
 unfold loadAt at h;split at h
 ·rename_i ak l s b9;simp only[bS.aZ.injEq]at h;obtain⟨rfl,rfl,rfl⟩:=h;exact⟨u j,rfl,yG hi b9 b _ (aC j aI), .c3 (tU (an j aI) (ay _ (by simp)))⟩
 ·cases h
theorem GC {t:TypeId}{i:b7}(hi:c1 P t i=true)(bI:cv N ρ I w){op:Operand}{tm:List J}{a:Act}(au:ek (aN N ρ I) w ρ I tm a.tmps)
 {cd:List Prop} {v:J} {aj:aD} (h:hR i.ty (aY tm op) I= .aZ cd v aj) (ay:∀p∈cd,p):
 ∃u,aj=I/\(Instr.loadAt t (a.eval op)).run P w= .ok u w/\bL (aN N ρ I) w ρ I v u:=by
 have ai:=eA au op;generalize aY tm op=x at*;unfold hR at h;split at h
 ·rename_i id off;obtain⟨aw,b,ax,hA,ep,hu⟩:=ai;have cf:=bI.ob id aw ax;split at h
  ·rename_i l aF;rw[aF]at cf;obtain⟨ed,aH,e,a6,bj,bH,dO,fi⟩:=cf;rw[hA]at a6;simp at a6;subst a6
   have hf:∀m,m<l.length->w.cell? ⟨b,m,none⟩=some (aH.getD m undef):=fun m hm=>by
    simp[World.cell?,bH,aoH,show m<aH.size by omega]
   rw[hu];simp only[Instr.loadAt,Instr.sureAddr,Sem.run_bind,Sem.run_pure,Result.andThen_ok];split at h<;>simp only[bS.aZ.injEq,reduceCtorEq]at h
   ·rename_i s b9 hle;obtain⟨rfl,rfl,rfl⟩:=h;have hle:=aoY hle;rw[b9,cG]at hle;have bG:off<l.length:=by simp[a7.size]at hle;omega
    refine⟨_,rfl,yG hi b9 b off (hf off bG), ?_⟩;rw[dT];exact .c3 (Xy (fi off bG))
   ·rename_i bY cs b9 hle;obtain⟨rfl,rfl,rfl⟩:=h;have hle:=aoY hle;rw[b9,cG]at hle;have bG:off+cs.length<=l.length:=by simpa[a7.size,cG]using hle
    refine⟨_,rfl,BV hi (.inl ⟨bY,b9⟩) b off (fun m=>aH.getD (off+m) undef) (fun m hm=>hf (off+m) (by omega)), .hj ⟨_,rfl, ?_,fun m hm=> ?_⟩⟩
    ·simp[ll,lk,cG];omega
    ·simp only[ll,lk,cG,ao3,apI]at hm⊢;rw[BD _ _ _ (by omega)];have:=fi (off+m) (by omega);simpa[aoA,aps,show m<cs.length by omega]using this
   ·rename_i n' vs cs b9 hle;obtain⟨rfl,rfl,rfl⟩:=h;have hle:=aoY hle;rw[b9,cG]at hle;have bG:off+cs.length<=l.length:=by simpa[a7.size,cG]using hle
    refine⟨_,rfl,BV hi (.inr ⟨n',vs,b9⟩) b off (fun m=>aH.getD (off+m) undef) (fun m hm=>hf (off+m) (by omega)), .hj ⟨_,rfl, ?_,fun m hm=> ?_⟩⟩
    ·simp[ll,lk,cG];omega
    ·simp only[ll,lk,cG,ao3,apI]at hm⊢;rw[BD _ _ _ (by omega)];have:=fi (off+m) (by omega);simpa[aoA,aps,show m<cs.length by omega]using this
  ·cases h
 ·rename_i id n j;obtain⟨aw,b,ax,hA,ep,hu,bc,U⟩:=ai;have cf:=bI.ob id aw ax
  have a8:(af.at I id).data.cJ=(af.at I id).cJ/\(af.at I id).data.len=(af.at I id).len\/∀t n j,loadData t (af.at I id).data n j I= .bad:=by
   cases af.at I id<;>simp[af.data,R.cJ,af.cJ,R.len,af.len,loadData]
  rcases a8 with⟨jZ,h5⟩|a8
  ·obtain⟨u,aC,an⟩:=N_ cf hA n.toNat (by rw[h5];omega);obtain⟨cY,aa,az,aW⟩:=Mr (P:=P) (N:=N) (ρ:=ρ) hi h ay b (n.toNat*(af.at I id).data.cJ) u aC an;refine⟨cY,aa, ?_,aW⟩;rw[hu,<-jZ];simpa[Instr.loadAt,Instr.sureAddr]using az
  ·rw[a8]at h;cases h
 ·rename_i x n j;obtain⟨b,off,cap,zJ,bc,U,hu⟩:=ai;obtain⟨u,aC,an⟩:=GB zJ n.toNat (by omega);obtain⟨cY,aa,az,aW⟩:=Mr (P:=P) (N:=N) (ρ:=ρ) hi h ay b (off+n.toNat*x.cJ) u aC an;refine⟨cY,aa, ?_,aW⟩;rw[hu];simpa[Instr.loadAt,Instr.sureAddr]using az
 ·rename_i id n j;obtain⟨aw,b,ax,hA,ep,hu,bc,U,ky⟩:=ai;have cf:=bI.ob id aw ax
  have a8:(af.at I id).data.cJ=(af.at I id).cJ/\(af.at I id).data.len=(af.at I id).len\/∀t n j,loadAt t (af.at I id).data n j I= .bad:=by
   cases af.at I id<;>simp[af.data,R.cJ,af.cJ,R.len,af.len,loadAt]
  rcases a8 with⟨jZ,h5⟩|a8
  ·obtain⟨u,aC,an⟩:=N_ cf hA n.toNat (by rw[h5];omega);obtain⟨cY,aa,az,aW⟩:=Nq (P:=P) (N:=N) (ρ:=ρ) hi h ay (by rw[jZ];exact ky) b (n.toNat*(af.at I id).data.cJ) u aC an;refine⟨cY,aa, ?_,aW⟩;rw[hu,<-jZ];simpa[Instr.loadAt,Instr.sureAddr]using az
  ·rw[a8]at h;cases h
 ·rename_i x n j;obtain⟨b,off,cap,zJ,bc,U,ky,hu⟩:=ai;obtain⟨u,aC,an⟩:=GB zJ n.toNat (by omega);obtain⟨cY,aa,az,aW⟩:=Nq (P:=P) (N:=N) (ρ:=ρ) hi h ay ky b (off+n.toNat*x.cJ) u aC an;refine⟨cY,aa, ?_,aW⟩;rw[hu];simpa[Instr.loadAt,Instr.sureAddr]using az
 ·cases h
end
end Go.al
end
section
namespace Go.al
section
variable {P:Program} {N:Nat->Prop} {ρ:List Loc} {I:aD} {w:World}
theorem GQ {bY:List (Nat×Nat×a7)}{a:List Field}(h:pT P bY a=true)(f:Nat)(aU:f<bY.length):
 ∃eh g,a[f]? =some eh/\P.info? eh.type=some g/\eh.offset=(bY.getD f (0,0, .no)).1/\g.size=(bY.getD f (0,0, .no)).2.2.size/\0<g.size/\
  ∃d,P.underlying eh.type=some d/\oX d=(bY.getD f (0,0, .no)).2.2.isAgg:=by
 induction bY generalizing a f with
 |nil=>simp at aU
 |cons x r bF=>
  obtain⟨o,n,t⟩:=x
  cases a with
  |nil=>simp[pT]at h
  |cons eh bM=>
   simp only[pT,aoL]at h;obtain⟨⟨⟨⟨⟨⟨⟨U,aa⟩,az⟩,aW⟩,bA⟩,Tl⟩,bZ⟩,fo⟩:=h
   cases f with
   |zero=>
    obtain⟨g,bh⟩:=aqR.1 bA;obtain⟨d,a8⟩:=aqR.1 Tl;have aL:=aoz aa;have b3:=aoz az;have cX:1<=n:=by simpa[Nat.blt]using aW
    have:P.cellsOf eh.type=g.size:=by simp[Program.cellsOf,bh]
    refine⟨eh,g,rfl,bh,(aoz U).symm, ?_,by omega,d,a8,by simpa[C0,a8]using bZ⟩;simp only[aqz];omega
   |succ f=>
    obtain⟨aiJ,g,a6,bj⟩:=bF fo f (by simpa using aU);exact⟨aiJ,g,by simpa using a6,by simpa using bj⟩
theorem xZ {t:TypeId}{i:b7}(hi:c1 P t i=true){bY:List (Nat×Nat×a7)}{cs:List cg}(h:i.ty= .struct bY cs):
 ∃a,P.underlying t=some (.struct a)/\pT P bY a.toList=true:=by
 unfold c1 at hi;rw[h]at hi;split at hi<;>simp_all
theorem Xz {s:TypeId}{i:b7}(hi:c1 P s i=true){bY:List (Nat×Nat×a7)}{cs:List cg}(h:i.ty= .struct bY cs)(f:Nat)(aU:f<bY.length)(b o:Nat):
 (Instr.fieldAt s (.pointer (some ⟨b,o,none⟩)) f).run P w= .ok (.pointer (some ⟨b,o+fx i.ty f,none⟩)) w:=by
 obtain⟨a,U,aa⟩:=xZ hi h;obtain⟨eh,g,a6,bj,bH,dO,fi,_⟩:=GQ aa f aU;have s8:a[f]? =some eh:=by simpa using a6
 have:¬g.size=0:=by omega
 rw[h,fx,dT,<-bH];simp[Instr.fieldAt,underlying,U,s8,Instr.sureAddr,fieldPlace,lh bj,this,mL]
theorem ZA {s:TypeId}{i:b7}(hi:c1 P s i=true){bY:List (Nat×Nat×a7)}{cs:List cg}(h:i.ty= .struct bY cs)(f:Nat)(aU:f<bY.length)(l:List J){u:Value}
 (hu:bL (aN N ρ I) w ρ I (.agg l) u) (ax:fx i.ty f+(kF i.ty f).size<=l.length):
 ∃v,(Instr.field s u f).run P w= .ok v w/\
  bL (aN N ρ I) w ρ I (match kF i.ty f with| .aB _=>b8 .un l (fx i.ty f)|t=> .agg (kM (kL l (fx i.ty f)) t.size)) v:=by
 obtain⟨a,U,aa⟩:=xZ hi h;obtain⟨eh,g,a6,bj,bH,dO,fi,ho⟩:=GQ aa f aU;have s8:a[f]? =some eh:=by simpa using a6
 obtain⟨arr,rfl,aR,an⟩:=hu;have IL:fx i.ty f=eh.offset:=by rw[h,fx,dT,<-bH]
 have b9:kF i.ty f=(bY.getD f (0,0, .no)).2.2:=by rw[h,kF,dT]
 rw[IL,b9]at ax⊢;obtain⟨d,jZ,h5⟩:=ho
 cases rk:(bY.getD f (0,0, .no)).2.2 with
 |aB st=>
  rw[rk]at ax h5 dO;have bG:eh.offset<l.length:=by simp[a7.size]at ax;omega
  have jW:eh.offset<arr.size:=by omega
  refine⟨arr[eh.offset], ?_, ?_⟩
  ·simp[Instr.field,underlying,U,s8,asAgg,part,qO jZ,h5,a7.isAgg,jW]
  ·have:=an eh.offset bG;simp only[dT];simp only[aoH,aqj jW,apA]at this;exact .c3 this
 |no=>
  rw[rk]at ax dO;simp[a7.size]at dO;omega
 |struct E9 lM=>
  rw[rk]at ax h5 dO;refine⟨.agg (arr.extract eh.offset (eh.offset+g.size)),by simp[Instr.field,underlying,U,s8,asAgg,part,qO jZ,h5,a7.isAgg,lh bj], .hj ⟨_,rfl, ?_,fun m hm=> ?_⟩⟩
  ·simp[ll,lk,dO];omega
  ·simp only[ll,lk,ao3,apI]at hm⊢;have:=an (eh.offset+m) (by omega)
   have aA:(arr.extract eh.offset (eh.offset+g.size)).getD m undef=arr.getD (eh.offset+m) undef:=by
    rw[aoH,aoH,Array.getElem?_extract,aoy (by omega)]
   have aL:(List.take (a7.struct E9 lM).size (List.drop eh.offset l)).getD m .un=l.getD (eh.offset+m) .un:=by
    rw[aoA,aoA,aps,aoy (by omega),apZ]
   rw[aA,aL];exact this
 |arr n' b_ lM=>
  rw[rk]at ax h5 dO;refine⟨.agg (arr.extract eh.offset (eh.offset+g.size)),by simp[Instr.field,underlying,U,s8,asAgg,part,qO jZ,h5,a7.isAgg,lh bj], .hj ⟨_,rfl, ?_,fun m hm=> ?_⟩⟩
  ·simp[ll,lk,dO];omega
  ·simp only[ll,lk,ao3,apI]at hm⊢;have:=an (eh.offset+m) (by omega)
   have aA:(arr.extract eh.offset (eh.offset+g.size)).getD m undef=arr.getD (eh.offset+m) undef:=by
    rw[aoH,aoH,Array.getElem?_extract,aoy (by omega)]
   have aL:(List.take (a7.arr n' b_ lM).size (List.drop eh.offset l)).getD m .un=l.getD (eh.offset+m) .un:=by
    rw[aoA,aoA,aps,aoy (by omega),apZ]
   rw[aA,aL];exact this
theorem sl {n:Nat}{lo hi:Option Int}(h:∀p∈mj n lo hi,p):
 (∀a,lo=some a->0<=a/\a.toNat<=n)/\(∀b,hi=some b->0<=b/\b.toNat<=n)/\(lo.getD 0).toNat<=(hi.map Int.toNat).getD n:=by
 have hx:∀{q:Prop} {l:List Prop},(∀p∈q::l,p)->q/\∀p∈l,p:=fun h=>List.forall_mem_cons.1 h
 cases lo with
 |none=>
  cases hi with
  |none=>exact⟨(fun a h=>by cases h),(fun b h=>by cases h),by simp⟩
  |some b=>
   obtain⟨U,h⟩:=hx h;obtain⟨aa,h⟩:=hx h;refine⟨(fun a h=>by cases h),(fun ed ag=>by cases ag;exact⟨U,by omega⟩),by simp⟩
 |some a=>
  cases hi with
  |none=>
   obtain⟨U,h⟩:=hx h;obtain⟨aa,h⟩:=hx h;refine⟨(fun b5 aR=>by cases aR;exact⟨U,by omega⟩),(fun b h=>by cases h), ?_⟩;simp only[apA,Option.map_none,Option.getD_none];omega
  |some b=>
   obtain⟨U,h⟩:=hx h;obtain⟨aa,h⟩:=hx h;obtain⟨az,h⟩:=hx h;refine⟨(fun b5 aR=>by cases aR;exact⟨U,by omega⟩),(fun ed ag=>by cases ag;exact⟨by omega,by omega⟩), ?_⟩;simp only[apA,apE];omega
theorem yo {α:Type}(l:List α)(lo hi:Option Int)(h:∀p∈mj l.length lo hi,p)(d:α):
 (kf l lo hi).length=(hi.map Int.toNat).getD l.length-(lo.getD 0).toNat/\
 ∀i,i<(kf l lo hi).length->(kf l lo hi).getD i d=l.getD ((lo.getD 0).toNat+i) d:=by
 obtain⟨U,aa,az⟩:=sl h
 cases lo with
 |none=>
  cases hi with
  |none=>simp[kf]
  |some b=>
   have:=aa b rfl;simp only[kf,apE,apA,Option.getD_none,Int.toNat_zero,ao3];refine⟨by omega,fun i hi=> ?_⟩;simp[aoA,show i<b.toNat by omega]
 |some a=>
  have aR:=U a rfl
  cases hi with
  |none=>
   simp only[kf,Option.map_none,apA,Option.getD_none,apI];refine⟨trivial,fun i hi=>by simp[aoA]⟩
  |some b=>
   have:=aa b rfl;simp only[apA,apE]at az;simp only[kf,apE,apA,apI,ao3];refine⟨by omega,fun i hi=>by simp[aoA,show a.toNat+i<b.toNat by omega]⟩
theorem ZB {Z:Nat->Prop}{x y:R}{a:Option Addr}{len cap:Nat}(h:bB Z w x (.slice a len cap))(ax:x.len=len)(lo m:Nat)(hm:lo+m<=len)
 (he:y.cJ=x.cJ) (bp:y.len=m) (ae:(∃k p q,x= .ad k p/\y= .ad k q/\∀i,i<m->q.getD i 0=p.getD (lo+i) 0)\/
   ∃ak p q,x= .ar ak p/\y= .ar ak q/\∀i,i<m->q.getD i []=p.getD (lo+i) []):
 bB Z w y (.slice (if cap=lo then a else a.map (·.add (lo*x.cJ))) m (cap-lo)):=by
 rcases ae with⟨k,p,q,rfl,rfl,a_⟩|⟨ak,p,q,rfl,rfl,a_⟩
 ·simp only[R.len,R.cJ]at*
  cases rD:m with
  |zero=>
   rw[rD]at bp;have:q=[]:=apl.1 bp;subst this;exact .jg _ _ _
  |succ r=>
   cases h with
   |jg=>simp at hm;omega
   |ad _ _ n b off cap av bq aC hf=>
    have dg:¬cap=lo:=by omega
    rw[aox dg];simp only[apE,mL];rw[<-rD];refine .ad k q m b _ _ bp bq (by omega) fun i hi=> ?_;rw[a_ i hi,ao6,apy];exact hf (lo+i) (by omega)
 ·simp only[R.len,R.cJ]at*
  cases rD:m with
  |zero=>
   rw[rD]at bp;have:q=[]:=apl.1 bp;subst this;exact .kN _ _ _
  |succ r=>
   cases h with
   |kN=>simp at hm;omega
   |ar _ _ n b off cap u av cq bq aC hf an=>
    have dg:¬cap=lo:=by omega
    rw[aox dg];simp only[apE,mL];rw[<-rD];refine .ar ak q m b _ _ (fun i j=>u (lo+i) j) bp cq bq (by omega) (fun i j hi aI=> ?_) (fun i j hi aI=> ?_)
    ·have:=hf (lo+i) j (by omega) aI;rwa [show off+lo*ak+i*ak+j=off+(lo+i)*ak+j by rw[aoT];omega]
    ·rw[a_ i hi];exact an (lo+i) j (by omega) aI
theorem A6 (zK:Bool)(n len cap:Nat)(aC:len<=cap)(lo hi:Option Value)(a b:Option Int)
 (hJ:∀v,lo=some v->∃k z,v= .int k z/\a=some z) (Sl:lo=none->a=none) (mv:∀v,hi=some v->∃k z,v= .int k z/\b=some z) (agd:hi=none->b=none)
 (fR:∀p∈mj n a b,p) (av:n=len):
 (Instr.sliceBounds zK len cap lo hi none).run P w= .ok ((a.getD 0).toNat,(b.map Int.toNat).getD len,cap) w:=by
 subst av;obtain⟨U,aa,az⟩:=sl fR
 have ag:∀(code:BoundsCode) (k:IntKind) (z:Int) (y:Nat),0<=z->z.toNat<=y->(Instr.sliceBound (.int k z) y code).run P w= .ok z.toNat w:=fun code k z y bc bp=>by
  simp[Instr.sliceBound,asIntOf,bc,show z<=(y:Int) by omega]
 cases hi with
 |none=>
  rw[agd rfl]at az⊢
  cases lo with
  |none=>rw[Sl rfl];simp[Instr.sliceBounds]
  |some v=>
   obtain⟨k,z,rfl,rfl⟩:=hJ v rfl;obtain⟨g1,g2⟩:=U z rfl;simp[Instr.sliceBounds,ag _ k z n g1 g2]
 |some v=>
  obtain⟨k,z,rfl,rfl⟩:=mv v rfl;obtain⟨g1,g2⟩:=aa z rfl;have Tm:=fun c=>ag c k z cap g1 (by omega)
  cases lo with
  |none=>rw[Sl rfl];simp[Instr.sliceBounds,Tm]
  |some c6=>
   obtain⟨cy,Uy,rfl,rfl⟩:=hJ c6 rfl;obtain⟨aiK,anX⟩:=U Uy rfl;simp only[apA,apE]at az;simp[Instr.sliceBounds,Tm,ag _ cy Uy z.toNat aiK az]
end
end Go.al
end
section
namespace Go.al
section
variable {P:Program} {N:Nat->Prop} {ρ:List Loc} {I:aD} {w:World}
theorem qK (h:cv N ρ I w){id:Nat}{aw:Loc}(ax:ρ[id]? =some aw)(aU:cw I id=true){t:a7}(fj:jw t (af.at I id)=true):
 bB (aN N ρ I) w (af.at I id).data (.slice aw.a (af.at I id).len aw.cap):=by
 have cf:=h.ob id aw ax
 have bq:∀b,aw.bu=some b->¬aN N ρ I b:=fun b ag bq=>by
  rcases bq with av|⟨j,cC,U,aa,az⟩
  ·exact h.fK id aw b ax ag av
  ·have:=h.inj id j aw cC b ax U ag aa (fun⟨_,n,ak,e⟩=>by rw[e]at fj;cases t<;>simp[jw]at fj) (nV az);subst this;rw[aU]at az;cases az
 cases aF:af.at I id with
 |ad k l=>
  rw[aF]at cf;rcases cf with⟨rfl,aa⟩|⟨b,aH,e,U,aa,az,aW,bA,bZ⟩
  ·exact .jg _ _ _
  ·rw[U];exact .ad k l _ b 0 _ rfl (bq b aa) aW fun i hi=>by simp[World.cell?,az,bZ i hi]
 |ar ak l=>
  rw[aF]at cf;rcases cf with⟨rfl,aa⟩|⟨b,aH,e,U,aa,az,aW,bA,cq,bZ⟩
  ·exact .kN _ _ _
  ·rw[U];refine .ar ak l _ b 0 _ (fun i j=>aH.getD (i*ak+j) undef) rfl cq (bq b aa) aW (fun i j hi aI=> ?_) (fun i j hi aI=> ?_)
   ·obtain⟨v,aP,_⟩:=bZ i j hi aI;simp[World.cell?,az,aoH,aP]
   ·obtain⟨v,aP,an⟩:=bZ i j hi aI;simpa[aoH,aP]using an
 |_=>rw[aF]at fj;cases t<;>simp[jw]at fj
theorem Oa {id:Nat}{u:Value}{k:IntKind}{l:List Int}(ai:bL (aN N ρ I) w ρ I (.vec id) u)(h:af.at I id= .ad k l):
 ∃aw,ρ[id]? =some aw/\u= .slice aw.a l.length aw.cap:=by
 obtain⟨aw,U,aa,_⟩:=ai;exact⟨aw,U,by rw[aa,h];rfl⟩
theorem nQ {tm:List J}{a:Act}(au:ek (aN N ρ I) w ρ I tm a.tmps)(o:Option Operand){z:Option Int}(h:ma (omap (aY tm) o)=some z):
 (∀v,o.map a.eval=some v->∃k y,v= .int k y/\z=some y)/\(o.map a.eval=none->z=none):=by
 cases o with
 |none=>simp[omap,ma]at h;subst h;simp
 |some x=>
  have ai:=eA au x;simp only[omap]at h
  cases he:aY tm x with
  |d y=>
   rw[he]at h ai
   cases y with
   |int k n=>
    simp[ma]at h;subst h;have:=iS ai;exact⟨fun v aP=>by simp at aP;subst aP;exact⟨k,n,this,rfl⟩,fun aP=>by simp at aP⟩
   |_=>simp[ma]at h
  |_=>rw[he]at h;simp[ma]at h
theorem xY {t e:TypeId}{g:TypeInfo}(hu:P.underlying t=some (.slice e))(bh:P.info? e=some g)(a:Option Addr)(len cap:Nat)(lo hi dn:Option Value){l h m:Nat}
 (ag:(Instr.sliceBounds true len cap lo hi dn).run P w= .ok (l,h,m) w):
 (Instr.sliceAt t (.slice a len cap) lo hi dn).run P w= .ok (.slice (if m=l then a else a.map (·.add (l*g.size))) (h-l) (m-l)) w:=by
 simp[Instr.sliceAt,Instr.slice,underlying,hu,ag,lh bh]
theorem Nr {t:TypeId}{i:b7}(hi:c1 P t i=true)(ay:iz i.ty=true){e:TypeId}(he:P.underlying t=some (.slice e)):∃g,P.info? e=some g:=by
 have:∃x,gX i.ty x=true:=by
  cases b9:i.ty with
  |aB s=>
   rw[b9]at ay
   cases s with
   |cu k=>exact⟨.ad k [],js.2 rfl⟩
   |dB ak=>exact⟨.ar ak [],apz ak⟩
   |_=>simp[iz]at ay
  |_=>rw[b9]at ay;simp[iz]at ay
 obtain⟨x,ai⟩:=this;obtain⟨b_,g,U,aa,_⟩:=se hi ai;rw[he]at U;cases U;exact⟨g,aa⟩
theorem Ob {t:a7}{o:af}(h:gX t o.data=true):jw t o=true:=by
 cases t with
 |aB s=>cases o<;>cases s<;>simp_all [jw,gX,af.data]
 |_=>cases o<;>simp[gX]at h
theorem WS {t:TypeId}{i:b7}(hi:c1 P t i=true)(bI:cv N ρ I w){cT:Operand}{lo eL dn:Option Operand}{tm:List J}{a:Act}
 (au:ek (aN N ρ I) w ρ I tm a.tmps) {cd:List Prop} {v:J} {aj:aD}
 (h:kE i.ty (aY tm cT) (omap (aY tm) lo) (omap (aY tm) eL) (omap (aY tm) dn) I= .aZ cd v aj) (ay:∀p∈cd,p):
 ∃u,(Instr.sliceAt t (a.eval cT) (lo.map a.eval) (eL.map a.eval) (dn.map a.eval)).run P w= .ok u w/\cn N ρ I w ρ aj w/\bL (aN N ρ aj) w ρ aj v u:=by
 have ai:=eA au cT;generalize aY tm cT=x at*;unfold kE at h;split at h
 ·rename_i rE;have zi:dn=none:=by cases dn<;>simp[omap]at rE⊢
  subst zi;split at h
  ·rename_i fY hc hJ mv;obtain⟨dh,l2⟩:=nQ au lo hJ;obtain⟨dC,dD⟩:=nQ au eL mv
   have bounds:∀(zK:Bool) (n cap:Nat),n<=cap->(∀p∈mj n fY hc,p)->
    (Instr.sliceBounds zK n cap (lo.map a.eval) (eL.map a.eval) none).run P w= .ok ((fY.getD 0).toNat,(hc.map Int.toNat).getD n,cap) w:=
    fun zK n cap aC fR=>A6 zK n n cap aC _ _ fY hc dh l2 dC dD fR rfl
   have cut:∀(x y:R) (u:Value),bB (aN N ρ aj) w x u->gX i.ty x=true->(∀p∈mj x.len fY hc,p)->y.cJ=x.cJ->y.len=(hc.map Int.toNat).getD x.len-(fY.getD 0).toNat->
    ((∃k p q,x= .ad k p/\y= .ad k q/\∀i,i<y.len->q.getD i 0=p.getD ((fY.getD 0).toNat+i) 0)\/
      ∃ak p q,x= .ar ak p/\y= .ar ak q/\∀i,i<y.len->q.getD i []=p.getD ((fY.getD 0).toNat+i) [])->
    ∃cY,(Instr.sliceAt t u (lo.map a.eval) (eL.map a.eval) none).run P w= .ok cY w/\bB (aN N ρ aj) w y cY:=by
    intro x y u an aU fR he bp ae;obtain⟨e,g,E_,bh,cq,_⟩:=se hi aU;obtain⟨_,_,az⟩:=sl fR
    have uI:∃fE cap,u= .slice fE x.len cap/\x.len<=cap:=by
     cases an with
     |jg fE cap k=>exact⟨fE,cap,rfl,by simp[R.len]⟩
     |ad k l n b off cap av bq aC h=>exact⟨some ⟨b,off,none⟩,cap,by rw[show(R.ad k l).len=l.length from rfl,av],by rw[show(R.ad k l).len=l.length from rfl,av];exact aC⟩
     |kN fE cap ak=>exact⟨fE,cap,rfl,by simp[R.len]⟩
     |ar ak l n b off cap u av cq bq aC h an=>exact⟨some ⟨b,off,none⟩,cap,by rw[show(R.ar ak l).len=l.length from rfl,av],by rw[show(R.ar ak l).len=l.length from rfl,av];exact aC⟩
     |_=>cases b9:i.ty<;>simp[b9,gX]at aU
    obtain⟨fE,cap,rfl,qc⟩:=uI;have ag:=bounds true x.len cap qc fR;refine⟨_,xY E_ bh fE x.len cap _ _ none ag, ?_⟩;rw[cq]
    have age:(hc.map Int.toNat).getD x.len<=x.len:=by
     cases hc with
     |none=>simp
     |some z=>exact((sl fR).2.1 z rfl).2
    refine ZB an rfl _ _ (by omega) he bp ?_;rw[bp]at ae;exact ae
   split at h
   ·rename_i k l;split at h
    ·rename_i aU;simp only[bS.aZ.injEq]at h;obtain⟨rfl,rfl,rfl⟩:=h;obtain⟨e3,eY⟩:=yo l fY hc ay 0;obtain⟨cY,a6,bj⟩:=cut (.ad k l) (.ad k (kf l fY hc)) _ ai aU ay rfl e3 (.inl ⟨k,l,_,rfl,rfl,eY⟩);exact⟨cY,a6,cn.refl bI, .c3 bj⟩
    ·cases h
   ·rename_i ak l;split at h
    ·rename_i aU;simp only[bS.aZ.injEq]at h;obtain⟨rfl,rfl,rfl⟩:=h;obtain⟨e3,eY⟩:=yo l fY hc ay [];obtain⟨cY,a6,bj⟩:=cut (.ar ak l) (.ar ak (kf l fY hc)) _ ai aU ay rfl e3 (.inr ⟨ak,l,_,rfl,rfl,eY⟩);exact⟨cY,a6,cn.refl bI, .c3 bj⟩
    ·cases h
   ·rename_i l;split at h
    ·rename_i b9;simp only[bS.aZ.injEq]at h;obtain⟨rfl,rfl,rfl⟩:=h;obtain⟨s,hu,ax⟩:=tZ ai;have hlen:l.length=s.size:=by rw[ax,aoF,apD];rfl
     have uT:=si hi b9;have ag:=bounds false s.size s.size (aoE _) (by rw[<-hlen];exact ay);refine⟨.string (s.extract (fY.getD 0).toNat ((hc.map Int.toNat).getD s.size)), ?_,cn.refl bI, .c3 (bB.str _ _ ?_)⟩
     ·rw[hu];simp only[Instr.sliceAt,Sem.run_bind,run_underlying uT,Result.andThen_ok,Instr.slice,Option.map_none,Option.isSome_none,apP,if_false,ag,Sem.run_pure]
     ·obtain⟨e3,eY,j7⟩:=sl ay
      have aA:(s.extract (fY.getD 0).toNat ((hc.map Int.toNat).getD s.size)).data.toList=(s.data.toList.take ((hc.map Int.toNat).getD s.size)).drop (fY.getD 0).toNat:=by
       rw[ByteArray.data_extract,Array.toList_extract,List.extract_eq_drop_take',List.drop_take]
      rw[aA,ax];have cq:s.data.toList.length=s.size:=by rw[apD];rfl
      cases fY<;>cases hc<;>simp only[kf,Option.getD_none,apA,Option.map_none,apE,Int.toNat_zero,List.drop_zero,aqA,List.map_drop]
      ·rw[aqB (by rw[aoF,cq];exact aoE _)]
      ·rw[aqB (by rw[aoF,cq];exact aoE _)]
    ·cases h
   ·rename_i id;have hk:bL (aN N ρ I) w ρ I (.vec id) (a.eval cT):=ai;split at h
    ·rename_i k l aF;split at h
     ·rename_i aU;simp only[bS.aZ.injEq]at h;obtain⟨rfl,rfl,rfl⟩:=h;obtain⟨aw,ax,hu⟩:=Oa hk aF;have cN:=cn.shut bI id;have e7:I.set id (true,af.at I id)=e5 I id:=by rw[e5,eI]
      rw[e7]at cN;have cF:af.at (e5 I id) id= .ad k l:=by rw[<-e7,g_];split<;>simp[aF]
      have eo:cw (e5 I id) id=true:=by rw[<-e7,ij,aoy ⟨rfl,bI.jU ax⟩]
      have an:=qK cN.rel ax eo (t:=i.ty) (by rw[cF];exact Ob aU);rw[cF]at an;obtain⟨e3,eY⟩:=yo l fY hc ay 0;obtain⟨cY,a6,bj⟩:=cut (.ad k l) (.ad k (kf l fY hc)) _ an aU ay rfl e3 (.inl ⟨k,l,_,rfl,rfl,eY⟩);exact⟨cY,by rw[hu];exact a6,cN, .c3 bj⟩
     ·cases h
    ·rename_i ak l aF;split at h
     ·rename_i aU;simp only[bS.aZ.injEq]at h;obtain⟨rfl,rfl,rfl⟩:=h;obtain⟨aw,ax,hu,_⟩:=hk;have cN:=cn.shut bI id;have e7:I.set id (true,af.at I id)=e5 I id:=by rw[e5,eI]
      rw[e7]at cN;have cF:af.at (e5 I id) id= .ar ak l:=by rw[<-e7,g_];split<;>simp[aF]
      have eo:cw (e5 I id) id=true:=by rw[<-e7,ij,aoy ⟨rfl,bI.jU ax⟩]
      have an:=qK cN.rel ax eo (t:=i.ty) (by rw[cF];exact Ob aU);rw[cF]at an;obtain⟨e3,eY⟩:=yo l fY hc ay [];obtain⟨cY,a6,bj⟩:=cut (.ar ak l) (.ar ak (kf l fY hc)) _ an aU ay rfl e3 (.inr ⟨ak,l,_,rfl,rfl,eY⟩);exact⟨cY,by rw[hu,aF];exact a6,cN, .c3 bj⟩
     ·cases h
    ·cases h
   ·split at h
    ·rename_i aU;simp only[bS.aZ.injEq]at h;obtain⟨rfl,rfl,rfl⟩:=h;obtain⟨fE,hu⟩:=ai;obtain⟨e,he⟩:=qH hi aU;obtain⟨g,bh⟩:=Nr hi aU he;have ag:=bounds true 0 0 (aoE _) ay;refine⟨_,by rw[hu];exact xY he bh fE 0 0 _ _ none ag,cn.refl bI, .c3 ?_⟩
     have aA:(hc.map Int.toNat).getD 0=0:=by
      cases hc with
      |none=>rfl
      |some z=>have:=((sl ay).2.1 z rfl).2;simp;omega
     have aL:=(sl ay).2.2;rw[aA]at aL⊢;have b3:(fY.getD 0).toNat=0:=by omega
     rw[b3];exact⟨_,rfl⟩
    ·cases h
   ·cases h
  ·cases h
 ·rename_i k rE
  obtain⟨pA,aiL,agf⟩:∃pA,dn=some pA/\aY tm pA= .d (.int k (.ofNat 0)):=by
   cases dn with
   |none=>simp[omap]at rE
   |some pA=>simp only[omap,aoU]at rE;exact⟨pA,rfl,rE⟩
  have hm:=eA au pA;rw[agf]at hm;have hm:=iS hm
  have key:∀(y:R),x= .d y->gX i.ty y=true->(lo.map a.eval=none\/∃cy,lo.map a.eval=some (.int cy 0))->(∃cy,eL.map a.eval=some (.int cy 0))->
   ∃u,(Instr.sliceAt t (a.eval cT) (lo.map a.eval) (eL.map a.eval) (dn.map a.eval)).run P w= .ok u w/\bL (aN N ρ I) w ρ I .emp u:=by
   intro y bp aU U ⟨bj,aa⟩;subst bp;obtain⟨e,g,he,bh,_⟩:=se hi aU
   have uI:∃fE n cap,a.eval cT= .slice fE n cap:=by
    cases y with
    |ad AB l=>obtain⟨fE,cap,hu,_⟩:=Bv ai;exact⟨fE,_,cap,hu⟩
    |ar ak l=>obtain⟨fE,cap,hu,_⟩:=GO ai;exact⟨fE,_,cap,hu⟩
    |_=>cases b9:i.ty<;>simp[b9,gX]at aU
   obtain⟨fE,n,cap,hu⟩:=uI;rw[hu,aiL,aa];simp only[apE,hm]
   have ag:(Instr.sliceBounds true n cap (lo.map a.eval) (some (.int bj 0)) (some (.int k (Int.ofNat 0)))).run P w= .ok (0,0,0) w:=by
    rcases U with U|⟨cy,U⟩<;>rw[U]<;>simp[Instr.sliceBounds,Instr.sliceBound,asIntOf]
   exact⟨_,xY he bh fE n cap _ _ _ ag, .c3 ⟨_,rfl⟩⟩
  split at h
  ·rename_i hJ mv;obtain⟨dh,l2⟩:=nQ au lo hJ;obtain⟨dC,dD⟩:=nQ au eL mv;split at h
   ·rename_i y aU;simp only[bS.aZ.injEq]at h;obtain⟨rfl,rfl,rfl⟩:=h
    obtain⟨u,a6,bj⟩:=key _ rfl aU
     (by cases ax:lo.map a.eval with
       |none=>exact .inl rfl
       |some v=>obtain⟨_,_,_,b6⟩:=dh v ax;cases b6)
     (by cases ax:eL.map a.eval with
       |none=>have:=dD ax;cases this
       |some v=>obtain⟨cy,z,aP,b6⟩:=dC v ax;cases b6;exact⟨cy,by rw[aP];rfl⟩)
    exact⟨u,a6,cn.refl bI,bj⟩
   ·cases h
  ·rename_i hJ mv;obtain⟨dh,l2⟩:=nQ au lo hJ;obtain⟨dC,dD⟩:=nQ au eL mv;split at h
   ·rename_i y aU;simp only[bS.aZ.injEq]at h;obtain⟨rfl,rfl,rfl⟩:=h
    obtain⟨u,a6,bj⟩:=key _ rfl aU
     (by cases ax:lo.map a.eval with
       |none=>exact .inl rfl
       |some v=>obtain⟨cy,z,aP,b6⟩:=dh v ax;cases b6;exact .inr ⟨cy,by rw[aP];rfl⟩)
     (by cases ax:eL.map a.eval with
       |none=>have:=dD ax;cases this
       |some v=>obtain⟨cy,z,aP,b6⟩:=dC v ax;cases b6;exact⟨cy,by rw[aP];rfl⟩)
    exact⟨u,a6,cn.refl bI,bj⟩
   ·cases h
  ·cases h
 ·cases h
theorem ZC {Z:Nat->Prop}{ak:Nat}{l:List (List R)}{b off cap:Nat}(h:bB Z w (.ar ak l) (.slice (some ⟨b,off,none⟩) l.length cap))(bc:0<l.length):¬Z b:=by
 generalize av:l.length=n at h
 cases h with
 |kN a cap ak=>omega
 |ar ak l n b off cap u ax cq bq aC hf an=>exact bq
theorem XA {Z:Nat->Prop}{x:R}{u:Value}{k:IntKind}(h:bB Z w x u)(ae:x.dd k):u= .int k x.toInt:=by
 cases h with
 |int cy n=>obtain rfl:cy=k:=ae;rfl
 |_=>exact ae.elim
theorem ZD (L:List R)(i:Nat):(L.map R.toInt).getD i 0=(L.getD i .undef).toInt:=by
 simp only[aoA,apu];cases L[i]? <;>rfl
theorem ln {α:Type}{L:List α}{i:Nat}(d:α)(h:i<L.length):L.getD i d∈L:=by
 rw[aoA,aoM h];exact apF h
theorem WT {t:TypeId}{i:b7}(hi:c1 P t i=true)(bI:cv N ρ I w){x:J}{u:Value}(ai:bL (aN N ρ I) w ρ I x u){lo eL dn:Option Operand}{tm:List J}{a:Act}
 (au:ek (aN N ρ I) w ρ I tm a.tmps) {cd:List Prop} {v:J} {aj:aD}
 (h:pP i.ty x (omap (aY tm) lo) (omap (aY tm) eL) (omap (aY tm) dn) I= .aZ cd v aj) (ay:∀p∈cd,p):
 ∃cY,(Instr.sliceAt t u (lo.map a.eval) (eL.map a.eval) (dn.map a.eval)).run P w= .ok cY w/\cn N ρ I w ρ aj w/\bL (aN N ρ aj) w ρ aj v cY:=by
 unfold pP at h;split at h
 ·rename_i m k cs id n j b9 rE;have zi:dn=none:=by cases dn<;>simp[omap]at rE⊢
  subst zi;split at h
  ·rename_i ak l fY hc aF hJ mv;split at h
   ·rename_i ag;have ag:j+m<=ak:=aoY ag;simp only[bS.aZ.injEq]at h;obtain⟨rfl,rfl,rfl⟩:=h;have hlen:(l.getD n.toNat []).length=ak:=ay _ (by simp)
    have hint:∀x∈lu (l.getD n.toNat []) j m ak,x.dd k:=ay _ (by simp)
    have w7:∀p∈mj m fY hc,p:=fun p aE=>ay p (by simp[aE])
    obtain⟨dh,l2⟩:=nQ au lo hJ;obtain⟨dC,dD⟩:=nQ au eL mv;have qo:(Instr.sliceBounds false m m (lo.map a.eval) (eL.map a.eval) none).run P w= .ok ((fY.getD 0).toNat,(hc.map Int.toNat).getD m,m) w:=A6 false m m m (aoE _) _ _ fY hc dh l2 dC dD w7 rfl;obtain⟨el,g,q1,cE,cS⟩:=ya hi b9;have cS:g.size=1:=cS;obtain⟨aw,b,aA,aL,b3,cX,hn,j6⟩:=ai;have cN:=cn.shut bI id;have e7:I.set id (true,af.at I id)=e5 I id:=by rw[e5,eI]
    rw[e7]at cN;have cF:af.at (e5 I id) id= .ar ak l:=by rw[<-e7,g_];split<;>simp[aF]
    have eo:cw (e5 I id) id=true:=by rw[<-e7,ij,aoy ⟨rfl,bI.jU aA⟩]
    have an:=qK cN.rel aA eo (t:= .aB (.dB ak)) (by rw[cF];exact apz ak);rw[cF]at an;have an:bB (aN N ρ (e5 I id)) w (.ar ak l) (.slice aw.a l.length aw.cap):=an;rw[aL]at an;have r4:(af.at I id).len=l.length:=by rw[aF];rfl
    have cW:(af.at I id).cJ=ak:=by rw[aF];rfl
    rw[r4]at j6;have bq:=ZC an (by omega);obtain⟨c,j0,rF⟩:=GB an n.toNat (show n.toNat<l.length by omega)
    have j0:∀m,m<ak->w.cell? ⟨b,0+n.toNat*ak+m,none⟩=some (c m):=j0
    have rF:∀m,m<ak->bB (aN N ρ (e5 I id)) w ((l.getD n.toNat []).getD m .undef) (c m):=rF
    obtain⟨g1,g2⟩:=GP hlen ag;have FT:((lu (l.getD n.toNat []) j m ak).map R.toInt).length=m:=by rw[aoF];exact g1
    obtain⟨bz,bl,cO⟩:=sl w7;obtain⟨d1,d2⟩:=yo ((lu (l.getD n.toNat []) j m ak).map R.toInt) fY hc (by rw[FT];exact w7) 0;rw[FT]at d1
    have age:(hc.map Int.toNat).getD m<=m:=by
     cases hc with
     |none=>simp
     |some z=>exact(bl z rfl).2
    refine⟨.slice (some (if m=(fY.getD 0).toNat then⟨b,n.toNat*ak+j,none⟩else(⟨b,n.toNat*ak+j,none⟩:Addr).add ((fY.getD 0).toNat*g.size))) ((hc.map Int.toNat).getD m-(fY.getD 0).toNat) (m-(fY.getD 0).toNat), ?_,cN, .c3 ?_⟩
    ·rw[cX,cW];simp[Instr.sliceAt,Instr.sureAddr,underlying,q1,qo,lh cE]
    ·show bB _ w (.ad k _) _;rw[cS,ao6,mL]
     by_cases hm:m=(fY.getD 0).toNat
     ·rw[aoy hm];have bc:(hc.map Int.toNat).getD m-(fY.getD 0).toNat=0:=by omega
      rw[bc]at d1⊢;rw[aqd d1];exact bB.jg _ _ _
     ·rw[aox hm];refine bB.ad k _ _ b _ _ d1 bq (by omega) fun q a_=> ?_;rw[d2 q (by rw[d1];exact a_)];have xj:(fY.getD 0).toNat+q<m:=by omega
      have qz:((lu (l.getD n.toNat []) j m ak).map R.toInt).getD ((fY.getD 0).toNat+q) 0=((l.getD n.toNat []).getD (j+((fY.getD 0).toNat+q)) .undef).toInt:=by
       rw[<-g2 _ xj,ZD]
      rw[qz]
      have hx:(l.getD n.toNat []).getD (j+((fY.getD 0).toNat+q)) .undef∈lu (l.getD n.toNat []) j m ak:=by
       rw[<-g2 _ xj];exact ln _ (by omega)
      have:=j0 (j+((fY.getD 0).toNat+q)) (by omega);rw[XA (rF (j+((fY.getD 0).toNat+q)) (by omega)) (hint _ hx)]at this;rw[<-this]
      congr 2
      omega
   ·cases h
  ·cases h
 ·cases h
theorem WU {t:TypeId}{i:b7}(hi:c1 P t i=true)(bI:cv N ρ I w){cT:Operand}{lo eL dn:Option Operand}{tm:List J}{a:Act}
 (au:ek (aN N ρ I) w ρ I tm a.tmps) {cd:List Prop} {v:J} {aj:aD}
 (h:sj i.ty (aY tm cT) (omap (aY tm) lo) (omap (aY tm) eL) (omap (aY tm) dn) I= .aZ cd v aj) (ay:∀p∈cd,p):
 ∃u,(Instr.sliceAt t (a.eval cT) (lo.map a.eval) (eL.map a.eval) (dn.map a.eval)).run P w= .ok u w/\cn N ρ I w ρ aj w/\bL (aN N ρ aj) w ρ aj v u:=by
 unfold sj at h;split at h
 ·exact WT hi bI (eA au cT) au h ay
 ·exact WS hi bI au h ay
end
end Go.al
end
section
namespace Go.al
section
variable {P:Program} {N:Nat->Prop} {ρ:List Loc} {I:aD} {w:World}
theorem vO {t:J}{u:Value}(ay:t.nT=true)(h:bL (aN N ρ I) w ρ I t u):eD (aN N ρ I) w ρ I t u/\u.oneCell'=true:=by
 cases t with
 |d x=>exact⟨h,bB.one h⟩
 |bt=>have h:u= .bool true:=h;subst h;exact⟨rfl,rfl⟩
 |bf=>have h:u= .bool false:=h;subst h;exact⟨rfl,rfl⟩
 |emp=>obtain⟨a,rfl⟩:=h;exact⟨⟨a,rfl⟩,rfl⟩
 |vec id=>obtain⟨aw,U,rfl,aa⟩:=h;exact⟨⟨aw,U,rfl,aa⟩,rfl⟩
 |ptr id off=>obtain⟨aw,b,U,aa,az,rfl⟩:=h;exact⟨⟨aw,b,U,aa,az,rfl⟩,rfl⟩
 |optr id i j=>obtain⟨aw,b,U,aa,az,rfl,aW⟩:=h;exact⟨⟨aw,b,U,aa,az,rfl,aW⟩,rfl⟩
 |rptr x i j=>obtain⟨b,off,cap,U,aa,az,rfl⟩:=h;exact⟨⟨b,off,cap,U,aa,az,rfl⟩,rfl⟩
 |w5=>have h:u= .pointer none:=h;subst h;exact⟨rfl,rfl⟩
 |fn f=>have h:u= .func (.func f) #[] #[]:=h;subst h;exact⟨rfl,rfl⟩
 |cls f c=>obtain⟨rfl,aa⟩:=h;exact⟨⟨rfl,aa⟩,rfl⟩
 |_=>simp[J.nT]at ay
theorem Gr {t:J}(h:t.ha=true):t.nT=true:=by cases t<;>simp_all [J.ha,J.nT]
theorem yb {u:Value}(h:u.oneCell'=true):u.cells=#[u]:=by cases u<;>simp_all [Value.oneCell',Value.cells]
theorem tV {t:a7}{v:J}{u:Value}(aU:v.fits t=true)(h:bL (aN N ρ I) w ρ I v u):
 u.cells.size=t.size/\v.cellsOf.length=t.size/\(∀x∈u.cells.toList,x.oneCell'=true)/\∀i,i<t.size->eD (aN N ρ I) w ρ I (v.cellsOf.getD i .un) (u.cells.getD i undef):=by
 have agg:∀(cs:List cg) (l:List J),v= .agg l->Nat.beq (bU l) (bU cs)=true->eg J.nT l=true->bU cs=t.size->
  u.cells.size=t.size/\v.cellsOf.length=t.size/\(∀x∈u.cells.toList,x.oneCell'=true)/\∀i,i<t.size->eD (aN N ρ I) w ρ I (v.cellsOf.getD i .un) (u.cells.getD i undef):=by
  intro cs l aP U aa az;subst aP;obtain⟨arr,rfl,aR,an⟩:=h;have U:=aoz U;rw[cG]at U;rw[fy,aoR]at aa;simp only[Value.cells,J.cellsOf];refine⟨by omega,by omega,fun x ai=> ?_,fun i hi=>an i (by omega)⟩;obtain⟨i,hi,rfl⟩:=List.mem_iff_getElem.1 ai;have eL:i<l.length:=by rw[<-aR];simpa using hi
  have u5:=an i eL;have aiM:=aa l[i] (apF eL);have aA:l.getD i .un=l[i]:=by simp[aoA,eL]
  have aL:arr.getD i undef=arr.toList[i]:=by simp[aoH,show i<arr.size by omega]
  rw[aA,aL]at u5;exact(vO aiM (.c3 u5)).2
 cases t with
 |aB s=>
  obtain⟨U,aa⟩:=vO aU h;have aC:=yb aa;have aP:v.cellsOf=[v]:=by cases v<;>first|rfl|simp[J.fits,J.nT]at aU
  rw[aC,aP];refine⟨rfl,rfl,by simpa using aa,fun i hi=> ?_⟩;have:i=0:=by simp[a7.size]at hi;omega
  subst this;exact U
 |struct bY cs=>
  cases v<;>simp only[J.fits,apP]at aU;split at aU
  ·rename_i l _ ag;exact agg cs l rfl ag aU rfl
  ·cases aU
 |arr n e cs=>
  cases v<;>simp only[J.fits,apP]at aU;split at aU
  ·rename_i l _ ag;exact agg cs l rfl ag aU rfl
  ·cases aU
 |no=>cases v<;>simp[J.fits]at aU
theorem vP (l:List J)(off:Nat)(aH:List J):(setCells l off aH).length=l.length:=by
 induction aH generalizing l off with
 |nil=>rfl
 |cons v r bF=>simp[setCells,bF,eI]
theorem Ms (l:List J)(off:Nat)(aH:List J)(k:Nat)(ae:k<l.length):
 (setCells l off aH).getD k .un=if off<=k/\k<off+aH.length then aH.getD (k-off) .un else l.getD k .un:=by
 induction aH generalizing l off with
 |nil=>rw[aox (by simp)];rfl
 |cons v r bF=>
  simp only[setCells,eI];rw[bF _ _ (by simpa using ae),eu]
  by_cases U:off+1<=k/\k<off+1+r.length
  ·rw[aoy U,aoy (by simp;omega)];rw[show k-off=(k-(off+1))+1 by omega];simp
  ·rw[aox U]
   by_cases aa:off=k
   ·subst aa;rw[aoy ⟨rfl,ae⟩,aoy (by simp)];simp
   ·rw[aox (by simp[aa]),aox (by simp;omega)]
theorem tT (cur:Array Value)(o:Nat)(aH:List Value)(h:o+aH.length<=cur.size)(k:Nat):
 (cur.toList.take o++aH++cur.toList.drop (o+aH.length)).toArray[k]? =if o<=k/\k<o+aH.length then aH[k-o]? else cur[k]? :=by
 have ax:(cur.toList.take o).length=o:=by simp;omega
 simp only[List.getElem?_toArray];rw[aqk,ao5,ax]
 by_cases U:k<o
 ·rw[aoy U,aox (by omega),aps,aoy U];simp
 ·rw[aox U,ao5]
  by_cases aa:k<o+aH.length
  ·rw[aoy (by omega),aoy (by omega)]
  ·rw[aox (by omega),aox (by omega),apZ,show o+aH.length+(k-o-aH.length)=k by omega];simp
theorem vQ (cur:Array Value)(o:Nat)(aH:List Value)(h:o+aH.length<=cur.size):(cur.toList.take o++aH++cur.toList.drop (o+aH.length)).toArray.size=cur.size:=by
 simp;omega
theorem Bg (_:cv N ρ I w){id:Nat}{aw:Loc}{b:Nat}(dJ:ρ[id]? =some aw)(ag:aw.bu=some b)(aU:cw I id=false)(ob:af)(cs:Array Value):
 ∀x u,bB (aN N ρ I) w x u->bB (aN N ρ (I.set id (false,ob))) (w.setRow b cs) x u:=fun x u an=>
 an.mono fun ed _ bq=>⟨setRow_other w b ed cs fun e=>bq (.inr ⟨id,aw,dJ,e▸ag,aU⟩),fun dr=>bq (by
  rcases dr with av|⟨i,l,U,aa,az⟩
  ·exact .inl av
  ·refine .inr ⟨i,l,U,aa, ?_⟩;rw[ij]at az
   by_cases e:id=i
   ·subst e;exact aU
   ·rwa [aox (by simp[e])]at az)⟩
theorem Yk (id:Nat)(ob:af)(dJ:id<I.length)(ax:ob.len=(af.at I id).len)(he:ob.cJ=(af.at I id).cJ)(i:Nat):
 eX ρ I ρ (I.set id (false,ob)) i:=fun l iJ=>by
 refine⟨iJ, ?_⟩;rw[g_]
 by_cases e:id=i
 ·subst e;rw[aoy ⟨rfl,dJ⟩];exact⟨ax,he⟩
 ·rw[aox (by simp[e])];exact⟨rfl,rfl⟩
theorem Bh {Z:Nat->Prop}{fF:J}{u:Value}(a8:fF.ha=true)(h:eD Z w ρ I fF u):bB Z w (fF.hI I) u/\∀s:cg,bB Z w ((s.norm I fF).hI I) u:=by
 cases fF<;>simp only[J.ha,apP]at a8
 case d x=>exact⟨h,fun s=>by cases s<;>exact h⟩
 case bt=>have h:u= .bool true:=h;subst h;exact⟨.bool true,fun s=>by cases s<;>exact .bool true⟩
 case bf=>have h:u= .bool false:=h;subst h;exact⟨.bool false,fun s=>by cases s<;>exact .bool false⟩
 case emp=>
  obtain⟨a,rfl⟩:=h;refine⟨.undef _ rfl,fun s=> ?_⟩
  cases s with
  |cu k=>exact .jg _ _ _
  |dB ak=>exact .kN _ _ _
  |_=>exact .undef _ rfl
theorem yc (cs:List cg)(aH:List J):(iE I cs aH).length=aH.length:=by
 induction cs generalizing aH with
 |nil=>cases aH<;>rfl
 |cons s r bF=>cases aH with
  |nil=>rfl
  |cons v q=>simp[iE,bF]
theorem Bi {Z:Nat->Prop}(cs:List cg)(aH:List J)(us:Nat->Value)(a8:∀v∈aH,v.ha=true)(h:∀i,i<aH.length->eD Z w ρ I (aH.getD i .un) (us i)):
 ∀i,i<aH.length->bB Z w ((bE (J.hI I) (iE I cs aH)).getD i .undef) (us i):=by
 induction cs generalizing aH us with
 |nil=>
  intro i hi;have:iE I [] aH=aH:=by cases aH<;>rfl
  rw[this,dM];have e:(aH.map (J.hI I)).getD i .undef=(aH.getD i .un).hI I:=by simp[aoA,hi]
  rw[e];exact(Bh (by rw[aoA,aoM hi];exact a8 _ (apF hi)) (h i hi)).1
 |cons s r bF=>
  intro i hi
  cases aH with
  |nil=>simp at hi
  |cons v q=>
   cases i with
   |zero=>exact(Bh (a8 v (by simp)) (h 0 hi)).2 s
   |succ i=>
    have:=bF q (fun i=>us (i+1)) (fun x ai=>a8 x (by simp[ai])) (fun i hi=>h (i+1) (by simpa using hi)) i (by simpa using hi);simpa[iE,bE]using this
theorem Ns (r:List R)(j:Nat)(aH:List R)(k:Nat):
 (setRow r j aH).getD k .undef=if j<=k/\k<j+aH.length/\k<r.length then aH.getD (k-j) .undef else r.getD k .undef:=by
 induction aH generalizing r j with
 |nil=>rw[aox (by simp;omega)];rfl
 |cons v q bF=>
  simp only[setRow];rw[bF,aoI,eu]
  by_cases U:j+1<=k/\k<j+1+q.length/\k<r.length
  ·rw[aoy U,aoy (by simp;omega)];rw[show k-j=(k-(j+1))+1 by omega];simp
  ·rw[aox U]
   by_cases aa:j=k/\j<r.length
   ·obtain⟨rfl,aa⟩:=aa;rw[aoy ⟨rfl,aa⟩,aoy (by simp;omega)];simp
   ·rw[aox aa,aox (by simp;omega)]
theorem sized {t:TypeId}{i:b7}(hi:c1 P t i=true)(av:i.ty≠ .no):∃g,P.info? t=some g/\g.size=i.ty.size:=by
 cases b9:i.ty with
 |aB s=>obtain⟨g,U,aa⟩:=Qj hi b9;exact⟨g,U,aa⟩
 |struct bY cs=>obtain⟨g,d,U,aa,_⟩:=wh hi (.inl ⟨bY,b9⟩);exact⟨g,U,by rw[aa,a7.size,cG]⟩
 |arr n e cs=>obtain⟨g,d,U,aa,_⟩:=wh hi (.inr ⟨n,e,b9⟩);exact⟨g,U,by rw[aa,a7.size,cG]⟩
 |no=>exact absurd b9 av
theorem Qk {t:a7}{v:J}(h:v.fits t=true):t≠ .no:=by
 rintro rfl;cases v<;>simp[J.fits]at h
theorem WV {t:TypeId}{i:b7}(hi:c1 P t i=true){u:Value}(jl:i.ty≠ .no)(f1:u.cells.size=i.ty.size)(f3:∀x∈u.cells.toList,x.oneCell'=true)(b o:Nat)(cur:Array Value)(e:TypeId)
 (ag:w.heap[b]? =some (.cells cur e (0,0))) (cq:o+i.ty.size<=cur.size):
 (Instr.storeAt t (.pointer (some ⟨b,o,none⟩)) u).run P w= .ok () (w.setRow b (cur.toList.take o++u.cells.toList++cur.toList.drop (o+u.cells.toList.length)).toArray):=by
 obtain⟨g,U,aa⟩:=sized hi jl;have cN:=run_storeCells_at P b o e u.cells.toList 0 cur w ag (by simp;omega) f3;simp only[aoW]at cN;simp[Instr.storeAt,Instr.sureAddr,storeVar,lh U,f1,aa,cN]
theorem GR {Z:Nat->Prop}:∀(cs:List cg) (r:List R) (j:Nat) (us:Nat->Value),(∀m,m<cs.length->bB Z w (r.getD (j+m) .undef) (us m))->(∀p∈(mY cs r j).1,p)->
 (mY cs r j).2.length=cs.length/\∀m,m<cs.length->eD Z w ρ I ((mY cs r j).2.getD m .un) (us m)
 |[],r,j,us,_,_=>⟨rfl,fun m hm=>by simp at hm⟩
 |s::dK,r,j,us,h,ay=>by
  simp only[mY]at ay⊢;obtain⟨U,aa⟩:=GR dK r (j+1) (fun m=>us (m+1)) (fun m hm=>by have:=h (m+1) (by simp;omega);rwa [show j+(m+1)=j+1+m by omega]at this) (fun p aE=>ay p (apQ _ aE));refine⟨by simpa using U,fun m hm=> ?_⟩
  cases m with
  |zero=>exact tU (h 0 (by simp)) (ay _ (aqy ..))
  |succ m=>simpa using aa m (by simpa using hm)
theorem Yl {r v:List R}{j n ak:Nat}(aP:v.length=n)(aI:j+n<=ak)(an:(j=0/\n=ak)\/r.length=ak)(c:Nat)(aC:c<ak):
 (yP r j n ak v).getD c .undef=if j<=c/\c<j+n then v.getD (c-j) .undef else r.getD c .undef:=by
 have part:j=0->n≠ak->(v++r.drop n).getD c .undef=if j<=c/\c<j+n then v.getD (c-j) .undef else r.getD c .undef:=fun bc av=>by
  subst bc;simp only[aoA,ao5]
  by_cases h:c<n
  ·rw[aoy (by omega),aoy (by omega),Nat.sub_zero]
  ·rw[aox (by omega),aox (by omega),apZ,show n+(c-v.length)=c by omega]
 unfold yP;split
 ·rename_i bc;have bc:=aoz bc;split
  ·rename_i av;have av:=aoz av;rw[aoy (by omega),bc,Nat.sub_zero]
  ·rename_i av;exact part bc fun e=>by subst e;rw[apz]at av;cases av
 ·rename_i bc;have bc:j≠0:=fun e=>by subst e;rw[apz]at bc;cases bc
  have an:r.length=ak:=an.resolve_left fun e=>bc e.1;simp only[aoA,ao5,ao3]
  by_cases U:c<j
  ·rw[aoy (by omega),aox (by omega),aps,aoy U]
  ·rw[aox (by omega)]
   by_cases aa:c<j+n
   ·rw[aoy (by omega),aoy (by omega),show c-min j r.length=c-j by omega]
   ·rw[aox (by omega),aox (by omega),apZ];simp only[Nat.add_eq]
    congr 2
    omega
theorem Oc (bI:cv N ρ I w){id:Nat}{aw:Loc}{b:Nat}(ax:ρ[id]? =some aw)(hA:aw.a=some ⟨b,0,none⟩)(ep:aw.bu=some b)(eo:cw I id=false){ak:Nat}{l:List (List R)}
 (aF:af.at I id= .ar ak l) {n:Nat} (av:n<l.length) {j:Nat} {us:List Value} (aI:j+us.length<=ak) (mC:List R)
 (an:∀c,c<ak->if j<=c/\c<j+us.length then bB (aN N ρ I) w (mC.getD c .undef) (us.getD (c-j) undef)else mC.getD c .undef=(l.getD n []).getD c .undef):
 ∃aH e,w.heap[b]? =some (.cells aH e (0,0))/\n*ak+j+us.length<=aH.size/\
  cn N ρ I w ρ (cQ I id (false, .ar ak (l.set n mC))) (w.setRow b (aH.toList.take (n*ak+j)++us++aH.toList.drop (n*ak+j+us.length)).toArray):=by
 have bG:=bI.jU ax;have cf:=bI.ob id aw ax;rw[aF]at cf;rcases cf with⟨rfl,_⟩|⟨ed,aH,e,a6,bj,bH,dO,fi,k6,ho⟩
 ·simp at av
 rw[hA]at a6;simp at a6;subst a6
 have hbound:n*ak+ak<=aH.size:=by
  have:(n+1)*ak<=aw.cap*ak:=aoP _ (by omega);rw[aoT]at this;omega
 refine⟨aH,e,bH,by omega, ?_⟩;rw[eI];have gb:(af.ar ak (l.set n mC)).len=(af.at I id).len:=by rw[aF];simp[af.len]
 have jm:(af.ar ak (l.set n mC)).cJ=(af.at I id).cJ:=by rw[aF];rfl
 have hm:=Bg bI ax ep eo (af.ar ak (l.set n mC)) ((aH.toList.take (n*ak+j)++us++aH.toList.drop (n*ak+j+us.length)).toArray);refine cn.write bI id aw b ax ep eo _ gb jm _ (.inr ⟨b,_,e,hA,ep,setRow_heap w b aH _ e (0,0) bH,by simpa using dO, ?_,k6,fun q c a_ aC=> ?_⟩)
 ·rw[vQ _ _ _ (by omega)];exact fi
 ·simp only[aoI]at a_;rw[tT _ _ _ (by omega),eu]
  by_cases ff:n*ak+j<=q*ak+c/\q*ak+c<n*ak+j+us.length
  ·have rG:q=n:=by
    rcases Nat.lt_trichotomy q n with jW|rfl|aiN
    ·have:(q+1)*ak<=n*ak:=aoP _ (by omega);rw[aoT]at this;omega
    ·rfl
    ·have:(n+1)*ak<=q*ak:=aoP _ (by omega);rw[aoT]at this;omega
   subst rG;rw[aoy ff,aoy ⟨rfl,a_⟩];have:=an c aC;rw[aoy (by omega)]at this;refine⟨us.getD (c-j) undef, ?_,hm _ _ this⟩;rw[show q*ak+c-(q*ak+j)=c-j by omega,aoM (by omega)];simp[aoA,show c-j<us.length by omega]
  ·rw[aox ff];obtain⟨qA,xk,pa⟩:=ho q c a_ aC;refine⟨qA,xk, ?_⟩
   by_cases rG:n=q
   ·subst rG;have:=an c aC;rw[aox (by omega)]at this;rw[aoy ⟨rfl,a_⟩,this];exact hm _ _ pa
   ·rw[aox (by simp[rG])];exact hm _ _ pa
theorem WW {t:TypeId}{i:b7}(hi:c1 P t i=true)(bI:cv N ρ I w){x:J}{tC u:Value}(ai:bL (aN N ρ I) w ρ I x tC){r:List R}(aP:bL (aN N ρ I) w ρ I (.rw i.ty.size r) u)
 {cd:List Prop} {v:J} {aj:aD} (h:qU i.ty x r I= .aZ cd v aj) (rl:∀p∈cd,p):
 ∃w',v= .un/\(Instr.storeAt t tC u).run P w= .ok () w'/\cn N ρ I w ρ aj w':=by
 obtain⟨a,rfl,Fa,aiO,kW⟩:=aP;unfold qU at h;split at h;rotate_left
 ·cases h
 rename_i id n j ns;have jl:i.ty≠ .no:=by intro e;rw[e]at ns;cases ns
 split at h;rotate_left
 ·cases h
 rename_i ak l eo aF;split at h;rotate_left
 ·cases h
 rename_i hle;simp only[bS.aZ.injEq]at h;obtain⟨rfl,rfl,rfl⟩:=h;have hle:j+i.ty.size<=ak:=aoY hle;have zL:r.length=i.ty.size:=aiO
 have aiP:(j=0/\i.ty.size=ak)\/(l.getD n.toNat []).length=ak:=by
  by_cases a_:Nat.beq j 0=true/\Nat.beq i.ty.size ak=true
  ·exact .inl ⟨aoz a_.1,aoz a_.2⟩
  ·refine .inr (rl _ ?_);unfold Qi;split
   ·rename_i U aa;exact(a_ ⟨U,aa⟩).elim
   ·simp
 obtain⟨aw,b,ax,hA,ep,hu,bc,U⟩:=ai;rw[aF]at U hu;simp only[af.len,af.cJ]at U hu;have nx:(Value.agg a).cells.toList.length=i.ty.size:=by show a.toList.length=_;simp;omega
 have Jg:∀c,c<ak->if j<=c/\c<j+(Value.agg a).cells.toList.length then bB (aN N ρ I) w ((yP (l.getD n.toNat []) j i.ty.size ak r).getD c .undef) ((Value.agg a).cells.toList.getD (c-j) undef)else(yP (l.getD n.toNat []) j i.ty.size ak r).getD c .undef=(l.getD n.toNat []).getD c .undef:=fun c aC=>by
  rw[Yl zL hle aiP c aC,nx];split
  ·have:=kW (c-j) (by omega);simpa[Value.cells,aoH,aoA]using this
  ·rfl
 obtain⟨aH,e,s1,s2,k7⟩:=Oc bI ax hA ep eo aF (n:=n.toNat) (by omega) (by rw[nx];exact hle) _ Jg;rw[nx]at s2;have f1:(Value.agg a).cells.size=i.ty.size:=by rw[<-nx];simp
 have w8:∀y∈(Value.agg a).cells.toList,y.oneCell'=true:=fun y bp=>by
  simp only[Value.cells,Array.mem_toList_iff]at bp;obtain⟨m,hm,rfl⟩:=Array.getElem_of_mem bp;have:=(kW m (by omega)).one;simpa[aoH,hm]using this
 refine⟨_,rfl,by rw[hu];exact WV (w:=w) hi jl f1 w8 b (n.toNat*ak+j) aH e s1 s2,k7⟩
theorem vR {Z:Nat->Prop}{t:a7}{v:J}{u:Value}{r:List R}(h:oV I t v=some r)(aP:bL Z w ρ I v u):bL Z w ρ I (.rw t.size r) u:=by
 unfold oV at h;split at h
 ·split at h
  ·rename_i av;obtain rfl:=aoK h;rw[<-aoz av];exact aP
  ·cases h
 ·rename_i l;split at h
  ·rename_i ns av a8;obtain rfl:=aoK h;obtain⟨a,rfl,U,aa⟩:=aP
   have cq:l.length=t.size:=by
    have:=aoz av;rw[cG,cG]at this;rw[this];cases t<;>first|(simp[a7.cells,a7.size,cG];done)|cases ns
   rw[fy,aoR]at a8;have ax:(mi I t.cells (.agg l)).length=l.length:=by unfold mi;rw[dM,aoF,yc];rfl
   refine⟨a,rfl,by rw[<-cq];exact U,by rw[ax];exact cq,fun m hm=> ?_⟩;rw[<-cq]at hm;exact Bi t.cells l (fun m=>a.getD m undef) a8 aa m hm
  ·cases h
 ·cases h
theorem Bj {t:TypeId}{i:b7}(hi:c1 P t i=true){v:J}{u:Value}(aU:v.fits i.ty=true)(hu:bL (aN N ρ I) w ρ I v u)(b o:Nat)(cur:Array Value)(e:TypeId)
 (ag:w.heap[b]? =some (.cells cur e (0,0))) (cq:o+i.ty.size<=cur.size):
 (Instr.storeAt t (.pointer (some ⟨b,o,none⟩)) u).run P w= .ok () (w.setRow b (cur.toList.take o++u.cells.toList++cur.toList.drop (o+u.cells.toList.length)).toArray):=by
 obtain⟨g,U,aa⟩:=sized hi (Qk aU);obtain⟨f1,f2,f3,f4⟩:=tV aU hu;have cN:=run_storeCells_at P b o e u.cells.toList 0 cur w ag (by simp;omega) f3;simp only[aoW]at cN;simp[Instr.storeAt,Instr.sureAddr,storeVar,lh U,f1,aa,cN]
theorem Wl {t:TypeId}{i:b7}(hi:c1 P t i=true)(bI:cv N ρ I w){id:Nat}{n:Int}{j:Nat}{tC u:Value}(ai:bL (aN N ρ I) w ρ I (.oat id n j) tC){y:J}(aP:bL (aN N ρ I) w ρ I y u)
 {cd:List Prop} {v:J} {aj:aD} (h:qN i.ty id n j y I= .aZ cd v aj):
 ∃w',v= .un/\(Instr.storeAt t tC u).run P w= .ok () w'/\cn N ρ I w ρ aj w':=by
 unfold qN at h;split at h;rotate_left
 ·cases h
 rename_i s b9;split at h;rotate_left
 ·cases h
 rename_i ak l eo aF a8;simp only[bS.aZ.injEq]at h;obtain⟨rfl,rfl,rfl⟩:=h;obtain⟨aw,b,ax,hA,ep,hu,bc,U,ky⟩:=ai;rw[aF]at U hu ky;simp only[af.len,af.cJ]at U hu ky;have fj:J.fits i.ty y=true:=by rw[b9];cases y<;>first|rfl|cases a8
 obtain⟨f1,f2,f3,f4⟩:=tV fj aP;have Et:i.ty.size=1:=by rw[b9];rfl
 have bp:y.cellsOf=[y]:=by cases y<;>first|rfl|cases a8
 have nx:u.cells.toList.length=1:=by rw[Et]at f1;simpa using f1
 have fJ:bB (aN N ρ I) w ((s.norm I y).hI I) (u.cells.getD 0 undef):=by
  have:=f4 0 (by omega);rw[bp]at this;exact(Bh a8 this).2 s
 have Jg:∀c,c<ak->if j<=c/\c<j+u.cells.toList.length then bB (aN N ρ I) w (((l.getD n.toNat []).set j (J.hI I (s.norm I y))).getD c .undef) (u.cells.toList.getD (c-j) undef)else((l.getD n.toNat []).set j (J.hI I (s.norm I y))).getD c .undef=(l.getD n.toNat []).getD c .undef:=fun c aC=>by
  rw[nx,eu]
  by_cases e:j=c
  ·subst e;rw[aoy (by omega),Nat.sub_self];have aL:u.cells.toList.getD 0 undef=u.cells.getD 0 undef:=by simp[aoH,aoA]
   rw[aL];split
   ·exact fJ
   ·rename_i jl
    have uT:(l.getD n.toNat []).getD j .undef= .undef:=by
     simp only[aoA]at jl⊢;rw[ape (by simp at jl;simpa using jl)];rfl
    rw[uT];exact .undef _ fJ.one
  ·rw[aox (by omega),aox (by simp[e])]
 obtain⟨aH,e,s1,s2,k7⟩:=Oc bI ax hA ep eo aF (n:=n.toNat) (by omega) (by omega) _ Jg;refine⟨_,rfl,by rw[hu];exact Bj (w:=w) hi fj aP b (n.toNat*ak+j) aH e s1 (by omega),k7⟩
theorem WX {t:TypeId}{i:b7}(hi:c1 P t i=true)(bI:cv N ρ I w){op k8:Operand}{tm:List J}{a:Act}(au:ek (aN N ρ I) w ρ I tm a.tmps)
 {cd:List Prop} {v:J} {aj:aD} (h:pO i.ty (aY tm op) (aY tm k8) I= .aZ cd v aj) (rl:∀p∈cd,p):
 ∃w',v= .un/\(Instr.storeAt t (a.eval op) (a.eval k8)).run P w= .ok () w'/\cn N ρ I w ρ aj w':=by
 have ai:=eA au op;have aP:=eA au k8;generalize aY tm op=x at*;generalize aY tm k8=y at*;unfold pO at h;split at h
 ·rename_i r an;exact WW hi bI ai (vR an aP) h rl
 split at h
 ·exact Wl hi bI ai aP h
 rename_i aeP;clear aeP;unfold uc at h;split at h
 ·rename_i id off;obtain⟨aw,b,ax,hA,ep,hu⟩:=ai;have bG:=bI.jU ax;split at h
  ·rename_i l eo aF fj;split at h
   ·rename_i hle;simp only[bS.aZ.injEq]at h;obtain⟨rfl,rfl,rfl⟩:=h;have hle:=aoY hle;rw[cG]at hle;simp only[Nat.add_eq]at hle;have cf:=bI.ob id aw ax;rw[aF]at cf;obtain⟨ed,aH,e,a6,bj,bH,dO,fi⟩:=cf;rw[hA]at a6;simp at a6;subst a6;obtain⟨f1,f2,f3,f4⟩:=tV fj aP;have hlen:(a.eval k8).cells.toList.length=i.ty.size:=by simpa using f1
    have fq:=Bj (w:=w) hi fj aP b off aH e bH (by omega);refine⟨_,rfl,by rw[hu];exact fq, ?_⟩;rw[eI];have gb:(af.cells (setCells l off y.cellsOf)).len=(af.at I id).len:=by rw[aF];simp[af.len,vP]
    have jm:(af.cells (setCells l off y.cellsOf)).cJ=(af.at I id).cJ:=by rw[aF];rfl
    refine cn.write bI id aw b ax ep eo _ gb jm _ ⟨b,_,e,hA,ep,setRow_heap w b aH _ e (0,0) bH, ?_,fun k ae=> ?_⟩
    ·rw[vQ _ _ _ (by omega),dO,vP]
    ·rw[vP]at ae
     have hm:∀(cs:Array Value) (fF:J) (qA:Value),eD (aN N ρ I) w ρ I fF qA->
      eD (aN N ρ (I.set id (false, .cells (setCells l off y.cellsOf)))) (w.setRow b cs) ρ (I.set id (false, .cells (setCells l off y.cellsOf))) fF qA:=fun cs fF qA bc=>
      bc.mono (Bg bI ax ep eo (.cells (setCells l off y.cellsOf)) cs) (fun idx _=>Yk id (.cells (setCells l off y.cellsOf)) bG gb jm idx)
     rw[Ms _ _ _ _ ae,aoH,tT _ _ _ (by omega),hlen,f2]
     by_cases ff:off<=k/\k<off+i.ty.size
     ·rw[aoy ff,aoy ff];rw[show((a.eval k8).cells.toList[k-off]?).getD undef=(a.eval k8).cells.getD (k-off) undef by simp[aoH]];exact hm _ _ _ (f4 (k-off) (by omega))
     ·rw[aox ff,aox ff];rw[show(aH[k]?).getD undef=aH.getD k undef by simp[aoH]];exact hm _ _ _ (fi k ae)
   ·cases h
  ·cases h
 ·rename_i id n j;obtain⟨aw,b,ax,hA,ep,hu,bc,U⟩:=ai;have bG:=bI.jU ax;have cf:=bI.ob id aw ax;split at h
  ·rename_i k l eo aF fj;split at h
   ·rename_i cy z _;split at h
    ·rename_i ae xi;obtain rfl:=aoz xi;simp only[bS.aZ.injEq]at h;obtain⟨rfl,rfl,rfl⟩:=h;obtain rfl:=js.1 ae;have Fb:=iS aP;rw[aF]at cf U hu;simp only[af.len,af.cJ,ao6,aoW]at U hu;rcases cf with⟨rfl,_⟩|⟨ed,aH,e,a6,bj,bH,dO,fi,ho⟩
     ·simp at U;omega
     ·rw[hA]at a6;simp at a6;subst a6;obtain⟨f1,f2,f3,f4⟩:=tV fj aP;have j1:(a.eval k8).cells.toList=[.int k z]:=by rw[Fb];rfl
      have Et:i.ty.size=1:=by rw[<-f1,Fb];rfl
      have fq:=Bj (w:=w) hi fj aP b n.toNat aH e bH (by omega);refine⟨_,rfl,by rw[hu];exact fq, ?_⟩;rw[eI];have gb:(af.ad k (l.set n.toNat z)).len=(af.at I id).len:=by rw[aF];simp[af.len]
      have jm:(af.ad k (l.set n.toNat z)).cJ=(af.at I id).cJ:=by rw[aF];rfl
      refine cn.write bI id aw b ax ep eo _ gb jm _ (.inr ⟨b,_,e,hA,ep,setRow_heap w b aH _ e (0,0) bH,by simpa using dO, ?_,fun q a_=> ?_⟩)
      ·rw[vQ _ _ _ (by rw[j1];simp;omega)];exact fi
      ·simp only[aoI]at a_;rw[tT _ _ _ (by rw[j1];simp;omega),j1,eu]
       by_cases ff:n.toNat=q
       ·subst ff;rw[aoy (by simp),aoy ⟨rfl,a_⟩];simp
       ·rw[aox (by simp;omega),aox (by simp[ff])];exact ho q a_
    ·cases h
   ·cases h
  ·rename_i ak l eo aF fj;split at h
   ·rename_i hle Eu;simp only[bS.aZ.injEq]at h;obtain⟨rfl,rfl,rfl⟩:=h;have hle:=aoY hle;simp only[Nat.add_eq]at hle;rw[fy,aoR]at Eu;rw[aF]at cf U hu;simp only[af.len,af.cJ]at U hu;rcases cf with⟨rfl,_⟩|⟨ed,aH,e,a6,bj,bH,dO,fi,k6,ho⟩
    ·simp at U;omega
    ·rw[hA]at a6;simp at a6;subst a6;obtain⟨f1,f2,f3,f4⟩:=tV fj aP;have hlen:(a.eval k8).cells.toList.length=i.ty.size:=by simpa using f1
     have kX:n.toNat<l.length:=by omega
     have hbound:n.toNat*ak+ak<=aH.size:=by
      have:(n.toNat+1)*ak<=aw.cap*ak:=aoP _ (by omega);rw[aoT]at this;omega
     have fq:=Bj (w:=w) hi fj aP b (n.toNat*ak+j) aH e bH (by omega);refine⟨_,rfl,by rw[hu];exact fq, ?_⟩;rw[eI]
     have rr:∃ws:List R,bE (J.hI I) (i.ty.norm I y).cellsOf=ws/\ws.length=i.ty.size/\
      ∀m,m<i.ty.size->bB (aN N ρ I) w (ws.getD m .undef) ((a.eval k8).cells.getD m undef):=by
      refine⟨_,rfl, ?_⟩
      have w9:∀(cs:List cg) (q:List J),y.cellsOf=q->(i.ty.norm I y).cellsOf=iE I cs q->
       (bE (J.hI I) (i.ty.norm I y).cellsOf).length=i.ty.size/\
       ∀m,m<i.ty.size->bB (aN N ρ I) w ((bE (J.hI I) (i.ty.norm I y).cellsOf).getD m .undef) ((a.eval k8).cells.getD m undef):=by
       intro cs q a_ av;rw[av];refine⟨by rw[dM,aoF,yc,<-a_,f2],fun m hm=> ?_⟩;rw[a_]at Eu f2 f4;exact Bi cs q (fun m=>(a.eval k8).cells.getD m undef) Eu (fun qB eL=>f4 qB (by omega)) m (by omega)
      cases b9:i.ty with
      |aB s=>
       rw[b9]at fj w9;have bp:y.cellsOf=[y]:=by cases y<;>first|rfl|simp[J.fits,J.nT]at fj
       have a8:=Eu y (by rw[bp];simp);refine w9 [s] [y] bp ?_;simp only[a7.norm,iE];cases y<;>simp only[J.ha,apP]at a8<;>cases s<;>rfl
      |struct bY cs=>
       rw[b9]at fj w9;cases y<;>simp only[J.fits,apP]at fj;exact w9 cs _ rfl rfl
      |arr n' b_ cs=>
       rw[b9]at fj w9;cases y<;>simp only[J.fits,apP]at fj;exact w9 cs _ rfl rfl
      |no=>rw[b9]at fj;exact absurd rfl (Qk fj)
     obtain⟨ws,aiQ,anY,Jh⟩:=rr;rw[aiQ];have gb:(af.ar ak (l.set n.toNat (setRow (l.getD n.toNat []) j ws))).len=(af.at I id).len:=by rw[aF];simp[af.len]
     have jm:(af.ar ak (l.set n.toNat (setRow (l.getD n.toNat []) j ws))).cJ=(af.at I id).cJ:=by rw[aF];rfl
     have hm:=Bg bI ax ep eo (af.ar ak (l.set n.toNat (setRow (l.getD n.toNat []) j ws)))
      ((aH.toList.take (n.toNat*ak+j)++(a.eval k8).cells.toList++aH.toList.drop (n.toNat*ak+j+(a.eval k8).cells.toList.length)).toArray)
     refine cn.write bI id aw b ax ep eo _ gb jm _ (.inr ⟨b,_,e,hA,ep,setRow_heap w b aH _ e (0,0) bH,by simpa using dO, ?_,k6,fun q r a_ an=> ?_⟩)
     ·rw[vQ _ _ _ (by omega)];exact fi
     ·simp only[aoI]at a_;rw[tT _ _ _ (by omega),hlen,eu];rw[hlen]at hm
      by_cases ff:n.toNat*ak+j<=q*ak+r/\q*ak+r<n.toNat*ak+j+i.ty.size
      ·
       have rG:q=n.toNat:=by
        rcases Nat.lt_trichotomy q n.toNat with jW|rfl|aiN
        ·have:(q+1)*ak<=n.toNat*ak:=aoP _ (by omega);rw[aoT]at this;omega
        ·rfl
        ·have:(n.toNat+1)*ak<=q*ak:=aoP _ (by omega);rw[aoT]at this;omega
       subst rG;rw[aoy ff,aoy ⟨rfl,a_⟩];have aiR:r-j<i.ty.size:=by omega
       have aeQ:(a.eval k8).cells.toList[n.toNat*ak+r-(n.toNat*ak+j)]? =some ((a.eval k8).cells.getD (r-j) undef):=by
        rw[show n.toNat*ak+r-(n.toNat*ak+j)=r-j by omega];simp[aoH,show r-j<(a.eval k8).cells.size by omega]
       refine⟨_,aeQ, ?_⟩;rw[Ns];have:=hm _ _ (Jh (r-j) aiR);split
       ·exact this
       ·rename_i jl;have agh:¬r<(l.getD n.toNat []).length:=by omega
        have uT:(l.getD n.toNat []).getD r .undef= .undef:=by simp only[aoA]at agh⊢;rw[ape (by omega)];rfl
        rw[uT];exact .undef _ this.one
      ·rw[aox ff];obtain⟨qA,xk,pa⟩:=ho q r a_ an;refine⟨qA,xk, ?_⟩
       by_cases rG:n.toNat=q
       ·subst rG;rw[aoy ⟨rfl,a_⟩,Ns,aox (by omega)];exact hm _ _ pa
       ·rw[aox (by simp[rG])];exact hm _ _ pa
   ·cases h
  ·cases h
 ·cases h
end
end Go.al
end
section
namespace Go.al
section
variable {P:Program} {N:Nat->Prop} {ρ:List Loc} {I:aD} {w:World}
theorem nR (w:World)(o:Obj):(w.alloc o).heap[w.heap.size]? =some o:=heap_alloc_new w o
theorem Bk (h:cv N ρ I w)(aw:Loc)(ag:aw.bu=some w.heap.size\/aw.bu=none)(p:Bool×af)(o:Obj):
 ∀x u,bB (aN N ρ I) w x u->bB (aN N (ρ++[aw]) (I++[p])) (w.alloc o) x u:=fun x u an=>
 an.mono fun b bG bq=>⟨heap_alloc_old w o b bG,fun dr=>by
  rcases dr with av|⟨i,l,U,aa,az⟩
  ·exact bq (.inl av)
  ·rw[ao5]at U
   by_cases hi:i<ρ.length
   ·rw[aoy hi]at U;rw[kI,aox (by rw[<-h.len];omega)]at az;exact bq (.inr ⟨i,l,U,aa,az⟩)
   ·rw[aox hi]at U
    cases a8:i-ρ.length with
    |zero=>
     simp[a8]at U;subst U;rcases ag with ag|ag<;>rw[ag]at aa
     ·simp at aa;omega
     ·cases aa
    |succ n=>simp[a8]at U⟩
theorem GS (h:cv N ρ I w)(aw:Loc)(p:Bool×af)(id:Nat):eX ρ I (ρ++[aw]) (I++[p]) id:=fun l ax=>by
 have:=h.jU ax;refine⟨by rw[apt (by rw[h.len];exact this)];exact ax, ?_⟩;rw[gN,aox (by omega)];exact⟨rfl,rfl⟩
theorem qW (h:cv N ρ I w)(aw:Loc):(ρ++[aw])[I.length]? =some aw:=by rw[<-h.len];simp
theorem Ql (h:cv N ρ I w)(elem:TypeId)(l:List J)(cs:Array Value)(ay:cs.size=l.length)(an:∀i,i<l.length->eD (aN N ρ I) w ρ I (l.getD i .un) (cs.getD i undef)):
 ∃ρ',cn N ρ I w ρ' (I++[(false, .cells l)]) (w.alloc (.cells cs elem))/\
  bL (aN N ρ' (I++[(false, .cells l)])) (w.alloc (.cells cs elem)) ρ' (I++[(false, .cells l)]) (.ptr I.length 0) (.pointer (some ⟨w.heap.size,0,none⟩)):=by
 refine⟨_,cn.alloc h false (.cells l) (.cells cs elem) 0 ⟨w.heap.size,cs,elem,rfl,rfl,nR w _,ay,fun i hi=> ?_⟩, .c3 ⟨_,w.heap.size,qW h _,rfl,rfl,rfl⟩⟩;exact(an i hi).mono (Bk h _ (.inl rfl) _ _) (fun id _=>GS h _ _ id)
theorem Nt {Z:Nat->Prop}{s:cg}{v:Value}(h:yS s v=true):eD Z w ρ I s.zero v:=by
 cases s<;>cases v<;>simp only[yS,apP,aoL]at h<;>simp only[cg.zero]
 case int.int k cy n=>
  obtain⟨U,aa⟩:=h;obtain rfl:=js.1 U
  cases n with
  |ofNat m=>cases m with
   |zero=>exact .int _ _
   |succ m=>exact absurd aa apN
  |negSucc m=>exact absurd aa apN
 case bool.bool b=>cases b<;>simp at h;exact .bool _
 case str.string s=>
  have bc:=aoz h;refine .str s [] ?_;have:s.data.toList=[]:=apl.1 (by rw[apD];exact bc);rw[this];rfl
 case cu.slice k a l c=>cases a<;>cases l<;>cases c<;>simp at h;exact⟨none,rfl⟩
 case dB.slice k a l c=>cases a<;>cases l<;>cases c<;>simp at h;exact⟨none,rfl⟩
 all_goals trivial
theorem GD {Z:Nat->Prop}{w:World}{ρ:List Loc}{I:aD}:∀{cs:List cg} {aH:List Value},mP cs aH=true->aH.length=cs.length/\∀i,i<cs.length->eD Z w ρ I ((bE cg.zero cs).getD i .un) (aH.getD i undef)
 |[],[],_=>⟨rfl,fun i hi=>by simp at hi⟩
 |[],_::_,h=>by simp[mP]at h
 |_::_,[],h=>by simp[mP]at h
 |s::dK,v::aH,h=>by
  simp only[mP,aoL]at h;obtain⟨U,aa⟩:=GD (Z:=Z) (w:=w) (ρ:=ρ) (I:=I) h.2;refine⟨by simp[U],fun i hi=> ?_⟩
  cases i with
  |zero=>exact Nt h.1
  |succ i=>have:=aa i (by simpa using hi);simpa[bE]using this
theorem ac8 {t:TypeId}{i:b7}(hi:c1 P t i=true)(av:i.ty≠ .no):∃g cs,P.info? t=some g/\nw g.zero cs=true/\bE cg.zero cs=i.ty.zero:=by
 unfold c1 at hi;split at hi
 ·rename_i h;exact absurd h av
 all_goals first
  |cases hi
  |(rename_i U aa az
    simp only[aoL]at hi;refine⟨_, ?_,aa, ?_, ?_⟩;rotate_left
    ·first|exact hi.2|exact hi.1.2|exact hi.1.1.2|exact hi.1.1.1.2|exact hi.1.1.1.1.2|exact hi.1.1.1.1.1.2
    ·rw[U];rfl)
theorem G4 {t:TypeId}{i:b7}(hi:c1 P t i=true)(av:i.ty≠ .no):∃g z,P.info? t=some g/\g.zero=some z/\
 z.cells.size=i.ty.zero.length/\∀(Z:Nat->Prop) k,k<i.ty.zero.length->eD Z w ρ I (i.ty.zero.getD k .un) (z.cells.getD k undef):=by
 obtain⟨g,cs,bh,bq,aC⟩:=ac8 hi av;unfold nw at bq
 cases kn:g.zero with
 |none=>rw[kn]at bq;cases bq
 |some z=>
  rw[kn]at bq;refine⟨g,z,bh,kn, ?_,fun Z k ae=> ?_⟩
  ·obtain⟨U,_⟩:=GD (Z:=fun _=>False) (w:=w) (ρ:=ρ) (I:=I) bq;rw[<-aC,dM,aoF,<-U];simp
  ·obtain⟨U,aa⟩:=GD (Z:=Z) (w:=w) (ρ:=ρ) (I:=I) bq;rw[<-aC]at ae⊢;have:=aa k (by simpa[dM]using ae);simpa[aoH,aoA]using this
theorem ZE {t:TypeId}{i:b7}(hi:c1 P t i=true)(av:i.ty≠ .no)(h:cv N ρ I w):
 ∃u w' ρ',(Instr.alloc t true (.tuple #[])).run P w= .ok u w'/\cn N ρ I w ρ' (I++[(false, .cells i.ty.zero)]) w'/\
  bL (aN N ρ' (I++[(false, .cells i.ty.zero)])) w' ρ' (I++[(false, .cells i.ty.zero)]) (.ptr I.length 0) u:=by
 obtain⟨g,z,U,aa,az,aW⟩:=G4 (w:=w) (ρ:=ρ) (I:=I) hi av;obtain⟨ρ',a6,bj⟩:=Ql h t i.ty.zero z.cells az (fun k ae=>aW _ k ae);exact⟨_,_,ρ',by simp[Instr.alloc,zeroValue,typeInfo,U,aa,newVar,newRow],a6,bj⟩
theorem ac9 (t:TypeId)(h:cv N ρ I w){cT:Operand}{tm:List J}{a:Act}(au:ek (aN N ρ I) w ρ I tm a.tmps)(ay:eg J.nT (aY tm cT).cellsOf=true):
 ∃u w' ρ',(Instr.box t (a.eval cT)).run P w= .ok u w'/\cn N ρ I w ρ' (I++[(false, .cells (aY tm cT).cellsOf)]) w'/\
  bL (aN N ρ' (I++[(false, .cells (aY tm cT).cellsOf)])) w' ρ' (I++[(false, .cells (aY tm cT).cellsOf)]) (.ptr I.length 0) u:=by
 have ai:=eA au cT;generalize aY tm cT=x at*
 have aC:(a.eval cT).cells.size=x.cellsOf.length/\∀i,i<x.cellsOf.length->eD (aN N ρ I) w ρ I (x.cellsOf.getD i .un) ((a.eval cT).cells.getD i undef):=by
  cases x with
  |agg l=>
   obtain⟨arr,U,aa,az⟩:=ai;rw[U];exact⟨aa,az⟩
  |_=>
   simp only[J.cellsOf,eg]at ay⊢;split at ay
   ·rename_i fe;obtain⟨U,aa⟩:=vO fe ai;rw[yb aa];refine⟨rfl,fun i hi=> ?_⟩;have:i=0:=by simp at hi;omega
    subst this;exact U
   ·cases ay
 obtain⟨ρ',a6,bj⟩:=Ql h t x.cellsOf (a.eval cT).cells aC.1 aC.2;exact⟨_,_,ρ',by simp[Instr.box,newVar,newRow],a6,bj⟩
theorem Mt {Z:Nat->Prop}{s:cg}{v:Value}(h:yS s v=true):bB Z w s.iU v:=by
 have:=Nt (w:=w) (ρ:=[]) (I:=[]) (Z:=Z) h
 cases s with
 |int k=>exact this
 |bool=>exact this
 |str=>exact this
 |cu k=>obtain⟨a,rfl⟩:=this;exact .jg _ _ _
 |dB ak=>obtain⟨a,rfl⟩:=this;exact .kN _ _ _
 |other=>exact .undef _ h
theorem qI {Z:Nat->Prop}{w:World}:∀{cs:List cg} {aH:List Value},mP cs aH=true->aH.length=cs.length/\∀i,i<cs.length->bB Z w ((bE cg.iU cs).getD i .undef) (aH.getD i undef)
 |[],[],_=>⟨rfl,fun i hi=>by simp at hi⟩
 |[],_::_,h=>by simp[mP]at h
 |_::_,[],h=>by simp[mP]at h
 |s::dK,v::aH,h=>by
  simp only[mP,aoL]at h;obtain⟨U,aa⟩:=qI (Z:=Z) (w:=w) h.2;refine⟨by simp[U],fun i hi=> ?_⟩
  cases i with
  |zero=>exact Mt h.1
  |succ i=>have:=aa i (by simpa using hi);simpa[bE]using this
theorem ZF {t:a7}(h:t.jB=true):t.size=t.cells.length/\bE cg.zero t.cells=t.zero/\t≠ .no:=by
 cases t with
 |struct bY cs=>exact⟨by simp[a7.size,a7.cells,cG],rfl,by simp⟩
 |arr n e cs=>exact⟨by simp[a7.size,a7.cells,cG],rfl,by simp⟩
 |_=>cases h
theorem Nu (h:cv N ρ I w)(elem:TypeId){n:Nat}(av:0<n)(r:List R)(cs:Array Value)(ay:cs.size=n)(an:∀i,i<n->bB (aN N ρ I) w (r.getD i .undef) (cs.getD i undef)):
 ∃ρ',cn N ρ I w ρ' (I++[(false, .ar n [r])]) (w.alloc (.cells cs elem))/\
  bL (aN N ρ' (I++[(false, .ar n [r])])) (w.alloc (.cells cs elem)) ρ' (I++[(false, .ar n [r])]) (.optr I.length 0 0) (.pointer (some ⟨w.heap.size,0,none⟩)):=by
 have cF:af.at (I++[(false, .ar n [r])]) I.length= .ar n [r]:=by rw[gN,aoy rfl]
 refine⟨_,cn.alloc h false (.ar n [r]) (.cells cs elem) 1 (.inr ⟨w.heap.size,cs,elem,rfl,rfl,nR w _,by simp,by simp[ay],av,fun i j hi aI=> ?_⟩),
  .c3 ⟨_,w.heap.size,qW h _,rfl,rfl,by simp,by simp,by rw[cF];simp[af.len]⟩⟩
 have hi:i=0:=by simpa using hi
 subst hi;refine⟨cs.getD j undef,by simp[aoH,show j<cs.size by omega],Bk h _ (.inl rfl) _ _ _ _ (an j aI)⟩
theorem WY {t:TypeId}{i:b7}(hi:c1 P t i=true)(h:cv N ρ I w){cd:List Prop}{v:J}{aj:aD}(he:yn i.ty I= .aZ cd v aj):
 ∃u w' ρ',(Instr.alloc t true (.tuple #[])).run P w= .ok u w'/\cn N ρ I w ρ' aj w'/\bL (aN N ρ' aj) w' ρ' aj v u:=by
 unfold yn at he;split at he
 ·rename_i ag;split at he
  ·rename_i av;simp only[bS.aZ.injEq]at he;obtain⟨rfl,rfl,rfl⟩:=he;obtain⟨cZ,di,jd⟩:=ZF ag;have av:0<i.ty.size:=by have:0+1<=i.ty.size:=aoY av;omega
   have uI:(∃bY,i.ty= .struct bY i.ty.cells)\/∃n e,i.ty= .arr n e i.ty.cells:=by
    cases b9:i.ty with
    |struct bY cs=>exact .inl ⟨bY,rfl⟩
    |arr n e cs=>exact .inr ⟨n,e,rfl⟩
    |_=>rw[b9]at ag;cases ag
   obtain⟨g,d,bh,_,_,_,z,kn,j1⟩:=wh hi uI;obtain⟨k9,z2⟩:=qI (Z:=aN N ρ I) (w:=w) j1;have iK:z.cells.size=i.ty.size:=by rw[cZ,<-k9];simp
   obtain⟨ρ',a6,bj⟩:=Nu h t av (bE cg.iU i.ty.cells) z.cells iK (fun k ae=>by
    have:=z2 k (by omega)
    simpa[aoH,aoA]using this)
   rw[fV,cG];exact⟨_,_,ρ',by simp[Instr.alloc,zeroValue,typeInfo,bh,kn,newVar,newRow],a6,bj⟩
  ·cases he
 ·split at he
  ·cases he
  ·rename_i av;simp only[bS.aZ.injEq]at he;obtain⟨rfl,rfl,rfl⟩:=he;rw[fV,cG];exact ZE hi av h
theorem Ym {t:TypeId}{i:b7}(h:cv N ρ I w){cT:Operand}{tm:List J}{a:Act}(au:ek (aN N ρ I) w ρ I tm a.tmps){cd:List Prop}{v:J}{aj:aD}(he:yQ i.ty (aY tm cT) I= .aZ cd v aj):
 ∃u w' ρ',(Instr.box t (a.eval cT)).run P w= .ok u w'/\cn N ρ I w ρ' aj w'/\bL (aN N ρ' aj) w' ρ' aj v u:=by
 unfold yQ at he;split at he
 ·split at he
  ·rename_i r an av;simp only[bS.aZ.injEq]at he;obtain⟨rfl,rfl,rfl⟩:=he;have av:0<i.ty.size:=by have:0+1<=i.ty.size:=aoY av;omega
   obtain⟨arr,U,aa,az,aW⟩:=vR an (eA au cT);obtain⟨ρ',a6,bj⟩:=Nu h t av r (a.eval cT).cells (by rw[U];exact aa) (fun k ae=>by rw[U];exact aW k ae);rw[fV,cG];exact⟨_,_,ρ',by simp[Instr.box,newVar,newRow],a6,bj⟩
  ·cases he
 ·split at he
  ·rename_i ay;simp only[bS.aZ.injEq]at he;obtain⟨rfl,rfl,rfl⟩:=he;rw[fV,cG];exact ac9 t h au ay
  ·cases he
theorem foldl_push (l:List Int)(s:ByteArray):(l.foldl (fun r n=>r.push (UInt8.ofNat n.toNat)) s).data.toList=s.data.toList++l.map fun n=>UInt8.ofNat n.toNat:=by
 induction l generalizing s with
 |nil=>simp
 |cons x r bF=>rw[aqS,bF];simp
theorem Od (off:Nat):∀(l:List (Value×Nat)) (cs:Array Value),(l.foldl (fun cs (c,j)=>cs.setIfInBounds (off+j) c) cs).size=cs.size
 |[],cs=>rfl
 |x::r,cs=>by rw[aqS,Od off r];simp
theorem O_ (off:Nat):∀(l:List Value) (n:Nat) (cs:Array Value) (k:Nat),off+n+l.length<=cs.size->
 ((l.zipIdx n).foldl (fun cs (c,j)=>cs.setIfInBounds (off+j) c) cs)[k]? =if off+n<=k/\k<off+n+l.length then l[k-(off+n)]? else cs[k]?
 |[],n,cs,k,_=>by rw[aox (by simp)];rfl
 |x::r,n,cs,k,h=>by
  simp only[apq]at h;rw[List.zipIdx_cons,aqS,O_ off r (n+1) _ k (by simp;omega)]
  by_cases U:off+(n+1)<=k/\k<off+(n+1)+r.length
  ·rw[aoy U,aoy (by simp;omega),show k-(off+n)=(k-(off+(n+1)))+1 by omega];simp
  ·rw[aox U,aqx]
   by_cases aa:off+n=k
   ·subst aa;rw[aoy rfl,aoy (by omega),aoy (by simp)];simp
   ·rw[aox aa,aox (by simp;omega)]
theorem BE (place:Nat->Option (Nat×Nat))(cells:Array Value)(i:Nat)(v:Value)(bM:List (Nat×Value))(off size:Nat)(aE:place i=some (off,size))(ay:v.cells.size=size)(ag:off+size<=cells.size):
 ∃eF,Instr.fill place cells ((i,v)::bM)=Instr.fill place eF bM/\eF.size=cells.size/\
  ∀k,eF[k]? =if off<=k/\k<off+size then v.cells[k-off]? else cells[k]? :=by
 refine⟨_,by simp only[Instr.fill,aE,ay];rw[aox (by simp;omega)], ?_,fun k=> ?_⟩
 ·rw[<-Array.foldl_toList];exact Od off _ cells
 ·rw[<-Array.foldl_toList,Array.toList_zipIdx];have:=O_ off v.cells.toList 0 cells k (by simp;omega);simp only[aoW,apD,ay]at this;rw[this];split<;>simp
theorem HR {Z:Nat->Prop}(place:Nat->Option (Nat×Nat))(pB:Nat->Nat):∀(bP:List (Nat×J)) (cm:List (Nat×Value)) (cells:Array Value) (l:List J),
 bP.length=cm.length->cells.size=l.length->(∀k,k<l.length->eD Z w ρ I (l.getD k .un) (cells.getD k undef))->
 (∀(m:Nat) (p:Nat×J) (q:Nat×Value),bP[m]? =some p->cm[m]? =some q->p.1=q.1/\place p.1=some (pB p.1,p.2.cellsOf.length)/\q.2.cells.size=p.2.cellsOf.length/\pB p.1+p.2.cellsOf.length<=l.length/\
   ∀k,k<p.2.cellsOf.length->eD Z w ρ I (p.2.cellsOf.getD k .un) (q.2.cells.getD k undef))->
 ∃eF,Instr.fill place cells cm=some eF/\eF.size=(vX bP pB l).length/\
  ∀k,k<(vX bP pB l).length->eD Z w ρ I ((vX bP pB l).getD k .un) (eF.getD k undef)
 |[],[],cells,l,_,ay,an,_=>⟨cells,rfl,ay,an⟩
 |[],_::_,_,_,h,_,_,_=>by simp at h
 |_::_,[],_,_,h,_,_,_=>by simp at h
 |(i,v)::ps,(qB,u)::nI,cells,l,ax,ay,an,aE=>by
  obtain⟨U,aa,az,aW,bA⟩:=aE 0 (i,v) (qB,u) rfl rfl;simp only at U aa az aW bA;subst U;obtain⟨sG,a6,bj,bH⟩:=BE place cells i u nI (pB i) _ aa az (by omega);have gd:sG.size=(setCells l (pB i) v.cellsOf).length:=by rw[vP,bj,ay]
  obtain⟨eF,aA,aL,b3⟩:=HR place pB ps nI sG (setCells l (pB i) v.cellsOf) (by simpa using ax) gd
   (fun k ae=>by
     rw[vP]at ae;rw[Ms _ _ _ _ ae,aoH,bH k]
     by_cases ff:pB i<=k/\k<pB i+v.cellsOf.length
     ·rw[aoy ff,aoy ff,<-aoH];exact bA _ (by omega)
     ·rw[aox ff,aox ff,<-aoH];exact an k ae)
   (fun m p q hm a_=>by
     have:=aE (m+1) p q hm a_
     rw[vP];exact this)
  exact⟨eF,by rw[a6,aA],aL,b3⟩
theorem C1 {tm:List J}{a:Act}(bP:Array (Nat×Operand)):(bE (fun p=>(p.1,aY tm p.2)) bP.toList).length=((bP.map fun(i,x)=>(i,a.eval x)).toList).length:=by simp[dM]
theorem MX {t:a7}{bP:List (Nat×J)}(h:wz t bP=true)(m:Nat)(p:Nat×J)(hm:bP[m]? =some p):
 (∃bY cs,t= .struct bY cs/\p.1<bY.length/\fx t p.1+(kF t p.1).size<=cs.length/\p.2.fits (kF t p.1)=true)\/
 ∃n e cs,t= .arr n e cs/\p.1<n/\fx t p.1+e.size<=cs.length/\p.2.fits e=true:=by
 induction bP generalizing m with
 |nil=>simp at hm
 |cons x r bF=>
  obtain⟨i,v⟩:=x;unfold wz at h
  cases t with
  |struct bY cs=>
   simp only at h;split at h
   ·rename_i U aa az
    cases m with
    |zero=>
     simp at hm;subst hm;refine .inl ⟨bY,cs,rfl, ?_, ?_,az⟩
     ·have:i+1<=bU bY:=by simpa[Nat.blt]using U
      rw[cG]at this;omega
     ·have:=aoY aa;rwa [cG]at this
    |succ m=>exact bF h m (by simpa using hm)
   ·cases h
  |arr n e cs=>
   simp only at h;split at h
   ·rename_i U aa az
    cases m with
    |zero=>
     simp at hm;subst hm;refine .inr ⟨n,e,cs,rfl, ?_, ?_,az⟩
     ·have:i+1<=n:=by simpa[Nat.blt]using U
      omega
     ·have:=aoY aa;rwa [cG]at this
    |succ m=>exact bF h m (by simpa using hm)
   ·cases h
  |_=>simp at h
theorem G5 {bY:List (Nat×Nat×a7)}:∀{a:List Field},pT P bY a=true->a.mapM (fun(f:Field)=>(P.info? f.type).map fun i=>(f.offset,i.size))=some (bY.map fun f=>(f.1,f.2.2.size)):=by
 induction bY with
 |nil=>intro a h;cases a with
  |nil=>rfl
  |cons _ _=>simp[pT]at h
 |cons x r bF=>
  intro a h;obtain⟨o,n,t⟩:=x
  cases a with
  |nil=>simp[pT]at h
  |cons eh bM=>
   have bc:=h;simp only[pT,aoL]at h;obtain⟨⟨⟨⟨⟨⟨⟨U,aa⟩,az⟩,aW⟩,bA⟩,Tl⟩,bZ⟩,fo⟩:=h;obtain⟨g,bh⟩:=aqR.1 bA;have aA:=aoz U;have aL:=aoz aa;have b3:=aoz az;have:P.cellsOf eh.type=g.size:=by simp[Program.cellsOf,bh]
   simp[bh,bF fo,<-aA,show g.size=t.size by omega]
theorem ZG {t:TypeId}{i:b7}(hi:c1 P t i=true){tm:List J}{a:Act}(au:ek (aN N ρ I) w ρ I tm a.tmps)(bP:Array (Nat×Operand))
 (aE:wz i.ty (bE (fun p=>(p.1,aY tm p.2)) bP.toList)=true) (av:∃cs,(∃bY,i.ty= .struct bY cs)\/∃n e,i.ty= .arr n e cs):
 ∃u,(Instr.build t (bP.map fun(i,x)=>(i,a.eval x))).run P w= .ok u w/\
  bL (aN N ρ I) w ρ I (.agg (vX (bE (fun p=>(p.1,aY tm p.2)) bP.toList) (fx i.ty) i.ty.zero)) u:=by
 have jl:i.ty≠ .no:=by rcases av with⟨cs,⟨bY,h⟩|⟨n,e,h⟩⟩<;>rw[h]<;>simp
 obtain⟨g,z,bh,bq,iK,Fc⟩:=G4 (w:=w) (ρ:=ρ) (I:=I) hi jl;have rH:i.ty.zero.length=i.ty.size:=by cases i.ty<;>simp[a7.zero,a7.size,dM,cG]
 have hx:∀(m:Nat) (p:Nat×J) (q:Nat×Value),(bE (fun p=>(p.1,aY tm p.2)) bP.toList)[m]? =some p->((bP.map fun(i,x)=>(i,a.eval x)).toList)[m]? =some q->
  p.1=q.1/\bL (aN N ρ I) w ρ I p.2 q.2:=by
  intro m p q U aa;rw[dM]at U;simp only[apu,Array.toList_map]at U aa
  cases zM:bP.toList[m]? with
  |none=>simp[zM]at U
  |some x=>
   simp[zM]at U aa;subst U aa;exact⟨rfl,eA au _⟩
 rcases av with⟨cs,⟨bY,b9⟩|⟨n,e,b9⟩⟩
 ·obtain⟨eh,hu,Fe⟩:=xZ hi b9;have ir:=run_places (P:=P) w eh.toList _ (G5 Fe)
  obtain⟨eF,U,aa,az⟩:=HR (Z:=aN N ρ I) (w:=w) (ρ:=ρ) (I:=I) (fun(x:Nat)=>(bY.map fun f=>(f.1,f.2.2.size))[x]?) (fx i.ty)
   (bE (fun p=>(p.1,aY tm p.2)) bP.toList) ((bP.map fun(i,x)=>(i,a.eval x)).toList) z.cells i.ty.zero (C1 bP) iK (fun k ae=>Fc _ k ae)
   (fun m p q hm a_=>by
     obtain⟨aA,aL⟩:=hx m p q hm a_;rcases MX aE m p hm with⟨E9,lM,k4,a6,bj,bH⟩|⟨n',b_,lM,k4,_⟩
     ·rw[b9]at k4;obtain⟨rfl,rfl⟩:=by simpa using k4
      obtain⟨f1,f2,f3,f4⟩:=tV bH aL;refine⟨aA, ?_,by rw[f1,f2], ?_,fun k ae=>f4 k (by omega)⟩
      ·rw[f2,b9];simp[fx,kF,dT,aoA,a6]
      ·rw[f2,rH,b9,a7.size,cG];rw[b9]at bj;exact bj
     ·rw[b9]at k4;cases k4)
  refine⟨.agg eF, ?_, .hj ⟨eF,rfl,aa,fun k ae=>az k ae⟩⟩;refine run_build w t _ eF ?_;unfold Program.built;simp only[bh,hu,bq,G5 Fe];have he:(fun(x:Nat)=>(bY.map fun f=>(f.1,f.2.2.size)).toArray[x]?)=fun(x:Nat)=>(bY.map fun f=>(f.1,f.2.2.size))[x]? :=by funext x;simp
  rw[he];exact U
 ·obtain⟨el,vu,hu,aiS,cq⟩:=ya hi b9
  obtain⟨eF,U,aa,az⟩:=HR (Z:=aN N ρ I) (w:=w) (ρ:=ρ) (I:=I) (fun i=>some (i*vu.size,vu.size)) (fx i.ty)
   (bE (fun p=>(p.1,aY tm p.2)) bP.toList) ((bP.map fun(i,x)=>(i,a.eval x)).toList) z.cells i.ty.zero (C1 bP) iK (fun k ae=>Fc _ k ae)
   (fun m p q hm a_=>by
     obtain⟨aA,aL⟩:=hx m p q hm a_;rcases MX aE m p hm with⟨E9,lM,k4,_⟩|⟨n',b_,lM,k4,a6,bj,bH⟩
     ·rw[b9]at k4;cases k4
     ·rw[b9]at k4;obtain⟨rfl,rfl,rfl⟩:=by simpa using k4
      obtain⟨f1,f2,f3,f4⟩:=tV bH aL;refine⟨aA, ?_,by rw[f1,f2], ?_,fun k ae=>f4 k (by omega)⟩
      ·rw[f2,b9,cq];rfl
      ·rw[f2,rH,b9,a7.size,cG];rw[b9]at bj;exact bj)
  refine⟨.agg eF, ?_, .hj ⟨eF,rfl,aa,fun k ae=>az k ae⟩⟩;refine run_build w t _ eF ?_;unfold Program.built;simp only[bh,hu,bq,aiS];exact U
theorem Gu {Z:Nat->Prop}{t:a7}{v:J}{u:Value}{r:List R}(h:nZ I t v=some r)(av:t≠ .no)(aP:bL (aN N ρ I) w ρ I v u):
 r.length=t.size/\u.cells.size=t.size/\∀c,c<t.size->bB (aN N ρ I) w (r.getD c .undef) (u.cells.getD c undef):=by
 unfold nZ at h;split at h
 ·rename_i s;split at h
  ·rename_i a8;obtain rfl:=aoK h;obtain⟨U,aa⟩:=vO (Gr a8) aP;rw[yb aa];refine⟨rfl,rfl,fun c aC=> ?_⟩;have:c=0:=by simp[a7.size]at aC;omega
   subst this;exact(Bh a8 U).2 s
  ·cases h
 ·split at h
  ·split at h
   ·rename_i hm;obtain rfl:=aoK h;obtain⟨a,rfl,U,aa,az⟩:=aP;have hm:=aoz hm;exact⟨by omega,by show a.size=_;omega,fun c aC=>az c (by omega)⟩
   ·cases h
  ·rename_i l;split at h
   ·rename_i hm a8;obtain rfl:=aoK h;have hm:=aoz hm;rw[cG]at hm;obtain⟨a,rfl,U,aa⟩:=aP;rw[fy,aoR]at a8;have ax:(mi I t.cells (.agg l)).length=l.length:=by unfold mi;rw[dM,aoF,yc];rfl
    exact⟨by omega,by show a.size=_;omega,fun c aC=>Bi t.cells l (fun m=>a.getD m undef) a8 aa c (by omega)⟩
   ·cases h
  ·cases h
theorem Pa (place:Nat->Option (Nat×Nat))(S:Nat->Value->Prop):∀(cm:List (Nat×Value)) (cells:Array Value),
 (∀q∈cm,∃o n,place q.1=some (o,n)/\q.2.cells.size=n/\o+n<=cells.size/\∀c,c<n->S (o+c) (q.2.cells.getD c undef))->
 (∀p,p<cells.size->(∃q∈cm,∃o n,place q.1=some (o,n)/\o<=p/\p<o+n)\/S p (cells.getD p undef))->
 ∃eF,Instr.fill place cells cm=some eF/\eF.size=cells.size/\∀p,p<cells.size->S p (eF.getD p undef)
 |[],cells,_,aC=>⟨cells,rfl,rfl,fun p aE=>(aC p aE).resolve_left fun⟨q,a_,_⟩=>absurd a_ apR⟩
 |(i,u)::nI,cells,h,aC=>by
  obtain⟨o,n,U,aa,az,aW⟩:=h _ (aqy ..);obtain⟨sG,a6,bj,bH⟩:=BE place cells i u nI o n U aa az
  obtain⟨eF,aA,aL,b3⟩:=Pa place S nI sG (fun q a_=>by rw[bj];exact h q (apQ _ a_)) (fun p aE=>by
   rw[bj]at aE;rw[aoH,bH p]
   by_cases ff:o<=p/\p<o+n
   ·rw[aoy ff,<-aoH];have:=aW (p-o) (by omega);rw[show o+(p-o)=p by omega]at this;exact .inr this
   ·rw[aox ff,<-aoH];rcases aC p aE with⟨q,a_,cc,n',g1,g2,g3⟩|h7
    ·rcases ao7.1 a_ with rfl|a_
     ·rw[U]at g1;injection g1 with g1;injection g1 with g4 g5;omega
     ·exact .inl ⟨q,a_,cc,n',g1,g2,g3⟩
    ·exact .inr h7)
  exact⟨eF,by rw[a6,aA],by omega,fun p aE=>b3 p (by omega)⟩
theorem GF {f:Nat×Nat×a7}{r:List (Nat×Nat×a7)}{o n:Nat}(h:sB (f::r) o n=true):f.1=o/\f.2.2≠ .no/\sB r (o+f.2.2.size) n=true:=by
 unfold sB at h;split at h
 ·cases h
 ·rename_i U aa;exact⟨aoz U,aa,h⟩
 ·cases h
theorem Oe:∀(bY:List (Nat×Nat×a7)) (o n:Nat),sB bY o n=true->o<=n
 |[],o,n,h=>Nat.le_of_eq (aoz h)
 |f::r,o,n,h=>by have:=Oe r _ n (GF h).2.2;omega
theorem Mu {cs:List cg}{bP:List (Nat×J)}:∀(bY:List (Nat×Nat×a7)) (k o n:Nat) (r:List R),sB bY o n=true->n<=cs.length->qV I cs bP k bY=some r->
 (∀(j:Nat) (f:Nat×Nat×a7) (v:J),bY[j]? =some f->fu (k+j) bP=some v->∀x,nZ I f.2.2 v=some x->x.length=f.2.2.size)->
 r.length+o=n/\(∀(j:Nat) (f:Nat×Nat×a7),bY[j]? =some f->o<=f.1/\f.1+f.2.2.size<=n/\f.2.2≠ .no)/\
 (∀(j:Nat) (f:Nat×Nat×a7) (v:J),bY[j]? =some f->fu (k+j) bP=some v->∃x,nZ I f.2.2 v=some x/\∀c,c<f.2.2.size->r.getD (f.1-o+c) .undef=x.getD c .undef)/\
 (∀p,o<=p->p<n->∃j f,bY[j]? =some f/\f.1<=p/\p<f.1+f.2.2.size/\(fu (k+j) bP=none->r.getD (p-o) .undef=(bE cg.iU cs).getD p .undef))
 |[],k,o,n,r,aC,av,h,_=>by
  have:=aoz (show Nat.beq o n=true from aC);simp[qV]at h;subst h;exact⟨by simpa using this,fun j f aU=>by simp at aU,fun j f v aU=>by simp at aU,fun p U aa=>by omega⟩
 |f::r,k,o,n,row,aC,av,h,ai=>by
  obtain⟨e3,eY,j7⟩:=GF aC;have anZ:=Oe r _ n j7;unfold qV at h;split at h
  ·rename_i x y aA aL;obtain⟨i1,i2,i3,i4⟩:=Mu r (k+1) (o+f.2.2.size) n y j7 av aL (fun j g v bh aP=>ai (j+1) g v (by simpa using bh) (by rw[show k+(j+1)=k+1+j by omega];exact aP))
   have xl:x.length=f.2.2.size:=by
    split at aA
    ·rename_i v aP;exact ai 0 f v rfl aP x aA
    ·obtain rfl:=aoK aA;rw[dM,aoF,ll,lk,ao3,apI];omega
   have lH:row=x++y:=by
    cases r with
    |nil=>simp[qV]at aL;subst aL;simpa using(aoK h).symm
    |cons _ _=>exact(aoK h).symm
   subst lH
   have left:∀c,c<f.2.2.size->(x++y).getD c .undef=x.getD c .undef:=fun c aC=>by
    simp only[aoA];rw[apt (by omega)]
   have right:∀c,f.2.2.size<=c->(x++y).getD c .undef=y.getD (c-f.2.2.size) .undef:=fun c aC=>by
    simp only[aoA];rw[apJ (by omega),xl]
   refine⟨by simp;omega,fun j g bh=> ?_,fun j g v bh aP=> ?_,fun p U aa=> ?_⟩
   ·cases j with
    |zero=>obtain rfl:f=g:=by simpa using bh
           exact⟨by omega,by omega,eY⟩
    |succ j=>obtain⟨q1,cE,cS⟩:=i2 j g (by simpa using bh);exact⟨by omega,cE,cS⟩
   ·cases j with
    |zero=>
     obtain rfl:f=g:=by simpa using bh
     rw[aoW]at aP;rw[aP]at aA;exact⟨x,aA,fun c aC=>by rw[e3,Nat.sub_self,ao8];exact left c aC⟩
    |succ j=>
     obtain⟨q1,cE,cS⟩:=i2 j g (by simpa using bh);obtain⟨h8,k9,z2⟩:=i3 j g v (by simpa using bh) (by rw[show k+1+j=k+(j+1) by omega];exact aP);refine⟨h8,k9,fun c aC=> ?_⟩;rw[right _ (by omega),<-z2 c aC]
     congr 1;omega
   ·by_cases aE:p<o+f.2.2.size
    ·refine⟨0,f,rfl,by omega,by omega,fun uJ=> ?_⟩;rw[aoW]at uJ;rw[uJ]at aA;obtain rfl:=aoK aA;rw[left _ (by omega)];simp only[dM,ll,lk,aoA,apu,aps,apZ,e3];rw[aoy (by omega),show o+(p-o)=p by omega]
    ·obtain⟨j,g,q1,cE,cS,gx⟩:=i4 p (by omega) aa;refine⟨j+1,g,by simpa using q1,cE,cS,fun uJ=> ?_⟩;rw[right _ (by omega),<-gx (by rw[show k+1+j=k+(j+1) by omega];exact uJ)]
     congr 1;omega
  ·cases h
theorem Mv:∀{bP:List (Nat×J)} {n:Nat},Cs n bP=true->∀p∈bP,p.1<n/\fu p.1 bP=some p.2
 |[],_,_,p,aE=>absurd aE apR
 |q::r,n,h,p,aE=>by
  unfold Cs at h;split at h
  ·rename_i U aa;have U:q.1+1<=n:=aoY U;rcases ao7.1 aE with rfl|aE
   ·exact⟨by omega,by unfold fu;rw[apz]⟩
   ·obtain⟨a6,bj⟩:=Mv h p aE;refine⟨a6, ?_⟩;unfold fu;split
    ·rename_i e;rw[aoz e,bj]at aa;cases aa
    ·exact bj
  ·cases h
theorem Gv:∀{bP:List (Nat×J)} {k:Nat} {v:J},fu k bP=some v->(k,v)∈bP
 |[],_,_,h=>by cases h
 |(i,x)::r,k,v,h=>by
  unfold fu at h;split at h
  ·rename_i e;obtain rfl:=aoz e;obtain rfl:=aoK h;exact aqy ..
  ·exact apQ _ (Gv h)
theorem WZ {t:TypeId}{i:b7}(hi:c1 P t i=true){tm:List J}{a:Act}(au:ek (aN N ρ I) w ρ I tm a.tmps)(bP:Array (Nat×Operand)){cd:List Prop}{v:J}{aj:aD}
 (he:pQ i.ty (bE (fun p=>(p.1,aY tm p.2)) bP.toList) I= .aZ cd v aj):
 ∃u,aj=I/\(Instr.build t (bP.map fun(i,x)=>(i,a.eval x))).run P w= .ok u w/\bL (aN N ρ I) w ρ I v u:=by
 unfold pQ at he;split at he;rotate_left
 ·split at he
  ·rename_i aE aR;simp only[bS.aZ.injEq]at he;obtain⟨rfl,rfl,rfl⟩:=he
   have uI:∃cs,(∃bY,i.ty= .struct bY cs)\/∃n e,i.ty= .arr n e cs:=by
    cases b9:i.ty with
    |struct bY cs=>exact⟨cs, .inl ⟨bY,rfl⟩⟩
    |arr n e cs=>exact⟨cs, .inr ⟨n,e,rfl⟩⟩
    |_=>rw[b9]at aR;cases aR
   obtain⟨u,U,aa⟩:=ZG hi au bP aE uI;exact⟨u,rfl,U,aa⟩
  ·cases he
 split at he;rotate_left
 ·rename_i m e cs b9;split at he;rotate_left
  ·cases he
  rename_i j2;simp only[bS.aZ.injEq]at he;obtain⟨rfl,rfl,rfl⟩:=he
  have rI:bP=#[]:=by
   rw[dM]at j2;rw[<-Array.toList_inj];exact List.map_eq_nil_iff.1 j2
  subst rI;obtain⟨g,d,bh,s9,jZ,_,z,bq,Ji⟩:=wh hi (.inr ⟨m,e,b9⟩);obtain⟨el,vu,q1,cE,cS⟩:=ya hi b9;obtain⟨Kg,Kh⟩:=qI (Z:=aN N ρ I) (w:=w) Ji;have iK:z.cells.size=(bE cg.iU cs).length:=by rw[<-apD,Kg,dM];simp
  refine⟨.agg z.cells,rfl,by simp[Instr.build,zeroValue,typeInfo,bh,bq,underlying,q1,lh cE,Instr.fill], .hj ⟨_,rfl, ?_, ?_,fun k ae=> ?_⟩⟩
  ·rw[iK,dM,cG];simp
  ·rw[dM,cG];simp
  ·have:=Kh k (by rw[cG]at ae;exact ae);simpa[aoH,aoA]using this
 ·cases he
 rename_i bY cs b9;split at he;rotate_left
 ·cases he
 rename_i r uU mw lH;simp only[bS.aZ.injEq]at he;obtain⟨rfl,rfl,rfl⟩:=he;obtain⟨g,d,bh,s9,jZ,_,z,bq,Ji⟩:=wh hi (.inl ⟨bY,b9⟩);obtain⟨eh,hu,Fe⟩:=xZ hi b9;have ir:=G5 Fe;rw[cG]at uU;obtain⟨Kg,Kh⟩:=qI (Z:=aN N ρ I) (w:=w) Ji;have iK:z.cells.size=cs.length:=by rw[<-Kg];simp
 have hx:∀q∈(bP.map fun(i,x)=>(i,a.eval x)).toList,∃v,(q.1,v)∈bE (fun p=>(p.1,aY tm p.2)) bP.toList/\bL (aN N ρ I) w ρ I v q.2:=fun q a_=>by
  rw[Array.toList_map]at a_;obtain⟨x,ai,rfl⟩:=aoQ.1 a_;exact⟨aY tm x.2,by rw[dM];exact aoQ.2 ⟨x,ai,rfl⟩,eA au _⟩
 have y4:∀k v,(k,v)∈bE (fun p=>(p.1,aY tm p.2)) bP.toList->∃u,(k,u)∈(bP.map fun(i,x)=>(i,a.eval x)).toList/\bL (aN N ρ I) w ρ I v u:=fun k v ae=>by
  rw[dM]at ae;obtain⟨x,ai,e⟩:=aoQ.1 ae;injection e with aA aL;refine⟨a.eval x.2, ?_,by rw[<-aL];exact eA au _⟩;rw[Array.toList_map];exact aoQ.2 ⟨x,ai,by rw[<-aA]⟩
 generalize bE (fun p=>(p.1,aY tm p.2)) bP.toList=ps at mw lH hx y4
 have agi:∀(j:Nat) (f:Nat×Nat×a7),bY[j]? =some f->f.2.2≠ .no:=by
  have key:∀(bY:List (Nat×Nat×a7)) (o n:Nat),sB bY o n=true->∀(j:Nat) (f:Nat×Nat×a7),bY[j]? =some f->f.2.2≠ .no:=by
   intro bY
   induction bY with
   |nil=>intro o n _ j f aU;simp at aU
   |cons f r bF=>
    intro o n aC j g bh;obtain⟨_,eY,j7⟩:=GF aC
    cases j with
    |zero=>obtain rfl:f=g:=by simpa using bh
           exact eY
    |succ j=>exact bF _ _ j7 j g (by simpa using bh)
  exact key bY 0 _ uU
 obtain⟨cZ,di,jd,vv⟩:=Mu (I:=I) (bP:=ps) bY 0 0 cs.length r uU (aoE _) lH (fun j f v aU aP x ai=>by
  rw[ao8]at aP;obtain⟨u,xk,pa⟩:=y4 j v (Gv aP)
  exact(Gu (Z:=aN N ρ I) ai (agi j f aU) pa).1)
 have Rg:∀(j:Nat) (f:Nat×Nat×a7),bY[j]? =some f->(bY.map fun f=>(f.1,f.2.2.size))[j]? =some (f.1,f.2.2.size):=fun j f aU=>by rw[apu,aU];rfl
 have agj:∀q∈(bP.map fun(i,x)=>(i,a.eval x)).toList,∃f,bY[q.1]? =some f/\q.2.cells.size=f.2.2.size/\f.1+f.2.2.size<=cs.length/\∀c,c<f.2.2.size->bB (aN N ρ I) w (r.getD (f.1+c) .undef) (q.2.cells.getD c undef):=fun q a_=>by
  obtain⟨v,ny,mx⟩:=hx q a_;obtain⟨a6,bj⟩:=Mv mw _ ny;rw[cG]at a6;have aU:bY[q.1]? =some bY[q.1]:=aoM a6;obtain⟨x,cH,cz⟩:=jd q.1 _ v aU (by rw[ao8];exact bj);obtain⟨oD,pC,FU⟩:=di q.1 _ aU;obtain⟨je,lW,tD⟩:=Gu (Z:=aN N ρ I) cH FU mx;refine⟨_,aU,lW,pC,fun c aC=> ?_⟩;have:=cz c aC;rw[Nat.sub_zero]at this;rw[this];exact tD c aC
 obtain⟨eF,f1,f2,f3⟩:=Pa (fun(x:Nat)=>(bY.map fun f=>(f.1,f.2.2.size))[x]?) (fun p u=>bB (aN N ρ I) w (r.getD p .undef) u) (bP.map fun(i,x)=>(i,a.eval x)).toList z.cells
  (fun q a_=>by
    obtain⟨f,q1,cE,cS,gx⟩:=agj q a_
    exact⟨f.1,f.2.2.size,Rg _ _ q1,cE,by omega,gx⟩)
  (fun p aE=>by
    rw[iK]at aE;obtain⟨j,f,tE,eS,ama,Uz⟩:=vv p (apS _) aE;rw[ao8,Nat.sub_zero]at Uz
    cases ax:fu j ps with
    |some v=>
     obtain⟨u,xk,pa⟩:=y4 j v (Gv ax);exact .inl ⟨_,xk,f.1,f.2.2.size,Rg _ _ tE,eS,ama⟩
    |none=>
     rw[Uz ax];have:=Kh p aE
     exact .inr (by simpa[aoH,aoA]using this))
 rw[cG];refine⟨.agg eF,rfl, ?_, .hj ⟨eF,rfl,by omega,by omega,fun k ae=>f3 k (by omega)⟩⟩;refine run_build w t _ eF ?_;unfold Program.built;simp only[bh,hu,bq,ir];have he:(fun(x:Nat)=>(bY.map fun f=>(f.1,f.2.2.size)).toArray[x]?)=fun(x:Nat)=>(bY.map fun f=>(f.1,f.2.2.size))[x]? :=by funext x;simp
 rw[he];exact f1
end
end Go.al
end
section
namespace Go.al
section
variable {P:Program} {N:Nat->Prop} {ρ:List Loc} {I:aD} {w:World}
theorem ac_ {k:IntKind}{z:Option Value}(h:IJ k z=true):z=some (.int k 0):=by
 unfold IJ at h;split at h
 ·obtain rfl:=js.1 h;rfl
 ·cases h
theorem GU {t:TypeId}{i:b7}(hi:c1 P t i=true){k:IntKind}(h:i.ty= .aB (.cu k)):
 ∃e g,P.underlying t=some (.slice e)/\P.info? e=some g/\g.size=1/\g.bytes=i.bytes/\g.zero=some (.int k 0):=by
 unfold c1 at hi;rw[h]at hi;split at hi<;>simp_all;split at hi<;>simp_all;exact ac_ hi.2.2
theorem sf {t:TypeId}{i:b7}(hi:c1 P t i=true){ak:Nat}(h:i.ty= .aB (.dB ak)):
 ∃e g z,P.underlying t=some (.slice e)/\P.info? e=some g/\g.size=ak/\g.bytes=i.bytes/\0<ak/\i.fz.length=ak/\g.zero=some z/\mP i.fz z.cells.toList=true:=by
 unfold c1 at hi;rw[h]at hi;split at hi<;>simp_all;split at hi<;>simp_all [nw,cG];rename_i g d _ _
 cases kn:TypeInfo.zero g with
 |none=>simp[kn]at hi
 |some z=>simp[kn]at hi;exact⟨z,rfl,hi.2.1.2⟩
theorem Ht (z:Array Value)(m k:Nat)(ae:k<m):(madeCells z m)[k]? =some z[k%z.size]! :=by
 simp[madeCells,ae]
theorem XB {t:TypeId}{i:b7}(hi:c1 P t i=true)(bI:cv N ρ I w){on r3:Operand}{tm:List J}{a:Act}(au:ek (aN N ρ I) w ρ I tm a.tmps)
 {cd:List Prop} {v:J} {aj:aD} (h:wy i (aY tm on) (aY tm r3) I= .aZ cd v aj) (ay:∀p∈cd,p):
 ∃u w' ρ',(Instr.makeSlice t (a.eval on) (a.eval r3)).run P w= .ok u w'/\cn N ρ I w ρ' aj w'/\bL (aN N ρ' aj) w' ρ' aj v u:=by
 have av:=eA au on;have aC:=eA au r3;generalize aY tm on=x at*;generalize aY tm r3=y at*;unfold wy at h;split at h
 ·rename_i n c;split at h
  ·rename_i ag km;simp only[bS.aZ.injEq]at h;obtain⟨rfl,rfl,rfl⟩:=h;have aA:=iS av;have aL:=iS aC;have bc:0<=n:=ay _ (by simp);have U:n<=c:=ay _ (by simp);have aa:c*i.bytes<=281474976710656:=ay _ (by simp)
   have gD:(1:Int)<=i.bytes:=by
    have:1<=i.bytes:=by simpa[Nat.blt]using ag
    omega
   have pb:c<=9223372036854775807:=by
    have:c*1<=c*i.bytes:=Int.mul_le_mul_of_nonneg_left gD (by omega);omega
   rw[aA,aL]
   cases b9:i.ty with
   |aB s=>
    rw[b9]at km
    cases s with
    |cu k=>
     obtain⟨e,g,q1,cE,cS,gx,dV⟩:=GU hi b9;have fq:=run_make (P:=P) w t e g (.int k 0) q1 cE dV .i64 .i64 n c bc U (by rw[gx,Int.mul_comm];exact aa) pb;rw[cS,ao6]at fq;have IM:madeOf i n.toNat= .ad k (List.replicate n.toNat 0):=by simp[madeOf,b9]
     rw[IM,fV,cG];refine⟨_,_,_,fq,cn.alloc bI false (.ad k (List.replicate n.toNat 0)) _ c.toNat (.inr ⟨w.heap.size,_,e,rfl,rfl,nR w _,by simp;omega,by simp[size_madeCells],fun q a_=> ?_⟩), .c3 ⟨_,qW bI _, ?_⟩⟩
     ·simp only[aql]at a_;rw[Ht _ _ _ (by omega)];simp[Value.cells,Nat.mod_one,aoA,a_]
     ·rw[gN,aoy rfl];simp[af.len]
    |dB ak=>
     obtain⟨e,g,z,q1,cE,cS,gx,dV,h9,gT,k_⟩:=sf hi b9;have fq:=run_make (P:=P) w t e g z q1 cE gT .i64 .i64 n c bc U (by rw[gx,Int.mul_comm];exact aa) pb;rw[cS]at fq
     obtain⟨k9,z2⟩:=qI (Z:=aN N (ρ++[⟨some ⟨w.heap.size,0,none⟩,c.toNat,some w.heap.size⟩]) (I++[(false,madeOf i n.toNat)]))
      (w:=w.alloc (.cells (madeCells z.cells (c.toNat*ak)) e)) k_
     have IM:madeOf i n.toNat= .ar ak (List.replicate n.toNat (bE cg.iU i.fz)):=by simp[madeOf,b9]
     rw[IM]at z2⊢;rw[fV,cG];have iK:z.cells.size=ak:=by rw[<-apD,k9,h9]
     refine⟨_,_,_,fq,cn.alloc bI false (.ar ak (List.replicate n.toNat (bE cg.iU i.fz))) _ c.toNat (.inr ⟨w.heap.size,_,e,rfl,rfl,nR w _,by simp;omega,by simp[size_madeCells],dV,fun q r a_ an=> ?_⟩), .c3 ⟨_,qW bI _, ?_⟩⟩
     ·simp only[aql]at a_
      have bG:q*ak+r<c.toNat*ak:=by
       have:(q+1)*ak<=c.toNat*ak:=aoP _ (by omega);rw[aoT]at this;omega
      refine⟨_,Ht _ _ _ bG, ?_⟩;have IN:(q*ak+r)%z.cells.size=r:=by rw[iK,ao9,aqC,apv an]
      rw[IN];have:=z2 r (by omega)
      have b3:z.cells[r]! =z.cells.toList.getD r undef:=by
       have:r<z.cells.size:=by omega
       simp[aoA,this]
      rw[b3];have cX:(List.replicate n.toNat (bE cg.iU i.fz)).getD q []=bE cg.iU i.fz:=by simp[aoA,a_]
      rw[cX];exact this
     ·rw[gN,aoy rfl];simp[af.len]
    |_=>simp[iz]at km
   |_=>rw[b9]at km;simp[iz]at km
  ·cases h
 ·cases h
theorem Mw {k:IntKind}{Z:Nat->Prop}:∀(bP:List (Nat×J)) (cm:List (Nat×Value)) (i n:Nat) (l:List Int) (cells:Array Value),oT.go k i n bP=some l->
 bP.length=cm.length->(∀(m:Nat) (p:Nat×J) (q:Nat×Value),bP[m]? =some p->cm[m]? =some q->p.1=q.1/\bL Z w ρ I p.2 q.2)->i+n<=cells.size->
 ∃eF,Instr.fill (fun i=>some (i*1,1)) cells cm=some eF/\eF.size=cells.size/\l.length=n/\(∀m,m<n->eF[i+m]? =some (.int k (l.getD m 0)))/\∀q,q<i->eF[q]? =cells[q]?
 |[],[],i,0,l,cells,h,_,_,_=>by
  simp[oT.go]at h;subst h;exact⟨cells,rfl,rfl,rfl,fun m hm=>by omega,fun _ _=>rfl⟩
 |[],[],i,n+1,l,cells,h,_,_,_=>by simp[oT.go]at h
 |[],_::_,_,_,_,_,_,h,_,_=>by simp at h
 |_::_,[],_,_,_,_,_,h,_,_=>by simp at h
 |(j,v)::ps,_::nI,i,0,l,cells,h,_,_,_=>by simp[oT.go]at h
 |(j,v)::ps,(fS,u)::nI,i,n+1,l,cells,h,ax,aE,ag=>by
  have aP:∃cy x,v= .d (.int cy x):=by
   cases v with
   |d y=>
    cases y with
    |int cy x=>exact⟨cy,x,rfl⟩
    |_=>simp[oT.go]at h
   |_=>simp[oT.go]at h
  obtain⟨cy,x,rfl⟩:=aP;simp only[oT.go]at h
  ·split at h
   ·rename_i U aa;obtain rfl:=aoz U;obtain rfl:=js.1 aa;obtain⟨aA,aL⟩:=aE 0 _ _ rfl rfl;simp only at aA aL;subst aA;have b3:=iS aL;subst b3
    cases bh:oT.go k (Nat.succ i) n ps with
    |none=>rw[bh]at h;cases h
    |some ch=>
     rw[bh]at h;simp at h;subst h;obtain⟨sG,a6,bj,bH⟩:=BE (fun i=>some (i*1,1)) cells i (.int k x) nI (i*1) 1 rfl rfl (by omega);obtain⟨eF,fT,fZ,hV,jG,jH⟩:=Mw ps nI (i+1) n ch sG bh (by simpa using ax) (fun m p q hm a_=>aE (m+1) p q hm a_) (by omega);refine⟨eF,by rw[a6];exact fT,by omega,by simp[hV],fun m hm=> ?_,fun q a_=> ?_⟩
     ·cases m with
      |zero=>
       rw[aoW,jH i (by omega),bH i,aoy (by omega)];simp[Value.cells]
      |succ m=>
       rw[show i+(m+1)=i+1+m by omega,jG m (by omega)];simp
     ·rw[jH q (by omega),bH q,aox (by omega)]
   ·cases h
theorem W0 {ak:Nat}{cs:List cg}{i n j:Nat}{v:J}{ps:List (Nat×J)}{l:List (List R)}(h:hs.go I ak cs i (n+1) ((j,v)::ps)=some l):
 ∃x ch,i=j/\l=x::ch/\hs.go I ak cs (i+1) n ps=some ch/\(v= .rw ak x\/(v.cellsOf.length=ak/\(∀y∈v.cellsOf,y.ha=true)/\x=mi I cs v)):=by
 have gen:(∀m x,v≠ .rw m x)->hs.go I ak cs i (n+1) ((j,v)::ps)=(match Nat.beq i j,Nat.beq (bU v.cellsOf) ak,eg J.ha v.cellsOf with
  |true,true,true=>(match hs.go I ak cs (Nat.succ i) n ps with|some l=>some (mi I cs v::l)|none=>none)
  |_,_,_=>none):=fun aP=>by cases v<;>first|rfl|exact absurd rfl (aP _ _)
 by_cases aP:∃m x,v= .rw m x
 ·obtain⟨m,x,rfl⟩:=aP;simp only[hs.go]at h;split at h
  ·rename_i U aa;obtain rfl:=aoz U;obtain rfl:=aoz aa
   cases bh:hs.go I m cs (Nat.succ i) n ps with
   |none=>rw[bh]at h;cases h
   |some ch=>
    rw[bh]at h;simp at h;subst h;exact⟨x,ch,rfl,rfl,rfl, .inl rfl⟩
  ·cases h
 ·rw[gen fun m x e=>aP ⟨m,x,e⟩]at h;split at h
  ·rename_i U aa az;obtain rfl:=aoz U;have aa:=aoz aa;rw[cG]at aa;rw[fy,aoR]at az
   cases bh:hs.go I ak cs (Nat.succ i) n ps with
   |none=>rw[bh]at h;cases h
   |some ch=>
    rw[bh]at h;simp at h;subst h;exact⟨_,ch,rfl,rfl,rfl, .inr ⟨aa,az,rfl⟩⟩
  ·cases h
theorem Wm {ak:Nat}{cs:List cg}{v:J}{u:Value}{x:List R}(h:v= .rw ak x\/(v.cellsOf.length=ak/\(∀y∈v.cellsOf,y.ha=true)/\x=mi I cs v))(aP:bL (aN N ρ I) w ρ I v u):
 u.cells.size=ak/\∀r,r<ak->bB (aN N ρ I) w (x.getD r .undef) (u.cells.getD r undef):=by
 rcases h with rfl|⟨aa,az,rfl⟩
 ·obtain⟨a,rfl,a1,a2,a3⟩:=aP;exact⟨a1,a3⟩
 ·have aC:u.cells.size=ak/\∀i,i<ak->eD (aN N ρ I) w ρ I (v.cellsOf.getD i .un) (u.cells.getD i undef):=by
   cases v with
   |agg q=>
    obtain⟨arr,rfl,a2,a3⟩:=aP;exact⟨by rw[<-aa];exact a2,fun i hi=>a3 i (by rw[<-aa]at hi;exact hi)⟩
   |_=>
    simp only[J.cellsOf]at aa az⊢;have cN:=Gr (az _ (apo.2 rfl));obtain⟨q1,cE⟩:=vO cN aP;rw[yb cE,<-aa];refine⟨rfl,fun i hi=> ?_⟩;have:i=0:=by simp at hi;omega
    subst this;exact q1
  refine⟨aC.1,fun r an=>Bi cs v.cellsOf (fun m=>u.cells.getD m undef) az (fun qB eL=>aC.2 qB (by omega)) r (by omega)⟩
theorem Mx {ak:Nat}{cs:List cg}:∀(bP:List (Nat×J)) (cm:List (Nat×Value)) (i n:Nat) (l:List (List R)) (cells:Array Value),hs.go I ak cs i n bP=some l->
 bP.length=cm.length->(∀(m:Nat) (p:Nat×J) (q:Nat×Value),bP[m]? =some p->cm[m]? =some q->p.1=q.1/\bL (aN N ρ I) w ρ I p.2 q.2)->(i+n)*ak<=cells.size->
 ∃eF,Instr.fill (fun i=>some (i*ak,ak)) cells cm=some eF/\eF.size=cells.size/\l.length=n/\
  (∀m j,m<n->j<ak->∃v,eF[(i+m)*ak+j]? =some v/\bB (aN N ρ I) w ((l.getD m []).getD j .undef) v)/\∀q,q<i*ak->eF[q]? =cells[q]?
 |[],[],i,0,l,cells,h,_,_,_=>by
  simp[hs.go]at h;subst h;exact⟨cells,rfl,rfl,rfl,fun m j hm=>by omega,fun _ _=>rfl⟩
 |[],[],i,n+1,l,cells,h,_,_,_=>by simp[hs.go]at h
 |[],_::_,_,_,_,_,_,h,_,_=>by simp at h
 |_::_,[],_,_,_,_,_,h,_,_=>by simp at h
 |(j,v)::ps,_::nI,i,0,l,cells,h,_,_,_=>by simp[hs.go]at h
 |(j,v)::ps,(fS,u)::nI,i,n+1,l,cells,h,ax,aE,ag=>by
  obtain⟨x,ch,rfl,rfl,bh,ai⟩:=W0 h;obtain⟨aA,aL⟩:=aE 0 _ _ rfl rfl;simp only at aA aL;subst aA;obtain⟨e3,eY⟩:=Wm ai aL;have hmul:(i+1)*ak<=(i+(n+1))*ak:=aoP _ (by omega);obtain⟨sG,a6,bj,bH⟩:=BE (fun i=>some (i*ak,ak)) cells i u nI (i*ak) ak rfl e3 (by rw[aoT]at hmul;omega);obtain⟨eF,fT,fZ,hV,jG,jH⟩:=Mx ps nI (i+1) n ch sG bh (by simpa using ax) (fun m p q hm a_=>aE (m+1) p q hm a_) (by rw[show i+1+n=i+(n+1) by omega];omega);refine⟨eF,by rw[a6];exact fT,by omega,by simp[hV],fun m r hm an=> ?_,fun q a_=> ?_⟩
  ·cases m with
   |zero=>
    rw[aoW,jH _ (by rw[aoT];omega),bH,aoy (by omega),show i*ak+r-i*ak=r by omega];exact⟨u.cells.getD r undef,by simp[aoH,show r<u.cells.size by omega],eY r an⟩
   |succ m=>
    obtain⟨eT,ny,mx⟩:=jG m r (by omega) an;exact⟨eT,by rw[show i+(m+1)=i+1+m by omega];exact ny,by simpa using mx⟩
  ·rw[jH q (by rw[aoT];omega),bH q,aox (by omega)]
end
end Go.al
end
section
namespace Go.al
section
variable {P:Program} {N:Nat->Prop} {ρ:List Loc} {I:aD} {w:World}
theorem Of {tm:List J}{a:Act}(au:ek (aN N ρ I) w ρ I tm a.tmps)(bP:Array (Nat×Operand)):
 ∀(m:Nat) (p:Nat×J) (q:Nat×Value),(bE (fun p=>(p.1,aY tm p.2)) bP.toList)[m]? =some p->((bP.map fun(i,x)=>(i,a.eval x)).toList)[m]? =some q->
  p.1=q.1/\bL (aN N ρ I) w ρ I p.2 q.2:=by
 intro m p q U aa;rw[dM]at U;simp only[apu,Array.toList_map]at U aa
 cases zM:bP.toList[m]? with
 |none=>simp[zM]at U
 |some x=>
  simp[zM]at U aa;subst U aa;exact⟨rfl,eA au _⟩
theorem LC {t e:TypeId}{g:TypeInfo}{z:Value}(q1:P.underlying t=some (.slice e))(cE:P.info? e=some g)(dV:g.zero=some z)(n:Nat)(bP:Array (Nat×Value))(eF:Array Value)
 (ns:¬n*g.size>2^24) (aU:Instr.fill (fun i=>some (i*g.size,g.size)) (madeCells (if n*g.size=0 then#[]else z.cells) (n*g.size)) bP.toList=some eF):
 (Instr.buildSlice t n bP).run P w= .ok (.slice (some ⟨w.heap.size,0,none⟩) n n) (w.alloc (.cells eF e)):=by
 unfold Instr.buildSlice
 by_cases bc:n*g.size=0
 ·rw[aoy bc]at aU;have u4:Instr.fill (fun i=>some (i*g.size,g.size)) ((Array.range (n*g.size)).map ((#[]:Array Value)[·%(#[]:Array Value).size]!)) bP.toList=some eF:=aU;simp only[Sem.run_bind,run_underlying q1,Result.andThen_ok,lh cE,Sem.run_ite,aox ns,aoy bc,Sem.run_pure,u4];simp[newRow]
 ·rw[aox bc]at aU;have u4:Instr.fill (fun i=>some (i*g.size,g.size)) ((Array.range (n*g.size)).map (z.cells[·%z.cells.size]!)) bP.toList=some eF:=aU;have Fc:(zeroValue e).run P w= .ok z w:=by simp[zeroValue,typeInfo,cE,dV]
  simp only[Sem.run_bind,run_underlying q1,Result.andThen_ok,lh cE,Sem.run_ite,aox ns,aox bc,Fc,Sem.run_pure,u4];simp[newRow]
theorem My {t:TypeId}{i:b7}(hi:c1 P t i=true)(bI:cv N ρ I w){tm:List J}{a:Act}(au:ek (aN N ρ I) w ρ I tm a.tmps)(bP:Array (Nat×Operand))(n:Nat)
 {k:IntKind} (b9:i.ty= .aB (.cu k)) {l:List Int} (ax:oT k n (bE (fun p=>(p.1,aY tm p.2)) bP.toList)=some l) (av:n<=65536):
 ∃u w' ρ',(Instr.buildSlice t n (bP.map fun(i,x)=>(i,a.eval x))).run P w= .ok u w'/\cn N ρ I w ρ' (I++[(false, .ad k l)]) w'/\
  bL (aN N ρ' (I++[(false, .ad k l)])) w' ρ' (I++[(false, .ad k l)]) (.vec I.length) u:=by
 obtain⟨e,g,q1,cE,cS,gx,dV⟩:=GU hi b9;obtain⟨eF,f1,f2,f3,f4,_⟩:=Mw (w:=w) (ρ:=ρ) (I:=I) (Z:=aN N ρ I) _ _ 0 n l (madeCells (if n*g.size=0 then#[]else(Value.int k 0).cells) (n*g.size)) ax (C1 (tm:=tm) (a:=a) bP) (Of au bP) (by rw[size_madeCells,cS];omega)
 have fq:(Instr.buildSlice t n (bP.map fun(i,x)=>(i,a.eval x))).run P w= .ok (.slice (some ⟨w.heap.size,0,none⟩) n n) (w.alloc (.cells eF e)):=by
  have ns:¬n*g.size>2^24:=by rw[cS];omega
  exact LC q1 cE dV n _ eF ns (by rw[cS]at f1⊢;exact f1)
 refine⟨_,_,_,fq,cn.alloc bI false (.ad k l) _ n (.inr ⟨w.heap.size,eF,e,rfl,rfl,nR w _,by simp[f3],by rw[f2,size_madeCells,cS];simp,fun q a_=> ?_⟩), .c3 ⟨_,qW bI _, ?_⟩⟩
 ·have:=f4 q (by omega);simpa using this
 ·rw[gN,aoy rfl];simp[af.len,f3]
theorem Gx {t:TypeId}{i:b7}(hi:c1 P t i=true)(bI:cv N ρ I w){tm:List J}{a:Act}(au:ek (aN N ρ I) w ρ I tm a.tmps)(bP:Array (Nat×Operand))(n:Nat)
 {ak:Nat} (b9:i.ty= .aB (.dB ak)) {l:List (List R)} (ax:hs I ak i.fz n (bE (fun p=>(p.1,aY tm p.2)) bP.toList)=some l) (av:n*ak<=65536):
 ∃u w' ρ',(Instr.buildSlice t n (bP.map fun(i,x)=>(i,a.eval x))).run P w= .ok u w'/\cn N ρ I w ρ' (I++[(false, .ar ak l)]) w'/\
  bL (aN N ρ' (I++[(false, .ar ak l)])) w' ρ' (I++[(false, .ar ak l)]) (.vec I.length) u:=by
 obtain⟨e,g,z,q1,cE,cS,gx,dV,h9,gT,k_⟩:=sf hi b9;obtain⟨eF,f1,f2,f3,f4,_⟩:=Mx (w:=w) (ρ:=ρ) (I:=I) (N:=N) _ _ 0 n l (madeCells (if n*g.size=0 then#[]else z.cells) (n*g.size)) ax (C1 (tm:=tm) (a:=a) bP) (Of au bP) (by rw[size_madeCells,cS];simp)
 have fq:(Instr.buildSlice t n (bP.map fun(i,x)=>(i,a.eval x))).run P w= .ok (.slice (some ⟨w.heap.size,0,none⟩) n n) (w.alloc (.cells eF e)):=by
  have ns:¬n*g.size>2^24:=by rw[cS];omega
  exact LC q1 cE gT n _ eF ns (by rw[cS]at f1⊢;exact f1)
 refine⟨_,_,_,fq,cn.alloc bI false (.ar ak l) _ n (.inr ⟨w.heap.size,eF,e,rfl,rfl,nR w _,by simp[f3],by rw[f2,size_madeCells,cS];simp,dV,fun q r a_ an=> ?_⟩), .c3 ⟨_,qW bI _, ?_⟩⟩
 ·obtain⟨v,ny,mx⟩:=f4 q r (by omega) an;exact⟨v,by simpa using ny,Bk bI _ (.inl rfl) _ _ _ _ mx⟩
 ·rw[gN,aoy rfl];simp[af.len,f3]
theorem Pb {lX b_:TypeId}(ae:P.underlying lX=some (.slice b_)){t:a7}{x:R}{u:Value}(aU:gX t x=true)(h:bB (aN N ρ I) w x u):
 ∃news:List Value,Src P x.cJ lX u x.len news w/\(∀i j,i<x.len->j<x.cJ->∃v,news[i*x.cJ+j]? =some v/\bB (aN N ρ I) w (x.cell i j) v):=by
 cases h with
 |jg a cap k=>
  refine⟨[], ?_,fun i j hi=>by simp[R.len]at hi⟩
  cases a with
  |none=>exact Src.ofNil w ae cap
  |some a=>exact Src.ofSlice w ae a 0 cap [] (by simp) (fun j u h=>by simp at h) (fun u h=>by cases h)
 |ad k l n b off cap av bq aC hf=>
  refine⟨l.map (Value.int k), ?_,fun i j hi aI=> ?_⟩
  ·have:=Src.ofSlice (P:=P) (size:=1) w ae ⟨b,off,none⟩ n cap (l.map (Value.int k)) (by simp[av]) (fun j u h=>by
    rw[apu]at h
    have aI:j<l.length:=by
     cases ko:l[j]? with
     |none=>simp[ko]at h
     |some z=>exact(apr.1 ko).1
    rw[mL,hf j (by omega)];simp[aoM aI]at h
    simp[aoA,aI,h]) (fun u h=>by obtain⟨z,_,rfl⟩:=aoQ.1 h;rfl)
   simpa[R.len,R.cJ,av]using this
  ·simp only[R.len,R.cJ,R.cell]at hi aI⊢;have:j=0:=by omega
   subst this;exact⟨.int k (l.getD i 0),by simp[aoA,hi], .int _ _⟩
 |kN a cap ak=>
  refine⟨[], ?_,fun i j hi=>by simp[R.len]at hi⟩
  cases a with
  |none=>exact Src.ofNil w ae cap
  |some a=>exact Src.ofSlice w ae a 0 cap [] (by simp) (fun j u h=>by simp at h) (fun u h=>by cases h)
 |ar ak l n b off cap qA av cq bq aC hf an=>
  simp only[R.len,R.cJ,R.cell];have kg:0<ak:=cq;refine⟨(List.range (n*ak)).map fun m=>qA (m/ak) (m%ak), ?_,fun i j hi aI=> ?_⟩
  ·rw[av];refine Src.ofSlice (P:=P) w ae ⟨b,off,none⟩ n cap _ (by simp) (fun j v h=> ?_) (fun v h=> ?_)
   ·rw[apu]at h
    have aI:j<n*ak:=by
     cases ko:(List.range (n*ak))[j]? with
     |none=>simp[ko]at h
     |some z=>have:=(apr.1 ko).1;simpa using this
    simp[aI]at h;subst h;have U:j/ak<n:=aqm (by rw[ao9];exact aI);have:=hf (j/ak) (j%ak) U (aph _ kg);rw[mL];rwa [show off+j/ak*ak+j%ak=off+j by rw[apy,ao9,aqe]]at this
   ·obtain⟨m,hm,rfl⟩:=aoQ.1 h;have hm:m<n*ak:=by simpa using hm
    exact(an (m/ak) (m%ak) (aqm (by rw[ao9];exact hm)) (aph _ kg)).one
  ·rw[av]at hi
   have bG:i*ak+j<n*ak:=by
    have:(i+1)*ak<=n*ak:=aoP _ (by omega);rw[aoT]at this;omega
   have U:(i*ak+j)/ak=i:=by rw[ao9,Nat.mul_add_div kg,aqf aI,aoW]
   have aa:(i*ak+j)%ak=j:=by rw[ao9,aqC,apv aI]
   refine⟨qA i j,by simp[bG,U,aa],an i j hi aI⟩
 |_=>cases t<;>simp[gX]at aU
theorem A9 {t lX ty e:TypeId}{g:TypeInfo}(au:P.underlying t=some (.slice e))(bh:P.info? e=some g)(base:Option Addr)(o5 uV:Nat)(hle:o5<=uV){x:Value}(ay:Src P g.size lX x 0 [] w):
 (Builtin.append_ #[t,lX] ty #[.slice base o5 uV,x]).run P w= .ok (.slice base o5 uV) w:=by
 have aC:=ay.cells
 have cN:∀q:Addr,(storeCells q []).run P w= .ok () w:=fun q=>rfl
 rcases ay.kind with⟨b_,ae⟩|ae<;>cases base<;>simp[Builtin.append_,run_underlying au,run_underlying ae,sizeOf,typeInfo,bh,ay.len,hle,aC,cN]
theorem XC {t lX ty e aL:TypeId}{g:TypeInfo}(au:P.underlying t=some (.slice e))(bh:P.info? e=some g)(b o5 uV n:Nat){x:Value}{news:List Value}(ay:Src P g.size lX x n news w)
 (cur:Array Value) (ag:w.heap[b]? =some (.cells cur aL (0,0))) (sO:o5+n<=uV) (fj:o5*g.size+news.length<=cur.size):
 (Builtin.append_ #[t,lX] ty #[.slice (some ⟨b,0,none⟩) o5 uV,x]).run P w=
   .ok (.slice (some ⟨b,0,none⟩) (o5+n) uV) (w.setRow b (cur.toList.take (o5*g.size)++news++cur.toList.drop (o5*g.size+news.length)).toArray):=by
 have cN:=run_storeCells_at P b (o5*g.size) aL news 0 cur w ag (by simpa using fj) ay.one;simp only[aoW]at cN;rcases ay.kind with⟨b_,ae⟩|ae<;>simp[Builtin.append_,run_underlying au,run_underlying ae,sizeOf,typeInfo,bh,ay.len,sO,ay.cells,Addr.add_lit,cN]
theorem LR (size:Nat)(a:Option Addr)(c:Nat)(w:World):(Builtin.firstCells size 0 (.slice a 0 c)).run P w= .ok #[] w:=by
 cases a with
 |none=>rfl
 |some a=>simp only[Builtin.firstCells,apT];rfl
theorem cn.nil (h:cv N ρ I w)(f:Bool)(ob:af)(a:Option Addr)(aF:ob= .gone\/(∃k,ob= .ad k [])\/∃ak,ob= .ar ak []):
 cn N ρ I w (ρ++[⟨a,0,none⟩]) (I++[(f,ob)]) w:=by
 have iV:∀b,gz (ρ++[⟨a,0,none⟩]) (I++[(f,ob)]) b->gz ρ I b:=fun b ⟨i,aw,U,aa,az⟩=>by
  rw[ao5]at U
  by_cases hi:i<ρ.length
  ·rw[aoy hi]at U;rw[kI,aox (by rw[<-h.len];omega)]at az;exact⟨i,aw,U,aa,az⟩
  ·rw[aox hi]at U
   cases a8:i-ρ.length with
   |zero=>simp[a8]at U;subst U;cases aa
   |succ n=>simp[a8]at U
 have cx:Fr ρ I w (ρ++[⟨a,0,none⟩]) (I++[(f,ob)]) w:=⟨rfl,rfl,rfl,aoE _,fun _ _ _=>rfl,fun b ag=> .inl (iV b ag)⟩;have e6:=GS h ⟨a,0,none⟩ (f,ob);refine{cx with rel:=h.s7 cx (by simp[h.len]) (fun _ _ _ _ id _ _=>e6 id) (fun i aw ax=> ?_),same:=e6};rw[ao5]at ax
 by_cases hi:i<ρ.length
 ·rw[aoy hi]at ax;exact .inl ⟨ax,by rw[gN,aox (by rw[<-h.len];omega)],fun ai=>by rwa [kI,aox (by rw[<-h.len];omega)]at ai,fun _ _=>rfl⟩
 ·rw[aox hi]at ax
  cases a8:i-ρ.length with
  |succ n=>simp[a8]at ax
  |zero=>
   simp[a8]at ax;subst ax;have eL:i=I.length:=by rw[<-h.len];omega
   refine .inr ⟨fun b ag=>(by cases ag), ?_⟩;rw[eL,gN,aoy rfl];rcases aF with rfl|⟨k,rfl⟩|⟨ak,rfl⟩
   ·trivial
   ·exact .inl ⟨rfl,rfl⟩
   ·exact .inl ⟨rfl,rfl⟩
theorem Pc (w:World)(IP lN:Nat)(e:TypeId):IP<=grownCap w IP lN e:=grownCap_ge w IP lN e
theorem A7 (z:Array Value)(n:Nat):(Builtin.zeroCells z n).size=n*z.size:=by simp[Builtin.zeroCells]
theorem Og {e:TypeId}{g:TypeInfo}{i:b7}{t:TypeId}(hi:c1 P t i=true)(ay:iz i.ty=true)(he:P.underlying t=some (.slice e))(bh:P.info? e=some g):
 ∃z,g.zero=some z/\z.cells.size=g.size/\0<g.size:=by
 cases b9:i.ty with
 |aB s=>
  rw[b9]at ay
  cases s with
  |cu k=>
   obtain⟨b_,vu,q1,cE,cS,gx,dV⟩:=GU hi b9;rw[he]at q1;cases q1;rw[bh]at cE;cases cE;exact⟨_,dV,by rw[cS];rfl,by omega⟩
  |dB ak=>
   obtain⟨b_,vu,z,q1,cE,cS,gx,dV,h9,gT,k_⟩:=sf hi b9;rw[he]at q1;cases q1;rw[bh]at cE;cases cE;have:=(qI (Z:=fun _=>False) (w:=default) k_).1;exact⟨z,gT,by rw[cS,<-h9,<-this];simp,by omega⟩
  |_=>simp[iz]at ay
 |_=>rw[b9]at ay;simp[iz]at ay
theorem Nv {t:a7}{x:R}(h:gX t x=true):iz t=true:=by
 cases t with
 |aB s=>cases x<;>cases s<;>simp_all [gX,iz]
 |_=>cases x<;>simp[gX]at h
theorem BF (kP news:List Value)(Z:Array Value)(k:Nat)(v:Value)(h:(kP++news)[k]? =some v):((kP++news).toArray++Z)[k]? =some v:=by
 have ae:=(apr.1 h).1;rw[aq0 (by simpa using ae)];simpa using h
theorem Oh {a b:Nat}(h:(a:Int)*b<=70368744177664):a*b<=70368744177664:=by
 have:((a*b:Nat):Int)<=((70368744177664:Nat):Int):=by rw[apK];exact h
 exact Int.ofNat_le.1 this
theorem LZ {t lX ty:TypeId}{i:b7}(hi:c1 P t i=true)(bI:cv N ρ I w){b_:TypeId}(ae:P.underlying lX=some (.slice b_)){x:R}{oC qy:Value}(ai:∃a,oC= .slice a 0 0)
 (bp:bB (aN N ρ I) w x qy) (aU:gX i.ty x=true) (ob:af) (cf:(∃k l,x= .ad k l/\ob= .ad k l)\/∃ak l,x= .ar ak l/\ob= .ar ak l)
 (rJ:0<i.bytes) (ag:(x.len:Int)*i.bytes<=70368744177664):
 ∃u w' ρ',(Builtin.append_ #[t,lX] ty #[oC,qy]).run P w= .ok u w'/\cn N ρ I w ρ' (I++[(false,ob)]) w'/\bL (aN N ρ' (I++[(false,ob)])) w' ρ' (I++[(false,ob)]) (.vec I.length) u:=by
 obtain⟨a,rfl⟩:=ai;obtain⟨e,g,he,bh,cq,kg,nz⟩:=se hi aU;obtain⟨z,bq,iK,_⟩:=Og hi (Nv aU) he bh;obtain⟨news,gh,mT⟩:=Pb (ρ:=ρ) (I:=I) (N:=N) ae aU bp;have hlen:ob.len=x.len:=by rcases cf with⟨k,l,rfl,rfl⟩|⟨ak,l,rfl,rfl⟩<;>rfl
 rw[<-cq]at gh mT
 by_cases av:x.len=0
 ·have kX:news=[]:=by have:=gh.newsLen;rw[av]at this;exact apl.1 (by simpa using this)
  rw[av,kX]at gh;refine⟨_,w,_,A9 he bh a 0 0 (aoE _) gh,cn.nil bI false ob a ?_, .c3 ⟨_,qW bI _, ?_⟩⟩
  ·rcases cf with⟨k,l,rfl,rfl⟩|⟨ak,l,rfl,rfl⟩
   ·exact .inr (.inl ⟨k,by rw[apl.1 av]⟩)
   ·exact .inr (.inr ⟨ak,by rw[apl.1 av]⟩)
  ·rw[gN,aoy rfl,hlen,av];exact⟨rfl,fun _=>rfl⟩
 ·have Ff:x.len*g.bytes<=70368744177664:=by rw[nz];exact Oh ag
  have pb:((0+x.len:Nat):Int)<=9223372036854775807:=by
   have U:x.len*1<=x.len*g.bytes:=apc _ (by omega);omega
  have fq:=run_append_grow_src (P:=P) w t lX ty e g z he bh bq a 0 0 [] (LR g.size a 0 w.drew) qy x.len news gh (by omega) pb (growslice_fits (by omega) (by rw[ao8];omega));have ja:=Pc w (0+x.len) 0 e;generalize grownCap w (0+x.len) 0 e=cap at fq ja;have a8:=cn.drew bI (w':=w.drew) rfl rfl rfl rfl;have n8:w.drew.heap.size=w.heap.size:=rfl
  have cN:=cn.alloc a8.rel false ob (.cells (([]++news).toArray++Builtin.zeroCells z.cells (cap-(0+x.len))) e) cap (by
   rcases cf with⟨k,l,rfl,rfl⟩|⟨ak,l,rfl,rfl⟩
   ·refine .inr ⟨_,_,e,rfl,rfl,nR _ _,by simp only[R.len]at ja⊢;omega, ?_,fun q a_=> ?_⟩
    ·simp only[R.len,R.cJ]at cq ja gh⊢;simp[A7,iK,cq,gh.newsLen];omega
    ·obtain⟨v,aP,an⟩:=mT q 0 (by simpa[R.len]using a_) (by omega);simp only[R.cJ]at cq;rw[cq,ao6,aoW]at aP;simp only[R.cell]at an;have:v= .int k (l.getD q 0):=by cases an;rfl
     subst this;have u6:q<news.length:=(apr.1 aP).1;exact BF [] news _ q _ (by simpa using aP)
   ·refine .inr ⟨_,_,e,rfl,rfl,nR _ _,by simp only[R.len]at ja⊢;omega, ?_,by simpa[R.cJ]using kg,fun q r a_ an=> ?_⟩
    ·simp only[R.len,R.cJ]at cq ja gh⊢;have aA:(cap-(0+l.length))*ak=cap*ak-l.length*ak:=by rw[ao8,Nat.sub_mul]
     have aL:l.length*ak<=cap*ak:=aoP _ (by omega);simp[A7,iK,cq,gh.newsLen];rw[Nat.sub_mul];omega
    ·simp only[R.cJ]at cq an;obtain⟨v,aP,Jj⟩:=mT q r (by simpa[R.len]using a_) (by omega);rw[cq]at aP;simp only[R.cell]at Jj;have u6:q*ak+r<news.length:=(apr.1 aP).1;refine⟨v,BF [] news _ _ _ (by simpa using aP), ?_⟩
     exact Bk a8.rel _ (.inl rfl) _ _ _ _ (a8.toFr.reads Jj))
  refine⟨_,_,_,fq,a8.trans cN, .c3 ⟨_,qW a8.rel _, ?_⟩⟩;rw[gN,aoy rfl,hlen,ao8];exact⟨rfl,fun h=>by cases h⟩
end
end Go.al
end
section
namespace Go.al
section
variable {P:Program} {N:Nat->Prop} {ρ:List Loc} {I:aD} {w:World}
theorem Nw {Z Z':Nat->Prop}{w w':World}(ae:∀b,b<w.heap.size->¬Z b->w'.heap[b]? =w.heap[b]?)(bq:∀b,b<w.heap.size->¬Z b->¬Z' b):
 ∀x u,bB Z w x u->bB Z' w' x u:=fun _ _ h=>h.mono fun b ag av=>⟨ae b ag av,bq b ag av⟩
theorem L0 {t lX ty:TypeId}{i:b7}(hi:c1 P t i=true)(bI:cv N ρ I w){b_:TypeId}(aiT:P.underlying lX=some (.slice b_)){x:R}{id:Nat}{oC qy:Value}
 (ai:bL (aN N ρ I) w ρ I (.vec id) oC) (bp:bB (aN N ρ I) w x qy) (aU:gX i.ty x=true) (eo:cw I id=false) (ob:af)
 (cf:(∃k l m,x= .ad k l/\af.at I id= .ad k m/\ob= .ad k (m++l))\/∃ak l m,x= .ar ak l/\af.at I id= .ar ak m/\ob= .ar ak (m++l))
 (rJ:0<i.bytes) (ag:(((af.at I id).len:Int)+x.len)*i.bytes<=70368744177664):
 ∃u w' ρ',(Builtin.append_ #[t,lX] ty #[oC,qy]).run P w= .ok u w'/\
  (let aj:=gy id (I.set id (false,ob))
   cv N ρ' aj w'/\Fr ρ I w ρ' aj w'/\(∀i,i≠id->eX ρ I ρ' aj i)/\bL (aN N ρ' aj) w' ρ' aj (.vec id) u):=by
 obtain⟨aw,ax,hu,zN⟩:=ai;have dJ:=bI.jU ax;obtain⟨e,g,he,bh,cq,kg,nz⟩:=se hi aU;obtain⟨z,bq,iK,anw⟩:=Og hi (Nv aU) he bh;obtain⟨news,gh,mT⟩:=Pb (ρ:=ρ) (I:=I) (N:=N) aiT aU bp;rw[<-cq]at gh mT
 have Ig:ob.len=(af.at I id).len+x.len:=by
  rcases cf with⟨k,l,m,rfl,aa,rfl⟩|⟨ak,l,m,rfl,aa,rfl⟩<;>rw[aa]<;>simp[af.len,R.len]
 have Ev:ob.kill id=ob:=by rcases cf with⟨k,l,m,rfl,aa,rfl⟩|⟨ak,l,m,rfl,aa,rfl⟩<;>rfl
 have e7:((af.at I id).len=0/\aw.cap=0)\/∃b aH aL,aw.a=some ⟨b,0,none⟩/\aw.bu=some b/\w.heap[b]? =some (.cells aH aL (0,0))/\(af.at I id).len<=aw.cap/\aw.cap*g.size<=aH.size/\
  ∀q r,q<(af.at I id).len->r<g.size->∃v,aH[q*g.size+r]? =some v/\bB (aN N ρ I) w ((af.at I id).data.cell q r) v:=by
  have b6:=bI.ob id aw ax;rcases cf with⟨k,l,m,rfl,aa,rfl⟩|⟨ak,l,m,rfl,aa,rfl⟩
  ·rw[aa]at b6⊢;simp only[R.cJ]at cq;rcases b6 with⟨rfl,aC⟩|⟨b,aH,aL,a6,bj,bH,dO,fi,ho⟩
   ·exact .inl ⟨rfl,aC⟩
   ·refine .inr ⟨b,aH,aL,a6,bj,bH,dO,by rw[cq,ao6];exact fi,fun q r a_ an=>⟨.int k (m.getD q 0), ?_, .int _ _⟩⟩;have:r=0:=by omega
    subst this;rw[cq,ao6,aoW];exact ho q a_
  ·rw[aa]at b6⊢;simp only[R.cJ]at cq;rcases b6 with⟨rfl,aC⟩|⟨b,aH,aL,a6,bj,bH,dO,fi,k6,ho⟩
   ·exact .inl ⟨rfl,aC⟩
   ·exact .inr ⟨b,aH,aL,a6,bj,bH,dO,by rw[cq];exact fi,fun q r a_ an=>by rw[cq]at an⊢;exact ho q r a_ an⟩
 have rr:∀(Z:Nat->Prop) (w':World) (jV:List Loc) (gu:aD) (iY:Loc) (b:Nat) (u7:Array Value) (aL:TypeId),(∀x u,bB (aN N ρ I) w x u->bB Z w' x u)->
  iY.a=some ⟨b,0,none⟩->iY.bu=some b->w'.heap[b]? =some (.cells u7 aL (0,0))->(af.at I id).len+x.len<=iY.cap->iY.cap*g.size<=u7.size->
  (∀q r,q<(af.at I id).len->r<g.size->∃v,u7[q*g.size+r]? =some v/\bB (aN N ρ I) w ((af.at I id).data.cell q r) v)->
  (∀q r,q<x.len->r<g.size->∃v,u7[((af.at I id).len+q)*g.size+r]? =some v/\bB (aN N ρ I) w (x.cell q r) v)->h0 Z w' jV gu iY ob:=by
  intro Z w' jV gu iY b u7 aL an a1 a2 a3 a4 a5 qC xL;rcases cf with⟨k,l,m,rfl,aa,rfl⟩|⟨ak,l,m,rfl,aa,rfl⟩
  ·rw[aa]at a4 qC xL;simp only[R.cJ,af.len,R.len,af.data,R.cell]at cq a4 qC xL;refine .inr ⟨b,u7,aL,a1,a2,a3,by simpa using a4,by rw[cq,ao6]at a5;exact a5,fun q a_=> ?_⟩;simp only[ao0]at a_
   by_cases u9:q<m.length
   ·obtain⟨v,aP,kY⟩:=qC q 0 u9 (by omega);rw[cq,ao6,aoW]at aP;have:v= .int k (m.getD q 0):=by cases kY;rfl
    rw[aP,this];simp[aoA,ao5,u9]
   ·obtain⟨v,aP,kY⟩:=xL (q-m.length) 0 (by omega) (by omega);rw[cq,ao6,aoW,show m.length+(q-m.length)=q by omega]at aP;have:v= .int k (l.getD (q-m.length) 0):=by cases kY;rfl
    rw[aP,this];simp[aoA,ao5,u9]
  ·rw[aa]at a4 qC xL;simp only[R.cJ,af.len,R.len,af.data,R.cell]at cq a4 qC xL;refine .inr ⟨b,u7,aL,a1,a2,a3,by simpa using a4,by rw[cq]at a5;exact a5,by omega,fun q r a_ Jj=> ?_⟩;simp only[ao0]at a_
   by_cases u9:q<m.length
   ·obtain⟨v,aP,kY⟩:=qC q r u9 (by omega);rw[cq]at aP;refine⟨v,aP,an _ _ ?_⟩;have:(m++l).getD q []=m.getD q []:=by simp[aoA,ao5,u9]
    rw[this];exact kY
   ·obtain⟨v,aP,kY⟩:=xL (q-m.length) r (by omega) (by omega);rw[cq,show m.length+(q-m.length)=q by omega]at aP;refine⟨v,aP,an _ _ ?_⟩;have:(m++l).getD q []=l.getD (q-m.length) []:=by simp[aoA,ao5,u9]
    rw[this];exact kY
 have zj:∀(ρ':List Loc) (aj:aD),aj=gy id (I.set id (false,ob))->af.at aj id=ob:=by
  rintro ρ' aj rfl;rw[HQ,g_,aoy ⟨rfl,dJ⟩];exact Ev
 by_cases sO:(af.at I id).len+x.len<=aw.cap
 ·rcases e7 with⟨bc,aC⟩|⟨b,aH,aL,a1,a2,a3,a4,a5,qC⟩
  ·
   have Jk:x.len=0:=by omega
   have kX:news=[]:=by have:=gh.newsLen;rw[Jk]at this;exact apl.1 (by simpa using this)
   rw[Jk,kX]at gh;have fq:=A9 (P:=P) (w:=w) (ty:=ty) he bh aw.a (af.at I id).len aw.cap (by omega) gh
   have hy:ρ.set id aw=ρ:=by
    apply List.ext_getElem?;intro j;rw[apj];split
    ·rename_i aI;subst aI;rw[aoy (by rw[bI.len];exact dJ),ax]
    ·rfl
   obtain⟨dC,dD,dR⟩:=Hs bI id aw dJ ob Ev eo (w':=w) rfl rfl rfl (aoE _) (fun _ _ _=>rfl)
    (fun b ag=>⟨bI.lt id aw b ax ag,bI.fK id aw b ax ag, .inr ⟨aw,ax,ag⟩⟩)
    (fun Z jV gu _=>by
      have:ob.len=0:=by omega
      rcases cf with⟨k,l,m,rfl,aa,rfl⟩|⟨ak,l,m,rfl,aa,rfl⟩
      ·exact .inl ⟨apl.1 this,aC⟩
      ·exact .inl ⟨apl.1 this,aC⟩)
   refine⟨_,w,ρ.set id aw,by rw[hu];exact fq,dC,dD,dR, .c3 ⟨aw,by rw[hy];exact ax, ?_⟩⟩;rw[zj (ρ.set id aw) _ rfl,Ig,Jk];exact⟨rfl,zN⟩
  ·
   have fj:(af.at I id).len*g.size+news.length<=aH.size:=by
    rw[gh.newsLen,<-aoT];exact aoS (aoP _ sO) a5
   have fq:=XC (P:=P) (w:=w) (ty:=ty) he bh b (af.at I id).len aw.cap x.len gh aH a3 sO fj
   have hy:ρ.set id aw=ρ:=by
    apply List.ext_getElem?;intro j;rw[apj];split
    ·rename_i aI;subst aI;rw[aoy (by rw[bI.len];exact dJ),ax]
    ·rfl
   have me:∀ed,ed≠b->(w.setRow b (aH.toList.take ((af.at I id).len*g.size)++news++aH.toList.drop ((af.at I id).len*g.size+news.length)).toArray).heap[ed]? =w.heap[ed]? :=
    fun ed gD=>setRow_other w b ed _ gD
   obtain⟨dC,dD,dR⟩:=Hs bI id aw dJ ob Ev eo
    (w':=w.setRow b (aH.toList.take ((af.at I id).len*g.size)++news++aH.toList.drop ((af.at I id).len*g.size+news.length)).toArray) rfl rfl rfl (by simp)
    (fun ed _ dg=>me ed fun h=>dg aw ax (h▸a2))
    (fun ed gD=>⟨by simpa using bI.lt id aw ed ax gD,bI.fK id aw ed ax gD, .inr ⟨aw,ax,gD⟩⟩)
    (fun Z jV gu kn=>by
      refine rr Z _ jV gu aw b _ aL (Nw (fun ed gD av=>me ed fun h=>av (.inr ⟨id,aw,ax,h▸a2,eo⟩)) kn) a1 a2 (setRow_heap w b aH _ aL (0,0) a3) sO (by rw[vQ _ _ _ fj];exact a5) (fun q r a_ an=> ?_) (fun q r a_ an=> ?_)
      ·rw[tT _ _ _ fj];have:(q+1)*g.size<=(af.at I id).len*g.size:=aoP _ (by omega);rw[aoT]at this;rw[aox (by omega)];exact qC q r a_ an
      ·rw[tT _ _ _ fj];obtain⟨v,aP,kY⟩:=mT q r a_ an;have bG:=(apr.1 aP).1;rw[aoy (by rw[aoT];omega)];refine⟨v, ?_,kY⟩;rw[show((af.at I id).len+q)*g.size+r-(af.at I id).len*g.size=q*g.size+r by rw[aoT];omega]
       exact aP)
   refine⟨_,_,ρ.set id aw,by rw[hu,a1];exact fq,dC,dD,dR, .c3 ⟨aw,by rw[hy];exact ax, ?_⟩⟩;rw[zj (ρ.set id aw) _ rfl,Ig,a1];exact⟨rfl,fun h=>by cases h⟩
 ·
  have Ff:((af.at I id).len+x.len)*g.bytes<=70368744177664:=by rw[nz];exact Oh (by rw[aqT];exact ag)
  have pb:(((af.at I id).len+x.len:Nat):Int)<=9223372036854775807:=by
   have U:((af.at I id).len+x.len)*1<=((af.at I id).len+x.len)*g.bytes:=apc _ (by omega);omega
  have hold:∃kP:List Value,(Builtin.firstCells g.size (af.at I id).len (.slice aw.a (af.at I id).len aw.cap)).run P w.drew= .ok kP.toArray w.drew/\kP.length=(af.at I id).len*g.size/\
   ∀q r,q<(af.at I id).len->r<g.size->∃v,kP[q*g.size+r]? =some v/\bB (aN N ρ I) w ((af.at I id).data.cell q r) v:=by
   rcases e7 with⟨bc,aC⟩|⟨b,aH,aL,a1,a2,a3,a4,a5,qC⟩
   ·exact⟨[],by rw[bc];exact LR _ _ _ _,by simp[bc],fun q r a_=>by omega⟩
   ·have hle:(af.at I id).len*g.size<=aH.size:=aoS (aoP _ a4) a5;refine⟨aH.toList.take ((af.at I id).len*g.size), ?_,by simp;omega,fun q r a_ an=> ?_⟩
    ·rw[a1]
     exact run_firstCells_some w.drew g.size _ ⟨b,0,none⟩ _ _ _ (by simp;omega) (fun j v aI=>by
      rw[mL,ao8]
      have iH:j<(af.at I id).len*g.size:=by
       have:=(apr.1 aI).1;simp at this;omega
      rw[aps,aoy iH]at aI;have aiU:w.drew.heap[b]? =some (.cells aH aL (0,0)):=a3;simp only[World.cell?,aiU]
      simpa using aI)
    ·obtain⟨v,aP,kY⟩:=qC q r a_ an
     have bG:q*g.size+r<(af.at I id).len*g.size:=by
      have:(q+1)*g.size<=(af.at I id).len*g.size:=aoP _ (by omega);rw[aoT]at this;omega
     exact⟨v,by rw[aps,aoy bG];simpa using aP,kY⟩
  obtain⟨kP,xm,zO,aiV⟩:=hold;have fq:=run_append_grow_src (P:=P) w t lX ty e g z he bh bq aw.a (af.at I id).len aw.cap kP xm qy x.len news gh (by omega) pb (growslice_fits (by omega) (by omega));have ja:=Pc w ((af.at I id).len+x.len) aw.cap e;generalize grownCap w ((af.at I id).len+x.len) aw.cap e=cap at fq ja
  have me:∀ed,ed<w.heap.size->(w.drew.alloc (.cells ((kP++news).toArray++Builtin.zeroCells z.cells (cap-((af.at I id).len+x.len))) e)).heap[ed]? =w.heap[ed]? :=
   fun ed gD=>heap_alloc_old w.drew _ ed gD
  obtain⟨dC,dD,dR⟩:=Hs bI id ⟨some ⟨w.heap.size,0,none⟩,cap,some w.heap.size⟩ dJ ob Ev eo
   (w':=w.drew.alloc (.cells ((kP++news).toArray++Builtin.zeroCells z.cells (cap-((af.at I id).len+x.len))) e)) rfl rfl rfl (by simp)
   (fun ed gD _=>me ed gD)
   (fun ed gD=>by
     simp at gD;subst gD
     exact⟨by simp,fun av=>absurd (bI.fc _ av) (by omega), .inl (aoE _)⟩)
   (fun Z jV gu kn=>by
     refine rr Z _ jV gu _ w.heap.size _ e (Nw (fun ed gD _=>me ed gD) kn) rfl rfl (nR w.drew _) ja ?_ (fun q r a_ an=> ?_) (fun q r a_ an=> ?_)
     ·have aA:((af.at I id).len+x.len)*g.size<=cap*g.size:=aoP _ ja;simp only[Array.size_append,List.size_toArray,ao0,A7,iK,zO,gh.newsLen,Nat.sub_mul];rw[aoT]at aA⊢;omega
     ·obtain⟨v,aP,kY⟩:=aiV q r a_ an;have bG:=(apr.1 aP).1;exact⟨v,BF kP news _ _ _ (by rw[apt bG];exact aP),kY⟩
     ·obtain⟨v,aP,kY⟩:=mT q r a_ an;refine⟨v,BF kP news _ _ _ ?_,kY⟩;rw[apJ (by rw[zO,aoT];omega),zO,show((af.at I id).len+q)*g.size+r-(af.at I id).len*g.size=q*g.size+r by rw[aoT];omega]
      exact aP)
  refine⟨_,_,ρ.set id ⟨some ⟨w.heap.size,0,none⟩,cap,some w.heap.size⟩,by rw[hu];exact fq,dC,dD,dR, .c3 ⟨_,by rw[apj,aoy rfl,aoy (by rw[bI.len];exact dJ)], ?_⟩⟩;rw[zj (ρ.set id aw) _ rfl,Ig];exact⟨rfl,fun h=>by cases h⟩
theorem GG {Z:Nat->Prop}{l:List Int}{u:Value}(h:bB Z w (.ad .u8 l) u)(an:∀x∈l,0<=x/\x<256):
 ∃s:ByteArray,(Conv.bytesToString u).run P w= .ok (.string s) w/\l=s.data.toList.map fun b=>(b.toNat:Int):=by
 have agk:∀(s:ByteArray),s.data.toList=(l.map fun n=>UInt8.ofNat n.toNat)->l=s.data.toList.map fun b=>(b.toNat:Int):=by
  intro s ay;rw[ay,ap0]
  have:∀x∈l,((fun b:UInt8=>(b.toNat:Int))∘fun n:Int=>UInt8.ofNat n.toNat) x=x:=by
   intro x ai;obtain⟨bc,U⟩:=an x ai;simp only[Function.comp,UInt8.toNat_ofNat'];omega
  rw[aqD this,List.map_id']
 cases h with
 |jg a cap=>
  refine⟨ByteArray.empty, ?_,rfl⟩
  cases a with
  |none=>rfl
  |some a=>
   have:=run_bytesToString (P:=P) w a 0 cap [] rfl;simpa using this
 |ad _ _ n b off cap av bq aC hf=>
  have aeR:(loadCells ⟨b,off,none⟩ n).run P w= .ok (l.map (Value.int .u8)).toArray w:=by
   have:=run_loadCells_list (P:=P) w ⟨b,off,none⟩ (l.map (Value.int .u8)) (fun j v aI=>by
    rw[apu]at aI
    have iH:j<l.length:=by
     cases ko:l[j]? with
     |none=>simp[ko]at aI
     |some z=>exact(apr.1 ko).1
    rw[mL,hf j (by omega)];simp[aoM iH]at aI
    simp[aoA,iH,aI])
   simpa[av]using this
  exact⟨_,run_bytesToString (P:=P) w _ n cap l aeR,agk _ (by rw[foldl_push];rfl)⟩
end
end Go.al
end
section
namespace Go.al
section
variable {P:Program} {N:Nat->Prop} {ρ:List Loc} {I:aD} {w:World}
theorem iQ (h:cv N ρ I w){s:Sem Value}{u:Value}{v:J}(ay:s.run P w= .ok u w)(aP:bL (aN N ρ I) w ρ I v u){oB:Sem Next}(av:oB=do pure (.value (<-s))):
 Good P N ρ I w oB v I:=by subst av;exact .aee h ay aP
theorem nP {s:Sem Value}{u:Value}{v:J}{w':World}{ρ':List Loc}{aj:aD}(ay:s.run P w= .ok u w')(cN:cn N ρ I w ρ' aj w')
 (aP:bL (aN N ρ' aj) w' ρ' aj v u) {oB:Sem Next} (av:oB=do pure (.value (<-s))):Good P N ρ I w oB v aj:=by
 subst av;exact⟨.value u,w',ρ',u,by simp[ay], .inl rfl,cN,aP⟩
theorem ZH (bI:cv N ρ I w){id:Nat}{aw:Loc}(ax:ρ[id]? =some aw){k:IntKind}{l:List Int}(aF:af.at I id= .ad k l):
 bB (fun _=>False) w (.ad k l) (.slice aw.a l.length aw.cap):=by
 have h:=bI.ob id aw ax;rw[aF]at h;rcases h with⟨rfl,aa⟩|⟨b,aH,e,U,aa,az,aW,bA,bZ⟩
 ·exact .jg _ _ _
 ·rw[U];exact .ad k l _ b 0 _ rfl (fun h=>h) aW fun i hi=>by simp[World.cell?,az,bZ i hi]
theorem GH {Z:Nat->Prop}(f:Int->Int->Int)(fZ:Value->Value->Sem Value)(hm:∀(k cy:IntKind) x y,fZ (.int k x) (.int cy y)=pure (.int k (f x y)))(k:IntKind):
 ∀(l:List J) (us:List Value) (a m:Int),ss f a l=some m->l.length=us.length->(∀i,i<l.length->bL Z w ρ I (l.getD i .un) (us.getD i undef))->
  (us.foldlM fZ (Value.int k a)).run P w= .ok (.int k m) w
 |[],[],a,m,h,_,_=>by simp[ss]at h;subst h;rfl
 |[],_::_,_,_,_,h,_=>by simp at h
 |_::_,[],_,_,_,h,_=>by simp at h
 |t::r,u::us,a,m,h,ax,an=>by
  have bc:=an 0 (by simp);simp only[aqz]at bc
  have au:∃cy b,t= .d (.int cy b):=by
   cases t with
   |d x=>cases x with
    |int cy b=>exact⟨cy,b,rfl⟩
    |_=>simp[ss]at h
   |_=>simp[ss]at h
  obtain⟨cy,b,rfl⟩:=au;have:=iS bc;subst this;simp only[ss]at h;rw[List.foldlM_cons,hm,pure_bind];exact GH f fZ hm k r us (f a b) m h (by simpa using ax) (fun i hi=>by have:=an (i+1) (by simpa using hi);simpa using this)
theorem HS {tm:List J}{a:Act}(au:ek (aN N ρ I) w ρ I tm a.tmps)(args:Array Operand):
 (bE (aY tm) args.toList).length=((args.map a.eval).toList).length/\∀i,i<(bE (aY tm) args.toList).length->bL (aN N ρ I) w ρ I ((bE (aY tm) args.toList).getD i .un) ((args.map a.eval).toList.getD i undef):=by
 rw[dM];refine⟨by simp,fun i hi=> ?_⟩;simp only[aoF,apD]at hi;have:=eA au args[i];simpa[aoA,hi]using this
theorem abo {src dst:TypeId}{i j:b7}(hi:c1 P src i=true)(aI:c1 P dst j=true)(bI:cv N ρ I w){cT:Operand}{tm:List J}{a:Act}(au:ek (aN N ρ I) w ρ I tm a.tmps)
 {cd:List Prop} {v:J} {aj:aD} (h:nY i.ty j.ty (aY tm cT) I= .aZ cd v aj) (ay:∀p∈cd,p):
 ∃u,aj=I/\(convert src dst (a.eval cT)).run P w= .ok u w/\bL (aN N ρ I) w ρ I v u:=by
 have ai:=eA au cT;generalize aY tm cT=x at*;generalize a.eval cT=oC at*
 have hint:∀{t:TypeId} {i:b7} {k:IntKind},c1 P t i=true->i.ty= .aB (.int k)->P.underlying t=some (.int k):=by
  intro t i k hi h;unfold c1 at hi;rw[h]at hi;split at hi<;>simp_all;exact(js.1 hi.1.1).symm
 have wL:i.ty= .aB (.cu .u8)->∃e,P.underlying src=some (.slice e)/\P.underlying e=some (.int .u8):=by
  intro h;unfold c1 at hi;rw[h]at hi;split at hi<;>simp_all;split at hi<;>simp_all;exact(js.1 hi.2.1.1.1).symm
 unfold nY at h;split at h
 ·rename_i k cy n ru;split at h
  ·rename_i aoh gh;simp only[bS.aZ.injEq]at h;obtain⟨rfl,rfl,rfl⟩:=h;have:=iS ai;subst this;have U:=hint hi gh;have aa:=hint aI ru;exact⟨_,rfl,by simp[convert,run_underlying U,run_underlying aa,Conv.intToInt],oN _ _⟩
  ·cases h
 ·rename_i l ru;split at h
  ·rename_i gh;simp only[bS.aZ.injEq]at h;obtain⟨rfl,rfl,rfl⟩:=h;obtain⟨s,rfl,ax⟩:=tZ ai;have U:=si hi gh;have aa:=si aI ru;exact⟨.string s,rfl,by simp[convert,run_underlying U,run_underlying aa],ai⟩
  ·cases h
 ·rename_i l ru;split at h
  ·rename_i gh;simp only[bS.aZ.injEq]at h;obtain⟨rfl,rfl,rfl⟩:=h;obtain⟨e,U,az⟩:=wL gh;have aa:=si aI ru;obtain⟨fE,cap,hu,_⟩:=Bv ai;obtain⟨s,eR,lO⟩:=GG (P:=P) (w:=w) ai (ay _ (by simp));refine⟨.string s,rfl, ?_, .c3 (bB.str s _ lO)⟩;rw[hu]at eR⊢;simp[convert,run_underlying U,run_underlying aa,run_underlying az,eR]
  ·cases h
 ·rename_i id ru;split at h
  ·rename_i l aF gh;simp only[bS.aZ.injEq]at h;obtain⟨rfl,rfl,rfl⟩:=h;obtain⟨e,U,az⟩:=wL gh;have aa:=si aI ru;obtain⟨aw,ax,hu⟩:=Oa ai aF;obtain⟨s,eR,lO⟩:=GG (P:=P) (w:=w) (ZH bI ax aF) (ay _ (by simp));refine⟨.string s,rfl, ?_, .c3 (bB.str s _ lO)⟩;rw[hu];simp[convert,run_underlying U,run_underlying aa,run_underlying az,eR]
  ·cases h
 ·rename_i ru;split at h
  ·rename_i gh;simp only[bS.aZ.injEq]at h;obtain⟨rfl,rfl,rfl⟩:=h;obtain⟨e,U,az⟩:=wL gh;have aa:=si aI ru;obtain⟨fE,rfl⟩:=ai;obtain⟨s,eR,lO⟩:=GG (P:=P) (w:=w) (Z:=fun _=>False) (l:=[]) (.jg fE 0 .u8) (fun x ai=>by cases ai);refine⟨.string s,rfl, ?_, .c3 (bB.str s _ lO)⟩;simp[convert,run_underlying U,run_underlying aa,run_underlying az,eR]
  ·cases h
 ·cases h
theorem Mz {a:Act}{o:Oper}{c:Call}{b:Builtin}(aF:o.op= .call c)(aC:c.callee= .builtin b):
 ∃consts,execOp a.eval o=builtin b c.argTypes o.type consts (c.args.map a.eval):=by
 unfold execOp;rw[aF];simp only[resolve,aC,pure_bind,invoke];exact⟨_,rfl⟩
theorem vS {α:Type}(x:Array α)(l:List α)(h:x.toList=l):x=l.toArray:=by subst h;simp
theorem Sm {α:Type}:∀{l:List α},l.length=2->∃a b,l=[a,b]
 |[a,b],_=>⟨a,b,rfl⟩
theorem Hu {tm:List J}{args:Array Operand}{x y:J}(h:bE (aY tm) args.toList=[x,y]):∃p q,args=#[p,q]/\aY tm p=x/\aY tm q=y:=by
 rw[dM]at h;have ax:args.toList.length=2:=by have:=apb List.length h;simpa using this
 obtain⟨p,q,qp⟩:=Sm ax;rw[qp]at h;simp at h;exact⟨p,q,vS _ _ qp,h.1,h.2⟩
theorem Qm {tm:List J}{args:Array Operand}{x:J}(h:bE (aY tm) args.toList=[x]):∃p,args=#[p]/\aY tm p=x:=by
 rw[dM]at h;have ax:args.toList.length=1:=by have:=apb List.length h;simpa using this
 obtain⟨p,qp⟩:=List.length_eq_one_iff.1 ax;rw[qp]at h;simp at h;exact⟨p,vS _ _ qp,h⟩
theorem Pd {tm:List J}{args:Array Operand}{x:J}{r:List J}(h:bE (aY tm) args.toList=x::r):∃p ps,args=(p::ps).toArray/\aY tm p=x/\bE (aY tm) ps=r:=by
 cases ax:args.toList with
 |nil=>rw[ax]at h;simp[bE]at h
 |cons p ps=>
  rw[ax]at h;simp only[bE,aqc]at h;exact⟨p,ps,vS _ _ ax,h.1,h.2⟩
theorem MA {tys:Array TypeId}(h:bU tys.toList=2):tys=#[b8 0 tys.toList 0,b8 0 tys.toList 1]:=by
 rw[cG]at h;obtain⟨p,q,qp⟩:=Sm h;rw[qp];exact vS _ _ qp
theorem Hv {y:J}{u:Value}(bI:cv N ρ I w)(bp:bL (aN N ρ I) w ρ I y u):
 cn N ρ I w ρ (lq I y) w/\bL (aN N ρ (lq I y)) w ρ (lq I y) (sL I y) u:=by
 cases y with
 |vec id=>
  have cN:=cn.shut bI id;have e7:I.set id (true,af.at I id)=e5 I id:=by rw[e5,eI]
  rw[e7]at cN;refine⟨cN, ?_⟩;unfold sL lq;simp only;obtain⟨aw,ax,hu,_⟩:=bp;have eo:cw (e5 I id) id=true:=by rw[<-e7,ij,aoy ⟨rfl,bI.jU ax⟩]
  have cF:af.at (e5 I id) id=af.at I id:=by rw[<-e7,g_];split<;>simp
  cases aF:af.at I id with
  |ad k l=>
   have an:=qK cN.rel ax eo (t:= .aB (.cu k)) (by rw[cF,aF];exact js.2 rfl);rw[cF,aF]at an;rw[hu,aF];exact .c3 an
  |ar ak l=>
   have an:=qK cN.rel ax eo (t:= .aB (.dB ak)) (by rw[cF,aF];exact apz ak);rw[cF,aF]at an;rw[hu,aF];exact .c3 an
  |_=>trivial
 |_=>exact⟨cn.refl bI,bp⟩
theorem ZI {Z:Nat->Prop}{w:World}{ρ:List Loc}{I:aD}{t:J}{v:Value}(h:eD Z w ρ I t v){id:Nat}(av:t.lz id):id<ρ.length:=by
 have key:∀{aw:Loc},ρ[id]? =some aw->id<ρ.length:=fun h=>(apr.1 h).1
 cases t<;>simp only[J.lz]at av
 case vec i=>subst av;obtain⟨aw,U,_⟩:=h;exact key U
 case ptr i o=>subst av;obtain⟨aw,b,U,_⟩:=h;exact key U
 case optr i x j=>subst av;obtain⟨aw,b,U,_⟩:=h;exact key U
 case oat i x j=>subst av;obtain⟨aw,b,U,_⟩:=h;exact key U
 case mp i=>subst av;obtain⟨aw,b,U,_⟩:=h;exact key U
 case tail i x=>subst av;obtain⟨aw,b,U,_⟩:=h;exact key U
theorem forget {ρ':List Loc}{w':World}{ob:af}{u:Value}(bI:cv N ρ I w)(cN:cn N ρ I w ρ' (I++[(false,ob)]) w')
 (aP:bL (aN N ρ' (I++[(false,ob)])) w' ρ' (I++[(false,ob)]) (.vec I.length) u) (cf:(∃k l,ob= .ad k l)\/∃ak l,ob= .ar ak l):
 cn N ρ I w ρ I w'/\bB (aN N ρ I) w' ob.data u:=by
 have hlen:ρ'.length=I.length+1:=by rw[cN.rel.len];simp
 have hold:∀(i:Nat) (aw:Loc),ρ[i]? =some aw->ρ'[i]? =some aw:=fun i aw h=>(cN.same i aw h).1
 have bG:∀(i:Nat) (aw:Loc),ρ[i]? =some aw->i<I.length:=fun i aw h=>by
  have:=(apr.1 h).1;rw[bI.len]at this;exact this
 have cF:∀i,i<I.length->af.at (I++[(false,ob)]) i=af.at I i:=fun i hi=>by
  rw[gN,aox (by omega)]
 have eo:∀i,i<I.length->cw (I++[(false,ob)]) i=cw I i:=fun i hi=>by
  unfold cw;rw[dT,dT];simp only[aoA];rw[apt hi]
 have y5:∀b,aN N ρ I b->aN N ρ' (I++[(false,ob)]) b:=fun b ag=>by
  rcases ag with ag|⟨i,aw,U,aa,az⟩
  ·exact .inl ag
  ·exact .inr ⟨i,aw,hold i aw U,aa,by rw[eo i (bG i aw U)];exact az⟩
 have uA:∀x u,bB (aN N ρ' (I++[(false,ob)])) w' x u->bB (aN N ρ I) w' x u:=fun x u ai=>ai.mono fun b _ bq=>⟨rfl,fun ag=>bq (y5 b ag)⟩
 have aeS:cv N ρ I w':=
  {len:=bI.len
   fc:=cN.rel.fc
   lt:=fun i aw b U aa=>cN.rel.lt i aw b (hold i aw U) aa
   inj:=fun i j li cC b U aa az aW s1 s2=>cN.rel.inj i j li cC b (hold i li U) (hold j cC aa) az aW (fun⟨a,n,ak,e⟩=>s1 ⟨by rw[<-eo i (bG i li U)];exact a,n,ak,by rw[<-cF i (bG i li U)];exact e⟩) (fun⟨a,n,ak,e⟩=>s2 ⟨by rw[<-eo j (bG j cC aa)];exact a,n,ak,by rw[<-cF j (bG j cC aa)];exact e⟩)
   fK:=fun i aw b U aa=>cN.rel.fK i aw b (hold i aw U) aa
   ob:=fun i aw U=>by
    have aa:=cN.rel.ob i aw (hold i aw U);have az:=bI.ob i aw U;rw[cF i (bG i aw U)]at aa;refine aa.mono (fun b _=>rfl) uA fun l ax k id ae av=> ?_;rw[ax]at az;obtain⟨_,aH,_,_,_,_,_,aW⟩:=az;have dJ:=ZI (aW k ae) av;intro iY iJ;have aA:ρ[id]? =some ρ[id]:=by simp[dJ]
    have aL:=hold id _ aA;rw[aL]at iJ;obtain rfl:=aoK iJ;rw[cF id (by rw[<-bI.len];exact dJ)]
    exact⟨aA,rfl,rfl⟩}
 refine⟨{cN.toFr with alive:=fun b h=> .inl h,rel:=aeS,same:=eX.refl ρ I}, ?_⟩;obtain⟨lO,mx⟩:=Hv cN.rel aP
 have a8:sL (I++[(false,ob)]) (.vec I.length)= .d ob.data:=by
  have aR:af.at (I++[(false,ob)]) I.length=ob:=by rw[gN,aoy rfl]
  unfold sL;simp only[aR];rcases cf with⟨k,l,rfl⟩|⟨ak,l,rfl⟩<;>rfl
 rw[a8]at mx;have Jl:bB (aN N ρ' (lq (I++[(false,ob)]) (.vec I.length))) w' ob.data u:=mx;refine Jl.mono fun b _ bq=>⟨rfl,fun ag=>bq ?_⟩;rcases ag with ag|⟨i,aw,U,aa,az⟩
 ·exact .inl ag
 ·refine .inr ⟨i,aw,hold i aw U,aa, ?_⟩;have hi:=bG i aw U;show cw (e5 (I++[(false,ob)]) I.length) i=false;rw[e5,eI,ij,aox (by omega),eo i hi];exact az
theorem ZJ {P:Program}{N:Nat->Prop}{ρ:List Loc}{I cR:aD}{w:World}{s:Sem Next}{v:J}{aj:aD}(h:cn N ρ I w ρ cR w)(k:Good P N ρ cR w s v aj):Good P N ρ I w s v aj:=by
 obtain⟨oB,w',ρ',u,U,aa,az,aW⟩:=k;exact⟨oB,w',ρ',u,U,aa,h.trans az,aW⟩
theorem Mc (z:Array Value)(n k:Nat)(ae:k<n*z.size):(Builtin.zeroCells z n)[k]? =some z[k%z.size]! :=by
 simp[Builtin.zeroCells,ae]
theorem ZK {t ty:TypeId}{i:b7}(hi:c1 P t i=true)(bI:cv N ρ I w){x:J}{u:Value}(ai:bL (aN N ρ I) w ρ I x u){cd:List Prop}{v:J}{aj:aD}
 (h:wg i x I= .aZ cd v aj):∃w',v= .any/\(Builtin.clear_ #[t] ty #[u]).run P w= .ok (.tuple #[]) w'/\cn N ρ I w ρ aj w':=by
 unfold wg at h;split at h;rotate_left
 ·cases h
 rename_i id a;split at h;rotate_left
 ·cases h
 rename_i ak l eo aF fj;simp only[bS.aZ.injEq]at h;obtain⟨rfl,rfl,rfl⟩:=h;obtain⟨aw,b,ax,hA,ep,hu,bc,U⟩:=ai;rw[aF]at U hu fj;simp only[af.len,af.cJ]at U hu
 have b9:i.ty= .aB (.dB ak):=by
  cases b9:i.ty with
  |aB s=>rw[b9]at fj;cases s<;>simp[jw]at fj;rw[fj]
  |_=>rw[b9]at fj;simp[jw]at fj
 obtain⟨e,g,z,q1,cE,cS,gx,dV,h9,gT,k_⟩:=sf hi b9;obtain⟨k9,z2⟩:=qI (Z:=aN N ρ I) (w:=w) k_;have iK:z.cells.size=ak:=by rw[<-apD,k9,h9]
 have cf:=bI.ob id aw ax;rw[aF]at cf;rcases cf with⟨rfl,_⟩|⟨ed,aH,aL,a6,bj,bH,dO,fi,k6,ho⟩
 ·simp at U;omega
 rw[hA]at a6;simp at a6;subst a6;generalize av:a.toNat=n at*;have kX:n<l.length:=by omega
 have rH:(Builtin.zeroCells z.cells (l.length-n)).toList.length=(l.length-n)*ak:=by rw[apD,A7,iK]
 have lI:n*ak+(l.length-n)*ak=l.length*ak:=by rw[<-aoT];congr 1;omega
 have qc:l.length*ak<=aw.cap*ak:=aoP _ dO
 have w8:∀x∈(Builtin.zeroCells z.cells (l.length-n)).toList,x.oneCell'=true:=fun x ai=>by
  obtain⟨k,e⟩:=List.mem_iff_getElem?.1 ai;have ae:=(apr.1 e).1;rw[rH]at ae;have bh:=Mc z.cells (l.length-n) k (by rw[iK];exact ae);rw[aqU,bh]at e;obtain rfl:=aoK e;have hm:k%z.cells.size<ak:=by rw[iK];exact aph _ dV
  have:=(z2 (k%z.cells.size) (by omega)).one
  have b3:z.cells[k%z.cells.size]! =z.cells.toList.getD (k%z.cells.size) undef:=by
   have:k%z.cells.size<z.cells.size:=by omega
   simp[aoA,this]
  rw[b3];exact this
 have cN:=run_storeCells_at P b (n*ak) aL (Builtin.zeroCells z.cells (l.length-n)).toList 0 aH w bH (by rw[rH];omega) w8;simp only[aoW]at cN;have Fb:(zeroValue e).run P w= .ok z w:=by simp[zeroValue,typeInfo,cE,gT]
 have kg:l.length-n≠0:=by omega
 have fq:(Builtin.clear_ #[t] ty #[u]).run P w= .ok (.tuple #[]) (w.setRow b (aH.toList.take (n*ak)++(Builtin.zeroCells z.cells (l.length-n)).toList++aH.toList.drop (n*ak+(Builtin.zeroCells z.cells (l.length-n)).toList.length)).toArray):=by
  rw[hu]
  obtain⟨m,hm⟩:∃m,l.length-n=m+1:=⟨l.length-n-1,by omega⟩
  rw[hm]at cN⊢;simp[Builtin.clear_,run_underlying q1,Fb,cN]
 refine⟨_,rfl,fq, ?_⟩
 ·rw[eI];have gb:(af.ar ak (l.take n++List.replicate (l.length-n) (bE cg.iU i.fz))).len=(af.at I id).len:=by rw[aF];simp[af.len];omega
  have jm:(af.ar ak (l.take n++List.replicate (l.length-n) (bE cg.iU i.fz))).cJ=(af.at I id).cJ:=by rw[aF];rfl
  have hm:=Bg bI ax ep eo (af.ar ak (l.take n++List.replicate (l.length-n) (bE cg.iU i.fz)))
   ((aH.toList.take (n*ak)++(Builtin.zeroCells z.cells (l.length-n)).toList++aH.toList.drop (n*ak+(Builtin.zeroCells z.cells (l.length-n)).toList.length)).toArray)
  refine cn.write bI id aw b ax ep eo _ gb jm _ (.inr ⟨b,_,aL,hA,ep,setRow_heap w b aH _ aL (0,0) bH,by simp;omega, ?_,k6,fun q r a_ an=> ?_⟩)
  ·rw[vQ _ _ _ (by rw[rH];omega)];exact fi
  ·have a_:q<l.length:=by simp at a_;omega
   rw[tT _ _ _ (by rw[rH];omega),rH];rw[rH]at hm
   have Jm:q*ak+r<l.length*ak:=by
    have:(q+1)*ak<=l.length*ak:=aoP _ (by omega);rw[aoT]at this;omega
   by_cases ff:q<n
   ·have:(q+1)*ak<=n*ak:=aoP _ (by omega);rw[aoT]at this;rw[aox (by omega)];obtain⟨v,aP,qm⟩:=ho q r a_ an;refine⟨v,aP, ?_⟩
    have aA:(l.take n++List.replicate (l.length-n) (bE cg.iU i.fz)).getD q []=l.getD q []:=by
     simp only[aoA];rw[apt (by simp;omega),aps,aoy ff]
    rw[aA];exact hm _ _ qm
   ·have:n*ak<=q*ak:=aoP _ (by omega);rw[aoy (by omega)];have ae:q*ak+r-n*ak<(l.length-n)*z.cells.size:=by rw[iK];omega
    refine⟨z.cells[(q*ak+r-n*ak)%z.cells.size]!,by rw[aqU,Mc _ _ _ ae], ?_⟩
    have IN:(q*ak+r-n*ak)%z.cells.size=r:=by
     rw[iK,show q*ak+r-n*ak=ak*(q-n)+r by rw[ao9 ak,Nat.sub_mul];omega,aqC,apv an]
    rw[IN]
    have aA:(l.take n++List.replicate (l.length-n) (bE cg.iU i.fz)).getD q []=bE cg.iU i.fz:=by
     simp only[aoA];rw[apJ (by simp;omega),ap1,aoy (by simp;omega)];rfl
    rw[aA]
    have b3:z.cells[r]! =z.cells.toList.getD r undef:=by
     have:r<z.cells.size:=by omega
     simp[aoA,this]
    rw[b3];exact hm _ _ (z2 r (by omega))
theorem Wn {tb:TypeId->b7}(bs:∀t,c1 P t (tb t)=true){b:Builtin}{tys:Array TypeId}{args:Array Operand}{tm:List J}{a:Act}(bI:cv N ρ I w)(au:ek (aN N ρ I) w ρ I tm a.tmps)
 {cd:List Prop} {v:J} {aj:aD} (h:kC tb b tys.toList (bE (aY tm) args.toList) I= .aZ cd v aj) (ay:∀p∈cd,p) (ty:TypeId) (consts:Array Bool):
 Good P N ρ I w (builtin b tys ty consts (args.map a.eval)) v aj:=by
 unfold kC at h;split at h
 ·rename_i x ga;obtain⟨p,rfl,aE⟩:=Qm ga;have ai:=eA au p;rw[aE]at ai;split at h
  ·cases h
  rename_i t r s_;have uW:=vS _ _ s_;subst uW;split at h
  ·rename_i n av;simp only[bS.aZ.injEq]at h;obtain⟨rfl,rfl,rfl⟩:=h;have:=Zy (w:=w) (ρ:=ρ) (I:=I) (N:=N) (bs t) ai av r ty;exact iQ bI this (oN _ _) (by simp[builtin])
  ·cases h
 ·rename_i x y ga;obtain⟨p,q,rfl,aE,a_⟩:=Hu ga;have ai:=eA au p;have bp:=eA au q;rw[aE]at ai;rw[a_]at bp;clear ga aE a_;obtain⟨cN,bp⟩:=Hv bI bp
  replace ai:=cN.lA ai
  refine ZJ cN ?_
  replace bI:=cN.rel
  clear cN au;generalize lq I y=cR at*;generalize sL I y=oD at*;split at h
  ·rename_i n km ag;split at h
   ·rename_i oh;have oh:=aoz oh;have uW:=MA (tys:=tys) (by omega);obtain⟨b_,ae⟩:=qH (bs _) km
    have rJ:0<(tb (b8 0 tys.toList 0)).bytes:=by
     have:1<=(tb (b8 0 tys.toList 0)).bytes:=by simpa[Nat.blt]using ag
     omega
    have n9:∀(u:Value) (w':World),(Builtin.append_ #[b8 0 tys.toList 0,b8 0 tys.toList 1] ty #[a.eval p,a.eval q]).run P w= .ok u w'->
     (Builtin.append_ tys ty (#[p,q].map a.eval)).run P w= .ok u w':=by
     intro u w' an;rw[uW];simpa using an
    unfold sg at h;split at h
    ·split at h
     ·rename_i Sn;simp only[bS.aZ.injEq]at h;obtain⟨rfl,rfl,rfl⟩:=h;have kZ:=ai;obtain⟨a1,Fa⟩:=ai;obtain⟨a2,kW⟩:=bp;obtain⟨e,he⟩:=qH (bs _) Sn;obtain⟨g,bh⟩:=Nr (bs _) Sn he
      have gh:Src P g.size (b8 0 tys.toList 1) (a.eval q) 0 [] w:=by
       rw[kW]
       cases a2 with
       |none=>exact Src.ofNil w ae 0
       |some a2=>exact Src.ofSlice w ae a2 0 0 [] (by simp) (fun j u h=>by simp at h) (fun u h=>by cases h)
      have an:=A9 (P:=P) (w:=w) (ty:=ty) he bh a1 0 0 (aoE _) gh;rw[<-Fa]at an;exact iQ bI (n9 _ _ an) kZ rfl
     ·cases h
    ·rename_i x;split at h
     ·rename_i aU;split at h
      ·rename_i k l;simp only[bS.aZ.injEq]at h;obtain⟨rfl,rfl,rfl⟩:=h;obtain⟨u,w',ρ',U,aa,az⟩:=LZ (P:=P) (N:=N) (ρ:=ρ) (I:=cR) (w:=w) (ty:=ty) (bs _) bI ae ai bp aU (.ad k l) (.inl ⟨k,l,rfl,rfl⟩) rJ (by have:=ay _ (apo.2 rfl);exact this);rw[fV,cG];exact nP (n9 _ _ U) aa az rfl
      ·rename_i ak l;simp only[bS.aZ.injEq]at h;obtain⟨rfl,rfl,rfl⟩:=h;obtain⟨u,w',ρ',U,aa,az⟩:=LZ (P:=P) (N:=N) (ρ:=ρ) (I:=cR) (w:=w) (ty:=ty) (bs _) bI ae ai bp aU (.ar ak l) (.inr ⟨ak,l,rfl,rfl⟩) rJ (by have:=ay _ (apo.2 rfl);exact this);rw[fV,cG];exact nP (n9 _ _ U) aa az rfl
      ·cases h
     ·cases h
    ·rename_i id;split at h
     ·rename_i aU;simp only[bS.aZ.injEq]at h;obtain⟨rfl,rfl,rfl⟩:=h;have hk:=ai;obtain⟨aw,ax,hu,_⟩:=hk;obtain⟨a2,kW⟩:=bp;obtain⟨u4,_,_⟩:=MW aU;obtain⟨e,g,he,bh,cq,_⟩:=se (bs _) u4
      have gh:Src P g.size (b8 0 tys.toList 1) (a.eval q) 0 [] w:=by
       rw[kW]
       cases a2 with
       |none=>exact Src.ofNil w ae 0
       |some a2=>exact Src.ofSlice w ae a2 0 0 [] (by simp) (fun j u h=>by simp at h) (fun u h=>by cases h)
      have hle:(af.at cR id).len<=aw.cap:=by
       have cf:=bI.ob id aw ax
       cases aF:af.at cR id with
       |ad k l=>
        rw[aF]at cf;rcases cf with⟨rfl,_⟩|⟨b,aH,e,_,_,_,aW,_⟩
        ·simp[af.len]
        ·exact aW
       |ar ak l=>
        rw[aF]at cf;rcases cf with⟨rfl,_⟩|⟨b,aH,e,_,_,_,aW,_⟩
        ·simp[af.len]
        ·exact aW
       |_=>rw[aF]at aU;cases b9:(tb (b8 0 tys.toList 0)).ty<;>simp[b9,jw]at aU
      have an:=A9 (P:=P) (w:=w) (ty:=ty) he bh aw.a _ aw.cap hle gh;rw[<-hu]at an;exact iQ bI (n9 _ _ an) ai rfl
     ·cases h
    ·split at h
     ·split at h
      ·split at h<;>cases h
      ·split at h<;>cases h
      ·cases h
     ·cases h
    ·cases h
   ·cases h
  ·cases h
 ·rename_i k m r ga;obtain⟨p,ps,rfl,aE,j2⟩:=Pd ga;split at h
  ·rename_i Ki hm;simp only[bS.aZ.injEq]at h;obtain⟨rfl,rfl,rfl⟩:=h;have ai:=eA au p;rw[aE]at ai;have:=iS ai
   have y6:=GH (P:=P) (w:=w) (ρ:=ρ) (I:=I) (Z:=aN N ρ I) (fun x y=>if y>x then y else x) Builtin.max2 (fun k cy x y=>rfl) k r (ps.map a.eval) m Ki hm (by rw[<-j2,dM];simp)
    (fun i hi=>by
      rw[<-j2,dM]at hi⊢;simp only[aoF]at hi;have:=eA au ps[i]
      simpa[aoA,hi]using this)
   refine iQ bI (s:=Builtin.max_ tys ty ((p::ps).toArray.map a.eval)) ?_ (oN _ _) rfl;simp only[Builtin.max_,aqE,aoX,this];exact y6
  ·cases h
 ·rename_i k m r ga;obtain⟨p,ps,rfl,aE,j2⟩:=Pd ga;split at h
  ·rename_i Ki hm;simp only[bS.aZ.injEq]at h;obtain⟨rfl,rfl,rfl⟩:=h;have ai:=eA au p;rw[aE]at ai;have:=iS ai
   have y6:=GH (P:=P) (w:=w) (ρ:=ρ) (I:=I) (Z:=aN N ρ I) (fun x y=>if y<x then y else x) Builtin.min2 (fun k cy x y=>rfl) k r (ps.map a.eval) m Ki hm (by rw[<-j2,dM];simp)
    (fun i hi=>by
      rw[<-j2,dM]at hi⊢;simp only[aoF]at hi;have:=eA au ps[i]
      simpa[aoA,hi]using this)
   refine iQ bI (s:=Builtin.min_ tys ty ((p::ps).toArray.map a.eval)) ?_ (oN _ _) rfl;simp only[Builtin.min_,aqE,aoX,this];exact y6
  ·cases h
 ·rename_i x ga;obtain⟨p,rfl,aE⟩:=Qm ga;have ai:=eA au p;rw[aE]at ai;split at h;rotate_left
  ·cases h
  rename_i t s_;have uW:=vS _ _ s_;subst uW;obtain⟨w',rfl,U,aa⟩:=ZK (P:=P) (ty:=ty) (bs t) bI ai h;exact nP (s:=Builtin.clear_ #[t] ty #[a.eval p]) U aa (v:= .any) trivial (by simp[builtin])
 ·cases h
end
end Go.al
end
section
namespace Go.al
section
variable {P:Program} {N:Nat->Prop} {ρ:List Loc} {I:aD} {w:World}
theorem Pe {t:a7}{ak:Nat}{l:List (List R)}(h:jw t (.ar ak l)=true):t= .aB (.dB ak):=by
 cases t with
 |aB s=>cases s<;>simp[jw]at h;rw[h]
 |_=>simp[jw]at h
theorem ada (h:cv N ρ I w){id:Nat}{aw:Loc}(ax:ρ[id]? =some aw)(aU:cw I id=false){ak:Nat}{l:List (List R)}(aF:af.at I id= .ar ak l)(n:Nat)(av:n<=l.length):
 cn N ρ I w (ρ++[aw]) (I.set id (true, .dead l.length ak)++[(false, .ar ak (l.take n))]) w:=by
 have dJ:=h.jU ax;have hlen:=h.len
 have cF:∀i,af.at (I.set id (true, .dead l.length ak)++[(false, .ar ak (l.take n))]) i=if i=I.length then .ar ak (l.take n)else if i=id then .dead l.length ak else af.at I i:=fun i=>by
  rw[gN,aoI];split
  ·rfl
  ·rw[g_]
   by_cases e:i=id
   ·subst e;rw[aoy ⟨rfl,dJ⟩,aoy rfl]
   ·rw[aox (fun x=>e x.1.symm),aox e]
 have eo:∀i,cw (I.set id (true, .dead l.length ak)++[(false, .ar ak (l.take n))]) i=if i=I.length then false else if i=id then true else cw I i:=fun i=>by
  rw[kI,aoI];split
  ·rfl
  ·rw[ij]
   by_cases e:i=id
   ·subst e;rw[aoy ⟨rfl,dJ⟩,aoy rfl]
   ·rw[aox (fun x=>e x.1.symm),aox e]
 have get:∀i li,(ρ++[aw])[i]? =some li->(i=I.length/\li=aw)\/(i<I.length/\ρ[i]? =some li):=fun i li hi=>by
  rw[ao5]at hi;split at hi
  ·exact .inr ⟨by omega,hi⟩
  ·cases a8:i-ρ.length with
   |zero=>simp[a8]at hi;exact .inl ⟨by omega,hi.symm⟩
   |succ m=>simp[a8]at hi
 have iV:∀b,gz (ρ++[aw]) (I.set id (true, .dead l.length ak)++[(false, .ar ak (l.take n))]) b->gz ρ I b:=fun b ⟨i,li,a6,bj,bH⟩=>by
  rcases get i li a6 with⟨rfl,rfl⟩|⟨hi,a6⟩
  ·exact⟨id,li,ax,bj,aU⟩
  ·rw[eo,aox (by omega)]at bH;split at bH
   ·cases bH
   ·exact⟨i,li,a6,bj,bH⟩
 have cx:Fr ρ I w (ρ++[aw]) (I.set id (true, .dead l.length ak)++[(false, .ar ak (l.take n))]) w:=⟨rfl,rfl,rfl,aoE _,fun _ _ _=>rfl,fun b ag=> .inl (iV b ag)⟩
 have e6:∀i,eX ρ I (ρ++[aw]) (I.set id (true, .dead l.length ak)++[(false, .ar ak (l.take n))]) i:=fun i li hi=>by
  have eL:=h.jU hi;refine⟨by rw[apt (by omega)];exact hi, ?_⟩;rw[cF,aox (by omega)]
  by_cases e:i=id
  ·subst e;rw[aoy rfl,aF];exact⟨rfl,rfl⟩
  ·rw[aox e];exact⟨rfl,rfl⟩
 have sP:∀i,i<I.length->¬hg (I.set id (true, .dead l.length ak)++[(false, .ar ak (l.take n))]) i->i≠id/\¬hg I i:=fun i hi ay=>by
  have dg:i≠id:=fun e=>ay ⟨by rw[eo,aox (by omega),aoy e],l.length,ak,by rw[cF,aox (by omega),aoy e]⟩;exact⟨dg,fun⟨f,m,s,e⟩=>ay ⟨by rw[eo,aox (by omega),aox dg];exact f,m,s,by rw[cF,aox (by omega),aox dg];exact e⟩⟩
 refine{cx with rel:={len:=by simp[hlen],fc:=h.fc,lt:= ?_,inj:= ?_,fK:= ?_,ob:= ?_},same:=e6}
 ·intro i li b hi ag;rcases get i li hi with⟨_,rfl⟩|⟨_,hi⟩
  ·exact h.lt id li b ax ag
  ·exact h.lt i li b hi ag
 ·intro i j li cC b hi aI m5 m6 j5 lV;rcases get i li hi with⟨aA,Jn⟩|⟨kp,xn⟩<;>rcases get j cC aI with⟨aL,Jo⟩|⟨kq,nA⟩
  ·omega
  ·obtain⟨e9,hM⟩:=sP j kq lV;exact absurd (h.inj j id cC aw b nA ax m6 (Jn▸m5) hM (nV aU)) e9
  ·obtain⟨e9,hM⟩:=sP i kp j5;exact absurd (h.inj i id li aw b xn ax m5 (Jo▸m6) hM (nV aU)) e9
  ·exact h.inj i j li cC b xn nA m5 m6 (sP i kp j5).2 (sP j kq lV).2
 ·intro i li b hi ag;rcases get i li hi with⟨_,rfl⟩|⟨_,hi⟩
  ·exact h.fK id li b ax ag
  ·exact h.fK i li b hi ag
 ·intro i li hi;rw[cF];rcases get i li hi with⟨rfl,rfl⟩|⟨kp,hi⟩
  ·rw[aoy rfl];have cf:=h.ob id li ax;rw[aF]at cf;rcases cf with⟨rfl,aC⟩|⟨b,aH,e,a6,bj,bH,dO,fi,k6,ho⟩
   ·exact .inl ⟨by simp,aC⟩
   ·refine .inr ⟨b,aH,e,a6,bj,bH,by simp;omega,fi,k6,fun q r a_ an=> ?_⟩;have pc:q<n:=by simp at a_;omega
    obtain⟨v,aP,qm⟩:=ho q r (by omega) an;refine⟨v,aP, ?_⟩
    have aA:(l.take n).getD q []=l.getD q []:=by
     simp only[aoA];rw[aps,aoy pc]
    rw[aA];exact cx.reads qm
  ·rw[aox (by omega)];split
   ·trivial
   ·exact(h.ob i li hi).mono (fun _ _=>rfl) (fun _ _=>cx.reads) fun _ _ _ idx _ _=>e6 idx
theorem W1 {t:TypeId}{i:b7}(hi:c1 P t i=true)(bI:cv N ρ I w){cT:Operand}{lo eL dn:Option Operand}{tm:List J}{a:Act}(au:ek (aN N ρ I) w ρ I tm a.tmps)
 {cd:List Prop} {v:J} {aj:aD} (h:BU i (aY tm cT) (omap (aY tm) lo) (omap (aY tm) eL) (omap (aY tm) dn) I= .aZ cd v aj) (ay:∀p∈cd,p):
 ∃u ρ',(Instr.sliceAt t (a.eval cT) (lo.map a.eval) (eL.map a.eval) (dn.map a.eval)).run P w= .ok u w/\cn N ρ I w ρ' aj w/\bL (aN N ρ' aj) w ρ' aj v u:=by
 have ai:=eA au cT;generalize aY tm cT=x at*;unfold BU at h;split at h;rotate_left
 ·cases h
 rename_i id rE;have zi:dn=none:=by cases dn<;>first|rfl|cases rE
 subst zi;split at h
 ·rename_i ak l b eo aF fj hJ mv;simp only[bS.aZ.injEq]at h;obtain⟨rfl,rfl,rfl⟩:=h;have bc:0<=b:=ay _ (by simp);have U:b<=(l.length:Int):=ay _ (by simp);obtain⟨dh,l2⟩:=nQ au lo hJ;obtain⟨dC,dD⟩:=nQ au eL mv;rw[aF]at fj;have b9:=Pe fj;obtain⟨e,g,z,q1,cE,cS,gx,dV,h9,gT,k_⟩:=sf hi b9;obtain⟨aw,ax,hu,Ew⟩:=ai;rw[aF]at hu;simp only[af.len]at hu;have cf:=bI.ob id aw ax;rw[aF]at cf
  have qc:l.length<=aw.cap/\(aw.cap=0\/∃b,aw.a=some ⟨b,0,none⟩):=by
   rcases cf with⟨rfl,e⟩|⟨b,_,_,a6,_,_,dO,_⟩
   ·exact⟨by simp, .inl e⟩
   ·exact⟨dO, .inr ⟨b,a6⟩⟩
  have cN:=ada bI ax eo aF b.toNat (by omega)
  have ag:=A6 (P:=P) (w:=w) true l.length l.length aw.cap qc.1 (lo.map a.eval) (eL.map a.eval) none (some b) dh l2 dC dD (by
   intro p aE;simp only[mj,ao7,apR,or_false]at aE;rcases aE with rfl|rfl
   ·exact bc
   ·exact U) rfl
  refine⟨.slice aw.a b.toNat aw.cap,_, ?_,by rw[eI,fV];exact cN, ?_⟩
  ·rw[hu];have:=xY q1 cE aw.a l.length aw.cap _ _ none ag;rw[show((none:Option Operand).map a.eval)=none from rfl,this]
   have aA:(if aw.cap=((none:Option Int).getD 0).toNat then aw.a else aw.a.map (·.add (((none:Option Int).getD 0).toNat*g.size)))=aw.a:=by
    rcases qc.2 with aC|⟨ed,aC⟩
    ·rw[aoy (by rw[aC];rfl)]
    ·rw[aC];simp[mL]
   rw[aA];simp
  ·rw[eI,fV,cG];refine .c3 ⟨aw,by rw[<-bI.len];simp, ?_,Ew⟩;rw[gN,aoI,aoy rfl];simp only[af.len,ao3]
   congr 1;omega
 ·rename_i ak l c eo aF fj hJ mv;simp only[bS.aZ.injEq]at h;obtain⟨rfl,rfl,rfl⟩:=h;have bc:0<=c:=ay _ (by simp);have U:c<(l.length:Int):=ay _ (by simp);obtain⟨dh,l2⟩:=nQ au lo hJ;obtain⟨dC,dD⟩:=nQ au eL mv;rw[aF]at fj;have b9:=Pe fj;obtain⟨e,g,z,q1,cE,cS,gx,dV,h9,gT,k_⟩:=sf hi b9;obtain⟨aw,ax,hu,Ew⟩:=ai;rw[aF]at hu;simp only[af.len]at hu;have cf:=bI.ob id aw ax;rw[aF]at cf;rcases cf with⟨rfl,_⟩|⟨b,aH,aL,a6,bj,bH,dO,fi,k6,ho⟩
  ·simp at U;omega
  have ag:=A6 (P:=P) (w:=w) true l.length l.length aw.cap dO (lo.map a.eval) (eL.map a.eval) (some c) none dh l2 dC dD (by
   intro p aE;simp only[mj,ao7,apR,or_false]at aE;rcases aE with rfl|rfl
   ·exact bc
   ·omega) rfl
  refine⟨.slice (some ⟨b,c.toNat*ak,none⟩) (l.length-c.toNat) (aw.cap-c.toNat),ρ, ?_,cn.refl bI, .c3 ⟨aw,b,ax,a6,bj,by rw[aF];rfl,bc,by rw[aF];exact U⟩⟩;rw[hu];have:=xY q1 cE aw.a l.length aw.cap _ _ none ag;rw[show((none:Option Operand).map a.eval)=none from rfl,this,a6,cS];have aA:((some c).getD 0).toNat=c.toNat:=rfl;rw[aA,aox (by omega)];simp[mL]
 ·cases h
theorem XD {t:TypeId}{i:b7}(hi:c1 P t i=true)(bI:cv N ρ I w){cT:Operand}{lo eL dn:Option Operand}{tm:List J}{a:Act}(au:ek (aN N ρ I) w ρ I tm a.tmps)
 {cd:List Prop} {v:J} {aj:aD} (h:um i (aY tm cT) (omap (aY tm) lo) (omap (aY tm) eL) (omap (aY tm) dn) I= .aZ cd v aj) (ay:∀p∈cd,p):
 ∃u ρ',(Instr.sliceAt t (a.eval cT) (lo.map a.eval) (eL.map a.eval) (dn.map a.eval)).run P w= .ok u w/\cn N ρ I w ρ' aj w/\bL (aN N ρ' aj) w ρ' aj v u:=by
 unfold um at h;split at h
 ·exact W1 hi bI au h ay
 ·obtain⟨u,U,aa,az⟩:=WU hi bI au h ay;exact⟨u,ρ,U,aa,az⟩
theorem ZL {x:R}{k:IntKind}(h:x.dd k):x= .int k x.toInt:=by
 cases x<;>simp[R.dd]at h;rw[h];rfl
theorem Hw {Z:Nat->Prop}{r:List R}{u:Value}{k:IntKind}(h:nU Z w r u)(ae:∀x∈r,x.dd k):u= .agg ((r.map fun x=>Value.int k x.toInt).toArray):=by
 obtain⟨a,rfl,U,aa⟩:=h
 congr 1
 apply Array.ext
 ·simp[U]
 ·intro i hi xn;have oi:i<r.length:=by omega
  have:=aa i oi;have aA:r.getD i .undef=r[i]:=by simp[aoA,oi]
  rw[aA,ZL (ae _ (apF oi))]at this;have aL:a.getD i undef=a[i]:=by simp[aoH,hi]
  rw[aL]at this;have:=iS (ρ:=[]) (I:=[]) (show bL Z w [] [] (.d (.int k r[i].toInt)) a[i]from this);simpa using this
theorem Pf {e:TypeId}{k:IntKind}(he:P.underlying e=some (.int k))(xs:List Int)(i:Nat)(hi:i<xs.length):
 (part e ((xs.map (Value.int k)).toArray) (i*1)).run P w= .ok (.int k (xs.getD i 0)) w:=by
 simp[part,qO he,oX,hi,aoA]
theorem MB {e:TypeId}{k:IntKind}(he:P.underlying e=some (.int k))(d:Nat)(xs jI:List Int):∀is:List Nat,(∀i∈is,i<xs.length/\i<jI.length)->
 (Op.eqItems (d+1) e 1 ((xs.map (Value.int k)).toArray) ((jI.map (Value.int k)).toArray) is).run P w= .ok (is.all fun i=>decide (xs.getD i 0=jI.getD i 0)) w
 |[],_=>rfl
 |i::is,h=>by
  obtain⟨U,aa⟩:=h i (by simp);have bF:=MB he d xs jI is fun j aI=>h j (by simp[aI]);simp only[Op.eqItems,Sem.run_bind,Pf he xs i U,Pf he jI i aa,Result.andThen_ok]
  have aA:(Op.equalIn (d+1) e (.int k (xs.getD i 0)) (.int k (jI.getD i 0))).run P w= .ok (decide (xs.getD i 0=jI.getD i 0)) w:=by
   simp[Op.equalIn,run_underlying he]
   rfl
  rw[aA];simp only[Result.andThen_ok,aqb];cases decide (xs.getD i 0=jI.getD i 0)<;>simp[bF]
theorem Yn (xs jI:List Int)(h:xs.length=jI.length):((List.range xs.length).all fun i=>decide (xs.getD i 0=jI.getD i 0))=decide (xs=jI):=by
 rw[Bool.eq_iff_iff,aoR,ao1];constructor
 ·intro b6;apply aqF h;intro i U aa;have:=b6 i (by simpa using U);simpa[aoA,U,aa]using this
 ·rintro rfl i _;simp
theorem ZM {t e:TypeId}{n:Nat}{k:IntKind}(hu:P.underlying t=some (.array n e))(he:P.underlying e=some (.int k))(op:BinOp)(x y:Operand)(a b:Array Value):
 (eqGuard op t x y (.agg a) (.agg b)).run P w= .ok () w:=by
 have bh:P.eqGuardType P.depth t=false:=by
  have:P.depth=2*(P.types.size+Made.depth)+1+1:=rfl;rw[this];unfold Program.eqGuardType;rw[hu];simp only;unfold Program.eqGuardType;rw[he]
 cases op<;>simp[eqGuard,bh]
theorem ZN {t:TypeId}{i:b7}(hi:c1 P t i=true)(aC:yT P i t=true){op:BinOp}{cT dy:Operand}{tm:List J}{a:Act}(au:ek (aN N ρ I) w ρ I tm a.tmps)
 {cd:List Prop} {v:J} {aj:aD} (h:p8 op i.ty (aY tm cT) (aY tm dy) I= .aZ cd v aj) (ay:∀p∈cd,p):
 ∃u,aj=I/\(do eqGuard op t cT dy (a.eval cT) (a.eval dy);binOp op t (a.eval cT) (a.eval dy):Sem Value).run P w= .ok u w/\bL (aN N ρ I) w ρ I v u:=by
 have ai:=eA au cT;have bp:=eA au dy;generalize aY tm cT=x at*;generalize aY tm dy=y at*;unfold p8 at h;split at h;rotate_left
 ·cases h
 rename_i n k cs b9;split at h;rotate_left
 ·cases h
 rename_i oE vw xo aiW
 have gd:(∀x∈oE,x.dd k)/\(∀x∈vw,x.dd k)/\(op= .eql\/op= .neq):=by
  split at h
  ·simp only[bS.aZ.injEq]at h;obtain⟨rfl,_⟩:=h;exact⟨ay _ (by simp),ay _ (by simp), .inl rfl⟩
  ·simp only[bS.aZ.injEq]at h;obtain⟨rfl,_⟩:=h;exact⟨ay _ (by simp),ay _ (by simp), .inr rfl⟩
  ·cases h
 obtain⟨AD,amb,bQ⟩:=gd;obtain⟨fE,a1,a2,a3,a4⟩:=vR xo ai;obtain⟨amc,cZ,di,jd,vv⟩:=vR aiW bp;have amd:=Hw (Z:=aN N ρ I) (w:=w) ⟨fE,a1,by omega,fun j aI=>a4 j (by omega)⟩ AD;have hF:=Hw (Z:=aN N ρ I) (w:=w) ⟨amc,cZ,by omega,fun j aI=>vv j (by omega)⟩ amb;obtain⟨el,g,q1,cE,cS⟩:=ya hi b9;have cS:g.size=1:=cS
 have Fg:P.underlying el=some (.int k)/\cs.length=n:=by
  unfold yT at aC;rw[b9]at aC;simp only[q1]at aC;split at aC
  ·rename_i he av;injection he with he;injection he with _ he;subst he;split at aC
   ·rename_i cy ae;exact⟨by rw[ae,js.1 aC],by rw[<-cG];exact aoz av⟩
   ·cases aC
  ·cases aC
 obtain⟨Fg,j1⟩:=Fg;have cq:i.ty.size=n:=by rw[b9];simp[a7.size,cG,j1]
 have xp:a.eval cT= .agg (((oE.map R.toInt).map (Value.int k)).toArray):=by rw[amd,ap0];rfl
 have xq:a.eval dy= .agg (((vw.map R.toInt).map (Value.int k)).toArray):=by rw[hF,ap0];rfl
 have heq:(Op.equal t (a.eval cT) (a.eval dy)).run P w= .ok (decide (oE.map R.toInt=vw.map R.toInt)) w:=by
  rw[xp,xq];have:=run_equalIn_array (P:=P) w 9999 ((((oE.map R.toInt).map (Value.int k)).toArray)) ((((vw.map R.toInt).map (Value.int k)).toArray)) q1 cE;have U:P.cellsOf el=1:=by simp[Program.cellsOf,cE,cS]
  rw[U,MB Fg 9998 _ _ _ (fun j aI=>by
   have:j<n:=by simpa using aI
   simp only[aoF];omega)]at this
  show(Op.equalIn 10000 t _ _).run P w=_;rw[this]
  congr 1
  have aL:n=(oE.map R.toInt).length:=by simp;omega
  rw[aL];exact Yn _ _ (by simp;omega)
 have pd:=ZM (P:=P) (w:=w) q1 Fg op cT dy (((oE.map R.toInt).map (Value.int k)).toArray) (((vw.map R.toInt).map (Value.int k)).toArray);rw[<-xp,<-xq]at pd;rcases bQ with rfl|rfl
 ·simp only[bS.aZ.injEq]at h;obtain⟨_,rfl,rfl⟩:=h;refine⟨_,rfl, ?_,jP _⟩;rw[Sem.run_bind,pd,Result.andThen_ok,xp,xq];rw[xp,xq]at heq;generalize ((oE.map R.toInt).map (Value.int k)).toArray=A at heq⊢;generalize ((vw.map R.toInt).map (Value.int k)).toArray=B at heq⊢;simp[binOp,heq]
 ·simp only[bS.aZ.injEq]at h;obtain⟨_,rfl,rfl⟩:=h;refine⟨_,rfl, ?_,jP _⟩;rw[Sem.run_bind,pd,Result.andThen_ok,xp,xq];rw[xp,xq]at heq;generalize ((oE.map R.toInt).map (Value.int k)).toArray=A at heq⊢;generalize ((vw.map R.toInt).map (Value.int k)).toArray=B at heq⊢;simp[binOp,heq]
end
end Go.al
end
