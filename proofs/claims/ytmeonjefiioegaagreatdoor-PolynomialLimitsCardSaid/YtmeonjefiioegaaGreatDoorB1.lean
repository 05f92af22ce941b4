/- Helpers for the statements: facts about numbers, fractions and polynomials as lists, and the proofs of the conditions. Condition: none. -/
import Derived.Test.YtmeonjefiioegaaGreatDoorB0
section
open Go Go.bG
namespace I
def Ju:List Int->List Int->(J->Prop)->Prop:=
 fun(a b:List Int) (K:J->Prop)=>∃(aD:Int->Prop),∃(m:Int->Nat),aD (0:Int)/\∀(v11:Int),aD v11->(decide (v11<(Nat.cast:Nat->Int) (List.length a))=true->(0:Int)<=v11/\v11<(Nat.cast:Nat
 ->Int) (List.length a)/\(decide ((Nat.cast:Nat->Int) (List.length b)<=v11)=true->K (J.d (R.int IntKind.i64 (1:Int))))/\(decide ((Nat.cast:Nat->Int) (List.length b)<=v11)=false->(0:Int)<=v11
 /\v11<(Nat.cast:Nat->Int) (List.length b)/\True/\∀(x:Int),(x=if List.getD a (Int.toNat v11) (0:Int)<List.getD b (Int.toNat v11) (0:Int)then(-1:Int)else if List.getD b (Int.toNat v11) (0:Int)<List.getD a (Int.toNat v11) (0:Int)then(1:Int)else(0:Int))
 ->((!decide (x=(0:Int)))=true->K (J.d (R.int IntKind.i64 x)))/\((!decide (x=(0:Int)))=false->aD (IntKind.wrap IntKind.i64 (v11+(1:Int)))/\m (IntKind.wrap IntKind.i64 (v11+(1:Int)))<m v11)))
 /\(decide (v11<(Nat.cast:Nat->Int) (List.length a))=false->(decide ((Nat.cast:Nat->Int) (List.length a)<(Nat.cast:Nat->Int) (List.length b))=true->K (J.d (R.int IntKind.i64 (-1:Int))))
 /\(decide ((Nat.cast:Nat->Int) (List.length a)<(Nat.cast:Nat->Int) (List.length b))=false->K (J.d (R.int IntKind.i64 (0:Int)))))
def JR:Int->Int->(J->Prop)->Prop:=
 fun(a b:Int) (K:J->Prop)=>True/\∀(x:Bool),x=false->True/\∀(au:Bool),au=false->(x=true->(au=true->K (J.d (R.int IntKind.i64 (0:Int))))/\(au=false->K (J.d (R.int IntKind.i64 (-1:Int)))))
 /\(x=false->(au=true->K (J.d (R.int IntKind.i64 (1:Int))))/\(au=false->(decide (a<b)=true->K (J.d (R.int IntKind.i64 (-1:Int))))/\(decide (a<b)=false->(decide (b<a)=true
 ->K (J.d (R.int IntKind.i64 (1:Int))))/\(decide (b<a)=false->K (J.d (R.int IntKind.i64 (0:Int)))))))
def J3:Int->(J->Prop)->Prop:=
 fun(a:Int) (K:J->Prop)=>K (J.d (R.bool !decide (a=a)))
def Jq:I.Row->I.Row->(J->Prop)->Prop:=
 fun(a b:I.Row) (K:J->Prop)=>List.length a=(11:Nat)/\(∀(x:R),x∈List.take (8:Nat) a->R.isInt x IntKind.i64)/\(0:Int)<=(8:Int)/\(8:Int)<=(8:Int)/\List.length b=(11:Nat)
 /\(∀(x:R),x∈List.take (8:Nat) b->R.isInt x IntKind.i64)/\(0:Int)<=(8:Int)/\(8:Int)<=(8:Int)/\(List.length (List.take (8:Nat) (List.map R.toInt (List.take (8:Nat) a)))<(1000000000:Nat)
 /\List.length (List.take (8:Nat) (List.map R.toInt (List.take (8:Nat) b)))<(1000000000:Nat))/\∀(x:Int),x=I.dR (List.take (8:Nat) (List.map R.toInt (List.take (8:Nat) a))) (List.take (8:Nat) (List.map R.toInt (List.take (8:Nat) b)))
 ->K (J.d (R.int IntKind.i64 (IntKind.wrap IntKind.i64 ((0:Int)-x))))
def Jf:I.Row->I.Row->(J->Prop)->Prop:=
 fun(a b:I.Row) (K:J->Prop)=>List.length a=(11:Nat)/\(∀(x:R),x∈List.take (8:Nat) a->R.isInt x IntKind.i64)/\List.length b=(11:Nat)/\(∀(x:R),x∈List.take (8:Nat) b
 ->R.isInt x IntKind.i64)/\(List.length (List.map R.toInt (List.take (8:Nat) a))<(1000000000:Nat)/\List.length (List.map R.toInt (List.take (8:Nat) b))<(1000000000:Nat))/\∀(x:Int),x=I.dR (List.map R.toInt (List.take (8:Nat) a)) (List.map R.toInt (List.take (8:Nat) b))
 ->(true=true->K (J.d (R.int IntKind.i64 (IntKind.wrap IntKind.i64 ((0:Int)-x)))))/\(true=false->K (J.d (R.int IntKind.i64 x)))
def JS:List Int->(J->Prop)->Prop:=
 fun(a:List Int) (K:J->Prop)=>∃(a8:Prop),((decide ((Nat.cast:Nat->Int) (List.length a)<(1:Int))=true->False)/\(decide ((Nat.cast:Nat->Int) (List.length a)<(1:Int))=false
 ->a8))/\(a8->(0:Int)<=(0:Int)/\(0:Int)<(Nat.cast:Nat->Int) (List.length a)/\∃(aD:Int->Int->Prop),∃(m:Int->Int->Nat),aD (List.getD a (0:Nat) (0:Int)) (1:Int)/\∀(v3 v4:Int),aD v3 v4
 ->(decide (v4<(Nat.cast:Nat->Int) (List.length a))=true->(0:Int)<=v4/\v4<(Nat.cast:Nat->Int) (List.length a)/\aD (if v3<List.getD a (Int.toNat v4) (0:Int)then List.getD a (Int.toNat v4) (0:Int)else v3) (IntKind.wrap IntKind.i64 (v4+(1:Int)))
 /\m (if v3<List.getD a (Int.toNat v4) (0:Int)then List.getD a (Int.toNat v4) (0:Int)else v3) (IntKind.wrap IntKind.i64 (v4+(1:Int)))<m v3 v4)/\(decide (v4<(Nat.cast:Nat->Int) (List.length a))=false
 ->K (J.d (R.int IntKind.i64 v3))))
def Kf:I.Row->I.Row->(J->Prop)->Prop:=
 fun(a b:I.Row) (K:J->Prop)=>∃(aD:Int->List (List R)->List (List R)->List (List R)->Prop),∃(m:Int->List (List R)->List (List R)->List (List R)->Nat),aD (0:Int) [a] [b] [[R.int IntKind.i64 (0:Int),R.int IntKind.i64 (0:Int),R.int IntKind.i64 (0:Int),R.int IntKind.i64 (0:Int),R.int IntKind.i64 (0:Int),R.int IntKind.i64 (0:Int),R.int IntKind.i64 (0:Int),R.int IntKind.i64 (0:Int)]]
 /\∀(v6:Int) (ai bn ba:List (List R)),aD v6 ai bn ba->(decide (v6<(8:Int))=true->(0:Int)<=v6/\v6<(8:Int)/\R.isInt (List.getD (List.getD ai (0:Nat) []) (Int.toNat v6) R.undef) IntKind.i64
 /\(0:Int)<=v6/\v6<(8:Int)/\R.isInt (List.getD (List.getD bn (0:Nat) []) (Int.toNat v6) R.undef) IntKind.i64/\(0:Int)<=v6/\v6<(8:Int)/\aD (IntKind.wrap IntKind.i64 (v6+(1:Int))) (List.set ai (0:Nat) (List.set (List.getD ai (0:Nat) []) (Int.toNat v6) (R.int IntKind.i64 (IntKind.wrap IntKind.i64 (R.toInt (List.getD (List.getD ai (0:Nat) []) (Int.toNat v6) R.undef)+R.toInt (List.getD (List.getD bn (0:Nat) []) (Int.toNat v6) R.undef)))))) bn ba
 /\m (IntKind.wrap IntKind.i64 (v6+(1:Int))) (List.set ai (0:Nat) (List.set (List.getD ai (0:Nat) []) (Int.toNat v6) (R.int IntKind.i64 (IntKind.wrap IntKind.i64 (R.toInt (List.getD (List.getD ai (0:Nat) []) (Int.toNat v6) R.undef)+R.toInt (List.getD (List.getD bn (0:Nat) []) (Int.toNat v6) R.undef)))))) bn ba<m v6 ai bn ba)
 /\(decide (v6<(8:Int))=false->List.length (List.getD ai (0:Nat) [])=(8:Nat)/\List.length (List.getD (List.set ba (0:Nat) (List.getD ai (0:Nat) [])) (0:Nat) [])=(8:Nat)/\K (J.rw (8:Nat) (List.getD (List.set ba (0:Nat) (List.getD ai (0:Nat) [])) (0:Nat) [])))
def JT:I.Row->(J->Prop)->Prop:=
 fun(r:I.Row) (K:J->Prop)=>R.isBool (List.getD r (8:Nat) R.undef)/\R.eM (List.getD r (9:Nat) R.undef) IntKind.u32/\R.eM (List.getD r (10:Nat) R.undef) IntKind.u32/\(I.aF (R.b6 (List.getD r (9:Nat) R.undef))
 /\I.aF (R.b6 (List.getD r (10:Nat) R.undef)))/\∀(x:Int),x=I.dh (I.ag (R.toBool (List.getD r (8:Nat) R.undef)) (R.b6 (List.getD r (9:Nat) R.undef)) (R.b6 (List.getD r (10:Nat) R.undef)))
 ->K (J.d (R.bool (decide (x=(0:Int)))))
def Jg:I.Rows->(J->Prop)->Prop:=
 fun(l:I.Rows) (K:J->Prop)=>∃(aD:Int->Prop),∃(m:Int->Nat),aD (0:Int)/\∀(aV:Int),aD aV->(decide (aV<(Nat.cast:Nat->Int) (List.length l))=true->(0:Int)<=aV/\aV<(Nat.cast:Nat
 ->Int) (List.length l)/\List.length (List.getD l (Int.toNat aV) [])=(11:Nat)/\I.fp (1000000:Nat) (List.getD l (Int.toNat aV) [])/\∀(x:Bool),x=I.jm (List.getD l (Int.toNat aV) [])->(x=true
 ->K (J.d (R.int IntKind.i64 aV)))/\(x=false->aD (IntKind.wrap IntKind.i64 (aV+(1:Int)))/\m (IntKind.wrap IntKind.i64 (aV+(1:Int)))<m aV))/\(decide (aV<(Nat.cast:Nat->Int) (List.length l))=false
 ->K (J.d (R.int IntKind.i64 (-1:Int))))
def Jd:I.Rows->(ad->Prop)->Prop:=
 fun(l:I.Rows) (K:ad->Prop)=>((∀(r:List R),r∈l->I.fp (1000000:Nat) r)/\List.length l<(100000000000:Nat))/\∀(x:Int),x=I.oh l (0:Int)->(decide (x=(-1:Int))=true
 ->K (ad.rows (11:Nat) l))/\(decide (x=(-1:Int))=false->∃(aD:Int->Int->List (List R)->Prop),∃(m:Int->Int->List (List R)->Nat),aD x (IntKind.wrap IntKind.i64 (x+(1:Int))) l/\∀(v5 v6:Int) (ai:List (List R)),aD v5 v6 ai
 ->(decide (v6<(Nat.cast:Nat->Int) (List.length ai))=true->(0:Int)<=v6/\v6<(Nat.cast:Nat->Int) (List.length ai)/\List.length (List.getD ai (Int.toNat v6) [])=(11:Nat)/\List.length (List.getD ai (Int.toNat v6) [])=(11:Nat)
 /\I.fp (1000000:Nat) (List.getD ai (Int.toNat v6) [])/\∀(x:Bool),x=I.jm (List.getD ai (Int.toNat v6) [])->((!x)=true->List.length (List.getD ai (Int.toNat v6) [])=(11:Nat)/\(0:Int)<=v5
 /\v5<(Nat.cast:Nat->Int) (List.length ai)/\aD (IntKind.wrap IntKind.i64 (v5+(1:Int))) (IntKind.wrap IntKind.i64 (v6+(1:Int))) (List.set ai (Int.toNat v5) (List.getD ai (Int.toNat v6) []))
 /\m (IntKind.wrap IntKind.i64 (v5+(1:Int))) (IntKind.wrap IntKind.i64 (v6+(1:Int))) (List.set ai (Int.toNat v5) (List.getD ai (Int.toNat v6) []))<m v5 v6 ai)/\((!x)=false->aD v5 (IntKind.wrap IntKind.i64 (v6+(1:Int))) ai
 /\m v5 (IntKind.wrap IntKind.i64 (v6+(1:Int))) ai<m v5 v6 ai))/\(decide (v6<(Nat.cast:Nat->Int) (List.length ai))=false->(0:Int)<=v5/\v5<(Nat.cast:Nat->Int) (List.length ai)/\(0:Int)<=v5
 /\v5<=(Nat.cast:Nat->Int) (List.length (HAppend.hAppend (List.take (Int.toNat v5) ai) (List.replicate (List.length ai-Int.toNat v5) [R.int IntKind.i64 (0:Int),R.int IntKind.i64 (0:Int),R.int IntKind.i64 (0:Int),R.int IntKind.i64 (0:Int),R.int IntKind.i64 (0:Int),R.int IntKind.i64 (0:Int),R.int IntKind.i64 (0:Int),R.int IntKind.i64 (0:Int),R.bool false,R.ints IntKind.u32 [],R.ints IntKind.u32 []])))
 /\K (ad.rows (11:Nat) (List.take (Int.toNat v5) (HAppend.hAppend (List.take (Int.toNat v5) ai) (List.replicate (List.length ai-Int.toNat v5) [R.int IntKind.i64 (0:Int),R.int IntKind.i64 (0:Int),R.int IntKind.i64 (0:Int),R.int IntKind.i64 (0:Int),R.int IntKind.i64 (0:Int),R.int IntKind.i64 (0:Int),R.int IntKind.i64 (0:Int),R.int IntKind.i64 (0:Int),R.bool false,R.ints IntKind.u32 [],R.ints IntKind.u32 []]))))))
def Jo:I.Rows->(ad->Prop)->Prop:=
 fun(l:I.Rows) (K:ad->Prop)=>∀(b:Bool),(b=true->l=[])->(b=true->K (ad.rows (11:Nat) []))/\(b=false->((0:Int)+(Nat.cast:Nat->Int) (List.length l))*(120:Int)<=(70368744177664:Int)
 /\K (ad.rows (11:Nat) (HAppend.hAppend [] l)))
def J4:I.Rows->(J->Prop)->Prop:=
 fun(l:I.Rows) (K:J->Prop)=>(0:Int)<=(0:Int)/\(0:Int)<=(Nat.cast:Nat->Int) (List.length l)/\(Nat.cast:Nat->Int) (List.length l)*(120:Int)<=(281474976710656:Int)/\∃(aD:Int
 ->List (List R)->List (List R)->Prop),∃(m:Int->List (List R)->List (List R)->Nat),aD (0:Int) [] (List.replicate (0:Nat) [R.int IntKind.i64 (0:Int),R.int IntKind.i64 (0:Int),R.int IntKind.i64 (0:Int),R.int IntKind.i64 (0:Int),R.int IntKind.i64 (0:Int),R.int IntKind.i64 (0:Int),R.int IntKind.i64 (0:Int),R.int IntKind.i64 (0:Int),R.bool false,R.ints IntKind.u32 [],R.ints IntKind.u32 []])
 /\∀(bI:Int) (ai bn:List (List R)),aD bI ai bn->(decide (bI<(Nat.cast:Nat->Int) (List.length l))=true->(0:Int)<=bI/\bI<(Nat.cast:Nat->Int) (List.length l)/\List.length (List.getD l (Int.toNat bI) [])=(11:Nat)
 /\List.length (List.getD l (Int.toNat bI) [])=(11:Nat)/\jI (List.take (8:Nat) (List.getD l (Int.toNat bI) []))/\R.isInt (List.getD (cZ (8:Nat) [R.int IntKind.i64 (0:Int)] ai (List.map R.toInt (List.take (8:Nat) (List.getD l (Int.toNat bI) [])))) (0:Nat) R.undef) IntKind.i64
 /\(l1 (8:Nat) ai (List.map R.toInt (List.take (8:Nat) (List.getD l (Int.toNat bI) [])))=true->(0:Int)<=R.toInt (List.getD (cZ (8:Nat) [R.int IntKind.i64 (0:Int)] ai (List.map R.toInt (List.take (8:Nat) (List.getD l (Int.toNat bI) [])))) (0:Nat) R.undef)
 /\R.toInt (List.getD (cZ (8:Nat) [R.int IntKind.i64 (0:Int)] ai (List.map R.toInt (List.take (8:Nat) (List.getD l (Int.toNat bI) [])))) (0:Nat) R.undef)<(Nat.cast:Nat->Int) (List.length bn)
 /\R.isBool (List.getD (List.getD bn (Int.toNat (R.toInt (List.getD (cZ (8:Nat) [R.int IntKind.i64 (0:Int)] ai (List.map R.toInt (List.take (8:Nat) (List.getD l (Int.toNat bI) [])))) (0:Nat) R.undef))) []) (8:Nat) R.undef)
 /\R.eM (List.getD (List.getD bn (Int.toNat (R.toInt (List.getD (cZ (8:Nat) [R.int IntKind.i64 (0:Int)] ai (List.map R.toInt (List.take (8:Nat) (List.getD l (Int.toNat bI) [])))) (0:Nat) R.undef))) []) (9:Nat) R.undef) IntKind.u32
 /\R.eM (List.getD (List.getD bn (Int.toNat (R.toInt (List.getD (cZ (8:Nat) [R.int IntKind.i64 (0:Int)] ai (List.map R.toInt (List.take (8:Nat) (List.getD l (Int.toNat bI) [])))) (0:Nat) R.undef))) []) (10:Nat) R.undef) IntKind.u32
 /\R.isBool (List.getD (List.getD l (Int.toNat bI) []) (8:Nat) R.undef)/\R.eM (List.getD (List.getD l (Int.toNat bI) []) (9:Nat) R.undef) IntKind.u32/\R.eM (List.getD (List.getD l (Int.toNat bI) []) (10:Nat) R.undef) IntKind.u32
 /\(I.av (1000000:Nat) (R.b6 (List.getD (List.getD bn (Int.toNat (R.toInt (List.getD (cZ (8:Nat) [R.int IntKind.i64 (0:Int)] ai (List.map R.toInt (List.take (8:Nat) (List.getD l (Int.toNat bI) [])))) (0:Nat) R.undef))) []) (9:Nat) R.undef))
 /\I.av (1000000:Nat) (R.b6 (List.getD (List.getD bn (Int.toNat (R.toInt (List.getD (cZ (8:Nat) [R.int IntKind.i64 (0:Int)] ai (List.map R.toInt (List.take (8:Nat) (List.getD l (Int.toNat bI) [])))) (0:Nat) R.undef))) []) (10:Nat) R.undef))
 /\I.av (1000000:Nat) (R.b6 (List.getD (List.getD l (Int.toNat bI) []) (9:Nat) R.undef))/\I.av (1000000:Nat) (R.b6 (List.getD (List.getD l (Int.toNat bI) []) (10:Nat) R.undef)))
 /\∀(x:Bool),x=I.bh (I.ag (R.toBool (List.getD (List.getD bn (Int.toNat (R.toInt (List.getD (cZ (8:Nat) [R.int IntKind.i64 (0:Int)] ai (List.map R.toInt (List.take (8:Nat) (List.getD l (Int.toNat bI) [])))) (0:Nat) R.undef))) []) (8:Nat) R.undef)) (R.b6 (List.getD (List.getD bn (Int.toNat (R.toInt (List.getD (cZ (8:Nat) [R.int IntKind.i64 (0:Int)] ai (List.map R.toInt (List.take (8:Nat) (List.getD l (Int.toNat bI) [])))) (0:Nat) R.undef))) []) (9:Nat) R.undef)) (R.b6 (List.getD (List.getD bn (Int.toNat (R.toInt (List.getD (cZ (8:Nat) [R.int IntKind.i64 (0:Int)] ai (List.map R.toInt (List.take (8:Nat) (List.getD l (Int.toNat bI) [])))) (0:Nat) R.undef))) []) (10:Nat) R.undef))+I.ag (R.toBool (List.getD (List.getD l (Int.toNat bI) []) (8:Nat) R.undef)) (R.b6 (List.getD (List.getD l (Int.toNat bI) []) (9:Nat) R.undef)) (R.b6 (List.getD (List.getD l (Int.toNat bI) []) (10:Nat) R.undef)))
 ->∀(au:List Int),au=I.bm (I.ag (R.toBool (List.getD (List.getD bn (Int.toNat (R.toInt (List.getD (cZ (8:Nat) [R.int IntKind.i64 (0:Int)] ai (List.map R.toInt (List.take (8:Nat) (List.getD l (Int.toNat bI) [])))) (0:Nat) R.undef))) []) (8:Nat) R.undef)) (R.b6 (List.getD (List.getD bn (Int.toNat (R.toInt (List.getD (cZ (8:Nat) [R.int IntKind.i64 (0:Int)] ai (List.map R.toInt (List.take (8:Nat) (List.getD l (Int.toNat bI) [])))) (0:Nat) R.undef))) []) (9:Nat) R.undef)) (R.b6 (List.getD (List.getD bn (Int.toNat (R.toInt (List.getD (cZ (8:Nat) [R.int IntKind.i64 (0:Int)] ai (List.map R.toInt (List.take (8:Nat) (List.getD l (Int.toNat bI) [])))) (0:Nat) R.undef))) []) (10:Nat) R.undef))+I.ag (R.toBool (List.getD (List.getD l (Int.toNat bI) []) (8:Nat) R.undef)) (R.b6 (List.getD (List.getD l (Int.toNat bI) []) (9:Nat) R.undef)) (R.b6 (List.getD (List.getD l (Int.toNat bI) []) (10:Nat) R.undef)))
 ->∀(ax:List Int),ax=I.bg (I.ag (R.toBool (List.getD (List.getD bn (Int.toNat (R.toInt (List.getD (cZ (8:Nat) [R.int IntKind.i64 (0:Int)] ai (List.map R.toInt (List.take (8:Nat) (List.getD l (Int.toNat bI) [])))) (0:Nat) R.undef))) []) (8:Nat) R.undef)) (R.b6 (List.getD (List.getD bn (Int.toNat (R.toInt (List.getD (cZ (8:Nat) [R.int IntKind.i64 (0:Int)] ai (List.map R.toInt (List.take (8:Nat) (List.getD l (Int.toNat bI) [])))) (0:Nat) R.undef))) []) (9:Nat) R.undef)) (R.b6 (List.getD (List.getD bn (Int.toNat (R.toInt (List.getD (cZ (8:Nat) [R.int IntKind.i64 (0:Int)] ai (List.map R.toInt (List.take (8:Nat) (List.getD l (Int.toNat bI) [])))) (0:Nat) R.undef))) []) (10:Nat) R.undef))+I.ag (R.toBool (List.getD (List.getD l (Int.toNat bI) []) (8:Nat) R.undef)) (R.b6 (List.getD (List.getD l (Int.toNat bI) []) (9:Nat) R.undef)) (R.b6 (List.getD (List.getD l (Int.toNat bI) []) (10:Nat) R.undef)))
 ->(0:Int)<=R.toInt (List.getD (cZ (8:Nat) [R.int IntKind.i64 (0:Int)] ai (List.map R.toInt (List.take (8:Nat) (List.getD l (Int.toNat bI) [])))) (0:Nat) R.undef)/\R.toInt (List.getD (cZ (8:Nat) [R.int IntKind.i64 (0:Int)] ai (List.map R.toInt (List.take (8:Nat) (List.getD l (Int.toNat bI) [])))) (0:Nat) R.undef)<(Nat.cast:Nat
 ->Int) (List.length bn)/\aD (IntKind.wrap IntKind.i64 (bI+(1:Int))) ai (List.set bn (Int.toNat (R.toInt (List.getD (cZ (8:Nat) [R.int IntKind.i64 (0:Int)] ai (List.map R.toInt (List.take (8:Nat) (List.getD l (Int.toNat bI) [])))) (0:Nat) R.undef))) (setRow (List.getD bn (Int.toNat (R.toInt (List.getD (cZ (8:Nat) [R.int IntKind.i64 (0:Int)] ai (List.map R.toInt (List.take (8:Nat) (List.getD l (Int.toNat bI) [])))) (0:Nat) R.undef))) []) (8:Nat) [R.bool x,R.ints IntKind.u32 au,R.ints IntKind.u32 ax]))
 /\m (IntKind.wrap IntKind.i64 (bI+(1:Int))) ai (List.set bn (Int.toNat (R.toInt (List.getD (cZ (8:Nat) [R.int IntKind.i64 (0:Int)] ai (List.map R.toInt (List.take (8:Nat) (List.getD l (Int.toNat bI) [])))) (0:Nat) R.undef))) (setRow (List.getD bn (Int.toNat (R.toInt (List.getD (cZ (8:Nat) [R.int IntKind.i64 (0:Int)] ai (List.map R.toInt (List.take (8:Nat) (List.getD l (Int.toNat bI) [])))) (0:Nat) R.undef))) []) (8:Nat) [R.bool x,R.ints IntKind.u32 au,R.ints IntKind.u32 ax]))<m bI ai bn)
 /\(l1 (8:Nat) ai (List.map R.toInt (List.take (8:Nat) (List.getD l (Int.toNat bI) [])))=false->List.length (List.getD l (Int.toNat bI) [])=(11:Nat)/\jI (List.take (8:Nat) (List.getD l (Int.toNat bI) []))
 /\List.length (List.getD l (Int.toNat bI) [])=(11:Nat)/\R.isBool (List.getD (List.getD l (Int.toNat bI) []) (8:Nat) R.undef)/\R.eM (List.getD (List.getD l (Int.toNat bI) []) (9:Nat) R.undef) IntKind.u32
 /\R.eM (List.getD (List.getD l (Int.toNat bI) []) (10:Nat) R.undef) IntKind.u32/\(I.aF (R.b6 (List.getD (List.getD l (Int.toNat bI) []) (9:Nat) R.undef))/\I.aF (R.b6 (List.getD (List.getD l (Int.toNat bI) []) (10:Nat) R.undef)))
 /\∀(x:Bool),x=I.bh (I.ag (R.toBool (List.getD (List.getD l (Int.toNat bI) []) (8:Nat) R.undef)) (R.b6 (List.getD (List.getD l (Int.toNat bI) []) (9:Nat) R.undef)) (R.b6 (List.getD (List.getD l (Int.toNat bI) []) (10:Nat) R.undef)))
 ->∀(au:List Int),au=I.bm (I.ag (R.toBool (List.getD (List.getD l (Int.toNat bI) []) (8:Nat) R.undef)) (R.b6 (List.getD (List.getD l (Int.toNat bI) []) (9:Nat) R.undef)) (R.b6 (List.getD (List.getD l (Int.toNat bI) []) (10:Nat) R.undef)))
 ->∀(ax:List Int),ax=I.bg (I.ag (R.toBool (List.getD (List.getD l (Int.toNat bI) []) (8:Nat) R.undef)) (R.b6 (List.getD (List.getD l (Int.toNat bI) []) (9:Nat) R.undef)) (R.b6 (List.getD (List.getD l (Int.toNat bI) []) (10:Nat) R.undef)))
 ->((Nat.cast:Nat->Int) (List.length bn)+(Nat.cast:Nat->Int) (List.length [HAppend.hAppend (List.take (8:Nat) (List.getD l (Int.toNat bI) [])) [R.bool x,R.ints IntKind.u32 au,R.ints IntKind.u32 ax]]))*(120:Int)<=(70368744177664:Int)
 /\aD (IntKind.wrap IntKind.i64 (bI+(1:Int))) (lj (8:Nat) (List.take (8:Nat) (List.getD l (Int.toNat bI) [])) [R.int IntKind.i64 ((Nat.cast:Nat->Int) (List.length bn))] ai) (HAppend.hAppend bn [HAppend.hAppend (List.take (8:Nat) (List.getD l (Int.toNat bI) [])) [R.bool x,R.ints IntKind.u32 au,R.ints IntKind.u32 ax]])
 /\m (IntKind.wrap IntKind.i64 (bI+(1:Int))) (lj (8:Nat) (List.take (8:Nat) (List.getD l (Int.toNat bI) [])) [R.int IntKind.i64 ((Nat.cast:Nat->Int) (List.length bn))] ai) (HAppend.hAppend bn [HAppend.hAppend (List.take (8:Nat) (List.getD l (Int.toNat bI) [])) [R.bool x,R.ints IntKind.u32 au,R.ints IntKind.u32 ax]])<m bI ai bn))
 /\(decide (bI<(Nat.cast:Nat->Int) (List.length l))=false->((∀(r:List R),r∈bn->I.fp (1000000:Nat) r)/\List.length bn<(100000000000:Nat))/\∀(x:List (List R)),x=List.filter (fun(r:List R)=> !I.jm r) bn
 ->(I.cQ x/\List.length x<(1000000000000000:Nat))/\∀(i:List (List R)),I.kQ x (0:Int) ((Nat.cast:Nat->Int) (List.length x)) i->K (J.d (R.rows (11:Nat) i)))
def JF:I.Rows->(J->Prop)->Prop:=
 fun(l:I.Rows) (K:J->Prop)=>∃(aD:Int->List (List R)->List (List R)->Prop),∃(m:Int->List (List R)->List (List R)->Nat),aD (0:Int) [] []/\∀(bI:Int) (ai bn:List (List R)),aD bI ai bn
 ->(decide (bI<(Nat.cast:Nat->Int) (List.length l))=true->(0:Int)<=bI/\bI<(Nat.cast:Nat->Int) (List.length l)/\List.length (List.getD l (Int.toNat bI) [])=(11:Nat)/\∃(a8:List (List R)
 ->List (List R)->List (List R)->Prop),(List.length (List.getD l (Int.toNat bI) [])=(11:Nat)/\jI (List.take (8:Nat) (List.getD l (Int.toNat bI) []))/\R.isBool (List.getD (cZ (8:Nat) [R.bool false,R.ints IntKind.u32 [],R.ints IntKind.u32 []] ai (List.map R.toInt (List.take (8:Nat) (List.getD l (Int.toNat bI) [])))) (0:Nat) R.undef)
 /\R.eM (List.getD (cZ (8:Nat) [R.bool false,R.ints IntKind.u32 [],R.ints IntKind.u32 []] ai (List.map R.toInt (List.take (8:Nat) (List.getD l (Int.toNat bI) [])))) (1:Nat) R.undef) IntKind.u32
 /\R.eM (List.getD (cZ (8:Nat) [R.bool false,R.ints IntKind.u32 [],R.ints IntKind.u32 []] ai (List.map R.toInt (List.take (8:Nat) (List.getD l (Int.toNat bI) [])))) (2:Nat) R.undef) IntKind.u32
 /\((!l1 (8:Nat) ai (List.map R.toInt (List.take (8:Nat) (List.getD l (Int.toNat bI) []))))=true->List.length (List.getD l (Int.toNat bI) [])=(11:Nat)/\((Nat.cast:Nat->Int) (List.length bn)+(Nat.cast:Nat
 ->Int) (List.length [List.take (8:Nat) (List.getD l (Int.toNat bI) [])]))*(64:Int)<=(70368744177664:Int)/\a8 ai (HAppend.hAppend bn [List.take (8:Nat) (List.getD l (Int.toNat bI) [])]) [List.getD l (Int.toNat bI) []])
 /\((!l1 (8:Nat) ai (List.map R.toInt (List.take (8:Nat) (List.getD l (Int.toNat bI) []))))=false->a8 ai bn [List.getD l (Int.toNat bI) []]))/\∀(bq eS ba:List (List R)),a8 bq eS ba
 ->List.length (List.getD ba (0:Nat) [])=(11:Nat)/\List.length (List.getD ba (0:Nat) [])=(11:Nat)/\jI (List.take (8:Nat) (List.getD ba (0:Nat) []))/\R.isBool (List.getD (cZ (8:Nat) [R.bool false,R.ints IntKind.u32 [],R.ints IntKind.u32 []] bq (List.map R.toInt (List.take (8:Nat) (List.getD ba (0:Nat) [])))) (0:Nat) R.undef)
 /\R.eM (List.getD (cZ (8:Nat) [R.bool false,R.ints IntKind.u32 [],R.ints IntKind.u32 []] bq (List.map R.toInt (List.take (8:Nat) (List.getD ba (0:Nat) [])))) (1:Nat) R.undef) IntKind.u32
 /\R.eM (List.getD (cZ (8:Nat) [R.bool false,R.ints IntKind.u32 [],R.ints IntKind.u32 []] bq (List.map R.toInt (List.take (8:Nat) (List.getD ba (0:Nat) [])))) (2:Nat) R.undef) IntKind.u32
 /\R.isBool (List.getD (List.getD ba (0:Nat) []) (8:Nat) R.undef)/\R.eM (List.getD (List.getD ba (0:Nat) []) (9:Nat) R.undef) IntKind.u32/\R.eM (List.getD (List.getD ba (0:Nat) []) (10:Nat) R.undef) IntKind.u32
 /\(I.av (1000000:Nat) (R.b6 (List.getD (cZ (8:Nat) [R.bool false,R.ints IntKind.u32 [],R.ints IntKind.u32 []] bq (List.map R.toInt (List.take (8:Nat) (List.getD ba (0:Nat) [])))) (1:Nat) R.undef))
 /\I.av (1000000:Nat) (R.b6 (List.getD (cZ (8:Nat) [R.bool false,R.ints IntKind.u32 [],R.ints IntKind.u32 []] bq (List.map R.toInt (List.take (8:Nat) (List.getD ba (0:Nat) [])))) (2:Nat) R.undef))
 /\I.av (1000000:Nat) (R.b6 (List.getD (List.getD ba (0:Nat) []) (9:Nat) R.undef))/\I.av (1000000:Nat) (R.b6 (List.getD (List.getD ba (0:Nat) []) (10:Nat) R.undef)))/\∀(x:Bool),x=I.bh (I.ag (R.toBool (List.getD (cZ (8:Nat) [R.bool false,R.ints IntKind.u32 [],R.ints IntKind.u32 []] bq (List.map R.toInt (List.take (8:Nat) (List.getD ba (0:Nat) [])))) (0:Nat) R.undef)) (R.b6 (List.getD (cZ (8:Nat) [R.bool false,R.ints IntKind.u32 [],R.ints IntKind.u32 []] bq (List.map R.toInt (List.take (8:Nat) (List.getD ba (0:Nat) [])))) (1:Nat) R.undef)) (R.b6 (List.getD (cZ (8:Nat) [R.bool false,R.ints IntKind.u32 [],R.ints IntKind.u32 []] bq (List.map R.toInt (List.take (8:Nat) (List.getD ba (0:Nat) [])))) (2:Nat) R.undef))+I.ag (R.toBool (List.getD (List.getD ba (0:Nat) []) (8:Nat) R.undef)) (R.b6 (List.getD (List.getD ba (0:Nat) []) (9:Nat) R.undef)) (R.b6 (List.getD (List.getD ba (0:Nat) []) (10:Nat) R.undef)))
 ->∀(au:List Int),au=I.bm (I.ag (R.toBool (List.getD (cZ (8:Nat) [R.bool false,R.ints IntKind.u32 [],R.ints IntKind.u32 []] bq (List.map R.toInt (List.take (8:Nat) (List.getD ba (0:Nat) [])))) (0:Nat) R.undef)) (R.b6 (List.getD (cZ (8:Nat) [R.bool false,R.ints IntKind.u32 [],R.ints IntKind.u32 []] bq (List.map R.toInt (List.take (8:Nat) (List.getD ba (0:Nat) [])))) (1:Nat) R.undef)) (R.b6 (List.getD (cZ (8:Nat) [R.bool false,R.ints IntKind.u32 [],R.ints IntKind.u32 []] bq (List.map R.toInt (List.take (8:Nat) (List.getD ba (0:Nat) [])))) (2:Nat) R.undef))+I.ag (R.toBool (List.getD (List.getD ba (0:Nat) []) (8:Nat) R.undef)) (R.b6 (List.getD (List.getD ba (0:Nat) []) (9:Nat) R.undef)) (R.b6 (List.getD (List.getD ba (0:Nat) []) (10:Nat) R.undef)))
 ->∀(ax:List Int),ax=I.bg (I.ag (R.toBool (List.getD (cZ (8:Nat) [R.bool false,R.ints IntKind.u32 [],R.ints IntKind.u32 []] bq (List.map R.toInt (List.take (8:Nat) (List.getD ba (0:Nat) [])))) (0:Nat) R.undef)) (R.b6 (List.getD (cZ (8:Nat) [R.bool false,R.ints IntKind.u32 [],R.ints IntKind.u32 []] bq (List.map R.toInt (List.take (8:Nat) (List.getD ba (0:Nat) [])))) (1:Nat) R.undef)) (R.b6 (List.getD (cZ (8:Nat) [R.bool false,R.ints IntKind.u32 [],R.ints IntKind.u32 []] bq (List.map R.toInt (List.take (8:Nat) (List.getD ba (0:Nat) [])))) (2:Nat) R.undef))+I.ag (R.toBool (List.getD (List.getD ba (0:Nat) []) (8:Nat) R.undef)) (R.b6 (List.getD (List.getD ba (0:Nat) []) (9:Nat) R.undef)) (R.b6 (List.getD (List.getD ba (0:Nat) []) (10:Nat) R.undef)))
 ->jI (List.take (8:Nat) (List.getD ba (0:Nat) []))/\aD (IntKind.wrap IntKind.i64 (bI+(1:Int))) (lj (8:Nat) (List.take (8:Nat) (List.getD ba (0:Nat) [])) [R.bool x,R.ints IntKind.u32 au,R.ints IntKind.u32 ax] bq) eS
 /\m (IntKind.wrap IntKind.i64 (bI+(1:Int))) (lj (8:Nat) (List.take (8:Nat) (List.getD ba (0:Nat) [])) [R.bool x,R.ints IntKind.u32 au,R.ints IntKind.u32 ax] bq) eS<m bI ai bn)
 /\(decide (bI<(Nat.cast:Nat->Int) (List.length l))=false->∃(aD:Int->List (List R)->List (List R)->List (List R)->Prop),∃(m:Int->List (List R)->List (List R)->List (List R)
 ->Nat),aD (0:Int) ai bn []/\∀(v46:Int) (ai eS ba:List (List R)),aD v46 ai eS ba->(decide (v46<(Nat.cast:Nat->Int) (List.length bn))=true->(0:Int)<=v46/\v46<(Nat.cast:Nat
 ->Int) (List.length eS)/\List.length (List.getD eS (Int.toNat v46) [])=(8:Nat)/\List.length (List.getD eS (Int.toNat v46) [])=(8:Nat)/\jI (List.getD eS (Int.toNat v46) [])/\R.isBool (List.getD (cZ (8:Nat) [R.bool false,R.ints IntKind.u32 [],R.ints IntKind.u32 []] ai (List.map R.toInt (List.getD eS (Int.toNat v46) []))) (0:Nat) R.undef)
 /\R.eM (List.getD (cZ (8:Nat) [R.bool false,R.ints IntKind.u32 [],R.ints IntKind.u32 []] ai (List.map R.toInt (List.getD eS (Int.toNat v46) []))) (1:Nat) R.undef) IntKind.u32/\R.eM (List.getD (cZ (8:Nat) [R.bool false,R.ints IntKind.u32 [],R.ints IntKind.u32 []] ai (List.map R.toInt (List.getD eS (Int.toNat v46) []))) (2:Nat) R.undef) IntKind.u32
 /\(I.aF (R.b6 (List.getD (cZ (8:Nat) [R.bool false,R.ints IntKind.u32 [],R.ints IntKind.u32 []] ai (List.map R.toInt (List.getD eS (Int.toNat v46) []))) (1:Nat) R.undef))/\I.aF (R.b6 (List.getD (cZ (8:Nat) [R.bool false,R.ints IntKind.u32 [],R.ints IntKind.u32 []] ai (List.map R.toInt (List.getD eS (Int.toNat v46) []))) (2:Nat) R.undef)))
 /\∀(x:Int),x=I.dh (I.ag (R.toBool (List.getD (cZ (8:Nat) [R.bool false,R.ints IntKind.u32 [],R.ints IntKind.u32 []] ai (List.map R.toInt (List.getD eS (Int.toNat v46) []))) (0:Nat) R.undef)) (R.b6 (List.getD (cZ (8:Nat) [R.bool false,R.ints IntKind.u32 [],R.ints IntKind.u32 []] ai (List.map R.toInt (List.getD eS (Int.toNat v46) []))) (1:Nat) R.undef)) (R.b6 (List.getD (cZ (8:Nat) [R.bool false,R.ints IntKind.u32 [],R.ints IntKind.u32 []] ai (List.map R.toInt (List.getD eS (Int.toNat v46) []))) (2:Nat) R.undef)))
 ->((!decide (x=(0:Int)))=true->List.length (List.getD eS (Int.toNat v46) [])=(8:Nat)/\List.length (List.getD eS (Int.toNat v46) [])=(8:Nat)/\jI (List.getD eS (Int.toNat v46) [])
 /\R.isBool (List.getD (cZ (8:Nat) [R.bool false,R.ints IntKind.u32 [],R.ints IntKind.u32 []] ai (List.map R.toInt (List.getD eS (Int.toNat v46) []))) (0:Nat) R.undef)/\R.eM (List.getD (cZ (8:Nat) [R.bool false,R.ints IntKind.u32 [],R.ints IntKind.u32 []] ai (List.map R.toInt (List.getD eS (Int.toNat v46) []))) (1:Nat) R.undef) IntKind.u32
 /\R.eM (List.getD (cZ (8:Nat) [R.bool false,R.ints IntKind.u32 [],R.ints IntKind.u32 []] ai (List.map R.toInt (List.getD eS (Int.toNat v46) []))) (2:Nat) R.undef) IntKind.u32/\((Nat.cast:Nat
 ->Int) (List.length ba)+(Nat.cast:Nat->Int) (List.length [HAppend.hAppend (List.getD eS (Int.toNat v46) []) [R.bool (R.toBool (List.getD (cZ (8:Nat) [R.bool false,R.ints IntKind.u32 [],R.ints IntKind.u32 []] ai (List.map R.toInt (List.getD eS (Int.toNat v46) []))) (0:Nat) R.undef)),R.ints IntKind.u32 (R.b6 (List.getD (cZ (8:Nat) [R.bool false,R.ints IntKind.u32 [],R.ints IntKind.u32 []] ai (List.map R.toInt (List.getD eS (Int.toNat v46) []))) (1:Nat) R.undef)),R.ints IntKind.u32 (R.b6 (List.getD (cZ (8:Nat) [R.bool false,R.ints IntKind.u32 [],R.ints IntKind.u32 []] ai (List.map R.toInt (List.getD eS (Int.toNat v46) []))) (2:Nat) R.undef))]]))*(120:Int)<=(70368744177664:Int)
 /\aD (IntKind.wrap IntKind.i64 (v46+(1:Int))) ai eS (HAppend.hAppend ba [HAppend.hAppend (List.getD eS (Int.toNat v46) []) [R.bool (R.toBool (List.getD (cZ (8:Nat) [R.bool false,R.ints IntKind.u32 [],R.ints IntKind.u32 []] ai (List.map R.toInt (List.getD eS (Int.toNat v46) []))) (0:Nat) R.undef)),R.ints IntKind.u32 (R.b6 (List.getD (cZ (8:Nat) [R.bool false,R.ints IntKind.u32 [],R.ints IntKind.u32 []] ai (List.map R.toInt (List.getD eS (Int.toNat v46) []))) (1:Nat) R.undef)),R.ints IntKind.u32 (R.b6 (List.getD (cZ (8:Nat) [R.bool false,R.ints IntKind.u32 [],R.ints IntKind.u32 []] ai (List.map R.toInt (List.getD eS (Int.toNat v46) []))) (2:Nat) R.undef))]])
 /\m (IntKind.wrap IntKind.i64 (v46+(1:Int))) ai eS (HAppend.hAppend ba [HAppend.hAppend (List.getD eS (Int.toNat v46) []) [R.bool (R.toBool (List.getD (cZ (8:Nat) [R.bool false,R.ints IntKind.u32 [],R.ints IntKind.u32 []] ai (List.map R.toInt (List.getD eS (Int.toNat v46) []))) (0:Nat) R.undef)),R.ints IntKind.u32 (R.b6 (List.getD (cZ (8:Nat) [R.bool false,R.ints IntKind.u32 [],R.ints IntKind.u32 []] ai (List.map R.toInt (List.getD eS (Int.toNat v46) []))) (1:Nat) R.undef)),R.ints IntKind.u32 (R.b6 (List.getD (cZ (8:Nat) [R.bool false,R.ints IntKind.u32 [],R.ints IntKind.u32 []] ai (List.map R.toInt (List.getD eS (Int.toNat v46) []))) (2:Nat) R.undef))]])<m v46 ai eS ba)
 /\((!decide (x=(0:Int)))=false->aD (IntKind.wrap IntKind.i64 (v46+(1:Int))) ai eS ba/\m (IntKind.wrap IntKind.i64 (v46+(1:Int))) ai eS ba<m v46 ai eS ba))/\(decide (v46<(Nat.cast:Nat
 ->Int) (List.length bn))=false->(I.cQ ba/\List.length ba<(1000000000000000:Nat))/\∀(i:List (List R)),I.kQ ba (0:Int) ((Nat.cast:Nat->Int) (List.length ba)) i->K (J.d (R.rows (11:Nat) i))))
end I
end
section
open Go Go.bG
namespace I
def KN:Int->(J->Prop)->Prop:=
 fun(x:Int) (K:J->Prop)=>∃(a8:Int->Int->Prop),((decide ((4294967296:Int)<=x)=true->a8 (Int.fdiv x (4294967296:Int)) (32:Int))/\(decide ((4294967296:Int)<=x)=false->a8 x (0:Int)))
 /\∀(v0 v2:Int),a8 v0 v2->∃(a8:Int->Int->Prop),((decide ((65536:Int)<=v0)=true->a8 (Int.fdiv v0 (65536:Int)) (IntKind.wrap IntKind.i64 (v2+(16:Int))))/\(decide ((65536:Int)<=v0)=false
 ->a8 v0 v2))/\∀(v0 v2:Int),a8 v0 v2->(decide ((256:Int)<=v0)=true->(0:Int)<=IntKind.wrap IntKind.u8 (Int.fdiv v0 (256:Int))/\IntKind.wrap IntKind.u8 (Int.fdiv v0 (256:Int))<(256:Int)
 /\K (J.d (R.int IntKind.i64 (IntKind.wrap IntKind.i64 (IntKind.wrap IntKind.i64 (v2+(8:Int))+IntKind.wrap IntKind.i64 (List.getD [(0:Int),(1:Int),(2:Int),(2:Int),(3:Int),(3:Int),(3:Int),(3:Int),(4:Int),(4:Int),(4:Int),(4:Int),(4:Int),(4:Int),(4:Int),(4:Int),(5:Int),(5:Int),(5:Int),(5:Int),(5:Int),(5:Int),(5:Int),(5:Int),(5:Int),(5:Int),(5:Int),(5:Int),(5:Int),(5:Int),(5:Int),(5:Int),(6:Int),(6:Int),(6:Int),(6:Int),(6:Int),(6:Int),(6:Int),(6:Int),(6:Int),(6:Int),(6:Int),(6:Int),(6:Int),(6:Int),(6:Int),(6:Int),(6:Int),(6:Int),(6:Int),(6:Int),(6:Int),(6:Int),(6:Int),(6:Int),(6:Int),(6:Int),(6:Int),(6:Int),(6:Int),(6:Int),(6:Int),(6:Int),(7:Int),(7:Int),(7:Int),(7:Int),(7:Int),(7:Int),(7:Int),(7:Int),(7:Int),(7:Int),(7:Int),(7:Int),(7:Int),(7:Int),(7:Int),(7:Int),(7:Int),(7:Int),(7:Int),(7:Int),(7:Int),(7:Int),(7:Int),(7:Int),(7:Int),(7:Int),(7:Int),(7:Int),(7:Int),(7:Int),(7:Int),(7:Int),(7:Int),(7:Int),(7:Int),(7:Int),(7:Int),(7:Int),(7:Int),(7:Int),(7:Int),(7:Int),(7:Int),(7:Int),(7:Int),(7:Int),(7:Int),(7:Int),(7:Int),(7:Int),(7:Int),(7:Int),(7:Int),(7:Int),(7:Int),(7:Int),(7:Int),(7:Int),(7:Int),(7:Int),(7:Int),(7:Int),(7:Int),(7:Int),(8:Int),(8:Int),(8:Int),(8:Int),(8:Int),(8:Int),(8:Int),(8:Int),(8:Int),(8:Int),(8:Int),(8:Int),(8:Int),(8:Int),(8:Int),(8:Int),(8:Int),(8:Int),(8:Int),(8:Int),(8:Int),(8:Int),(8:Int),(8:Int),(8:Int),(8:Int),(8:Int),(8:Int),(8:Int),(8:Int),(8:Int),(8:Int),(8:Int),(8:Int),(8:Int),(8:Int),(8:Int),(8:Int),(8:Int),(8:Int),(8:Int),(8:Int),(8:Int),(8:Int),(8:Int),(8:Int),(8:Int),(8:Int),(8:Int),(8:Int),(8:Int),(8:Int),(8:Int),(8:Int),(8:Int),(8:Int),(8:Int),(8:Int),(8:Int),(8:Int),(8:Int),(8:Int),(8:Int),(8:Int),(8:Int),(8:Int),(8:Int),(8:Int),(8:Int),(8:Int),(8:Int),(8:Int),(8:Int),(8:Int),(8:Int),(8:Int),(8:Int),(8:Int),(8:Int),(8:Int),(8:Int),(8:Int),(8:Int),(8:Int),(8:Int),(8:Int),(8:Int),(8:Int),(8:Int),(8:Int),(8:Int),(8:Int),(8:Int),(8:Int),(8:Int),(8:Int),(8:Int),(8:Int),(8:Int),(8:Int),(8:Int),(8:Int),(8:Int),(8:Int),(8:Int),(8:Int),(8:Int),(8:Int),(8:Int),(8:Int),(8:Int),(8:Int),(8:Int),(8:Int),(8:Int),(8:Int),(8:Int),(8:Int),(8:Int),(8:Int),(8:Int),(8:Int),(8:Int),(8:Int),(8:Int),(8:Int),(8:Int),(8:Int)] (Int.toNat (IntKind.wrap IntKind.u8 (Int.fdiv v0
 (256:Int)))) (0:Int)))))))/\(decide ((256:Int)<=v0)=false->(0:Int)<=IntKind.wrap IntKind.u8 v0/\IntKind.wrap IntKind.u8 v0<(256:Int)/\K (J.d (R.int IntKind.i64 (IntKind.wrap IntKind.i64 (v2+IntKind.wrap IntKind.i64 (List.getD [(0:Int),(1:Int),(2:Int),(2:Int),(3:Int),(3:Int),(3:Int),(3:Int),(4:Int),(4:Int),(4:Int),(4:Int),(4:Int),(4:Int),(4:Int),(4:Int),(5:Int),(5:Int),(5:Int),(5:Int),(5:Int),(5:Int),(5:Int),(5:Int),(5:Int),(5:Int),(5:Int),(5:Int),(5:Int),(5:Int),(5:Int),(5:Int),(6:Int),(6:Int),(6:Int),(6:Int),(6:Int),(6:Int),(6:Int),(6:Int),(6:Int),(6:Int),(6:Int),(6:Int),(6:Int),(6:Int),(6:Int),(6:Int),(6:Int),(6:Int),(6:Int),(6:Int),(6:Int),(6:Int),(6:Int),(6:Int),(6:Int),(6:Int),(6:Int),(6:Int),(6:Int),(6:Int),(6:Int),(6:Int),(7:Int),(7:Int),(7:Int),(7:Int),(7:Int),(7:Int),(7:Int),(7:Int),(7:Int),(7:Int),(7:Int),(7:Int),(7:Int),(7:Int),(7:Int),(7:Int),(7:Int),(7:Int),(7:Int),(7:Int),(7:Int),(7:Int),(7:Int),(7:Int),(7:Int),(7:Int),(7:Int),(7:Int),(7:Int),(7:Int),(7:Int),(7:Int),(7:Int),(7:Int),(7:Int),(7:Int),(7:Int),(7:Int),(7:Int),(7:Int),(7:Int),(7:Int),(7:Int),(7:Int),(7:Int),(7:Int),(7:Int),(7:Int),(7:Int),(7:Int),(7:Int),(7:Int),(7:Int),(7:Int),(7:Int),(7:Int),(7:Int),(7:Int),(7:Int),(7:Int),(7:Int),(7:Int),(7:Int),(7:Int),(8:Int),(8:Int),(8:Int),(8:Int),(8:Int),(8:Int),(8:Int),(8:Int),(8:Int),(8:Int),(8:Int),(8:Int),(8:Int),(8:Int),(8:Int),(8:Int),(8:Int),(8:Int),(8:Int),(8:Int),(8:Int),(8:Int),(8:Int),(8:Int),(8:Int),(8:Int),(8:Int),(8:Int),(8:Int),(8:Int),(8:Int),(8:Int),(8:Int),(8:Int),(8:Int),(8:Int),(8:Int),(8:Int),(8:Int),(8:Int),(8:Int),(8:Int),(8:Int),(8:Int),(8:Int),(8:Int),(8:Int),(8:Int),(8:Int),(8:Int),(8:Int),(8:Int),(8:Int),(8:Int),(8:Int),(8:Int),(8:Int),(8:Int),(8:Int),(8:Int),(8:Int),(8:Int),(8:Int),(8:Int),(8:Int),(8:Int),(8:Int),(8:Int),(8:Int),(8:Int),(8:Int),(8:Int),(8:Int),(8:Int),(8:Int),(8:Int),(8:Int),(8:Int),(8:Int),(8:Int),(8:Int),(8:Int),(8:Int),(8:Int),(8:Int),(8:Int),(8:Int),(8:Int),(8:Int),(8:Int),(8:Int),(8:Int),(8:Int),(8:Int),(8:Int),(8:Int),(8:Int),(8:Int),(8:Int),(8:Int),(8:Int),(8:Int),(8:Int),(8:Int),(8:Int),(8:Int),(8:Int),(8:Int),(8:Int),(8:Int),(8:Int),(8:Int),(8:Int),(8:Int),(8:Int),(8:Int),(8:Int),(8:Int),(8:Int),(8:Int),(8:Int),(8:Int),
 (8:Int),(8:Int),(8:Int),(8:Int),(8:Int),(8:Int)] (Int.toNat (IntKind.wrap IntKind.u8 v0)) (0:Int)))))))
def TV:Int->(J->Prop)->Prop:=
 fun(x:Int) (K:J->Prop)=>((0:Int)<=x/\x<(18446744073709551616:Int))/\∀(au:Int),au=(Nat.cast:Nat->Int) (I.cL (Int.toNat x))->K (J.d (R.int IntKind.i64 au))
def JV:Int->(J->Prop)->Prop:=
 fun(x:Int) (K:J->Prop)=>((0:Int)<=IntKind.wrap IntKind.u64 x/\IntKind.wrap IntKind.u64 x<(18446744073709551616:Int))/\∀(au:Int),au=(Nat.cast:Nat->Int) (I.cL (Int.toNat (IntKind.wrap IntKind.u64 x)))
 ->(0:Int)<=au/\K (J.d (R.int IntKind.u64 (IntKind.wrap IntKind.u64 ((1:Int)*(2:Int)^min (Int.toNat au) (64:Nat)))))
def SP:Int->(ad->J->Prop)->Prop:=
 fun(x:Int) (K:ad->J->Prop)=>K (ad.cells [J.d (R.int IntKind.u64 (bk BinOp.xor IntKind.u64 (bk BinOp.xor IntKind.u64 (bk BinOp.xor IntKind.u64 x (IntKind.wrap IntKind.u64 (x*(8192:Int)))) (Int.fdiv (bk BinOp.xor IntKind.u64 x (IntKind.wrap IntKind.u64 (x*(8192:Int)))) (128:Int))) (IntKind.wrap IntKind.u64 (bk BinOp.xor IntKind.u64 (bk BinOp.xor IntKind.u64 x (IntKind.wrap IntKind.u64 (x*(8192:Int)))) (Int.fdiv (bk BinOp.xor IntKind.u64 x (IntKind.wrap IntKind.u64 (x*(8192:Int)))) (128:Int))*(131072:Int)))))]) (J.d (R.int IntKind.u64 (bk BinOp.xor IntKind.u64 (bk BinOp.xor IntKind.u64 (bk BinOp.xor IntKind.u64 x (IntKind.wrap IntKind.u64 (x*(8192:Int)))) (Int.fdiv (bk BinOp.xor IntKind.u64 x (IntKind.wrap IntKind.u64 (x*(8192:Int)))) (128:Int))) (IntKind.wrap IntKind.u64 (bk BinOp.xor IntKind.u64 (bk BinOp.xor IntKind.u64 x (IntKind.wrap IntKind.u64 (x*(8192:Int)))) (Int.fdiv (bk BinOp.xor IntKind.u64 x (IntKind.wrap IntKind.u64 (x*(8192:Int)))) (128:Int))*(131072:Int))))))
def Jm:I.Rows->Int->Int->Int->(ad->J->Prop)->Prop:=
 fun(l:I.Rows) (a b s:Int) (K:ad->J->Prop)=>(0:Int)<=b/\b<(Nat.cast:Nat->Int) (List.length l)/\List.length (List.getD l (Int.toNat b) [])=(11:Nat)/\(0:Int)<=a/\a<(Nat.cast:Nat
 ->Int) (List.length l)/\List.length (List.getD l (Int.toNat a) [])=(11:Nat)/\(I.dZ (List.getD l (Int.toNat b) [])/\I.dZ (List.getD l (Int.toNat a) []))/\∀(x:Int),x=I.fX (List.getD l (Int.toNat b) []) (List.getD l (Int.toNat a) [])
 ->(decide (x<(0:Int))=true->K (ad.cells [J.d (R.int IntKind.i64 (IntKind.wrap IntKind.i64 (s+(1:Int))))]) (J.tup [J.d (R.int IntKind.i64 b),J.d (R.int IntKind.i64 a)]))/\(decide (x<(0:Int))=false
 ->K (ad.cells [J.d (R.int IntKind.i64 s)]) (J.tup [J.d (R.int IntKind.i64 a),J.d (R.int IntKind.i64 b)]))
def Jn:I.Rows->Int->Int->Int->Int->(ad->J->Prop)->Prop:=
 fun(l:I.Rows) (a b e s:Int) (K:ad->J->Prop)=>(I.cQ l/\(0:Int)<=a/\a<(Nat.cast:Nat->Int) (List.length l)/\(0:Int)<=b/\b<(Nat.cast:Nat->Int) (List.length l)/\(0:Int)<=s
 /\s<(1000:Int))/\∀(x:Int),x=(Nat.cast:Nat->Int) («Sort».order2 I.aX {toList:=l} (Int.toNat a) (Int.toNat b) (Int.toNat s)).2.2->∀(au:Int),au=(Nat.cast:Nat->Int) («Sort».order2 I.aX {toList:=l} (Int.toNat a) (Int.toNat b) (Int.toNat s)).1
 ->∀(ax:Int),ax=(Nat.cast:Nat->Int) («Sort».order2 I.aX {toList:=l} (Int.toNat a) (Int.toNat b) (Int.toNat s)).2.1->(I.cQ l/\(0:Int)<=ax/\ax<(Nat.cast:Nat->Int) (List.length l)
 /\(0:Int)<=e/\e<(Nat.cast:Nat->Int) (List.length l)/\(0:Int)<=x/\x<(1000:Int))/\∀(aJ:Int),aJ=(Nat.cast:Nat->Int) («Sort».order2 I.aX {toList:=l} (Int.toNat ax) (Int.toNat e) (Int.toNat x)).2.2
 ->∀(bb:Int),bb=(Nat.cast:Nat->Int) («Sort».order2 I.aX {toList:=l} (Int.toNat ax) (Int.toNat e) (Int.toNat x)).1->∀(bJ:Int),bJ=(Nat.cast:Nat->Int) («Sort».order2 I.aX {toList:=l} (Int.toNat ax) (Int.toNat e) (Int.toNat x)).2.1
 ->(I.cQ l/\(0:Int)<=au/\au<(Nat.cast:Nat->Int) (List.length l)/\(0:Int)<=bb/\bb<(Nat.cast:Nat->Int) (List.length l)/\(0:Int)<=aJ/\aJ<(1000:Int))/\∀(x:Int),x=(Nat.cast:Nat
 ->Int) («Sort».order2 I.aX {toList:=l} (Int.toNat au) (Int.toNat bb) (Int.toNat aJ)).2.2->∀(aY:Int),aY=(Nat.cast:Nat->Int) («Sort».order2 I.aX {toList:=l} (Int.toNat au) (Int.toNat bb) (Int.toNat aJ)).1
 ->∀(aW:Int),aW=(Nat.cast:Nat->Int) («Sort».order2 I.aX {toList:=l} (Int.toNat au) (Int.toNat bb) (Int.toNat aJ)).2.1->K (ad.cells [J.d (R.int IntKind.i64 x)]) (J.d (R.int IntKind.i64 aW))
def I9:I.Rows->Int->Int->(ad->J->Prop)->Prop:=
 fun(l:I.Rows) (a s:Int) (K:ad->J->Prop)=>(I.cQ l/\((0:Int)<=IntKind.wrap IntKind.i64 (a-(1:Int))/\IntKind.wrap IntKind.i64 (a-(1:Int))<(Nat.cast:Nat->Int) (List.length l))
 /\((0:Int)<=a/\a<(Nat.cast:Nat->Int) (List.length l))/\((0:Int)<=IntKind.wrap IntKind.i64 (a+(1:Int))/\IntKind.wrap IntKind.i64 (a+(1:Int))<(Nat.cast:Nat->Int) (List.length l))
 /\(0:Int)<=s/\s<(900:Int))/\∀(x:Int),x=(Nat.cast:Nat->Int) («Sort».median I.aX {toList:=l} (Int.toNat (IntKind.wrap IntKind.i64 (a-(1:Int)))) (Int.toNat a) (Int.toNat (IntKind.wrap IntKind.i64 (a+(1:Int)))) (Int.toNat s)).2
 ->∀(au:Int),au=(Nat.cast:Nat->Int) («Sort».median I.aX {toList:=l} (Int.toNat (IntKind.wrap IntKind.i64 (a-(1:Int)))) (Int.toNat a) (Int.toNat (IntKind.wrap IntKind.i64 (a+(1:Int)))) (Int.toNat s)).1
 ->K (ad.cells [J.d (R.int IntKind.i64 x)]) (J.d (R.int IntKind.i64 au))
def Jc:I.Rows->Int->Int->(J->Prop)->Prop:=
 fun(l:I.Rows) (a b:Int) (K:J->Prop)=>∃(a8:Int->Int->Prop),((decide ((8:Int)<=IntKind.wrap IntKind.i64 (b-a))=true->∃(oA:Int->Int->Int->Int->Prop),((decide ((50:Int)<=IntKind.wrap IntKind.i64 (b-a))=true
 ->(I.cQ l/\(0:Int)<IntKind.wrap IntKind.i64 (a+IntKind.wrap IntKind.i64 (IntKind.wrap IntKind.i64 (Int.tdiv (IntKind.wrap IntKind.i64 (b-a)) (4:Int))*(1:Int)))/\IntKind.wrap IntKind.i64 (a+IntKind.wrap IntKind.i64 (IntKind.wrap IntKind.i64 (Int.tdiv (IntKind.wrap IntKind.i64 (b-a)) (4:Int))*(1:Int)))+(1:Int)<(Nat.cast:Nat
 ->Int) (List.length l)/\List.length l<(1000000000000000:Nat)/\(0:Int)<=(0:Int)/\(0:Int)<(900:Int))/\∀(x:Int),x=(Nat.cast:Nat->Int) («Sort».medianAdjacent I.aX {toList:=l} (Int.toNat (IntKind.wrap IntKind.i64 (a+IntKind.wrap IntKind.i64 (IntKind.wrap IntKind.i64 (Int.tdiv (IntKind.wrap IntKind.i64 (b-a)) (4:Int))*(1:Int))))) (0:Nat)).2
 ->∀(au:Int),au=(Nat.cast:Nat->Int) («Sort».medianAdjacent I.aX {toList:=l} (Int.toNat (IntKind.wrap IntKind.i64 (a+IntKind.wrap IntKind.i64 (IntKind.wrap IntKind.i64 (Int.tdiv (IntKind.wrap IntKind.i64 (b-a)) (4:Int))*(1:Int))))) (0:Nat)).1
 ->(I.cQ l/\(0:Int)<IntKind.wrap IntKind.i64 (a+IntKind.wrap IntKind.i64 (IntKind.wrap IntKind.i64 (Int.tdiv (IntKind.wrap IntKind.i64 (b-a)) (4:Int))*(2:Int)))/\IntKind.wrap IntKind.i64 (a+IntKind.wrap IntKind.i64 (IntKind.wrap IntKind.i64 (Int.tdiv (IntKind.wrap IntKind.i64 (b-a)) (4:Int))*(2:Int)))+(1:Int)<(Nat.cast:Nat
 ->Int) (List.length l)/\List.length l<(1000000000000000:Nat)/\(0:Int)<=x/\x<(900:Int))/\∀(ax:Int),ax=(Nat.cast:Nat->Int) («Sort».medianAdjacent I.aX {toList:=l} (Int.toNat (IntKind.wrap IntKind.i64 (a+IntKind.wrap IntKind.i64 (IntKind.wrap IntKind.i64 (Int.tdiv (IntKind.wrap IntKind.i64 (b-a)) (4:Int))*(2:Int))))) (Int.toNat x)).2
 ->∀(aJ:Int),aJ=(Nat.cast:Nat->Int) («Sort».medianAdjacent I.aX {toList:=l} (Int.toNat (IntKind.wrap IntKind.i64 (a+IntKind.wrap IntKind.i64 (IntKind.wrap IntKind.i64 (Int.tdiv (IntKind.wrap IntKind.i64 (b-a)) (4:Int))*(2:Int))))) (Int.toNat x)).1
 ->(I.cQ l/\(0:Int)<IntKind.wrap IntKind.i64 (a+IntKind.wrap IntKind.i64 (IntKind.wrap IntKind.i64 (Int.tdiv (IntKind.wrap IntKind.i64 (b-a)) (4:Int))*(3:Int)))/\IntKind.wrap IntKind.i64 (a+IntKind.wrap IntKind.i64 (IntKind.wrap IntKind.i64 (Int.tdiv (IntKind.wrap IntKind.i64 (b-a)) (4:Int))*(3:Int)))+(1:Int)<(Nat.cast:Nat
 ->Int) (List.length l)/\List.length l<(1000000000000000:Nat)/\(0:Int)<=ax/\ax<(900:Int))/\∀(x:Int),x=(Nat.cast:Nat->Int) («Sort».medianAdjacent I.aX {toList:=l} (Int.toNat (IntKind.wrap IntKind.i64 (a+IntKind.wrap IntKind.i64 (IntKind.wrap IntKind.i64 (Int.tdiv (IntKind.wrap IntKind.i64 (b-a)) (4:Int))*(3:Int))))) (Int.toNat ax)).2
 ->∀(bb:Int),bb=(Nat.cast:Nat->Int) («Sort».medianAdjacent I.aX {toList:=l} (Int.toNat (IntKind.wrap IntKind.i64 (a+IntKind.wrap IntKind.i64 (IntKind.wrap IntKind.i64 (Int.tdiv (IntKind.wrap IntKind.i64 (b-a)) (4:Int))*(3:Int))))) (Int.toNat ax)).1
 ->oA au aJ bb x)/\(decide ((50:Int)<=IntKind.wrap IntKind.i64 (b-a))=false->oA (IntKind.wrap IntKind.i64 (a+IntKind.wrap IntKind.i64 (IntKind.wrap IntKind.i64 (Int.tdiv (IntKind.wrap IntKind.i64 (b-a)) (4:Int))*(1:Int)))) (IntKind.wrap IntKind.i64 (a+IntKind.wrap IntKind.i64 (IntKind.wrap IntKind.i64 (Int.tdiv (IntKind.wrap IntKind.i64 (b-a)) (4:Int))*(2:Int)))) (IntKind.wrap IntKind.i64 (a+IntKind.wrap IntKind.i64 (IntKind.wrap IntKind.i64 (Int.tdiv (IntKind.wrap IntKind.i64 (b-a)) (4:Int))*(3:Int)))) (0:Int)))
 /\∀(v12 bR cR s:Int),oA v12 bR cR s->(I.cQ l/\((0:Int)<=v12/\v12<(Nat.cast:Nat->Int) (List.length l))/\((0:Int)<=bR/\bR<(Nat.cast:Nat->Int) (List.length l))/\((0:Int)<=cR
 /\cR<(Nat.cast:Nat->Int) (List.length l))/\(0:Int)<=s/\s<(900:Int))/\∀(x:Int),x=(Nat.cast:Nat->Int) («Sort».median I.aX {toList:=l} (Int.toNat v12) (Int.toNat bR) (Int.toNat cR) (Int.toNat s)).2
 ->∀(au:Int),au=(Nat.cast:Nat->Int) («Sort».median I.aX {toList:=l} (Int.toNat v12) (Int.toNat bR) (Int.toNat cR) (Int.toNat s)).1->a8 au x)/\(decide ((8:Int)<=IntKind.wrap IntKind.i64 (b-a))=false
 ->a8 (IntKind.wrap IntKind.i64 (a+IntKind.wrap IntKind.i64 (IntKind.wrap IntKind.i64 (Int.tdiv (IntKind.wrap IntKind.i64 (b-a)) (4:Int))*(2:Int)))) (0:Int)))/\∀(bR s:Int),a8 bR s->(decide (s=(0:Int))=true
 ->K (J.tup [J.d (R.int IntKind.i64 bR),J.d (R.int IntKind.i64 (1:Int))]))/\(decide (s=(0:Int))=false->(decide (s=(12:Int))=true->K (J.tup [J.d (R.int IntKind.i64 bR),J.d (R.int IntKind.i64 (2:Int))]))
 /\(decide (s=(12:Int))=false->K (J.tup [J.d (R.int IntKind.i64 bR),J.d (R.int IntKind.i64 (0:Int))])))
def I_:I.Rows->Int->Int->(ad->J->Prop)->Prop:=
 fun(l:I.Rows) (a b:Int) (K:ad->J->Prop)=>(decide ((8:Int)<=IntKind.wrap IntKind.i64 (b-a))=true->((0:Int)<=IntKind.wrap IntKind.i64 (b-a)/\IntKind.wrap IntKind.i64 (b-a)<(4611686018427387904:Int))
 /\∀(x:Int),x=(Nat.cast:Nat->Int) ((2:Nat)^I.cL (Int.toNat (IntKind.wrap IntKind.i64 (b-a))))->∃(aD:Int->List (List R)->Int->Prop),∃(m:Int->List (List R)->Int->Nat),aD (IntKind.wrap IntKind.i64 (IntKind.wrap IntKind.i64 (a+IntKind.wrap IntKind.i64 (IntKind.wrap IntKind.i64 (Int.tdiv (IntKind.wrap IntKind.i64 (b-a)) (4:Int))*(2:Int)))-(1:Int))) l (IntKind.wrap IntKind.u64 (IntKind.wrap IntKind.i64 (b-a)))
 /\∀(v11:Int) (ai:List (List R)) (r:Int),aD v11 ai r->(decide (v11<=IntKind.wrap IntKind.i64 (IntKind.wrap IntKind.i64 (a+IntKind.wrap IntKind.i64 (IntKind.wrap IntKind.i64 (Int.tdiv (IntKind.wrap IntKind.i64 (b-a)) (4:Int))*(2:Int)))+(1:Int)))=true
 ->((0:Int)<=r/\r<(18446744073709551616:Int))/\∀(i:Int),(0:Int)<=i/\i<(18446744073709551616:Int)->∃(a8:Int->List (List R)->Prop),((decide (IntKind.wrap IntKind.i64 (b-a)<=IntKind.wrap IntKind.i64 (bk BinOp.and IntKind.u64 i (IntKind.wrap IntKind.u64 (x-(1:Int)))))=true
 ->(false,ad.cells [J.d (R.int IntKind.u64 i)])=(false,ad.cells [J.d (R.int IntKind.u64 i)])/\a8 (IntKind.wrap IntKind.i64 (IntKind.wrap IntKind.i64 (bk BinOp.and IntKind.u64 i (IntKind.wrap IntKind.u64 (x-(1:Int))))-IntKind.wrap IntKind.i64 (b-a))) ai)
 /\(decide (IntKind.wrap IntKind.i64 (b-a)<=IntKind.wrap IntKind.i64 (bk BinOp.and IntKind.u64 i (IntKind.wrap IntKind.u64 (x-(1:Int)))))=false->(false,ad.cells [J.d (R.int IntKind.u64 i)])=(false,ad.cells [J.d (R.int IntKind.u64 i)])
 /\a8 (IntKind.wrap IntKind.i64 (bk BinOp.and IntKind.u64 i (IntKind.wrap IntKind.u64 (x-(1:Int))))) ai))/\∀(v12:Int) (bq:List (List R)),a8 v12 bq->(0:Int)<=IntKind.wrap IntKind.i64 (a+v12)
 /\IntKind.wrap IntKind.i64 (a+v12)<(Nat.cast:Nat->Int) (List.length bq)/\List.length (List.getD bq (Int.toNat (IntKind.wrap IntKind.i64 (a+v12))) [])=(11:Nat)/\(0:Int)<=v11/\v11<(Nat.cast:Nat
 ->Int) (List.length bq)/\List.length (List.getD bq (Int.toNat v11) [])=(11:Nat)/\(0:Int)<=v11/\v11<(Nat.cast:Nat->Int) (List.length bq)/\(0:Int)<=IntKind.wrap IntKind.i64 (a+v12)
 /\IntKind.wrap IntKind.i64 (a+v12)<(Nat.cast:Nat->Int) (List.length (List.set bq (Int.toNat v11) (List.getD bq (Int.toNat (IntKind.wrap IntKind.i64 (a+v12))) [])))/\aD (IntKind.wrap IntKind.i64 (v11+(1:Int))) (List.set (List.set bq (Int.toNat v11) (List.getD bq (Int.toNat (IntKind.wrap IntKind.i64 (a+v12))) [])) (Int.toNat (IntKind.wrap IntKind.i64 (a+v12))) (List.getD bq (Int.toNat v11) [])) i
 /\m (IntKind.wrap IntKind.i64 (v11+(1:Int))) (List.set (List.set bq (Int.toNat v11) (List.getD bq (Int.toNat (IntKind.wrap IntKind.i64 (a+v12))) [])) (Int.toNat (IntKind.wrap IntKind.i64 (a+v12))) (List.getD bq (Int.toNat v11) [])) i<m v11 ai r)
 /\(decide (v11<=IntKind.wrap IntKind.i64 (IntKind.wrap IntKind.i64 (a+IntKind.wrap IntKind.i64 (IntKind.wrap IntKind.i64 (Int.tdiv (IntKind.wrap IntKind.i64 (b-a)) (4:Int))*(2:Int)))+(1:Int)))=false
 ->K (ad.rows (11:Nat) ai) (J.tup [])))/\(decide ((8:Int)<=IntKind.wrap IntKind.i64 (b-a))=false->K (ad.rows (11:Nat) l) (J.tup []))
def Jl:Nat->I.Rows->Int->Int->Int->(ad->J->Prop)->Prop:=
 fun(n:Nat) (l:I.Rows) (a b m:Int) (K:ad->J->Prop)=>∃(aD:Int->Int->Int->Bool->Bool->List (List R)->Prop),∃(e_:Int->Int->Int->Bool->Bool->List (List R)->Nat),aD a b m true true l
 /\∀(v1 v2 v3:Int) (v10 v11:Bool) (ai:List (List R)),aD v1 v2 v3 v10 v11 ai->(decide (IntKind.wrap IntKind.i64 (v2-v1)<=(12:Int))=true->I.fe ai v1 v2/\∀(x:List (List R)),x=(«Sort».insertionSort I.aX {toList:=ai} (Int.toNat v1) (Int.toNat v2)).1
 ->K (ad.rows (11:Nat) x) (J.tup []))/\(decide (IntKind.wrap IntKind.i64 (v2-v1)<=(12:Int))=false->(decide (v3=(0:Int))=true->(0:Nat)<List.length ai/\(I.fe ai v1 v2/\v1<v2)
 /\∀(x:List (List R)),x=(«Sort».heapSort I.aX {toList:=ai} (Int.toNat v1) (Int.toNat v2)).1->K (ad.rows (11:Nat) x) (J.tup []))/\(decide (v3=(0:Int))=false->∃(a8:Int->List (List R)
 ->Prop),(((!v10)=true->(0:Nat)<List.length ai/\I.fe ai v1 v2/\∀(i:List (List R)),I.CL ai v1 v2 i->a8 (IntKind.wrap IntKind.i64 (v3-(1:Int))) i)/\((!v10)=false->a8 v3 ai))
 /\∀(ju:Int) (bq:List (List R)),a8 ju bq->(I.fe bq v1 v2/\v1<v2)/\∀(x:Int),x=(Nat.cast:Nat->Int) («Sort».choosePivot I.aX {toList:=bq} (Int.toNat v1) (Int.toNat v2)).1
 ->∀(au:Int),au= «Sort».hintCode («Sort».choosePivot I.aX {toList:=bq} (Int.toNat v1) (Int.toNat v2)).2->∃(a8:Int->Int->List (List R)->Prop),((decide (au=(2:Int))=true->(0:Nat)<List.length bq
 /\I.fe bq v1 v2/\∀(ax:List (List R)),ax=(«Sort».reverseRange {toList:=bq} (Int.toNat v1) (Int.toNat v2)).1->a8 (IntKind.wrap IntKind.i64 (IntKind.wrap IntKind.i64 (v2-(1:Int))-IntKind.wrap IntKind.i64 (x-v1))) (1:Int) ax)
 /\(decide (au=(2:Int))=false->a8 x au bq))/\∀(bR cR:Int) (cT:List (List R)),a8 bR cR cT->∃(a8:List (List R)->Prop),((v10=true->(v11=true->(decide (cR=(1:Int))=true
 ->(0:Nat)<List.length cT/\(I.fe cT v1 v2/\v1<v2)/\∀(x:List (List R)),x=(«Sort».partialInsertionSort I.aX {toList:=cT} (Int.toNat v1) (Int.toNat v2)).1.1->∀(ax:Bool),ax=(«Sort».partialInsertionSort I.aX {toList:=cT} (Int.toNat v1) (Int.toNat v2)).2
 ->(ax=true->K (ad.rows (11:Nat) x) (J.tup []))/\(ax=false->a8 x))/\(decide (cR=(1:Int))=false->a8 cT))/\(v11=false->a8 cT))/\(v10=false->a8 cT))/\∀(dU:List (List R)),a8 dU
 ->(decide ((0:Int)<v1)=true->(0:Int)<=IntKind.wrap IntKind.i64 (v1-(1:Int))/\IntKind.wrap IntKind.i64 (v1-(1:Int))<(Nat.cast:Nat->Int) (List.length dU)/\List.length (List.getD dU (Int.toNat (IntKind.wrap IntKind.i64 (v1-(1:Int)))) [])=(11:Nat)
 /\(0:Int)<=bR/\bR<(Nat.cast:Nat->Int) (List.length dU)/\List.length (List.getD dU (Int.toNat bR) [])=(11:Nat)/\(I.dZ (List.getD dU (Int.toNat (IntKind.wrap IntKind.i64 (v1-(1:Int)))) [])
 /\I.dZ (List.getD dU (Int.toNat bR) []))/\∀(x:Int),x=I.fX (List.getD dU (Int.toNat (IntKind.wrap IntKind.i64 (v1-(1:Int)))) []) (List.getD dU (Int.toNat bR) [])->((!decide (x<(0:Int)))=true
 ->(0:Nat)<List.length dU/\(I.fe dU v1 v2/\v1<=bR/\bR<v2)/\∀(x:List (List R)),x=(«Sort».partitionEqual I.aX {toList:=dU} (Int.toNat v1) (Int.toNat v2) (Int.toNat bR)).2.1
 ->∀(ax:Int),ax=(Nat.cast:Nat->Int) («Sort».partitionEqual I.aX {toList:=dU} (Int.toNat v1) (Int.toNat v2) (Int.toNat bR)).1->aD ax v2 ju v10 v11 x/\e_ ax v2 ju v10 v11 x<e_ v1 v2 v3 v10 v11 ai)
 /\((!decide (x<(0:Int)))=false->(0:Nat)<List.length dU/\(I.fe dU v1 v2/\v1<=bR/\bR<v2)/\∀(x:List (List R)),x=(«Sort».partition I.aX {toList:=dU} (Int.toNat v1) (Int.toNat v2) (Int.toNat bR)).2.2.1
 ->∀(ax:Int),ax=(Nat.cast:Nat->Int) («Sort».partition I.aX {toList:=dU} (Int.toNat v1) (Int.toNat v2) (Int.toNat bR)).1->∀(aJ:Bool),aJ=(«Sort».partition I.aX {toList:=dU} (Int.toNat v1) (Int.toNat v2) (Int.toNat bR)).2.1
 ->(decide (IntKind.wrap IntKind.i64 (ax-v1)<IntKind.wrap IntKind.i64 (v2-ax))=true->(I.fe x v1 ax/\ax-v1<(Nat.cast:Nat->Int) n/\((0:Int)<=ju/\ju<=(64:Int))/\ «Sort».Below I.aX (Int.toNat v1) (Int.toNat ax) {toList:=x})
 /\∀(i:List (List R)),I.kQ x v1 ax i->aD (IntKind.wrap IntKind.i64 (ax+(1:Int))) v2 ju (decide (IntKind.wrap IntKind.i64 (Int.tdiv (IntKind.wrap IntKind.i64 (v2-v1)) (8:Int))<=IntKind.wrap IntKind.i64 (ax-v1))) aJ i
 /\e_ (IntKind.wrap IntKind.i64 (ax+(1:Int))) v2 ju (decide (IntKind.wrap IntKind.i64 (Int.tdiv (IntKind.wrap IntKind.i64 (v2-v1)) (8:Int))<=IntKind.wrap IntKind.i64 (ax-v1))) aJ i<e_ v1 v2 v3 v10 v11 ai)
 /\(decide (IntKind.wrap IntKind.i64 (ax-v1)<IntKind.wrap IntKind.i64 (v2-ax))=false->(I.fe x (IntKind.wrap IntKind.i64 (ax+(1:Int))) v2/\v2-IntKind.wrap IntKind.i64 (ax+(1:Int))<(Nat.cast:Nat
 ->Int) n/\((0:Int)<=ju/\ju<=(64:Int))/\ «Sort».Below I.aX (Int.toNat (IntKind.wrap IntKind.i64 (ax+(1:Int)))) (Int.toNat v2) {toList:=x})/\∀(i:List (List R)),I.kQ x (IntKind.wrap IntKind.i64 (ax+(1:Int))) v2 i
 ->aD v1 ax ju (decide (IntKind.wrap IntKind.i64 (Int.tdiv (IntKind.wrap IntKind.i64 (v2-v1)) (8:Int))<=IntKind.wrap IntKind.i64 (v2-ax))) aJ i/\e_ v1 ax ju (decide (IntKind.wrap IntKind.i64 (Int.tdiv (IntKind.wrap IntKind.i64 (v2-v1)) (8:Int))<=IntKind.wrap IntKind.i64 (v2-ax))) aJ i<e_ v1 v2 v3 v10 v11 ai)))
 /\(decide ((0:Int)<v1)=false->(0:Nat)<List.length dU/\(I.fe dU v1 v2/\v1<=bR/\bR<v2)/\∀(x:List (List R)),x=(«Sort».partition I.aX {toList:=dU} (Int.toNat v1) (Int.toNat v2) (Int.toNat bR)).2.2.1
 ->∀(ax:Int),ax=(Nat.cast:Nat->Int) («Sort».partition I.aX {toList:=dU} (Int.toNat v1) (Int.toNat v2) (Int.toNat bR)).1->∀(aJ:Bool),aJ=(«Sort».partition I.aX {toList:=dU} (Int.toNat v1) (Int.toNat v2) (Int.toNat bR)).2.1
 ->(decide (IntKind.wrap IntKind.i64 (ax-v1)<IntKind.wrap IntKind.i64 (v2-ax))=true->(I.fe x v1 ax/\ax-v1<(Nat.cast:Nat->Int) n/\((0:Int)<=ju/\ju<=(64:Int))/\ «Sort».Below I.aX (Int.toNat v1) (Int.toNat ax) {toList:=x})
 /\∀(i:List (List R)),I.kQ x v1 ax i->aD (IntKind.wrap IntKind.i64 (ax+(1:Int))) v2 ju (decide (IntKind.wrap IntKind.i64 (Int.tdiv (IntKind.wrap IntKind.i64 (v2-v1)) (8:Int))<=IntKind.wrap IntKind.i64 (ax-v1))) aJ i
 /\e_ (IntKind.wrap IntKind.i64 (ax+(1:Int))) v2 ju (decide (IntKind.wrap IntKind.i64 (Int.tdiv (IntKind.wrap IntKind.i64 (v2-v1)) (8:Int))<=IntKind.wrap IntKind.i64 (ax-v1))) aJ i<e_ v1 v2 v3 v10 v11 ai)
 /\(decide (IntKind.wrap IntKind.i64 (ax-v1)<IntKind.wrap IntKind.i64 (v2-ax))=false->(I.fe x (IntKind.wrap IntKind.i64 (ax+(1:Int))) v2/\v2-IntKind.wrap IntKind.i64 (ax+(1:Int))<(Nat.cast:Nat
 ->Int) n/\((0:Int)<=ju/\ju<=(64:Int))/\ «Sort».Below I.aX (Int.toNat (IntKind.wrap IntKind.i64 (ax+(1:Int)))) (Int.toNat v2) {toList:=x})/\∀(i:List (List R)),I.kQ x (IntKind.wrap IntKind.i64 (ax+(1:Int))) v2 i
 ->aD v1 ax ju (decide (IntKind.wrap IntKind.i64 (Int.tdiv (IntKind.wrap IntKind.i64 (v2-v1)) (8:Int))<=IntKind.wrap IntKind.i64 (v2-ax))) aJ i/\e_ v1 ax ju (decide (IntKind.wrap IntKind.i64 (Int.tdiv (IntKind.wrap IntKind.i64 (v2-v1)) (8:Int))<=IntKind.wrap IntKind.i64 (v2-ax))) aJ i<e_ v1 v2 v3 v10 v11 ai))))
def Je:I.Rows->(ad->J->Prop)->Prop:=
 fun(l:I.Rows) (K:ad->J->Prop)=>((0:Int)<=IntKind.wrap IntKind.u64 ((Nat.cast:Nat->Int) (List.length l))/\IntKind.wrap IntKind.u64 ((Nat.cast:Nat->Int) (List.length l))<(18446744073709551616:Int))
 /\∀(x:Int),x=(Nat.cast:Nat->Int) (I.cL (Int.toNat (IntKind.wrap IntKind.u64 ((Nat.cast:Nat->Int) (List.length l)))))->(I.fe l (0:Int) ((Nat.cast:Nat->Int) (List.length l))/\((0:Int)<=x
 /\x<=(64:Int))/\ «Sort».Below I.aX (0:Nat) (Int.toNat ((Nat.cast:Nat->Int) (List.length l))) {toList:=l})/\∀(i:List (List R)),I.kQ l (0:Int) ((Nat.cast:Nat->Int) (List.length l)) i
 ->K (ad.rows (11:Nat) i) (J.tup [])
end I
end
section
open Go Go.bG
namespace I
def Ja:I.Rows->Int->Int->(ad->J->Prop)->Prop:=
 fun(l:I.Rows) (a b:Int) (K:ad->J->Prop)=>∃(aD:Int->List (List R)->Prop),∃(m:Int->List (List R)->Nat),aD (IntKind.wrap IntKind.i64 (a+(1:Int))) l/\∀(aV:Int) (ai:List (List R)),aD aV ai
 ->(decide (aV<b)=true->∃(fz:Int->List (List R)->Prop),∃(e_:Int->List (List R)->Nat),fz aV ai/\∀(v9:Int) (bq:List (List R)),fz v9 bq->(decide (a<v9)=true->(0:Int)<=v9
 /\v9<(Nat.cast:Nat->Int) (List.length bq)/\List.length (List.getD bq (Int.toNat v9) [])=(11:Nat)/\(0:Int)<=IntKind.wrap IntKind.i64 (v9-(1:Int))/\IntKind.wrap IntKind.i64 (v9-(1:Int))<(Nat.cast:Nat
 ->Int) (List.length bq)/\List.length (List.getD bq (Int.toNat (IntKind.wrap IntKind.i64 (v9-(1:Int)))) [])=(11:Nat)/\(I.dZ (List.getD bq (Int.toNat v9) [])/\I.dZ (List.getD bq (Int.toNat (IntKind.wrap IntKind.i64 (v9-(1:Int)))) []))
 /\∀(x:Int),x=I.fX (List.getD bq (Int.toNat v9) []) (List.getD bq (Int.toNat (IntKind.wrap IntKind.i64 (v9-(1:Int)))) [])->(decide (x<(0:Int))=true->(0:Int)<=IntKind.wrap IntKind.i64 (v9-(1:Int))
 /\IntKind.wrap IntKind.i64 (v9-(1:Int))<(Nat.cast:Nat->Int) (List.length bq)/\List.length (List.getD bq (Int.toNat (IntKind.wrap IntKind.i64 (v9-(1:Int)))) [])=(11:Nat)/\(0:Int)<=v9
 /\v9<(Nat.cast:Nat->Int) (List.length bq)/\List.length (List.getD bq (Int.toNat v9) [])=(11:Nat)/\(0:Int)<=v9/\v9<(Nat.cast:Nat->Int) (List.length bq)/\(0:Int)<=IntKind.wrap IntKind.i64 (v9-(1:Int))
 /\IntKind.wrap IntKind.i64 (v9-(1:Int))<(Nat.cast:Nat->Int) (List.length (List.set bq (Int.toNat v9) (List.getD bq (Int.toNat (IntKind.wrap IntKind.i64 (v9-(1:Int)))) [])))/\fz (IntKind.wrap IntKind.i64 (v9-(1:Int))) (List.set (List.set bq (Int.toNat v9) (List.getD bq (Int.toNat (IntKind.wrap IntKind.i64 (v9-(1:Int)))) [])) (Int.toNat (IntKind.wrap IntKind.i64 (v9-(1:Int)))) (List.getD bq (Int.toNat v9) []))
 /\e_ (IntKind.wrap IntKind.i64 (v9-(1:Int))) (List.set (List.set bq (Int.toNat v9) (List.getD bq (Int.toNat (IntKind.wrap IntKind.i64 (v9-(1:Int)))) [])) (Int.toNat (IntKind.wrap IntKind.i64 (v9-(1:Int)))) (List.getD bq (Int.toNat v9) []))<e_ v9 bq)
 /\(decide (x<(0:Int))=false->aD (IntKind.wrap IntKind.i64 (aV+(1:Int))) bq/\m (IntKind.wrap IntKind.i64 (aV+(1:Int))) bq<m aV ai))/\(decide (a<v9)=false->aD (IntKind.wrap IntKind.i64 (aV+(1:Int))) bq
 /\m (IntKind.wrap IntKind.i64 (aV+(1:Int))) bq<m aV ai))/\(decide (aV<b)=false->K (ad.rows (11:Nat) ai) (J.tup []))
def Jj:I.Rows->Int->Int->Int->(ad->J->Prop)->Prop:=
 fun(l:I.Rows) (vo hi f:Int) (K:ad->J->Prop)=>∃(aD:Int->List (List R)->Prop),∃(m:Int->List (List R)->Nat),aD vo l/\∀(v10:Int) (ai:List (List R)),aD v10 ai->(decide (hi<=IntKind.wrap IntKind.i64 (IntKind.wrap IntKind.i64 ((2:Int)*v10)+(1:Int)))=true
 ->K (ad.rows (11:Nat) ai) (J.tup []))/\(decide (hi<=IntKind.wrap IntKind.i64 (IntKind.wrap IntKind.i64 ((2:Int)*v10)+(1:Int)))=false->∃(a8:Int->List (List R)->Prop),((decide (IntKind.wrap IntKind.i64 (IntKind.wrap IntKind.i64 (IntKind.wrap IntKind.i64 ((2:Int)*v10)+(1:Int))+(1:Int))<hi)=true
 ->(0:Int)<=IntKind.wrap IntKind.i64 (f+IntKind.wrap IntKind.i64 (IntKind.wrap IntKind.i64 ((2:Int)*v10)+(1:Int)))/\IntKind.wrap IntKind.i64 (f+IntKind.wrap IntKind.i64 (IntKind.wrap IntKind.i64 ((2:Int)*v10)+(1:Int)))<(Nat.cast:Nat
 ->Int) (List.length ai)/\List.length (List.getD ai (Int.toNat (IntKind.wrap IntKind.i64 (f+IntKind.wrap IntKind.i64 (IntKind.wrap IntKind.i64 ((2:Int)*v10)+(1:Int))))) [])=(11:Nat)/\(0:Int)<=IntKind.wrap IntKind.i64 (IntKind.wrap IntKind.i64 (f+IntKind.wrap IntKind.i64 (IntKind.wrap IntKind.i64 ((2:Int)*v10)+(1:Int)))+(1:Int))
 /\IntKind.wrap IntKind.i64 (IntKind.wrap IntKind.i64 (f+IntKind.wrap IntKind.i64 (IntKind.wrap IntKind.i64 ((2:Int)*v10)+(1:Int)))+(1:Int))<(Nat.cast:Nat->Int) (List.length ai)/\List.length (List.getD ai (Int.toNat (IntKind.wrap IntKind.i64 (IntKind.wrap IntKind.i64 (f+IntKind.wrap IntKind.i64 (IntKind.wrap IntKind.i64 ((2:Int)*v10)+(1:Int)))+(1:Int)))) [])=(11:Nat)
 /\(I.dZ (List.getD ai (Int.toNat (IntKind.wrap IntKind.i64 (f+IntKind.wrap IntKind.i64 (IntKind.wrap IntKind.i64 ((2:Int)*v10)+(1:Int))))) [])/\I.dZ (List.getD ai (Int.toNat (IntKind.wrap IntKind.i64 (IntKind.wrap IntKind.i64 (f+IntKind.wrap IntKind.i64 (IntKind.wrap IntKind.i64 ((2:Int)*v10)+(1:Int)))+(1:Int)))) []))
 /\∀(x:Int),x=I.fX (List.getD ai (Int.toNat (IntKind.wrap IntKind.i64 (f+IntKind.wrap IntKind.i64 (IntKind.wrap IntKind.i64 ((2:Int)*v10)+(1:Int))))) []) (List.getD ai (Int.toNat (IntKind.wrap IntKind.i64 (IntKind.wrap IntKind.i64 (f+IntKind.wrap IntKind.i64 (IntKind.wrap IntKind.i64 ((2:Int)*v10)+(1:Int)))+(1:Int)))) [])
 ->(decide (x<(0:Int))=true->a8 (IntKind.wrap IntKind.i64 (IntKind.wrap IntKind.i64 (IntKind.wrap IntKind.i64 ((2:Int)*v10)+(1:Int))+(1:Int))) ai)/\(decide (x<(0:Int))=false->a8 (IntKind.wrap IntKind.i64 (IntKind.wrap IntKind.i64 ((2:Int)*v10)+(1:Int))) ai))
 /\(decide (IntKind.wrap IntKind.i64 (IntKind.wrap IntKind.i64 (IntKind.wrap IntKind.i64 ((2:Int)*v10)+(1:Int))+(1:Int))<hi)=false->a8 (IntKind.wrap IntKind.i64 (IntKind.wrap IntKind.i64 ((2:Int)*v10)+(1:Int))) ai))
 /\∀(v11:Int) (bq:List (List R)),a8 v11 bq->(0:Int)<=IntKind.wrap IntKind.i64 (f+v10)/\IntKind.wrap IntKind.i64 (f+v10)<(Nat.cast:Nat->Int) (List.length bq)/\List.length (List.getD bq (Int.toNat (IntKind.wrap IntKind.i64 (f+v10))) [])=(11:Nat)
 /\(0:Int)<=IntKind.wrap IntKind.i64 (f+v11)/\IntKind.wrap IntKind.i64 (f+v11)<(Nat.cast:Nat->Int) (List.length bq)/\List.length (List.getD bq (Int.toNat (IntKind.wrap IntKind.i64 (f+v11))) [])=(11:Nat)
 /\(I.dZ (List.getD bq (Int.toNat (IntKind.wrap IntKind.i64 (f+v10))) [])/\I.dZ (List.getD bq (Int.toNat (IntKind.wrap IntKind.i64 (f+v11))) []))/\∀(x:Int),x=I.fX (List.getD bq (Int.toNat (IntKind.wrap IntKind.i64 (f+v10))) []) (List.getD bq (Int.toNat (IntKind.wrap IntKind.i64 (f+v11))) [])
 ->((!decide (x<(0:Int)))=true->K (ad.rows (11:Nat) bq) (J.tup []))/\((!decide (x<(0:Int)))=false->(0:Int)<=IntKind.wrap IntKind.i64 (f+v11)/\IntKind.wrap IntKind.i64 (f+v11)<(Nat.cast:Nat
 ->Int) (List.length bq)/\List.length (List.getD bq (Int.toNat (IntKind.wrap IntKind.i64 (f+v11))) [])=(11:Nat)/\(0:Int)<=IntKind.wrap IntKind.i64 (f+v10)/\IntKind.wrap IntKind.i64 (f+v10)<(Nat.cast:Nat
 ->Int) (List.length bq)/\List.length (List.getD bq (Int.toNat (IntKind.wrap IntKind.i64 (f+v10))) [])=(11:Nat)/\(0:Int)<=IntKind.wrap IntKind.i64 (f+v10)/\IntKind.wrap IntKind.i64 (f+v10)<(Nat.cast:Nat
 ->Int) (List.length bq)/\(0:Int)<=IntKind.wrap IntKind.i64 (f+v11)/\IntKind.wrap IntKind.i64 (f+v11)<(Nat.cast:Nat->Int) (List.length (List.set bq (Int.toNat (IntKind.wrap IntKind.i64 (f+v10))) (List.getD bq (Int.toNat (IntKind.wrap IntKind.i64 (f+v11))) [])))
 /\aD v11 (List.set (List.set bq (Int.toNat (IntKind.wrap IntKind.i64 (f+v10))) (List.getD bq (Int.toNat (IntKind.wrap IntKind.i64 (f+v11))) [])) (Int.toNat (IntKind.wrap IntKind.i64 (f+v11))) (List.getD bq (Int.toNat (IntKind.wrap IntKind.i64 (f+v10))) []))
 /\m v11 (List.set (List.set bq (Int.toNat (IntKind.wrap IntKind.i64 (f+v10))) (List.getD bq (Int.toNat (IntKind.wrap IntKind.i64 (f+v11))) [])) (Int.toNat (IntKind.wrap IntKind.i64 (f+v11))) (List.getD bq (Int.toNat (IntKind.wrap IntKind.i64 (f+v10))) []))<m v10 ai))
def Jk:I.Rows->Int->Int->(ad->J->Prop)->Prop:=
 fun(l:I.Rows) (a b:Int) (K:ad->J->Prop)=>∃(a8:List (List R)->Prop),(∃(aD:Int->List (List R)->Prop),∃(m:Int->List (List R)->Nat),aD (IntKind.wrap IntKind.i64 (Int.tdiv (IntKind.wrap IntKind.i64 (IntKind.wrap IntKind.i64 (b-a)-(1:Int))) (2:Int))) l
 /\∀(v11:Int) (ai:List (List R)),aD v11 ai->(decide ((0:Int)<=v11)=true->(0:Nat)<List.length ai/\(I.cQ ai/\(0:Int)<=v11/\v11<=(Nat.cast:Nat->Int) (List.length ai)/\(0:Int)<=IntKind.wrap IntKind.i64 (b-a)
 /\(0:Int)<=a/\a+IntKind.wrap IntKind.i64 (b-a)<=(Nat.cast:Nat->Int) (List.length ai)/\List.length ai<(1000000000000000:Nat))/\aD (IntKind.wrap IntKind.i64 (v11-(1:Int))) («Sort».siftDown I.aX (Int.toNat (IntKind.wrap IntKind.i64 (b-a))) (Int.toNat a) (Int.toNat v11) {toList:=ai}).1
 /\m (IntKind.wrap IntKind.i64 (v11-(1:Int))) («Sort».siftDown I.aX (Int.toNat (IntKind.wrap IntKind.i64 (b-a))) (Int.toNat a) (Int.toNat v11) {toList:=ai}).1<m v11 ai)/\(decide ((0:Int)<=v11)=false
 ->a8 ai))/\∀(ai:List (List R)),a8 ai->∃(aD:Int->List (List R)->Prop),∃(m:Int->List (List R)->Nat),aD (IntKind.wrap IntKind.i64 (IntKind.wrap IntKind.i64 (b-a)-(1:Int))) ai/\∀(v12:Int) (ai:List (List R)),aD v12 ai
 ->(decide ((0:Int)<=v12)=true->(0:Int)<=IntKind.wrap IntKind.i64 (a+v12)/\IntKind.wrap IntKind.i64 (a+v12)<(Nat.cast:Nat->Int) (List.length ai)/\List.length (List.getD ai (Int.toNat (IntKind.wrap IntKind.i64 (a+v12))) [])=(11:Nat)
 /\(0:Int)<=a/\a<(Nat.cast:Nat->Int) (List.length ai)/\List.length (List.getD ai (Int.toNat a) [])=(11:Nat)/\(0:Int)<=a/\a<(Nat.cast:Nat->Int) (List.length ai)/\(0:Int)<=IntKind.wrap IntKind.i64 (a+v12)
 /\IntKind.wrap IntKind.i64 (a+v12)<(Nat.cast:Nat->Int) (List.length (List.set ai (Int.toNat a) (List.getD ai (Int.toNat (IntKind.wrap IntKind.i64 (a+v12))) [])))/\(0:Nat)<List.length (List.set (List.set ai (Int.toNat a) (List.getD ai (Int.toNat (IntKind.wrap IntKind.i64 (a+v12))) [])) (Int.toNat (IntKind.wrap IntKind.i64 (a+v12))) (List.getD ai (Int.toNat a) []))
 /\(I.cQ (List.set (List.set ai (Int.toNat a) (List.getD ai (Int.toNat (IntKind.wrap IntKind.i64 (a+v12))) [])) (Int.toNat (IntKind.wrap IntKind.i64 (a+v12))) (List.getD ai (Int.toNat a) []))/\(0:Int)<=(0:Int)
 /\(0:Int)<=(Nat.cast:Nat->Int) (List.length (List.set (List.set ai (Int.toNat a) (List.getD ai (Int.toNat (IntKind.wrap IntKind.i64 (a+v12))) [])) (Int.toNat (IntKind.wrap IntKind.i64 (a+v12))) (List.getD ai (Int.toNat a) [])))
 /\(0:Int)<=v12/\(0:Int)<=a/\a+v12<=(Nat.cast:Nat->Int) (List.length (List.set (List.set ai (Int.toNat a) (List.getD ai (Int.toNat (IntKind.wrap IntKind.i64 (a+v12))) [])) (Int.toNat (IntKind.wrap IntKind.i64 (a+v12))) (List.getD ai (Int.toNat a) [])))
 /\List.length (List.set (List.set ai (Int.toNat a) (List.getD ai (Int.toNat (IntKind.wrap IntKind.i64 (a+v12))) [])) (Int.toNat (IntKind.wrap IntKind.i64 (a+v12))) (List.getD ai (Int.toNat a) []))<(1000000000000000:Nat))
 /\aD (IntKind.wrap IntKind.i64 (v12-(1:Int))) («Sort».siftDown I.aX (Int.toNat v12) (Int.toNat a) (0:Nat) {toList:=List.set (List.set ai (Int.toNat a) (List.getD ai (Int.toNat (IntKind.wrap IntKind.i64 (a+v12))) [])) (Int.toNat (IntKind.wrap IntKind.i64 (a+v12))) (List.getD ai (Int.toNat a) [])}).1
 /\m (IntKind.wrap IntKind.i64 (v12-(1:Int))) («Sort».siftDown I.aX (Int.toNat v12) (Int.toNat a) (0:Nat) {toList:=List.set (List.set ai (Int.toNat a) (List.getD ai (Int.toNat (IntKind.wrap IntKind.i64 (a+v12))) [])) (Int.toNat (IntKind.wrap IntKind.i64 (a+v12))) (List.getD ai (Int.toNat a) [])}).1<m v12 ai)
 /\(decide ((0:Int)<=v12)=false->K (ad.rows (11:Nat) ai) (J.tup []))
def Ji:I.Rows->Int->Int->Int->(ad->J->Prop)->Prop:=
 fun(l:I.Rows) (a b p:Int) (K:ad->J->Prop)=>(0:Int)<=p/\p<(Nat.cast:Nat->Int) (List.length l)/\List.length (List.getD l (Int.toNat p) [])=(11:Nat)/\(0:Int)<=a/\a<(Nat.cast:Nat
 ->Int) (List.length l)/\List.length (List.getD l (Int.toNat a) [])=(11:Nat)/\(0:Int)<=a/\a<(Nat.cast:Nat->Int) (List.length l)/\(0:Int)<=p/\p<(Nat.cast:Nat->Int) (List.length (List.set l (Int.toNat a) (List.getD l (Int.toNat p) [])))
 /\∃(a8:Int->List (List R)->Prop),(∃(aD:Int->List (List R)->Prop),∃(m:Int->List (List R)->Nat),aD (IntKind.wrap IntKind.i64 (a+(1:Int))) (List.set (List.set l (Int.toNat a) (List.getD l (Int.toNat p) [])) (Int.toNat p) (List.getD l (Int.toNat a) []))
 /\∀(v12:Int) (ai:List (List R)),aD v12 ai->(decide (v12<=IntKind.wrap IntKind.i64 (b-(1:Int)))=true->(0:Int)<=v12/\v12<(Nat.cast:Nat->Int) (List.length ai)/\List.length (List.getD ai (Int.toNat v12) [])=(11:Nat)
 /\(0:Int)<=a/\a<(Nat.cast:Nat->Int) (List.length ai)/\List.length (List.getD ai (Int.toNat a) [])=(11:Nat)/\(I.dZ (List.getD ai (Int.toNat v12) [])/\I.dZ (List.getD ai (Int.toNat a) []))
 /\∀(x:Int),x=I.fX (List.getD ai (Int.toNat v12) []) (List.getD ai (Int.toNat a) [])->(decide (x<(0:Int))=true->aD (IntKind.wrap IntKind.i64 (v12+(1:Int))) ai/\m (IntKind.wrap IntKind.i64 (v12+(1:Int))) ai<m v12 ai)
 /\(decide (x<(0:Int))=false->a8 v12 ai))/\(decide (v12<=IntKind.wrap IntKind.i64 (b-(1:Int)))=false->a8 v12 ai))/\∀(v12:Int) (ai:List (List R)),a8 v12 ai->∃(a8:Int->List (List R)
 ->Prop),(∃(aD:Int->List (List R)->Prop),∃(m:Int->List (List R)->Nat),aD (IntKind.wrap IntKind.i64 (b-(1:Int))) ai/\∀(bR:Int) (ai:List (List R)),aD bR ai->(decide (v12<=bR)=true
 ->(0:Int)<=bR/\bR<(Nat.cast:Nat->Int) (List.length ai)/\List.length (List.getD ai (Int.toNat bR) [])=(11:Nat)/\(0:Int)<=a/\a<(Nat.cast:Nat->Int) (List.length ai)/\List.length (List.getD ai (Int.toNat a) [])=(11:Nat)
 /\(I.dZ (List.getD ai (Int.toNat bR) [])/\I.dZ (List.getD ai (Int.toNat a) []))/\∀(x:Int),x=I.fX (List.getD ai (Int.toNat bR) []) (List.getD ai (Int.toNat a) [])->((!decide (x<(0:Int)))=true
 ->aD (IntKind.wrap IntKind.i64 (bR-(1:Int))) ai/\m (IntKind.wrap IntKind.i64 (bR-(1:Int))) ai<m bR ai)/\((!decide (x<(0:Int)))=false->a8 bR ai))/\(decide (v12<=bR)=false->a8 bR ai))
 /\∀(bR:Int) (ai:List (List R)),a8 bR ai->(decide (bR<v12)=true->(0:Int)<=a/\a<(Nat.cast:Nat->Int) (List.length ai)/\List.length (List.getD ai (Int.toNat a) [])=(11:Nat)/\(0:Int)<=bR
 /\bR<(Nat.cast:Nat->Int) (List.length ai)/\List.length (List.getD ai (Int.toNat bR) [])=(11:Nat)/\(0:Int)<=bR/\bR<(Nat.cast:Nat->Int) (List.length ai)/\(0:Int)<=a/\a<(Nat.cast:Nat
 ->Int) (List.length (List.set ai (Int.toNat bR) (List.getD ai (Int.toNat a) [])))/\K (ad.rows (11:Nat) (List.set (List.set ai (Int.toNat bR) (List.getD ai (Int.toNat a) [])) (Int.toNat a) (List.getD ai (Int.toNat bR) []))) (J.tup [J.d (R.int IntKind.i64 bR),J.d (R.bool true)]))
 /\(decide (bR<v12)=false->(0:Int)<=bR/\bR<(Nat.cast:Nat->Int) (List.length ai)/\List.length (List.getD ai (Int.toNat bR) [])=(11:Nat)/\(0:Int)<=v12/\v12<(Nat.cast:Nat->Int) (List.length ai)
 /\List.length (List.getD ai (Int.toNat v12) [])=(11:Nat)/\(0:Int)<=v12/\v12<(Nat.cast:Nat->Int) (List.length ai)/\(0:Int)<=bR/\bR<(Nat.cast:Nat->Int) (List.length (List.set ai (Int.toNat v12) (List.getD ai (Int.toNat bR) [])))
 /\∃(a8:Int->List (List R)->Prop),(∃(aD:Int->Int->List (List R)->Prop),∃(m:Int->Int->List (List R)->Nat),aD (IntKind.wrap IntKind.i64 (v12+(1:Int))) (IntKind.wrap IntKind.i64 (bR-(1:Int))) (List.set (List.set ai (Int.toNat v12) (List.getD ai (Int.toNat bR) [])) (Int.toNat bR) (List.getD ai (Int.toNat v12) []))
 /\∀(v12 bR:Int) (ai:List (List R)),aD v12 bR ai->∃(oA:Int->List (List R)->Prop),(∃(aD:Int->List (List R)->Prop),∃(m:Int->List (List R)->Nat),aD v12 ai/\∀(v12:Int) (ai:List (List R)),aD v12 ai
 ->(decide (v12<=bR)=true->(0:Int)<=v12/\v12<(Nat.cast:Nat->Int) (List.length ai)/\List.length (List.getD ai (Int.toNat v12) [])=(11:Nat)/\(0:Int)<=a/\a<(Nat.cast:Nat->Int) (List.length ai)
 /\List.length (List.getD ai (Int.toNat a) [])=(11:Nat)/\(I.dZ (List.getD ai (Int.toNat v12) [])/\I.dZ (List.getD ai (Int.toNat a) []))/\∀(x:Int),x=I.fX (List.getD ai (Int.toNat v12) []) (List.getD ai (Int.toNat a) [])
 ->(decide (x<(0:Int))=true->aD (IntKind.wrap IntKind.i64 (v12+(1:Int))) ai/\m (IntKind.wrap IntKind.i64 (v12+(1:Int))) ai<m v12 ai)/\(decide (x<(0:Int))=false->oA v12 ai))/\(decide (v12<=bR)=false
 ->oA v12 ai))/\∀(fO:Int) (bq:List (List R)),oA fO bq->∃(tS:Int->List (List R)->Prop),(∃(aD:Int->List (List R)->Prop),∃(m:Int->List (List R)->Nat),aD bR bq/\∀(bR:Int) (ai:List (List R)),aD bR ai
 ->(decide (fO<=bR)=true->(0:Int)<=bR/\bR<(Nat.cast:Nat->Int) (List.length ai)/\List.length (List.getD ai (Int.toNat bR) [])=(11:Nat)/\(0:Int)<=a/\a<(Nat.cast:Nat->Int) (List.length ai)
 /\List.length (List.getD ai (Int.toNat a) [])=(11:Nat)/\(I.dZ (List.getD ai (Int.toNat bR) [])/\I.dZ (List.getD ai (Int.toNat a) []))/\∀(x:Int),x=I.fX (List.getD ai (Int.toNat bR) []) (List.getD ai (Int.toNat a) [])
 ->((!decide (x<(0:Int)))=true->aD (IntKind.wrap IntKind.i64 (bR-(1:Int))) ai/\m (IntKind.wrap IntKind.i64 (bR-(1:Int))) ai<m bR ai)/\((!decide (x<(0:Int)))=false->tS bR ai))
 /\(decide (fO<=bR)=false->tS bR ai))/\∀(kT:Int) (cT:List (List R)),tS kT cT->(decide (kT<fO)=true->a8 kT cT)/\(decide (kT<fO)=false->(0:Int)<=kT
 /\kT<(Nat.cast:Nat->Int) (List.length cT)/\List.length (List.getD cT (Int.toNat kT) [])=(11:Nat)/\(0:Int)<=fO/\fO<(Nat.cast:Nat->Int) (List.length cT)/\List.length (List.getD cT (Int.toNat fO) [])=(11:Nat)
 /\(0:Int)<=fO/\fO<(Nat.cast:Nat->Int) (List.length cT)/\(0:Int)<=kT/\kT<(Nat.cast:Nat->Int) (List.length (List.set cT (Int.toNat fO) (List.getD cT (Int.toNat kT) [])))
 /\aD (IntKind.wrap IntKind.i64 (fO+(1:Int))) (IntKind.wrap IntKind.i64 (kT-(1:Int))) (List.set (List.set cT (Int.toNat fO) (List.getD cT (Int.toNat kT) [])) (Int.toNat kT) (List.getD cT (Int.toNat fO) []))
 /\m (IntKind.wrap IntKind.i64 (fO+(1:Int))) (IntKind.wrap IntKind.i64 (kT-(1:Int))) (List.set (List.set cT (Int.toNat fO) (List.getD cT (Int.toNat kT) [])) (Int.toNat kT) (List.getD cT (Int.toNat fO) []))<m v12 bR ai))
 /\∀(bR:Int) (ai:List (List R)),a8 bR ai->(0:Int)<=a/\a<(Nat.cast:Nat->Int) (List.length ai)/\List.length (List.getD ai (Int.toNat a) [])=(11:Nat)/\(0:Int)<=bR/\bR<(Nat.cast:Nat
 ->Int) (List.length ai)/\List.length (List.getD ai (Int.toNat bR) [])=(11:Nat)/\(0:Int)<=bR/\bR<(Nat.cast:Nat->Int) (List.length ai)/\(0:Int)<=a/\a<(Nat.cast:Nat->Int) (List.length (List.set ai (Int.toNat bR) (List.getD ai (Int.toNat a) [])))
 /\K (ad.rows (11:Nat) (List.set (List.set ai (Int.toNat bR) (List.getD ai (Int.toNat a) [])) (Int.toNat a) (List.getD ai (Int.toNat bR) []))) (J.tup [J.d (R.int IntKind.i64 bR),J.d (R.bool false)]))
def I8:I.Rows->Int->Int->Int->(ad->J->Prop)->Prop:=
 fun(l:I.Rows) (a b p:Int) (K:ad->J->Prop)=>(0:Int)<=p/\p<(Nat.cast:Nat->Int) (List.length l)/\List.length (List.getD l (Int.toNat p) [])=(11:Nat)/\(0:Int)<=a/\a<(Nat.cast:Nat
 ->Int) (List.length l)/\List.length (List.getD l (Int.toNat a) [])=(11:Nat)/\(0:Int)<=a/\a<(Nat.cast:Nat->Int) (List.length l)/\(0:Int)<=p/\p<(Nat.cast:Nat->Int) (List.length (List.set l (Int.toNat a) (List.getD l (Int.toNat p) [])))
 /\∃(a8:Int->List (List R)->Prop),(∃(aD:Int->Int->List (List R)->Prop),∃(m:Int->Int->List (List R)->Nat),aD (IntKind.wrap IntKind.i64 (a+(1:Int))) (IntKind.wrap IntKind.i64 (b-(1:Int))) (List.set (List.set l (Int.toNat a) (List.getD l (Int.toNat p) [])) (Int.toNat p) (List.getD l (Int.toNat a) []))
 /\∀(v11 v12:Int) (ai:List (List R)),aD v11 v12 ai->∃(oA:Int->List (List R)->Prop),(∃(aD:Int->List (List R)->Prop),∃(m:Int->List (List R)->Nat),aD v11 ai/\∀(v11:Int) (ai:List (List R)),aD v11 ai
 ->(decide (v11<=v12)=true->(0:Int)<=a/\a<(Nat.cast:Nat->Int) (List.length ai)/\List.length (List.getD ai (Int.toNat a) [])=(11:Nat)/\(0:Int)<=v11/\v11<(Nat.cast:Nat->Int) (List.length ai)
 /\List.length (List.getD ai (Int.toNat v11) [])=(11:Nat)/\(I.dZ (List.getD ai (Int.toNat a) [])/\I.dZ (List.getD ai (Int.toNat v11) []))/\∀(x:Int),x=I.fX (List.getD ai (Int.toNat a) []) (List.getD ai (Int.toNat v11) [])
 ->((!decide (x<(0:Int)))=true->aD (IntKind.wrap IntKind.i64 (v11+(1:Int))) ai/\m (IntKind.wrap IntKind.i64 (v11+(1:Int))) ai<m v11 ai)/\((!decide (x<(0:Int)))=false->oA v11 ai))
 /\(decide (v11<=v12)=false->oA v11 ai))/\∀(iv:Int) (bq:List (List R)),oA iv bq->∃(tS:Int->List (List R)->Prop),(∃(aD:Int->List (List R)->Prop),∃(m:Int->List (List R)
 ->Nat),aD v12 bq/\∀(v12:Int) (ai:List (List R)),aD v12 ai->(decide (iv<=v12)=true->(0:Int)<=a/\a<(Nat.cast:Nat->Int) (List.length ai)/\List.length (List.getD ai (Int.toNat a) [])=(11:Nat)
 /\(0:Int)<=v12/\v12<(Nat.cast:Nat->Int) (List.length ai)/\List.length (List.getD ai (Int.toNat v12) [])=(11:Nat)/\(I.dZ (List.getD ai (Int.toNat a) [])/\I.dZ (List.getD ai (Int.toNat v12) []))
 /\∀(x:Int),x=I.fX (List.getD ai (Int.toNat a) []) (List.getD ai (Int.toNat v12) [])->(decide (x<(0:Int))=true->aD (IntKind.wrap IntKind.i64 (v12-(1:Int))) ai/\m (IntKind.wrap IntKind.i64 (v12-(1:Int))) ai<m v12 ai)
 /\(decide (x<(0:Int))=false->tS v12 ai))/\(decide (iv<=v12)=false->tS v12 ai))/\∀(fO:Int) (cT:List (List R)),tS fO cT->(decide (fO<iv)=true->a8 iv cT)
 /\(decide (fO<iv)=false->(0:Int)<=fO/\fO<(Nat.cast:Nat->Int) (List.length cT)/\List.length (List.getD cT (Int.toNat fO) [])=(11:Nat)/\(0:Int)<=iv/\iv<(Nat.cast:Nat
 ->Int) (List.length cT)/\List.length (List.getD cT (Int.toNat iv) [])=(11:Nat)/\(0:Int)<=iv/\iv<(Nat.cast:Nat->Int) (List.length cT)/\(0:Int)<=fO/\fO<(Nat.cast:Nat
 ->Int) (List.length (List.set cT (Int.toNat iv) (List.getD cT (Int.toNat fO) [])))/\aD (IntKind.wrap IntKind.i64 (iv+(1:Int))) (IntKind.wrap IntKind.i64 (fO-(1:Int))) (List.set (List.set cT (Int.toNat iv) (List.getD cT (Int.toNat fO) [])) (Int.toNat fO) (List.getD cT (Int.toNat iv) []))
 /\m (IntKind.wrap IntKind.i64 (iv+(1:Int))) (IntKind.wrap IntKind.i64 (fO-(1:Int))) (List.set (List.set cT (Int.toNat iv) (List.getD cT (Int.toNat fO) [])) (Int.toNat fO) (List.getD cT (Int.toNat iv) []))<m v11 v12 ai))
 /\∀(v11:Int) (ai:List (List R)),a8 v11 ai->K (ad.rows (11:Nat) ai) (J.d (R.int IntKind.i64 v11))
def I7:I.Rows->Int->Int->(ad->J->Prop)->Prop:=
 fun(l:I.Rows) (a b:Int) (K:ad->J->Prop)=>∃(a8:List (List R)->Prop),(∃(aD:Int->Int->List (List R)->Prop),∃(m:Int->Int->List (List R)->Nat),aD (IntKind.wrap IntKind.i64 (a+(1:Int))) (0:Int) l
 /\∀(v9 v10:Int) (ai:List (List R)),aD v9 v10 ai->(decide (v10<(5:Int))=true->∃(a8:Int->List (List R)->Prop),(∃(aD:Int->List (List R)->Prop),∃(m:Int->List (List R)->Nat),aD v9 ai
 /\∀(v9:Int) (ai:List (List R)),aD v9 ai->(decide (v9<b)=true->(0:Int)<=v9/\v9<(Nat.cast:Nat->Int) (List.length ai)/\List.length (List.getD ai (Int.toNat v9) [])=(11:Nat)/\(0:Int)<=IntKind.wrap IntKind.i64 (v9-(1:Int))
 /\IntKind.wrap IntKind.i64 (v9-(1:Int))<(Nat.cast:Nat->Int) (List.length ai)/\List.length (List.getD ai (Int.toNat (IntKind.wrap IntKind.i64 (v9-(1:Int)))) [])=(11:Nat)/\(I.dZ (List.getD ai (Int.toNat v9) [])
 /\I.dZ (List.getD ai (Int.toNat (IntKind.wrap IntKind.i64 (v9-(1:Int)))) []))/\∀(x:Int),x=I.fX (List.getD ai (Int.toNat v9) []) (List.getD ai (Int.toNat (IntKind.wrap IntKind.i64 (v9-(1:Int)))) [])
 ->((!decide (x<(0:Int)))=true->aD (IntKind.wrap IntKind.i64 (v9+(1:Int))) ai/\m (IntKind.wrap IntKind.i64 (v9+(1:Int))) ai<m v9 ai)/\((!decide (x<(0:Int)))=false->a8 v9 ai))/\(decide (v9<b)=false
 ->a8 v9 ai))/\∀(fC:Int) (bq:List (List R)),a8 fC bq->(decide (fC=b)=true->K (ad.rows (11:Nat) bq) (J.d (R.bool true)))/\(decide (fC=b)=false->(decide (IntKind.wrap IntKind.i64 (b-a)<(50:Int))=true
 ->K (ad.rows (11:Nat) bq) (J.d (R.bool false)))/\(decide (IntKind.wrap IntKind.i64 (b-a)<(50:Int))=false->(0:Int)<=IntKind.wrap IntKind.i64 (fC-(1:Int))/\IntKind.wrap IntKind.i64 (fC-(1:Int))<(Nat.cast:Nat
 ->Int) (List.length bq)/\List.length (List.getD bq (Int.toNat (IntKind.wrap IntKind.i64 (fC-(1:Int)))) [])=(11:Nat)/\(0:Int)<=fC/\fC<(Nat.cast:Nat->Int) (List.length bq)
 /\List.length (List.getD bq (Int.toNat fC) [])=(11:Nat)/\(0:Int)<=fC/\fC<(Nat.cast:Nat->Int) (List.length bq)/\(0:Int)<=IntKind.wrap IntKind.i64 (fC-(1:Int))/\IntKind.wrap IntKind.i64 (fC-(1:Int))<(Nat.cast:Nat
 ->Int) (List.length (List.set bq (Int.toNat fC) (List.getD bq (Int.toNat (IntKind.wrap IntKind.i64 (fC-(1:Int)))) [])))/\∃(a8:List (List R)->Prop),((decide ((2:Int)<=IntKind.wrap IntKind.i64 (fC-a))=true
 ->∃(aD:Int->List (List R)->Prop),∃(m:Int->List (List R)->Nat),aD (IntKind.wrap IntKind.i64 (fC-(1:Int))) (List.set (List.set bq (Int.toNat fC) (List.getD bq (Int.toNat (IntKind.wrap IntKind.i64 (fC-(1:Int)))) [])) (Int.toNat (IntKind.wrap IntKind.i64 (fC-(1:Int)))) (List.getD bq (Int.toNat fC) []))
 /\∀(v11:Int) (ai:List (List R)),aD v11 ai->(decide ((1:Int)<=v11)=true->(0:Int)<=v11/\v11<(Nat.cast:Nat->Int) (List.length ai)/\List.length (List.getD ai (Int.toNat v11) [])=(11:Nat)
 /\(0:Int)<=IntKind.wrap IntKind.i64 (v11-(1:Int))/\IntKind.wrap IntKind.i64 (v11-(1:Int))<(Nat.cast:Nat->Int) (List.length ai)/\List.length (List.getD ai (Int.toNat (IntKind.wrap IntKind.i64 (v11-(1:Int)))) [])=(11:Nat)
 /\(I.dZ (List.getD ai (Int.toNat v11) [])/\I.dZ (List.getD ai (Int.toNat (IntKind.wrap IntKind.i64 (v11-(1:Int)))) []))/\∀(x:Int),x=I.fX (List.getD ai (Int.toNat v11) []) (List.getD ai (Int.toNat (IntKind.wrap IntKind.i64 (v11-(1:Int)))) [])
 ->((!decide (x<(0:Int)))=true->a8 ai)/\((!decide (x<(0:Int)))=false->(0:Int)<=IntKind.wrap IntKind.i64 (v11-(1:Int))/\IntKind.wrap IntKind.i64 (v11-(1:Int))<(Nat.cast:Nat
 ->Int) (List.length ai)/\List.length (List.getD ai (Int.toNat (IntKind.wrap IntKind.i64 (v11-(1:Int)))) [])=(11:Nat)/\(0:Int)<=v11/\v11<(Nat.cast:Nat->Int) (List.length ai)/\List.length (List.getD ai (Int.toNat v11) [])=(11:Nat)
 /\(0:Int)<=v11/\v11<(Nat.cast:Nat->Int) (List.length ai)/\(0:Int)<=IntKind.wrap IntKind.i64 (v11-(1:Int))/\IntKind.wrap IntKind.i64 (v11-(1:Int))<(Nat.cast:Nat->Int) (List.length (List.set ai (Int.toNat v11) (List.getD ai (Int.toNat (IntKind.wrap IntKind.i64 (v11-(1:Int)))) [])))
 /\aD (IntKind.wrap IntKind.i64 (v11-(1:Int))) (List.set (List.set ai (Int.toNat v11) (List.getD ai (Int.toNat (IntKind.wrap IntKind.i64 (v11-(1:Int)))) [])) (Int.toNat (IntKind.wrap IntKind.i64 (v11-(1:Int)))) (List.getD ai (Int.toNat v11) []))
 /\m (IntKind.wrap IntKind.i64 (v11-(1:Int))) (List.set (List.set ai (Int.toNat v11) (List.getD ai (Int.toNat (IntKind.wrap IntKind.i64 (v11-(1:Int)))) [])) (Int.toNat (IntKind.wrap IntKind.i64 (v11-(1:Int)))) (List.getD ai (Int.toNat v11) []))<m v11 ai))
 /\(decide ((1:Int)<=v11)=false->a8 ai))/\(decide ((2:Int)<=IntKind.wrap IntKind.i64 (fC-a))=false->a8 (List.set (List.set bq (Int.toNat fC) (List.getD bq (Int.toNat (IntKind.wrap IntKind.i64 (fC-(1:Int)))) [])) (Int.toNat (IntKind.wrap IntKind.i64 (fC-(1:Int)))) (List.getD bq (Int.toNat fC) []))))
 /\∀(cT:List (List R)),a8 cT->(decide ((2:Int)<=IntKind.wrap IntKind.i64 (b-fC))=true->∃(fz:Int->List (List R)->Prop),∃(e_:Int->List (List R)->Nat),fz (IntKind.wrap IntKind.i64 (fC+(1:Int))) cT
 /\∀(v12:Int) (dU:List (List R)),fz v12 dU->(decide (v12<b)=true->(0:Int)<=v12/\v12<(Nat.cast:Nat->Int) (List.length dU)/\List.length (List.getD dU (Int.toNat v12) [])=(11:Nat)
 /\(0:Int)<=IntKind.wrap IntKind.i64 (v12-(1:Int))/\IntKind.wrap IntKind.i64 (v12-(1:Int))<(Nat.cast:Nat->Int) (List.length dU)/\List.length (List.getD dU (Int.toNat (IntKind.wrap IntKind.i64 (v12-(1:Int)))) [])=(11:Nat)
 /\(I.dZ (List.getD dU (Int.toNat v12) [])/\I.dZ (List.getD dU (Int.toNat (IntKind.wrap IntKind.i64 (v12-(1:Int)))) []))/\∀(x:Int),x=I.fX (List.getD dU (Int.toNat v12) []) (List.getD dU (Int.toNat (IntKind.wrap IntKind.i64 (v12-(1:Int)))) [])
 ->((!decide (x<(0:Int)))=true->aD fC (IntKind.wrap IntKind.i64 (v10+(1:Int))) dU/\m fC (IntKind.wrap IntKind.i64 (v10+(1:Int))) dU<m v9 v10 ai)/\((!decide (x<(0:Int)))=false
 ->(0:Int)<=IntKind.wrap IntKind.i64 (v12-(1:Int))/\IntKind.wrap IntKind.i64 (v12-(1:Int))<(Nat.cast:Nat->Int) (List.length dU)/\List.length (List.getD dU (Int.toNat (IntKind.wrap IntKind.i64 (v12-(1:Int)))) [])=(11:Nat)
 /\(0:Int)<=v12/\v12<(Nat.cast:Nat->Int) (List.length dU)/\List.length (List.getD dU (Int.toNat v12) [])=(11:Nat)/\(0:Int)<=v12/\v12<(Nat.cast:Nat->Int) (List.length dU)/\(0:Int)<=IntKind.wrap IntKind.i64 (v12-(1:Int))
 /\IntKind.wrap IntKind.i64 (v12-(1:Int))<(Nat.cast:Nat->Int) (List.length (List.set dU (Int.toNat v12) (List.getD dU (Int.toNat (IntKind.wrap IntKind.i64 (v12-(1:Int)))) [])))/\fz (IntKind.wrap IntKind.i64 (v12+(1:Int))) (List.set (List.set dU (Int.toNat v12) (List.getD dU (Int.toNat (IntKind.wrap IntKind.i64 (v12-(1:Int)))) [])) (Int.toNat (IntKind.wrap IntKind.i64 (v12-(1:Int)))) (List.getD dU (Int.toNat v12) []))
 /\e_ (IntKind.wrap IntKind.i64 (v12+(1:Int))) (List.set (List.set dU (Int.toNat v12) (List.getD dU (Int.toNat (IntKind.wrap IntKind.i64 (v12-(1:Int)))) [])) (Int.toNat (IntKind.wrap IntKind.i64 (v12-(1:Int)))) (List.getD dU (Int.toNat v12) []))<e_ v12 dU))
 /\(decide (v12<b)=false->aD fC (IntKind.wrap IntKind.i64 (v10+(1:Int))) dU/\m fC (IntKind.wrap IntKind.i64 (v10+(1:Int))) dU<m v9 v10 ai))/\(decide ((2:Int)<=IntKind.wrap IntKind.i64 (b-fC))=false
 ->aD fC (IntKind.wrap IntKind.i64 (v10+(1:Int))) cT/\m fC (IntKind.wrap IntKind.i64 (v10+(1:Int))) cT<m v9 v10 ai))))/\(decide (v10<(5:Int))=false->a8 ai))/\∀(ai:List (List R)),a8 ai
 ->K (ad.rows (11:Nat) ai) (J.d (R.bool false))
def Jb:I.Rows->Int->Int->(ad->J->Prop)->Prop:=
 fun(l:I.Rows) (a b:Int) (K:ad->J->Prop)=>∃(aD:Int->Int->List (List R)->Prop),∃(m:Int->Int->List (List R)->Nat),aD a (IntKind.wrap IntKind.i64 (b-(1:Int))) l/\∀(aV v9:Int) (ai:List (List R)),aD aV v9 ai
 ->(decide (aV<v9)=true->(0:Int)<=v9/\v9<(Nat.cast:Nat->Int) (List.length ai)/\List.length (List.getD ai (Int.toNat v9) [])=(11:Nat)/\(0:Int)<=aV/\aV<(Nat.cast:Nat->Int) (List.length ai)
 /\List.length (List.getD ai (Int.toNat aV) [])=(11:Nat)/\(0:Int)<=aV/\aV<(Nat.cast:Nat->Int) (List.length ai)/\(0:Int)<=v9/\v9<(Nat.cast:Nat->Int) (List.length (List.set ai (Int.toNat aV) (List.getD ai (Int.toNat v9) [])))
 /\aD (IntKind.wrap IntKind.i64 (aV+(1:Int))) (IntKind.wrap IntKind.i64 (v9-(1:Int))) (List.set (List.set ai (Int.toNat aV) (List.getD ai (Int.toNat v9) [])) (Int.toNat v9) (List.getD ai (Int.toNat aV) []))
 /\m (IntKind.wrap IntKind.i64 (aV+(1:Int))) (IntKind.wrap IntKind.i64 (v9-(1:Int))) (List.set (List.set ai (Int.toNat aV) (List.getD ai (Int.toNat v9) [])) (Int.toNat v9) (List.getD ai (Int.toNat aV) []))<m aV v9 ai)
 /\(decide (aV<v9)=false->K (ad.rows (11:Nat) ai) (J.tup []))
end I
end
section
namespace I
open Go Go.bG Go.Sort
def dk (l:List Row) (i j:Nat):List Row:=(l.set i (l.getD j [])).set j (l.getD i [])
theorem uX (l:List Row) (j:Nat):l.toArray[j]! =l.getD j []:=by
 simp[List.getD_eq_getElem?_getD]
 cases h:l[j]? <;>simp[h];rfl
theorem ki (l:List Row) (i j:Nat):swp l.toArray i j=(dk l i j).toArray:=by
 unfold swp dk
 rw[uX,uX]
 simp
theorem rA (l:List Row) (i j:Nat):(dk l i j).length=l.length:=by simp[dk]
theorem cQ.get {l:List Row} (h:cQ l) {i:Nat} (hi:i<l.length):dZ (l.getD i []):=by
 rw[List.getD_eq_getElem?_getD,List.getElem?_eq_getElem hi];exact h _ (List.getElem_mem hi)
theorem dZ.len {r:Row} (h:dZ r):r.length=11:=by
 obtain⟨_,_,_,_,_,_,_,_,_,_,_,rfl⟩:=h;rfl
theorem cQ.len {l:List Row} (h:cQ l) {i:Nat} (hi:i<l.length):(l.getD i []).length=11:=(h.get hi).len
theorem cQ.set {l:List Row} (h:cQ l) {i:Nat} {r:Row} (ak:dZ r):cQ (l.set i r):=fun x af=>by
 rcases List.mem_or_eq_of_mem_set af with af|rfl
 ·exact h x af
 ·exact ak
theorem cQ.dk {l:List Row} (h:cQ l) {i j:Nat} (hi:i<l.length) (aK:j<l.length):cQ (dk l i j):=(h.set (h.get aK)).set (h.get hi)
theorem lk (l:List Row) (i j:Nat):aX l.toArray[i]! l.toArray[j]! =decide (fX (l.getD i []) (l.getD j [])<0):=by
 rw[uX,uX];rfl
theorem WC {A j:Nat} {l:List Row} (U:A<j+1) (aa:fX (l.getD (j+1) []) (l.getD j [])<0):insInner aX A (j+1) l.toArray=insInner aX A j (dk l (j+1) j).toArray:=by
 rw[insInner,lk,decide_eq_true aa,<-ki]
 simp;omega
theorem N9 {A j:Nat} {l:List Row} (h:j<=A\/¬fX (l.getD j []) (l.getD (j-1) [])<0):insInner aX A j l.toArray=l.toArray:=by
 cases j with
 |zero=>rfl
 |succ j=>
  rw[insInner,lk]
  rcases h with h|h
  ·rw[if_neg];simp;omega
  ·rw[if_neg];simp at h;simp[h]
theorem abK (l:List Row) (a b:Int) (K:ad->J->Prop) (h:fe l a b/\K (.rows 11 (insertionSort aX l.toArray a.toNat b.toNat).toList) (.tup [])):Ja l a b K:=by
 obtain⟨⟨aq,aC,jf,ae,ar⟩,ab⟩:=h
 obtain⟨A,rfl⟩:=Int.eq_ofNat_of_zero_le aC
 obtain⟨B,rfl⟩:=Int.eq_ofNat_of_zero_le (Int.le_trans aC jf)
 simp only[Int.toNat_natCast]at ab
 unfold Ja
 rw[bl (x:=(A:Int)+1) (by omega)]
 refine⟨fun v o=>(A:Int)+1<=v/\v<=B+1/\cQ o/\o.length=l.length/\insOuter aX A B v.toNat o.toArray=insertionSort aX l.toArray A B,fun v _=>(B+1-v:Int).toNat,⟨by omega,by omega,aq,rfl,rfl⟩, ?_⟩
 rintro v o ⟨U,aa,al,aL,bo⟩
 obtain⟨V,rfl⟩:=Int.eq_ofNat_of_zero_le (a:=v) (by omega)
 refine⟨fun h=> ?_,fun h=> ?_⟩
 ·have h:=of_decide_eq_true h
  refine⟨fun j bZ=>(A:Int)<=j/\j<=V/\cQ bZ/\bZ.length=l.length/\insInner aX A j.toNat bZ.toArray=insInner aX A V o.toArray,fun j _=>j.toNat,⟨by omega,by omega,al,aL,rfl⟩, ?_⟩
  rintro j bZ ⟨g1,g2,g3,g4,g5⟩
  obtain⟨a8,rfl⟩:=Int.eq_ofNat_of_zero_le (a:=j) (by omega)
  have fin:insInner aX A a8 bZ.toArray=bZ.toArray->(A:Int)+1<=IntKind.wrap .i64 ((V:Int)+1)/\IntKind.wrap .i64 ((V:Int)+1)<=B+1/\cQ bZ/\bZ.length=l.length/\insOuter aX A B (IntKind.wrap .i64 ((V:Int)+1)).toNat bZ.toArray=insertionSort aX l.toArray A B:=fun e=>by
   rw[bl (x:=(V:Int)+1) (by omega)]
   refine⟨by omega,by omega,g3,g4, ?_⟩
   rw[show((V:Int)+1).toNat=V+1 by omega,<-bo,Int.toNat_natCast]
   conv=>rhs;rw[insOuter]
   rw[if_pos (by omega),<-g5,Int.toNat_natCast,e]
  have dec:(B+1-IntKind.wrap .i64 ((V:Int)+1):Int).toNat<(B+1-(V:Int)).toNat:=by rw[bl (x:=(V:Int)+1) (by omega)];omega
  refine⟨fun aK=> ?_,fun aK=> ?_⟩
  ·have aK:=of_decide_eq_true aK
   rw[bl (x:=(a8:Int)-1) (by omega)]
   obtain⟨fk,rfl⟩:∃fk,a8=fk+1:=⟨a8-1,by omega⟩
   rw[show((fk+1:Nat):Int)-1=(fk:Int) by omega]
   simp only[Int.toNat_natCast,List.length_set]at g5⊢
   have cn:fk+1<bZ.length:=by omega
   have cF:fk<bZ.length:=by omega
   refine⟨by omega,by omega,g3.len cn,by omega,by omega,g3.len cF,⟨g3.get cn,g3.get cF⟩, ?_⟩
   rintro _ rfl
   refine⟨fun ay=> ?_,fun ay=> ?_⟩
   ·have ay:=of_decide_eq_true ay
    refine⟨by omega,by omega,g3.len cF,by omega,by omega,g3.len cn,by omega,by omega,by omega,by omega,⟨by omega,by omega,g3.dk cn cF,g4, ?_⟩,by omega⟩
    rw[<-g5,WC (by omega) ay];rfl
   ·have ay:=of_decide_eq_false ay
    exact⟨fin (N9 (.inr ay)),dec⟩
  ·have aK:=of_decide_eq_false aK
   exact⟨fin (N9 (.inl (by omega))),dec⟩
 ·have h:=of_decide_eq_false h
  rw[<-bo,insOuter,if_neg (by rw[Int.toNat_natCast];omega)]at ab
  exact ab
def Child (hi f r:Nat) (l:List Row) (c:Nat):Prop:=
 (c=2*r+2/\2*r+2<hi/\fX (l.getD (f+(2*r+1)) []) (l.getD (f+(2*r+1)+1) [])<0)\/
 (c=2*r+1/\2*r+1<hi/\¬(2*r+2<hi/\fX (l.getD (f+(2*r+1)) []) (l.getD (f+(2*r+1)+1) [])<0))
theorem E3 {hi f r:Nat} {d:Array Row} (h:hi<=2*r+1):siftDown aX hi f r d=d:=by
 rw[siftDown,dif_pos h]
theorem M5 {hi f r c:Nat} {l:List Row} (ay:Child hi f r l c) (h:¬fX (l.getD (f+r) []) (l.getD (f+c) [])<0):siftDown aX hi f r l.toArray=l.toArray:=by
 rcases ay with⟨rfl,U,aa⟩|⟨rfl,U,aa⟩
 ·rw[siftDown,dif_neg (by omega),lk,lk,lk,if_pos (by simp;exact⟨U,aa⟩),if_pos (by simp at h;simp[h])]
 ·rw[siftDown,dif_neg (by omega),lk,lk,lk,if_neg (by simpa using aa),if_pos (by simp at h;simp[h])]
theorem Pv {hi f r c:Nat} {l:List Row} (ay:Child hi f r l c) (h:fX (l.getD (f+r) []) (l.getD (f+c) [])<0):siftDown aX hi f r l.toArray=siftDown aX hi f c (dk l (f+r) (f+c)).toArray:=by
 rcases ay with⟨rfl,U,aa⟩|⟨rfl,U,aa⟩
 ·rw[siftDown,dif_neg (by omega),lk,lk,lk,if_pos (by simp;exact⟨U,aa⟩),if_neg (by simpa using h),dif_pos U,ki]
 ·rw[siftDown,dif_neg (by omega),lk,lk,lk,if_neg (by simpa using aa),if_neg (by simpa using h),ki]
theorem abT (l:List Row) (vo hi f:Int) (K:ad->J->Prop) (h:(cQ l/\0<=vo/\vo<=(l.length:Int)/\0<=hi/\0<=f/\f+hi<=(l.length:Int)/\l.length<1000000000000000)/\K (.rows 11 (siftDown aX hi.toNat f.toNat vo.toNat l.toArray).toList) (.tup [])):Jj l vo hi f K:=by
 obtain⟨⟨aq,aE,U,aa,al,aL,ar⟩,ab⟩:=h
 obtain⟨bp,rfl⟩:=Int.eq_ofNat_of_zero_le aE
 obtain⟨H,rfl⟩:=Int.eq_ofNat_of_zero_le aa
 obtain⟨F,rfl⟩:=Int.eq_ofNat_of_zero_le al
 simp only[Int.toNat_natCast]at ab
 unfold Jj
 refine⟨fun v o=>0<=v/\v<=(l.length:Int)/\cQ o/\o.length=l.length/\siftDown aX H F v.toNat o.toArray=siftDown aX H F bp l.toArray,fun v _=>(H-v:Int).toNat,⟨by omega,by omega,aq,rfl,rfl⟩, ?_⟩
 rintro v o ⟨g1,g2,g3,g4,g5⟩
 obtain⟨V,rfl⟩:=Int.eq_ofNat_of_zero_le g1
 simp only[Int.toNat_natCast]at g5
 have cz:IntKind.wrap .i64 ((2:Int)*(V:Int))=((2*V:Nat):Int):=by rw[bl (by omega)];omega
 have dO:IntKind.wrap .i64 (((2*V:Nat):Int)+1)=((2*V+1:Nat):Int):=by rw[bl (by omega)];omega
 have gZ:IntKind.wrap .i64 (((2*V+1:Nat):Int)+1)=((2*V+2:Nat):Int):=by rw[bl (by omega)];omega
 have oF:IntKind.wrap .i64 ((F:Int)+((2*V+1:Nat):Int))=((F+(2*V+1):Nat):Int):=by rw[bl (by omega)];omega
 have nP:IntKind.wrap .i64 (((F+(2*V+1):Nat):Int)+1)=((F+(2*V+1)+1:Nat):Int):=by rw[bl (by omega)];omega
 have IQ:IntKind.wrap .i64 ((F:Int)+(V:Int))=((F+V:Nat):Int):=by rw[bl (by omega)];omega
 simp only[cz,dO,gZ,oF,nP,IQ,Int.toNat_natCast]
 refine⟨fun h=> ?_,fun h=> ?_⟩
 ·have h:=of_decide_eq_true h
  rw[<-g5,E3 (by omega)]at ab
  exact ab
 ·have h:=of_decide_eq_false h
  have bW:F+V<o.length:=by omega
  refine⟨fun c bn=>bn=o/\0<=c/\Child H F V o c.toNat,⟨fun aa=> ?_,fun aa=> ?_⟩, ?_⟩
  ·have aa:=of_decide_eq_true aa
   have cn:F+(2*V+1)<o.length:=by omega
   have cF:F+(2*V+1)+1<o.length:=by omega
   refine⟨by omega,by omega,g3.len cn,by omega,by omega,g3.len cF,⟨g3.get cn,g3.get cF⟩, ?_⟩
   rintro _ rfl
   refine⟨fun al=> ?_,fun al=> ?_⟩
   ·have al:=of_decide_eq_true al
    exact⟨rfl,by omega, .inl ⟨by omega,by omega,al⟩⟩
   ·have al:=of_decide_eq_false al
    exact⟨rfl,by omega, .inr ⟨by omega,by omega,fun h=>al h.2⟩⟩
  ·have aa:=of_decide_eq_false aa
   exact⟨rfl,by omega, .inr ⟨by omega,by omega,fun h=>aa (by omega)⟩⟩
  ·rintro c bn ⟨rfl,sq,ay⟩
   obtain⟨C,rfl⟩:=Int.eq_ofNat_of_zero_le sq
   simp only[Int.toNat_natCast]at ay
   have m4:C<H/\V<C:=by rcases ay with⟨rfl,_,_⟩|⟨rfl,_,_⟩<;>omega
   have IS:IntKind.wrap .i64 ((F:Int)+(C:Int))=((F+C:Nat):Int):=by rw[bl (by omega)];omega
   simp only[IS,Int.toNat_natCast,List.length_set]
   have hN:F+C<bn.length:=by omega
   refine⟨by omega,by omega,g3.len bW,by omega,by omega,g3.len hN,⟨g3.get bW,g3.get hN⟩, ?_⟩
   rintro _ rfl
   refine⟨fun al=> ?_,fun al=> ?_⟩
   ·have al:¬(fX (bn.getD (F+V) []) (bn.getD (F+C) [])<0):=by simpa using al
    rw[<-g5,M5 ay al]at ab
    exact ab
   ·have al:fX (bn.getD (F+V) []) (bn.getD (F+C) [])<0:=by simpa using al
    refine⟨by omega,by omega,g3.len hN,by omega,by omega,g3.len bW,by omega,by omega,by omega,by omega,⟨by omega,by omega,g3.dk bW hN,g4, ?_⟩,by omega⟩
    rw[<-g5,Pv ay al];rfl
theorem WD {d:Array Row} {n i j:Nat} (h:d.size=n/\cQ d.toList) (hi:i<n) (aK:j<n):(swp d i j).size=n/\cQ (swp d i j).toList:=by
 obtain⟨l⟩:=d
 rw[ki]
 have U:l.length=n:=by simpa using h.1
 have aa:cQ l:=h.2
 exact⟨by simpa[rA]using U,cQ.dk aa (by omega) (by omega)⟩
theorem Vl (hi f n:Nat) (ao:f+hi<=n):∀(m root:Nat) (d:Array Row),hi-root<=m->(d.size=n/\cQ d.toList)->(siftDown aX hi f root d).size=n/\cQ (siftDown aX hi f root d).toList:=by
 intro m
 induction m with
 |zero=>intro root d h aP;rw[E3 (by omega)];exact aP
 |succ m bA=>
  intro root d h aP
  obtain⟨l⟩:=d
  by_cases U:hi<=2*root+1
  ·rw[E3 U];exact aP
  ·obtain⟨c,ay⟩:∃c,Child hi f root l c:=by
    by_cases aa:2*root+2<hi/\fX (l.getD (f+(2*root+1)) []) (l.getD (f+(2*root+1)+1) [])<0
    ·exact⟨_, .inl ⟨rfl,aa.1,aa.2⟩⟩
    ·exact⟨_, .inr ⟨rfl,by omega,aa⟩⟩
   have ji:c<hi/\root<c:=by rcases ay with⟨rfl,_,_⟩|⟨rfl,_,_⟩<;>omega
   by_cases al:fX (l.getD (f+root) []) (l.getD (f+c) [])<0
   ·rw[Pv ay al,<-ki]
    exact bA c _ (by omega) (WD aP (by omega) (by omega))
   ·rw[M5 ay al];exact aP
theorem M6 {hi f root:Nat} {l:List Row} (ao:f+hi<=l.length) (h:cQ l):(siftDown aX hi f root l.toArray).toList.length=l.length/\cQ (siftDown aX hi f root l.toArray).toList:=by
 have:=Vl hi f l.length ao (hi-root) root l.toArray (Nat.le_refl _) ⟨by simp,h⟩
 exact⟨by simpa using this.1,this.2⟩
theorem abU (l:List Row) (a b:Int) (K:ad->J->Prop) (h:(fe l a b/\a<b)/\K (.rows 11 (heapSort aX l.toArray a.toNat b.toNat).toList) (.tup [])):Jk l a b K:=by
 obtain⟨⟨⟨aq,aC,jf,ae,ar⟩,bB⟩,ab⟩:=h
 obtain⟨A,rfl⟩:=Int.eq_ofNat_of_zero_le aC
 obtain⟨B,rfl⟩:=Int.eq_ofNat_of_zero_le (Int.le_trans aC jf)
 obtain⟨H,rfl⟩:∃H,B=A+H:=⟨B-A,by omega⟩
 simp only[Int.toNat_natCast]at ab
 unfold Jk
 have cz:IntKind.wrap .i64 (((A+H:Nat):Int)-(A:Int))=(H:Int):=by rw[bl (by omega)];omega
 have dO:IntKind.wrap .i64 ((H:Int)-1)=(H:Int)-1:=bl (by omega)
 have gZ:IntKind.wrap .i64 (Int.tdiv ((H:Int)-1) 2)=(((H-1)/2:Nat):Int):=by
  have:(H:Int)-1=((H-1:Nat):Int):=by omega
  have az:Int.tdiv ((H-1:Nat):Int) 2=(((H-1)/2:Nat):Int):=(Int.ofNat_tdiv (H-1) 2).symm
  rw[this,az,bl (by omega)]
 simp only[cz,dO,gZ,Int.toNat_natCast]
 refine⟨fun o=>cQ o/\o.length=l.length/\heapPop aX A H o.toArray=heapSort aX l.toArray A (A+H),⟨fun v o=>-1<=v/\v<=H/\cQ o/\o.length=l.length/\heapBuild aX H A (v+1).toNat o.toArray=heapBuild aX H A ((H-1)/2+1) l.toArray,fun v _=>(v+1).toNat,⟨by omega,by omega,aq,rfl, ?_⟩, ?_⟩, ?_⟩
 ·rw[show((((H-1)/2:Nat):Int)+1).toNat=(H-1)/2+1 by omega]
 ·rintro v o ⟨g1,g2,g3,g4,g5⟩
  refine⟨fun h=> ?_,fun h=> ?_⟩
  ·have h:=of_decide_eq_true h
   obtain⟨V,rfl⟩:=Int.eq_ofNat_of_zero_le h
   rw[bl (x:=(V:Int)-1) (by omega)]
   obtain⟨aU,a_⟩:=M6 (hi:=H) (f:=A) (root:=V) (l:=o) (by omega) g3
   refine⟨by omega,⟨g3,by omega,by omega,by omega,by omega,by omega,by omega⟩,⟨by omega,by omega,a_,by rw[<-g4];exact aU, ?_⟩, ?_⟩
   ·rw[<-g5,show((V:Int)+1).toNat=V+1 by omega,show((V:Int)-1+1).toNat=V by omega]
    rfl
   ·show((V:Int)-1+1).toNat<((V:Int)+1).toNat;omega
  ·have h:=of_decide_eq_false h
   refine⟨g3,g4, ?_⟩
   unfold heapSort
   rw[show A+H-A=H by omega,<-g5,show(v+1).toNat=0 by omega];rfl
 ·rintro o ⟨g1,g2,g3⟩
  refine⟨fun v bZ=>-1<=v/\v<H/\cQ bZ/\bZ.length=l.length/\heapPop aX A (v+1).toNat bZ.toArray=heapSort aX l.toArray A (A+H),fun v _=>(v+1).toNat,⟨by omega,by omega,g1,g2,by rw[show((H:Int)-1+1).toNat=H by omega];exact g3⟩, ?_⟩
  rintro v bZ ⟨q1,cb,cu,fM,dm⟩
  refine⟨fun h=> ?_,fun h=> ?_⟩
  ·have h:=of_decide_eq_true h
   obtain⟨V,rfl⟩:=Int.eq_ofNat_of_zero_le h
   have oF:IntKind.wrap .i64 ((A:Int)+(V:Int))=((A+V:Nat):Int):=by rw[bl (by omega)];omega
   have cn:A<bZ.length:=by omega
   have cF:A+V<bZ.length:=by omega
   have hO:=cu.dk cn cF
   have gm:(dk bZ A (A+V)).length=l.length:=by rw[rA];exact fM
   obtain⟨aU,a_⟩:=M6 (hi:=V) (f:=A) (root:=0) (l:=dk bZ A (A+V)) (by omega) hO
   simp only[oF,Int.toNat_natCast]
   rw[bl (x:=(V:Int)-1) (by omega),show(bZ.set A (bZ.getD (A+V) [])).set (A+V) (bZ.getD A [])=dk bZ A (A+V)from rfl]
   refine⟨by omega,by omega,cu.len cF,by omega,by omega,cu.len cn,by omega,by omega,by omega,by simp;omega,by omega,⟨hO,by omega,by omega,by omega,by omega,by omega,by omega⟩,⟨by omega,by omega,a_,by rw[<-gm];exact aU, ?_⟩, ?_⟩
   ·rw[<-dm,show((V:Int)+1).toNat=V+1 by omega,show((V:Int)-1+1).toNat=V by omega,heapPop,ki]
   ·show((V:Int)-1+1).toNat<((V:Int)+1).toNat;omega
  ·have h:=of_decide_eq_false h
   rw[<-dm,show(v+1).toNat=0 by omega]at ab
   exact ab
theorem WE {i j:Nat} {o:List Row} (h:i<j):reverseLoop i j o.toArray=reverseLoop (i+1) (j-1) (dk o i j).toArray:=by
 rw[reverseLoop,if_pos h,ki]
theorem WG {i j:Nat} {d:Array Row} (h:¬i<j):reverseLoop i j d=d:=by rw[reverseLoop,if_neg h]
theorem abL (l:List Row) (a b:Int) (K:ad->J->Prop) (h:fe l a b/\K (.rows 11 (reverseRange l.toArray a.toNat b.toNat).toList) (.tup [])):Jb l a b K:=by
 obtain⟨⟨aq,aC,jf,ae,ar⟩,ab⟩:=h
 obtain⟨A,rfl⟩:=Int.eq_ofNat_of_zero_le aC
 obtain⟨B,rfl⟩:=Int.eq_ofNat_of_zero_le (Int.le_trans aC jf)
 simp only[Int.toNat_natCast]at ab
 unfold Jb
 rw[bl (x:=(B:Int)-1) (by omega)]
 refine⟨fun i j o=>0<=i/\i<=(l.length:Int)/\-1<=j/\j<(l.length:Int)/\cQ o/\o.length=l.length/\(if i<j then reverseLoop i.toNat j.toNat o.toArray else o.toArray)=reverseRange l.toArray A B,fun i j _=>(j-i).toNat,⟨by omega,by omega,by omega,by omega,aq,rfl, ?_⟩, ?_⟩
 ·unfold reverseRange
  split
  ·rw[show((B:Int)-1).toNat=B-1 by omega,Int.toNat_natCast]
  ·rw[reverseLoop,if_neg (by omega)]
 ·rintro i j o ⟨g1,g2,g3,g4,g5,g6,g7⟩
  refine⟨fun h=> ?_,fun h=> ?_⟩
  ·have h:=of_decide_eq_true h
   obtain⟨aD,rfl⟩:=Int.eq_ofNat_of_zero_le g1
   obtain⟨a8,rfl⟩:=Int.eq_ofNat_of_zero_le (a:=j) (by omega)
   rw[bl (x:=(aD:Int)+1) (by omega),bl (x:=(a8:Int)-1) (by omega)]
   simp only[Int.toNat_natCast,List.length_set]at g7⊢
   have cn:aD<o.length:=by omega
   have cF:a8<o.length:=by omega
   rw[show(o.set aD (o.getD a8 [])).set a8 (o.getD aD [])=dk o aD a8 from rfl]
   refine⟨by omega,by omega,g5.len cF,by omega,by omega,g5.len cn,by omega,by omega,by omega,by omega,⟨by omega,by omega,by omega,by omega,g5.dk cn cF,g6, ?_⟩,by omega⟩
   rw[<-g7,if_pos h,WE (i:=aD) (j:=a8) (o:=o) (by omega),show((aD:Int)+1).toNat=aD+1 by omega,show((a8:Int)-1).toNat=a8-1 by omega]
   split
   ·rfl
   ·rw[WG (by omega)]
  ·have h:=of_decide_eq_false h
   rw[<-g7,if_neg h]at ab
   exact ab
end I
end
section
namespace I
open Go Go.bG Go.Sort
theorem Gf {p:Row->Bool} {d:Array Row} {j i:Nat} (h:i<=j) (aw:p d[i]! =true):scanUp p d j i=scanUp p d j (i+1):=by
 rw[scanUp,if_pos (by simp[h,aw])]
theorem uV {p:Row->Bool} {d:Array Row} {j i:Nat} (h:j<i\/p d[i]! =false):scanUp p d j i=i:=by
 rw[scanUp,if_neg]
 rcases h with h|h
 ·simp;omega
 ·simp[h]
theorem Gg {p:Row->Bool} {d:Array Row} {i j:Nat} (h:i<=j+1) (aw:p d[j+1]! =true):scanDown p d i (j+1)=scanDown p d i j:=by
 rw[scanDown,if_pos (by simp[h,aw])]
theorem uW {p:Row->Bool} {d:Array Row} {i j:Nat} (hi:1<=i) (h:j<i\/p d[j]! =false):scanDown p d i j=j:=by
 cases j with
 |zero=>rfl
 |succ j=>
  rw[scanDown,if_neg]
  rcases h with h|h
  ·simp;omega
  ·simp[h]
theorem iZ (o:List Row) (i a:Nat):aX o.toArray[i]! o.toArray[a]! =decide (fX (o.getD i []) (o.getD a [])<0):=lk o i a
theorem Uv {l:List Row} {A B Q aD a8:Nat} (U:scanUp (fun x=>aX x (dk l A Q).toArray[A]!) (dk l A Q).toArray (B-1) (A+1)=aD) (aa:scanDown (fun x=> !aX x (dk l A Q).toArray[A]!) (dk l A Q).toArray aD (B-1)=a8) (h:aD>a8):
 partition aX l.toArray A B Q=(a8,true,(dk (dk l A Q) a8 A).toArray):=by
 unfold partition
 simp only[ki,U,aa,if_pos h]
theorem Vk {l:List Row} {A B Q aD a8:Nat} (U:scanUp (fun x=>aX x (dk l A Q).toArray[A]!) (dk l A Q).toArray (B-1) (A+1)=aD) (aa:scanDown (fun x=> !aX x (dk l A Q).toArray[A]!) (dk l A Q).toArray aD (B-1)=a8) (h:¬aD>a8):
 partition aX l.toArray A B Q=((partLoop aX A (aD+1) (a8-1) (dk (dk l A Q) aD a8).toArray).1,false,swp (partLoop aX A (aD+1) (a8-1) (dk (dk l A Q) aD a8).toArray).2 (partLoop aX A (aD+1) (a8-1) (dk (dk l A Q) aD a8).toArray).1 A):=by
 unfold partition
 simp only[ki,U,aa,if_neg h]
theorem Uw {a i j i2 dW:Nat} {d:Array Row} (U:scanUp (fun x=>aX x d[a]!) d j i=i2) (aa:scanDown (fun x=> !aX x d[a]!) d i2 j=dW) (h:i2>dW):partLoop aX a i j d=(dW,d):=by
 rw[partLoop]
 simp only[U,aa,if_pos h]
theorem Wy {a i j i2 dW:Nat} {l:List Row} (U:scanUp (fun x=>aX x l.toArray[a]!) l.toArray j i=i2) (aa:scanDown (fun x=> !aX x l.toArray[a]!) l.toArray i2 j=dW) (h:¬i2>dW) (g:dW-1+1-(i2+1)<j+1-i):
 partLoop aX a i j l.toArray=partLoop aX a (i2+1) (dW-1) (dk l i2 dW).toArray:=by
 rw[partLoop]
 simp only[U,aa,if_neg h,dif_pos g,ki]
theorem abS (l:List Row) (a b p:Int) (K:ad->J->Prop) (h:(fe l a b/\a<=p/\p<b)/\K (.rows 11 (partition aX l.toArray a.toNat b.toNat p.toNat).2.2.toList) (.tup [.d (.int .i64 (partition aX l.toArray a.toNat b.toNat p.toNat).1), .d (.bool (partition aX l.toArray a.toNat b.toNat p.toNat).2.1)])):Ji l a b p K:=by
 obtain⟨⟨⟨aq,aC,jf,ae,ar⟩,Ig,qK⟩,ab⟩:=h
 obtain⟨A,rfl⟩:=Int.eq_ofNat_of_zero_le aC
 obtain⟨B,rfl⟩:=Int.eq_ofNat_of_zero_le (Int.le_trans aC jf)
 obtain⟨Q,rfl⟩:=Int.eq_ofNat_of_zero_le (Int.le_trans aC Ig)
 simp only[Int.toNat_natCast]at ab
 unfold Ji
 have uf:A<l.length:=by omega
 have zt:Q<l.length:=by omega
 rw[bl (x:=(A:Int)+1) (by omega),bl (x:=(B:Int)-1) (by omega)]
 simp only[Int.toNat_natCast,List.length_set]
 rw[show(l.set A (l.getD Q [])).set Q (l.getD A [])=dk l A Q from rfl]
 have eK:=aq.dk uf zt
 have ec:(dk l A Q).length=l.length:=rA _ _ _
 have ay:= @Uv l A B Q
 have aw:= @Vk l A B Q
 generalize dk l A Q=cj at eK ec ay aw
 refine⟨by omega,by omega,aq.len zt,by omega,by omega,aq.len uf,by omega,by omega,by omega,by omega, ?_⟩
 refine⟨fun i o=>o=cj/\(A:Int)+1<=i/\i<=B/\scanUp (fun x=>aX x cj.toArray[A]!) cj.toArray (B-1) (A+1)=i.toNat,⟨fun i o=>o=cj/\(A:Int)+1<=i/\i<=B/\scanUp (fun x=>aX x cj.toArray[A]!) cj.toArray (B-1) (A+1)=scanUp (fun x=>aX x cj.toArray[A]!) cj.toArray (B-1) i.toNat,fun i _=>(B-i:Int).toNat,⟨rfl,by omega,by omega, ?_⟩, ?_⟩, ?_⟩
 ·rw[show((A:Int)+1).toNat=A+1 by omega]
 ·rintro i o ⟨rfl,g1,g2,g3⟩
  obtain⟨aD,rfl⟩:=Int.eq_ofNat_of_zero_le (a:=i) (by omega)
  simp only[Int.toNat_natCast]at g3⊢
  refine⟨fun h=> ?_,fun h=> ?_⟩
  ·have h:=of_decide_eq_true h
   have cn:aD<o.length:=by omega
   have cF:A<o.length:=by omega
   rw[bl (x:=(aD:Int)+1) (by omega)]
   refine⟨by omega,by omega,eK.len cn,by omega,by omega,eK.len cF,⟨eK.get cn,eK.get cF⟩, ?_⟩
   rintro _ rfl
   refine⟨fun aa=>⟨⟨trivial,by omega,by omega, ?_⟩,by omega⟩,fun aa=>⟨trivial,by omega,by omega, ?_⟩⟩
   ·rw[g3,Gf (by omega) (by rw[iZ];exact aa),show((aD:Int)+1).toNat=aD+1 by omega]
   ·rw[g3,uV (.inr (by rw[iZ];exact aa))]
  ·have h:=of_decide_eq_false h
   exact⟨trivial,by omega,by omega,by rw[g3,uV (.inl (by omega))]⟩
 rintro i o ⟨rfl,g1,g2,g3⟩
 obtain⟨aD,rfl⟩:=Int.eq_ofNat_of_zero_le (a:=i) (by omega)
 simp only[Int.toNat_natCast]at g3⊢
 refine⟨fun j bZ=>bZ=o/\(A:Int)<=j/\j<B/\scanDown (fun x=> !aX x o.toArray[A]!) o.toArray aD (B-1)=j.toNat,⟨fun j bZ=>bZ=o/\(A:Int)<=j/\j<B/\scanDown (fun x=> !aX x o.toArray[A]!) o.toArray aD (B-1)=scanDown (fun x=> !aX x o.toArray[A]!) o.toArray aD j.toNat,fun j _=>j.toNat,⟨rfl,by omega,by omega, ?_⟩, ?_⟩, ?_⟩
 ·rw[show((B:Int)-1).toNat=B-1 by omega]
 ·rintro j bZ ⟨rfl,aU,a_,bF⟩
  obtain⟨a8,rfl⟩:=Int.eq_ofNat_of_zero_le (a:=j) (by omega)
  simp only[Int.toNat_natCast]at bF⊢
  refine⟨fun h=> ?_,fun h=> ?_⟩
  ·have h:=of_decide_eq_true h
   have cn:a8<bZ.length:=by omega
   have cF:A<bZ.length:=by omega
   rw[bl (x:=(a8:Int)-1) (by omega)]
   obtain⟨fk,rfl⟩:∃fk,a8=fk+1:=⟨a8-1,by omega⟩
   refine⟨by omega,by omega,eK.len cn,by omega,by omega,eK.len cF,⟨eK.get cn,eK.get cF⟩, ?_⟩
   rintro _ rfl
   refine⟨fun aa=>⟨⟨trivial,by omega,by omega, ?_⟩,by omega⟩,fun aa=>⟨trivial,by omega,by omega, ?_⟩⟩
   ·rw[bF,Gg (by omega) (by rw[iZ];exact aa),show(((fk+1:Nat):Int)-1).toNat=fk by omega]
   ·rw[bF,uW (by omega) (.inr (by rw[iZ];exact aa))]
  ·have h:=of_decide_eq_false h
   exact⟨trivial,by omega,by omega,by rw[bF,uW (by omega) (.inl (by omega))]⟩
 rintro j bZ ⟨rfl,aU,a_,bF⟩
 obtain⟨a8,rfl⟩:=Int.eq_ofNat_of_zero_le (a:=j) (by omega)
 simp only[Int.toNat_natCast]at bF⊢
 have RO:A<bZ.length:=by omega
 have wi:a8<bZ.length:=by omega
 refine⟨fun h=> ?_,fun h=> ?_⟩
 ·have h:=of_decide_eq_true h
  rw[ay g3 bF (by omega)]at ab
  exact⟨by omega,by omega,eK.len RO,by omega,by omega,eK.len wi,by omega,by omega,by omega,by omega,ab⟩
 ·have h:=of_decide_eq_false h
  rw[aw g3 bF (by omega)]at ab
  have IV:aD<bZ.length:=by omega
  rw[bl (x:=(aD:Int)+1) (by omega),bl (x:=(a8:Int)-1) (by omega),show(bZ.set aD (bZ.getD a8 [])).set a8 (bZ.getD aD [])=dk bZ aD a8 from rfl]
  have hJ:=eK.dk IV wi
  have gC:(dk bZ aD a8).length=l.length:=by rw[rA];exact ec
  clear ay aw g3 bF
  generalize dk bZ aD a8=db at hJ gC ab
  refine⟨by omega,by omega,eK.len wi,by omega,by omega,eK.len IV,by omega,by omega,by omega,by omega, ?_⟩
  clear eK RO wi IV ec
  generalize dT:partLoop aX A (aD+1) (a8-1) db.toArray=bp at ab
  refine⟨fun j o=>(A:Int)<=j/\j<B/\cQ o/\o.length=l.length/\bp=(j.toNat,o.toArray),⟨fun i j o=>(A:Int)+1<=i/\i<=j+2/\(A:Int)<=j/\j<B/\cQ o/\o.length=l.length/\partLoop aX A i.toNat j.toNat o.toArray=bp,fun i j _=>(j+2-i:Int).toNat,⟨by omega,by omega,by omega,by omega,hJ,gC, ?_⟩, ?_⟩, ?_⟩
  ·rw[show((aD:Int)+1).toNat=aD+1 by omega,show((a8:Int)-1).toNat=a8-1 by omega];exact dT
  ·rintro i j o ⟨q1,cb,cu,fM,dm,hO,gm⟩
   obtain⟨oH,rfl⟩:=Int.eq_ofNat_of_zero_le (a:=i) (by omega)
   obtain⟨hz,rfl⟩:=Int.eq_ofNat_of_zero_le (a:=j) (by omega)
   simp only[Int.toNat_natCast]at gm⊢
   have cF:A<o.length:=by omega
   refine⟨fun i2 ba=>ba=o/\(oH:Int)<=i2/\i2<=(hz:Int)+2/\scanUp (fun x=>aX x o.toArray[A]!) o.toArray hz oH=i2.toNat,⟨fun i2 ba=>ba=o/\(oH:Int)<=i2/\i2<=(hz:Int)+2/\scanUp (fun x=>aX x o.toArray[A]!) o.toArray hz oH=scanUp (fun x=>aX x o.toArray[A]!) o.toArray hz i2.toNat,fun i2 _=>((hz:Int)+2-i2).toNat,⟨rfl,by omega,by omega,by rw[Int.toNat_natCast]⟩, ?_⟩, ?_⟩
   ·rintro i2 ba ⟨rfl,j2,kB,ds⟩
    obtain⟨cK,rfl⟩:=Int.eq_ofNat_of_zero_le (a:=i2) (by omega)
    simp only[Int.toNat_natCast]at ds⊢
    refine⟨fun h=> ?_,fun h=> ?_⟩
    ·have h:=of_decide_eq_true h
     have cn:cK<ba.length:=by omega
     rw[bl (x:=(cK:Int)+1) (by omega)]
     refine⟨by omega,by omega,dm.len cn,by omega,by omega,dm.len cF,⟨dm.get cn,dm.get cF⟩, ?_⟩
     rintro _ rfl
     refine⟨fun aa=>⟨⟨trivial,by omega,by omega, ?_⟩,by omega⟩,fun aa=>⟨trivial,by omega,by omega, ?_⟩⟩
     ·rw[ds,Gf (by omega) (by rw[iZ];exact aa),show((cK:Int)+1).toNat=cK+1 by omega]
     ·rw[ds,uV (.inr (by rw[iZ];exact aa))]
    ·have h:=of_decide_eq_false h
     exact⟨trivial,by omega,by omega,by rw[ds,uV (.inl (by omega))]⟩
   rintro i2 ba ⟨rfl,j2,kB,ds⟩
   obtain⟨cK,rfl⟩:=Int.eq_ofNat_of_zero_le (a:=i2) (by omega)
   simp only[Int.toNat_natCast]at ds⊢
   refine⟨fun dW cp=>cp=ba/\(A:Int)<=dW/\dW<=hz/\scanDown (fun x=> !aX x ba.toArray[A]!) ba.toArray cK hz=dW.toNat,⟨fun dW cp=>cp=ba/\(A:Int)<=dW/\dW<=hz/\scanDown (fun x=> !aX x ba.toArray[A]!) ba.toArray cK hz=scanDown (fun x=> !aX x ba.toArray[A]!) ba.toArray cK dW.toNat,fun dW _=>dW.toNat,⟨rfl,by omega,by omega,by rw[Int.toNat_natCast]⟩, ?_⟩, ?_⟩
   ·rintro dW cp ⟨rfl,aU,a_,bF⟩
    obtain⟨hq,rfl⟩:=Int.eq_ofNat_of_zero_le (a:=dW) (by omega)
    simp only[Int.toNat_natCast]at bF⊢
    refine⟨fun h=> ?_,fun h=> ?_⟩
    ·have h:=of_decide_eq_true h
     have cn:hq<cp.length:=by omega
     rw[bl (x:=(hq:Int)-1) (by omega)]
     obtain⟨fk,rfl⟩:∃fk,hq=fk+1:=⟨hq-1,by omega⟩
     refine⟨by omega,by omega,dm.len cn,by omega,by omega,dm.len cF,⟨dm.get cn,dm.get cF⟩, ?_⟩
     rintro _ rfl
     refine⟨fun aa=>⟨⟨trivial,by omega,by omega, ?_⟩,by omega⟩,fun aa=>⟨trivial,by omega,by omega, ?_⟩⟩
     ·rw[bF,Gg (by omega) (by rw[iZ];exact aa),show(((fk+1:Nat):Int)-1).toNat=fk by omega]
     ·rw[bF,uW (by omega) (.inr (by rw[iZ];exact aa))]
    ·have h:=of_decide_eq_false h
     exact⟨trivial,by omega,by omega,by rw[bF,uW (by omega) (.inl (by omega))]⟩
   rintro dW cp ⟨rfl,aU,a_,bF⟩
   obtain⟨hq,rfl⟩:=Int.eq_ofNat_of_zero_le (a:=dW) (by omega)
   simp only[Int.toNat_natCast]at bF⊢
   have y4:hq<cp.length:=by omega
   refine⟨fun h=> ?_,fun h=> ?_⟩
   ·have h:=of_decide_eq_true h
    exact⟨by omega,by omega,dm,hO,by rw[<-gm,Uw ds bF (by omega)]⟩
   ·have h:=of_decide_eq_false h
    have y5:cK<cp.length:=by omega
    rw[bl (x:=(cK:Int)+1) (by omega),bl (x:=(hq:Int)-1) (by omega),show(cp.set cK (cp.getD hq [])).set hq (cp.getD cK [])=dk cp cK hq from rfl]
    refine⟨by omega,by omega,dm.len y4,by omega,by omega,dm.len y5,by omega,by omega,by omega,by omega,⟨by omega,by omega,by omega,by omega,dm.dk y5 y4,by rw[rA];exact hO, ?_⟩,by show((hq:Int)-1+2-(cK+1)).toNat<((hz:Int)+2-oH).toNat;omega⟩
    rw[<-gm,Wy ds bF (by omega) (by omega),show((cK:Int)+1).toNat=cK+1 by omega,show((hq:Int)-1).toNat=hq-1 by omega]
  ·rintro j o ⟨q1,cb,cu,fM,rfl⟩
   obtain⟨hz,rfl⟩:=Int.eq_ofNat_of_zero_le (a:=j) (by omega)
   simp only[Int.toNat_natCast]at ab⊢
   have uf:A<o.length:=by omega
   have wi:hz<o.length:=by omega
   rw[ki]at ab
   exact⟨by omega,by omega,cu.len uf,by omega,by omega,cu.len wi,by omega,by omega,by omega,by omega,ab⟩
theorem Ux {a i j i2 dW:Nat} {d:Array Row} (U:scanUp (fun x=> !aX d[a]! x) d j i=i2) (aa:scanDown (fun x=>aX d[a]! x) d i2 j=dW) (h:i2>dW):partEqLoop aX a i j d=(i2,d):=by
 rw[partEqLoop]
 simp only[U,aa,if_pos h]
theorem Wz {a i j i2 dW:Nat} {l:List Row} (U:scanUp (fun x=> !aX l.toArray[a]! x) l.toArray j i=i2) (aa:scanDown (fun x=>aX l.toArray[a]! x) l.toArray i2 j=dW) (h:¬i2>dW) (g:dW-1+1-(i2+1)<j+1-i):
 partEqLoop aX a i j l.toArray=partEqLoop aX a (i2+1) (dW-1) (dk l i2 dW).toArray:=by
 rw[partEqLoop]
 simp only[U,aa,if_neg h,dif_pos g,ki]
theorem abH (l:List Row) (a b p:Int) (K:ad->J->Prop) (h:(fe l a b/\a<=p/\p<b)/\K (.rows 11 (partitionEqual aX l.toArray a.toNat b.toNat p.toNat).2.toList) (.d (.int .i64 (partitionEqual aX l.toArray a.toNat b.toNat p.toNat).1))):I8 l a b p K:=by
 obtain⟨⟨⟨aq,aC,jf,ae,ar⟩,Ig,qK⟩,ab⟩:=h
 obtain⟨A,rfl⟩:=Int.eq_ofNat_of_zero_le aC
 obtain⟨B,rfl⟩:=Int.eq_ofNat_of_zero_le (Int.le_trans aC jf)
 obtain⟨Q,rfl⟩:=Int.eq_ofNat_of_zero_le (Int.le_trans aC Ig)
 simp only[Int.toNat_natCast]at ab
 unfold I8
 have uf:A<l.length:=by omega
 have zt:Q<l.length:=by omega
 rw[bl (x:=(A:Int)+1) (by omega),bl (x:=(B:Int)-1) (by omega)]
 simp only[Int.toNat_natCast,List.length_set]
 rw[show(l.set A (l.getD Q [])).set Q (l.getD A [])=dk l A Q from rfl]
 have eK:=aq.dk uf zt
 have ec:(dk l A Q).length=l.length:=rA _ _ _
 unfold partitionEqual at ab
 rw[ki]at ab
 generalize dk l A Q=cj at eK ec ab
 refine⟨by omega,by omega,aq.len zt,by omega,by omega,aq.len uf,by omega,by omega,by omega,by omega, ?_⟩
 generalize dT:partEqLoop aX A (A+1) (B-1) cj.toArray=bp at ab
 refine⟨fun i o=>bp=(i.toNat,o.toArray)/\0<=i,⟨fun i j o=>(A:Int)+1<=i/\i<=j+2/\(A:Int)<=j/\j<B/\cQ o/\o.length=l.length/\partEqLoop aX A i.toNat j.toNat o.toArray=bp,fun i j _=>(j+2-i:Int).toNat,⟨by omega,by omega,by omega,by omega,eK,ec, ?_⟩, ?_⟩, ?_⟩
 ·rw[show((A:Int)+1).toNat=A+1 by omega,show((B:Int)-1).toNat=B-1 by omega];exact dT
 ·rintro i j o ⟨q1,cb,cu,fM,dm,hO,gm⟩
  obtain⟨oH,rfl⟩:=Int.eq_ofNat_of_zero_le (a:=i) (by omega)
  obtain⟨hz,rfl⟩:=Int.eq_ofNat_of_zero_le (a:=j) (by omega)
  simp only[Int.toNat_natCast]at gm⊢
  have cF:A<o.length:=by omega
  refine⟨fun i2 ba=>ba=o/\(oH:Int)<=i2/\i2<=(hz:Int)+2/\scanUp (fun x=> !aX o.toArray[A]! x) o.toArray hz oH=i2.toNat,⟨fun i2 ba=>ba=o/\(oH:Int)<=i2/\i2<=(hz:Int)+2/\scanUp (fun x=> !aX o.toArray[A]! x) o.toArray hz oH=scanUp (fun x=> !aX o.toArray[A]! x) o.toArray hz i2.toNat,fun i2 _=>((hz:Int)+2-i2).toNat,⟨rfl,by omega,by omega,by rw[Int.toNat_natCast]⟩, ?_⟩, ?_⟩
  ·rintro i2 ba ⟨rfl,j2,kB,ds⟩
   obtain⟨cK,rfl⟩:=Int.eq_ofNat_of_zero_le (a:=i2) (by omega)
   simp only[Int.toNat_natCast]at ds⊢
   refine⟨fun h=> ?_,fun h=> ?_⟩
   ·have h:=of_decide_eq_true h
    have cn:cK<ba.length:=by omega
    rw[bl (x:=(cK:Int)+1) (by omega)]
    refine⟨by omega,by omega,dm.len cF,by omega,by omega,dm.len cn,⟨dm.get cF,dm.get cn⟩, ?_⟩
    rintro _ rfl
    refine⟨fun aa=>⟨⟨trivial,by omega,by omega, ?_⟩,by omega⟩,fun aa=>⟨trivial,by omega,by omega, ?_⟩⟩
    ·rw[ds,Gf (by omega) (by rw[iZ];exact aa),show((cK:Int)+1).toNat=cK+1 by omega]
    ·rw[ds,uV (.inr (by rw[iZ];exact aa))]
   ·have h:=of_decide_eq_false h
    exact⟨trivial,by omega,by omega,by rw[ds,uV (.inl (by omega))]⟩
  rintro i2 ba ⟨rfl,j2,kB,ds⟩
  obtain⟨cK,rfl⟩:=Int.eq_ofNat_of_zero_le (a:=i2) (by omega)
  simp only[Int.toNat_natCast]at ds⊢
  refine⟨fun dW cp=>cp=ba/\(A:Int)<=dW/\dW<=hz/\scanDown (fun x=>aX ba.toArray[A]! x) ba.toArray cK hz=dW.toNat,⟨fun dW cp=>cp=ba/\(A:Int)<=dW/\dW<=hz/\scanDown (fun x=>aX ba.toArray[A]! x) ba.toArray cK hz=scanDown (fun x=>aX ba.toArray[A]! x) ba.toArray cK dW.toNat,fun dW _=>dW.toNat,⟨rfl,by omega,by omega,by rw[Int.toNat_natCast]⟩, ?_⟩, ?_⟩
  ·rintro dW cp ⟨rfl,aU,a_,bF⟩
   obtain⟨hq,rfl⟩:=Int.eq_ofNat_of_zero_le (a:=dW) (by omega)
   simp only[Int.toNat_natCast]at bF⊢
   refine⟨fun h=> ?_,fun h=> ?_⟩
   ·have h:=of_decide_eq_true h
    have cn:hq<cp.length:=by omega
    rw[bl (x:=(hq:Int)-1) (by omega)]
    obtain⟨fk,rfl⟩:∃fk,hq=fk+1:=⟨hq-1,by omega⟩
    refine⟨by omega,by omega,dm.len cF,by omega,by omega,dm.len cn,⟨dm.get cF,dm.get cn⟩, ?_⟩
    rintro _ rfl
    refine⟨fun aa=>⟨⟨trivial,by omega,by omega, ?_⟩,by omega⟩,fun aa=>⟨trivial,by omega,by omega, ?_⟩⟩
    ·rw[bF,Gg (by omega) (by rw[iZ];exact aa),show(((fk+1:Nat):Int)-1).toNat=fk by omega]
    ·rw[bF,uW (by omega) (.inr (by rw[iZ];exact aa))]
   ·have h:=of_decide_eq_false h
    exact⟨trivial,by omega,by omega,by rw[bF,uW (by omega) (.inl (by omega))]⟩
  rintro dW cp ⟨rfl,aU,a_,bF⟩
  obtain⟨hq,rfl⟩:=Int.eq_ofNat_of_zero_le (a:=dW) (by omega)
  simp only[Int.toNat_natCast]at bF⊢
  have y4:hq<cp.length:=by omega
  refine⟨fun h=> ?_,fun h=> ?_⟩
  ·have h:=of_decide_eq_true h
   exact⟨by rw[<-gm,Ux ds bF (by omega)],by omega⟩
  ·have h:=of_decide_eq_false h
   have y5:cK<cp.length:=by omega
   rw[bl (x:=(cK:Int)+1) (by omega),bl (x:=(hq:Int)-1) (by omega),show(cp.set cK (cp.getD hq [])).set hq (cp.getD cK [])=dk cp cK hq from rfl]
   refine⟨by omega,by omega,dm.len y4,by omega,by omega,dm.len y5,by omega,by omega,by omega,by omega,⟨by omega,by omega,by omega,by omega,dm.dk y5 y4,by rw[rA];exact hO, ?_⟩,by show((hq:Int)-1+2-(cK+1)).toNat<((hz:Int)+2-oH).toNat;omega⟩
   rw[<-gm,Wz ds bF (by omega) (by omega),show((cK:Int)+1).toNat=cK+1 by omega,show((hq:Int)-1).toNat=hq-1 by omega]
 ·rintro j o ⟨rfl,aK⟩
  obtain⟨hz,rfl⟩:=Int.eq_ofNat_of_zero_le aK
  exact ab
end I
end
section
namespace I
open Go Go.bG Go.Sort
theorem Xs {d:Array Row} {b i:Nat} (h:i<b) (aw:aX d[i]! d[i-1]! =false):scanSorted aX d b i=scanSorted aX d b (i+1):=by
 rw[scanSorted,if_pos (by simp[h,aw])]
theorem Pr {d:Array Row} {b i:Nat} (h:b<=i\/aX d[i]! d[i-1]! =true):scanSorted aX d b i=i:=by
 rw[scanSorted,if_neg]
 rcases h with h|h
 ·simp;omega
 ·simp[h]
theorem Ya {a b s i:Nat} {d:Array Row} (h:scanSorted aX d b i=b):partialIns aX a b (s+1) i d=(d,true):=by
 rw[partialIns];simp only[h,if_true]
theorem WA {a b s i j:Nat} {d:Array Row} (h:scanSorted aX d b i=j) (aK:j≠b) (ao:b-a<50):partialIns aX a b (s+1) i d=(d,false):=by
 rw[partialIns];simp only[h,if_neg aK,if_pos ao]
theorem YH {a b s i j:Nat} {d:Array Row} (h:scanSorted aX d b i=j) (aK:j≠b) (ao:¬b-a<50) {d2 d3:Array Row}
 (aa:(if j-a>=2 then shiftDown aX (j-1) (swp d j (j-1))else swp d j (j-1))=d2)
 (al:(if b-j>=2 then shiftUp aX b (j+1) d2 else d2)=d3):partialIns aX a b (s+1) i d=partialIns aX a b s j d3:=by
 rw[partialIns];simp only[h,if_neg aK,if_neg ao,aa,al]
theorem Ps {j:Nat} {d:Array Row} (h:j=0\/aX d[j]! d[j-1]! =false):shiftDown aX j d=d:=by
 cases j with
 |zero=>rfl
 |succ j=>
  rcases h with h|h
  ·cases h
  ·rw[shiftDown,if_pos];simpa using h
theorem YI {j:Nat} {l:List Row} (h:aX l.toArray[j+1]! l.toArray[j]! =true):shiftDown aX (j+1) l.toArray=shiftDown aX j (dk l (j+1) j).toArray:=by
 rw[shiftDown,if_neg (by rw[h];simp),ki]
theorem Pt {b j:Nat} {d:Array Row} (h:b<=j\/aX d[j]! d[j-1]! =false):shiftUp aX b j d=d:=by
 rw[shiftUp]
 split
 ·rcases h with h|h
  ·omega
  ·rw[if_pos];simpa using h
 ·rfl
theorem YJ {b j:Nat} {l:List Row} (ae:j<b) (h:aX l.toArray[j]! l.toArray[j-1]! =true):shiftUp aX b j l.toArray=shiftUp aX b (j+1) (dk l j (j-1)).toArray:=by
 rw[shiftUp,if_pos ae,if_neg (by rw[h];simp),ki]
theorem abG (l:List Row) (a b:Int) (K:ad->J->Prop) (h:(fe l a b/\a<b)/\K (.rows 11 (partialInsertionSort aX l.toArray a.toNat b.toNat).1.toList) (.d (.bool (partialInsertionSort aX l.toArray a.toNat b.toNat).2))):I7 l a b K:=by
 obtain⟨⟨⟨aq,aC,-,ae,ar⟩,jf⟩,ab⟩:=h
 obtain⟨A,rfl⟩:=Int.eq_ofNat_of_zero_le aC
 obtain⟨B,rfl⟩:=Int.eq_ofNat_of_zero_le (Int.le_trans aC (Int.le_of_lt jf))
 simp only[Int.toNat_natCast]at ab
 unfold partialInsertionSort at ab
 unfold I7
 rw[bl (x:=(A:Int)+1) (by omega),bl (x:=(B:Int)-A) (by omega)]
 generalize dT:partialIns aX A B 5 (A+1) l.toArray=bp at ab
 refine⟨fun o=>bp=(o.toArray,false),⟨fun i s o=>(A:Int)+1<=i/\i<=B/\0<=s/\s<=5/\cQ o/\o.length=l.length/\partialIns aX A B (5-s:Int).toNat i.toNat o.toArray=bp,fun _ s _=>(5-s:Int).toNat,⟨by omega,by omega,by omega,by omega,aq,rfl, ?_⟩, ?_⟩, ?_⟩
 ·rw[show((A:Int)+1).toNat=A+1 by omega];exact dT
 ·rintro i s o ⟨q1,cb,cu,fM,dm,hO,gm⟩
  obtain⟨aD,rfl⟩:=Int.eq_ofNat_of_zero_le (a:=i) (by omega)
  obtain⟨S,rfl⟩:=Int.eq_ofNat_of_zero_le cu
  simp only[Int.toNat_natCast]at gm⊢
  refine⟨fun h=> ?_,fun h=> ?_⟩
  case refine_2=>
   have h:=of_decide_eq_false h
   rw[show(5-(S:Int)).toNat=0 by omega]at gm
   exact gm.symm
  have h:=of_decide_eq_true h
  obtain⟨T,bj⟩:∃T,(5-(S:Int)).toNat=T+1:=⟨(5-(S:Int)).toNat-1,by omega⟩
  rw[bj]at gm
  rw[bl (x:=(S:Int)+1) (by omega)]
  refine⟨fun i2 ba=>ba=o/\(aD:Int)<=i2/\i2<=B/\scanSorted aX o.toArray B aD=i2.toNat,⟨fun i2 ba=>ba=o/\(aD:Int)<=i2/\i2<=B/\scanSorted aX o.toArray B aD=scanSorted aX o.toArray B i2.toNat,fun i2 _=>((B:Int)-i2).toNat,⟨rfl,by omega,by omega,by rw[Int.toNat_natCast]⟩, ?_⟩, ?_⟩
  ·rintro i2 ba ⟨rfl,j2,kB,ds⟩
   obtain⟨cK,rfl⟩:=Int.eq_ofNat_of_zero_le (a:=i2) (by omega)
   simp only[Int.toNat_natCast]at ds⊢
   refine⟨fun h=> ?_,fun h=> ?_⟩
   ·have h:=of_decide_eq_true h
    have cn:cK<ba.length:=by omega
    have cF:cK-1<ba.length:=by omega
    rw[bl (x:=(cK:Int)+1) (by omega),bl (x:=(cK:Int)-1) (by omega),show((cK:Int)-1).toNat=cK-1 by omega]
    refine⟨by omega,by omega,dm.len cn,by omega,by omega,dm.len cF,⟨dm.get cn,dm.get cF⟩, ?_⟩
    rintro _ rfl
    refine⟨fun aa=>⟨⟨trivial,by omega,by omega, ?_⟩,by omega⟩,fun aa=>⟨trivial,by omega,by omega, ?_⟩⟩
    ·rw[ds,Xs (by omega) (by rw[iZ];simpa using aa),show((cK:Int)+1).toNat=cK+1 by omega]
    ·rw[ds,Pr (.inr (by rw[iZ];simpa using aa))]
   ·have h:=of_decide_eq_false h
    exact⟨trivial,by omega,by omega,by rw[ds,Pr (.inl (by omega))]⟩
  rintro i2 ba ⟨rfl,j2,kB,ds⟩
  obtain⟨cK,rfl⟩:=Int.eq_ofNat_of_zero_le (a:=i2) (by omega)
  simp only[Int.toNat_natCast]at ds⊢
  refine⟨fun h=> ?_,fun h=> ?_⟩
  ·have h:=of_decide_eq_true h
   have h:cK=B:=by omega
   subst h
   rw[Ya ds]at gm
   rw[<-gm]at ab;exact ab
  have h:=of_decide_eq_false h
  have cV:cK≠B:=fun e=>h (by rw[e])
  refine⟨fun h=> ?_,fun h=> ?_⟩
  ·have h:=of_decide_eq_true h
   rw[WA ds cV (by omega)]at gm
   rw[<-gm]at ab;exact ab
  have ajj:=of_decide_eq_false h
  have cn:cK<ba.length:=by omega
  have cF:cK-1<ba.length:=by omega
  rw[bl (x:=(cK:Int)+1) (by omega),bl (x:=(cK:Int)-1) (by omega),bl (x:=(cK:Int)-A) (by omega),bl (x:=(B:Int)-cK) (by omega),show((cK:Int)-1).toNat=cK-1 by omega]
  simp only[List.length_set]
  rw[show(ba.set cK (ba.getD (cK-1) [])).set (cK-1) (ba.getD cK [])=dk ba cK (cK-1)from rfl]
  refine⟨by omega,by omega,dm.len cF,by omega,by omega,dm.len cn,by omega,by omega,by omega,by omega, ?_⟩
  have eK:=dm.dk cn cF
  have ec:(dk ba cK (cK-1)).length=l.length:=by rw[rA];exact hO
  have nH:=fun d2 d3=> @YH A B T aD cK ba.toArray ds cV (by omega) d2 d3
  rw[ki]at nH
  generalize dk ba cK (cK-1)=cj at eK ec nH
  clear ds cn cF
  refine⟨fun o=>cQ o/\o.length=l.length/\(if cK-A>=2 then shiftDown aX (cK-1) cj.toArray else cj.toArray)=o.toArray,⟨fun h=> ?_,fun h=> ?_⟩, ?_⟩
  ·have h:=of_decide_eq_true h
   rw[if_pos (show cK-A>=2 by omega)]
   refine⟨fun j o=>0<=j/\j<cK/\cQ o/\o.length=l.length/\shiftDown aX (cK-1) cj.toArray=shiftDown aX j.toNat o.toArray,fun j _=>j.toNat,⟨by omega,by omega,eK,ec,by rw[show((cK:Int)-1).toNat=cK-1 by omega]⟩, ?_⟩
   rintro j o ⟨g1,g2,g3,g4,g5⟩
   obtain⟨a8,rfl⟩:=Int.eq_ofNat_of_zero_le g1
   simp only[Int.toNat_natCast,List.length_set]at g5⊢
   refine⟨fun h=> ?_,fun h=> ?_⟩
   ·have h:=of_decide_eq_true h
    obtain⟨fk,rfl⟩:∃fk,a8=fk+1:=⟨a8-1,by omega⟩
    rw[bl (x:=((fk+1:Nat):Int)-1) (by omega),show((fk+1:Nat):Int)-1=(fk:Int) by omega,Int.toNat_natCast]
    have cn:fk+1<o.length:=by omega
    have cF:fk<o.length:=by omega
    refine⟨by omega,by omega,g3.len cn,by omega,by omega,g3.len cF,⟨g3.get cn,g3.get cF⟩, ?_⟩
    rintro _ rfl
    refine⟨fun aa=>⟨g3,g4, ?_⟩,fun aa=>⟨by omega,by omega,g3.len cF,by omega,by omega,g3.len cn,by omega,by omega,by omega,by omega,⟨by omega,by omega,g3.dk cn cF,by simpa using g4, ?_⟩,by omega⟩⟩
    ·rw[g5,Ps (.inr (by rw[iZ];simpa using aa))]
    ·rw[g5,YI (by rw[iZ];simpa using aa)];rfl
   ·have h:=of_decide_eq_false h
    exact⟨g3,g4,by rw[g5,Ps (.inl (by omega))]⟩
  ·have h:=of_decide_eq_false h
   rw[if_neg (show¬cK-A>=2 by omega)]
   exact⟨eK,ec,rfl⟩
  rintro db ⟨hJ,gC,az⟩
  replace nH:=fun d3=>nH _ d3 az
  refine⟨fun h=> ?_,fun h=> ?_⟩
  ·have h:=of_decide_eq_true h
   rw[if_pos (show B-cK>=2 by omega)]at nH
   refine⟨fun j o=>(cK:Int)+1<=j/\j<=B/\cQ o/\o.length=l.length/\shiftUp aX B (cK+1) db.toArray=shiftUp aX B j.toNat o.toArray,fun j _=>((B:Int)-j).toNat,⟨by omega,by omega,hJ,gC,by rw[show((cK:Int)+1).toNat=cK+1 by omega]⟩, ?_⟩
   rintro j o ⟨g1,g2,g3,g4,g5⟩
   obtain⟨a8,rfl⟩:=Int.eq_ofNat_of_zero_le (a:=j) (by omega)
   simp only[Int.toNat_natCast,List.length_set]at g5⊢
   have fin:shiftUp aX B a8 o.toArray=o.toArray->((A:Int)+1<=cK/\(cK:Int)<=B/\(0:Int)<=(S:Int)+1/\(S:Int)+1<=5/\cQ o/\o.length=l.length/\partialIns aX A B (5-((S:Int)+1)).toNat cK o.toArray=bp)/\(5-((S:Int)+1)).toNat<(5-(S:Int)).toNat:=fun e=>by
    refine⟨⟨by omega,by omega,by omega,by omega,g3,g4, ?_⟩,by omega⟩
    rw[<-gm,nH _ (g5.trans e),show(5-((S:Int)+1)).toNat=T by omega]
   refine⟨fun h=> ?_,fun h=> ?_⟩
   ·have h:=of_decide_eq_true h
    have cn:a8<o.length:=by omega
    have cF:a8-1<o.length:=by omega
    rw[bl (x:=(a8:Int)+1) (by omega),bl (x:=(a8:Int)-1) (by omega),show((a8:Int)-1).toNat=a8-1 by omega]
    refine⟨by omega,by omega,g3.len cn,by omega,by omega,g3.len cF,⟨g3.get cn,g3.get cF⟩, ?_⟩
    rintro _ rfl
    refine⟨fun aa=>fin (Pt (.inr (by rw[iZ];simpa using aa))),fun aa=>⟨by omega,by omega,g3.len cF,by omega,by omega,g3.len cn,by omega,by omega,by omega,by omega,⟨by omega,by omega,g3.dk cn cF,by simpa using g4, ?_⟩,by omega⟩⟩
    rw[g5,YJ (by omega) (by rw[iZ];simpa using aa),show((a8:Int)+1).toNat=a8+1 by omega];rfl
   ·have h:=of_decide_eq_false h
    exact fin (Pt (.inl (by omega)))
  ·have h:=of_decide_eq_false h
   rw[if_neg (show¬B-cK>=2 by omega)]at nH
   refine⟨⟨by omega,by omega,by omega,by omega,hJ,gC, ?_⟩,by omega⟩
   rw[<-gm,nH _ rfl,show(5-((S:Int)+1)).toNat=T by omega]
 ·rintro o rfl
  exact ab
end I
end
section
namespace I
open Go Go.bG Go.Sort
theorem AH:∀x y:List Int,dR y x=-dR x y
 |[],[]=>rfl
 |[],_::_=>rfl
 |_::_,[]=>rfl
 |a::x,b::y=>by
  have bA:=AH x y
  unfold dR
  by_cases h:b<a
  ·rw[if_pos h,if_neg (show¬a<b by omega),if_pos h]
  ·rw[if_neg h]
   by_cases aa:a<b
   ·rw[if_pos aa,if_pos aa];rfl
   ·rw[if_neg aa,if_neg aa,if_neg h];exact bA
theorem Gh:∀x y z:List Int,dR x y<=0->dR y z<=0->dR x z<=0
 |[],_,[]=>fun _ _=>Int.le_refl _
 |[],_,_::_=>fun _ _=>by simp[dR]
 |a::x,[],_=>fun h=>by simp[dR]at h
 |a::x,b::y,[]=>fun _ h=>by simp[dR]at h
 |a::x,b::y,c::z=>fun U aa=>by
  have bA:=Gh x y z
  unfold dR at U aa⊢
  by_cases an:a<b
  ·by_cases az:b<c
   ·rw[if_pos (by omega)];decide
   ·rw[if_neg az]at aa
    by_cases bK:c<b
    ·rw[if_pos bK]at aa;cases aa
    ·rw[if_pos (by omega)];decide
  ·rw[if_neg an]at U
   by_cases bK:b<a
   ·rw[if_pos bK]at U;cases U
   ·rw[if_neg bK]at U
    have:a=b:=by omega
    subst this
    by_cases cm:a<c
    ·rw[if_pos cm];decide
    ·rw[if_neg cm]at aa⊢
     by_cases eL:c<a
     ·rw[if_pos eL]at aa;cases aa
     ·rw[if_neg eL]at aa⊢;exact bA U aa
theorem Xt (a b:Row):aX a b=true↔0<dR (dY a) (dY b):=by
 unfold aX fX
 rw[decide_eq_true_eq];omega
theorem P2 (a b:Row):aX a b=false↔dR (dY a) (dY b)<=0:=by
 unfold aX fX
 rw[decide_eq_false_iff_not];omega
theorem p5:SWO aX where
 irrefl x:=by
  rw[P2]
  have:=AH (dY x) (dY x);omega
 trans x y z U aa:=by
  rw[Xt]at U aa⊢
  refine Int.not_le.1 fun h=> ?_
  have al:=AH (dY y) (dY z)
  have:=Gh (dY x) (dY z) (dY y) h (by omega)
  omega
 ntrans x y z U aa:=by
  rw[P2]at U aa⊢
  exact Gh _ _ _ U aa
theorem sC {l:Rows} {d:Array Row} {a b:Nat} (aq:cQ l) (ae:b<=l.length) (aw:PermIn a b l.toArray d):cQ d.toList/\d.toList.length=l.length:=by
 have ao:d.size=l.length:=by rw[aw.1];simp
 refine⟨fun r ak=> ?_,by simpa using ao⟩
 obtain⟨i,hi,rfl⟩:=List.getElem_of_mem ak
 have dH:i<d.size:=by simpa using hi
 have e:d.toList[i]=d[i]! :=by simp[dH]
 rw[e]
 by_cases h:a<=i/\i<b
 ·refine permIn_all l.toArray d a b dZ (by simpa using ae) aw (fun j U aa=> ?_) i h.1 h.2
  rw[uX];exact aq.get (by omega)
 ·rw[aw.2.1 i (by omega),uX];exact aq.get (by omega)
theorem adW (x:Int) (K:J->Prop) (h:xq.T [.d (.int .u64 x)] K):KN x K:=by
 obtain⟨af,ab⟩:=h
 obtain⟨n,rfl⟩:∃n:Nat,x=n:=⟨x.toNat,by omega⟩
 rw[Int.toNat_natCast]at ab
 unfold KN
 refine⟨fun v s=>∃m k:Nat,v=m/\s=k/\m<4294967296/\k<=32/\cL n=cL m+k,⟨fun h=> ?_,fun h=> ?_⟩, ?_⟩
 ·simp only[decide_eq_true_eq]at h
  have:=w_ (n:=n) (k:=32) (by omega)
  refine⟨n/4294967296,32, ?_,rfl,by omega,by omega,this⟩
  rw[Int.fdiv_eq_ediv_of_nonneg _ (by omega)];omega
 ·simp only[decide_eq_false_iff_not]at h
  exact⟨n,0,rfl,rfl,by omega,by omega,rfl⟩
 rintro v s ⟨m,k,rfl,rfl,hm,Df,he⟩
 refine⟨fun v s=>∃m k:Nat,v=m/\s=k/\m<65536/\k<=48/\cL n=cL m+k,⟨fun h=> ?_,fun h=> ?_⟩, ?_⟩
 ·simp only[decide_eq_true_eq]at h
  have:=w_ (n:=m) (k:=16) (by omega)
  rw[bl (x:=(k:Int)+16) (by omega)]
  refine⟨m/65536,k+16, ?_,by omega,by omega,by omega,by rw[he,this];show cL (m/65536)+16+k=_;omega⟩
  rw[Int.fdiv_eq_ediv_of_nonneg _ (by omega)];omega
 ·simp only[decide_eq_false_iff_not]at h
  exact⟨m,k,rfl,rfl,by omega,by omega,he⟩
 clear hm Df he
 rintro v s ⟨m,k,rfl,rfl,hm,aiW,he⟩
 have fin:∀(q c:Nat),q<256->c<=56->cL n=cL q+c->K (.d (.int .i64 (IntKind.wrap .i64 ((c:Int)+IntKind.wrap .i64 (tab.getD q 0))))):=fun q c aN ay e=>by
  have ae:=uS (n:=q) (k:=8) (by omega)
  rw[O_ q aN,bl (x:=(cL q:Int)) (by omega),bl (by omega)]
  rw[show(c:Int)+(cL q:Int)=((cL n:Nat):Int) by omega]
  exact ab
 refine⟨fun h=> ?_,fun h=> ?_⟩
 ·simp only[decide_eq_true_eq]at h
  have aP:IntKind.wrap .u8 (Int.fdiv (m:Int) 256)=((m/256:Nat):Int):=by
   rw[Int.fdiv_eq_ediv_of_nonneg _ (by omega),qF (by omega)];omega
  rw[aP,bl (x:=(k:Int)+8) (by omega),Int.toNat_natCast]
  have:=w_ (n:=m) (k:=8) (by omega)
  exact⟨by omega,by omega,fin (m/256) (k+8) (by omega) (by omega) (by rw[he,this];show cL (m/256)+8+k=_;omega)⟩
 ·simp only[decide_eq_false_iff_not]at h
  rw[qF (x:=(m:Int)) (by omega),Int.toNat_natCast]
  exact⟨by omega,by omega,fin m k (by omega) (by omega) he⟩
theorem aeR (x:Int) (K:J->Prop) (h:xq.T [.d (.int .u64 x)] K):TV x K:=by
 obtain⟨af,ab⟩:=h
 refine⟨af, ?_⟩
 rintro _ rfl
 exact ab
theorem Xu (n:Nat):n<2^cL n:=by
 by_cases h:n=0
 ·subst h;exact Nat.two_pow_pos _
 ·exact(uy h).2.1
theorem WB {n:Nat} (h:0<n):2^cL n<=2*n:=by
 obtain⟨cn,_,hN⟩:=uy (n:=n) (by omega)
 obtain⟨k,ab⟩:∃k,cL n=k+1:=⟨cL n-1,by omega⟩
 rw[ab]at cn⊢
 rw[Nat.pow_succ]
 simp at cn;omega
theorem acz (x:Int) (K:J->Prop) (h:Dk.T [.d (.int .i64 x)] K):JV x K:=by
 obtain⟨af,ab⟩:=h
 unfold JV
 rw[cl (x:=x) (by omega)]
 refine⟨by omega, ?_⟩
 rintro _ rfl
 refine⟨by omega, ?_⟩
 have U:=uS (n:=x.toNat) (k:=62) (by omega)
 have aa:(2:Nat)^cL x.toNat<=2^62:=Nat.pow_le_pow_right (by decide) U
 rw[show(2:Nat)^62=4611686018427387904 from rfl]at aa
 rw[Int.toNat_natCast,Nat.min_eq_left (by omega),Int.one_mul]
 have e:((2:Int)^cL x.toNat)=((2^cL x.toNat:Nat):Int):=by simp
 rw[e]
 generalize 2^cL x.toNat=q at aa ab
 rw[cl (by omega)]
 exact ab
end I
end
section
namespace I
open Go Go.bG
theorem Gc:∀x y:List Int,dR x y=0↔x=y
 |[],[]=>by simp[dR]
 |[],_::_=>by simp[dR]
 |_::_,[]=>by simp[dR]
 |a::x,b::y=>by
  have bA:=Gc x y
  unfold dR
  by_cases h:a<b
  ·rw[if_pos h]
   exact⟨fun e=>by simp at e,fun e=>by injection e;omega⟩
  ·rw[if_neg h]
   by_cases aa:b<a
   ·rw[if_pos aa]
    exact⟨fun e=>by simp at e,fun e=>by injection e;omega⟩
   ·rw[if_neg aa,bA,show a=b by omega]
    simp
theorem N5:∀x y:List Int,dR x y=-1\/dR x y=0\/dR x y=1
 |[],[]=> .inr (.inl rfl)
 |[],_::_=> .inl rfl
 |_::_,[]=> .inr (.inr rfl)
 |a::x,b::y=>by
  have bA:=N5 x y
  unfold dR
  by_cases h:a<b
  ·rw[if_pos h];exact .inl rfl
  ·rw[if_neg h]
   by_cases aa:b<a
   ·rw[if_pos aa];exact .inr (.inr rfl)
   ·rw[if_neg aa];exact bA
theorem EH:∀x y z:List Int,dR x y=1->dR y z=1->dR x z=1
 |[],[],_=>fun h=>by simp[dR]at h
 |[],_::_,_=>fun h=>by simp[dR]at h
 |_::_,_,[]=>fun _ _=>rfl
 |a::x,[],_::_=>fun _ h=>by simp[dR]at h
 |a::x,b::y,c::z=>fun U aa=>by
  have bA:=EH x y z
  unfold dR at U aa⊢
  by_cases an:a<b
  ·rw[if_pos an]at U;simp at U
  ·rw[if_neg an]at U
   by_cases az:b<c
   ·rw[if_pos az]at aa;simp at aa
   ·rw[if_neg az]at aa
    rw[if_neg (by omega)]
    by_cases bK:c<a
    ·rw[if_pos bK]
    ·rw[if_neg bK]
     rw[if_neg (by omega)]at U aa
     exact bA U aa
abbrev m_ (x y:List Int):Prop:=dR x y=1
theorem Vi (x:List Int):¬m_ x x:=fun h=>by
 have:=(Gc x x).2 rfl
 unfold m_ at h;omega
theorem YG {x y:List Int} (h:m_ x y):x≠y:=fun e=>Vi y (e▸h)
theorem FC {x y:List Int} (h:x≠y):m_ x y\/m_ y x:=by
 have U:=N5 x y
 have aa:=AH x y
 have al:dR x y≠0:=fun e=>h ((Gc x y).1 e)
 unfold m_;omega
def mZ (p:List bu):Prop:=p.Pairwise (fun t u=>m_ t.1 u.1)/\∀t∈p,t.2≠0
theorem mZ.tail {t:bu} {p:List bu} (h:mZ (t::p)):mZ p:=⟨(List.pairwise_cons.1 h.1).2,fun u hu=>h.2 u (by simp[hu])⟩
theorem Gd {t u:bu}:∀{p:List bu},u∈ins t p->u.1=t.1\/∃v∈p,v.1=u.1
 |[],h=>by
  unfold ins at h
  split at h
  ·simp at h
  ·simp at h;exact .inl (by rw[h])
 |x::p,h=>by
  unfold ins at h
  split at h
  ·split at h
   ·exact .inr ⟨u,by simp[h],rfl⟩
   ·rcases List.mem_cons.1 h with rfl|h
    ·exact .inr ⟨x,by simp,rfl⟩
    ·exact .inr ⟨u,by simp[h],rfl⟩
  ·split at h
   ·split at h
    ·exact .inr ⟨u,h,rfl⟩
    ·rcases List.mem_cons.1 h with rfl|h
     ·exact .inl rfl
     ·exact .inr ⟨u,h,rfl⟩
   ·rcases List.mem_cons.1 h with rfl|h
    ·exact .inr ⟨u,by simp,rfl⟩
    ·rcases Gd h with h|⟨v,aM,e⟩
     ·exact .inl h
     ·exact .inr ⟨v,by simp[aM],e⟩
theorem Pq (t:bu):∀{p:List bu},mZ p->mZ (ins t p)
 |[],_=>by
  unfold ins
  split
  ·exact⟨List.Pairwise.nil,fun u hu=>absurd hu List.not_mem_nil⟩
  ·rename_i h
   exact⟨List.pairwise_singleton _ _,fun _ hu=>by rw[List.mem_singleton.1 hu];exact h⟩
 |x::p,h=>by
  have bA:=Pq t h.tail
  obtain⟨U,aa⟩:=List.pairwise_cons.1 h.1
  unfold ins
  split
  ·split
   ·exact h.tail
   ·rename_i e ne
    exact⟨List.pairwise_cons.2 ⟨U,aa⟩,fun u hu=>by
     rcases List.mem_cons.1 hu with rfl|hu
     ·exact ne
     ·exact h.2 u (by simp[hu])⟩
  ·rename_i ne
   split
   ·rename_i g
    split
    ·exact h
    ·rename_i su
     refine⟨List.pairwise_cons.2 ⟨fun u hu=> ?_,h.1⟩,fun u hu=> ?_⟩
     ·rcases List.mem_cons.1 hu with rfl|hu
      ·exact g
      ·exact EH _ _ _ g (U u hu)
     ·rcases List.mem_cons.1 hu with rfl|hu
      ·exact su
      ·exact h.2 u hu
   ·rename_i g
    have ue:m_ x.1 t.1:=(FC ne).resolve_left g
    refine⟨List.pairwise_cons.2 ⟨fun u hu=> ?_,bA.1⟩,fun u hu=> ?_⟩
    ·rcases Gd hu with e|⟨v,aM,e⟩
     ·rw[e];exact ue
     ·rw[<-e];exact U v aM
    ·rcases List.mem_cons.1 hu with rfl|hu
     ·exact h.2 _ (by simp)
     ·exact bA.2 u hu
theorem BF:∀p:List bu,mZ (nrm p)
 |[]=>⟨List.Pairwise.nil,fun u hu=>absurd hu List.not_mem_nil⟩
 |t::p=>Pq t (BF p)
def dw (f:List Int->Rat):List bu->Rat
 |[]=>0
 |t::p=>t.2*f t.1+dw f p
theorem A6 (f:List Int->Rat):∀p q:List bu,dw f (p++q)=dw f p+dw f q
 |[],q=>by rw[List.nil_append,dw,Rat.zero_add]
 |t::p,q=>by rw[List.cons_append,dw,dw,A6 f p q,Rat.add_assoc]
theorem N6 (f:List Int->Rat) (t:bu):∀p:List bu,dw f (ins t p)=t.2*f t.1+dw f p
 |[]=>by
  unfold ins
  split
  ·rename_i h;rw[h,Rat.zero_mul,Rat.zero_add]
  ·rfl
 |x::p=>by
  have bA:=N6 f t p
  unfold ins
  split
  ·rename_i e
   split
   ·rename_i aE
    rw[dw,e,<-Rat.add_assoc,<-Rat.add_mul,Rat.add_comm t.2,aE,Rat.zero_mul,Rat.zero_add]
   ·rw[dw,dw,e,Rat.add_mul,<-Rat.add_assoc,Rat.add_comm (x.2*f x.1)]
  ·split
   ·split
    ·rename_i aE;rw[aE,Rat.zero_mul,Rat.zero_add]
    ·rfl
   ·rw[dw,dw,bA,<-Rat.add_assoc,<-Rat.add_assoc,Rat.add_comm (x.2*f x.1)]
theorem A7 (f:List Int->Rat):∀p:List bu,dw f (nrm p)=dw f p
 |[]=>rfl
 |t::p=>by rw[nrm,N6,A7 f p,dw]
def dl (m:List Int):List Int->Rat:=fun x=>if x=m then 1 else 0
theorem kc (m:List Int):∀p:List bu,cG p m=dw (dl m) p
 |[]=>rfl
 |t::p=>by
  rw[cG,dw,kc m p]
  unfold dl
  split
  ·rw[Rat.mul_one]
  ·rw[Rat.mul_zero]
theorem n0 (p:List bu) (m:List Int):cG (nrm p) m=cG p m:=by rw[kc,kc,A7]
theorem sN (p q:List bu) (m:List Int):cG (p++q) m=cG p m+cG q m:=by rw[kc,kc,kc,A6]
theorem Ge {x:List Int}:∀{p:List bu},(∀t∈p,m_ x t.1)->cG p x=0
 |[],_=>rfl
 |t::p,h=>by
  rw[cG,if_neg fun e=>YG (h t (by simp)) e.symm,Ge fun u hu=>h u (by simp[hu]),Rat.zero_add]
theorem wZ {t:bu} {p:List bu} (h:mZ (t::p)):cG (t::p) t.1=t.2:=by
 rw[cG,if_pos rfl,Ge (List.pairwise_cons.1 h.1).1,Rat.add_zero]
theorem Mg:∀{p q:List bu},mZ p->mZ q->(∀m,cG p m=cG q m)->p=q
 |[],[],_,_,_=>rfl
 |[],u::q,_,aN,h=>by
  have:=h u.1
  rw[wZ aN]at this
  exact absurd this.symm (aN.2 u (by simp))
 |t::p,[],aw,_,h=>by
  have:=h t.1
  rw[wZ aw]at this
  exact absurd this (aw.2 t (by simp))
 |t::p,u::q,aw,aN,h=>by
  have up:∀{t u:bu} {p q:List bu},mZ (t::p)->mZ (u::q)->(∀m,cG (t::p) m=cG (u::q) m)->¬m_ t.1 u.1:=fun{t u p q} aw aN h g=>by
   have U:=h t.1
   rw[wZ aw,Ge (fun v aM=>by
    rcases List.mem_cons.1 aM with rfl|aM
    ·exact g
    ·exact EH _ _ _ g ((List.pairwise_cons.1 aN.1).1 v aM))]at U
   exact aw.2 t (by simp) U
  have an:t.1=u.1:=Classical.byContradiction fun ne=>(FC ne).elim (up aw aN h) (up aN aw fun m=>(h m).symm)
  have az:t.2=u.2:=by
   have:=h t.1
   rw[wZ aw]at this
   rw[this,an,wZ aN]
  have e:t=u:=Prod.ext an az
  subst e
  have:p=q:=Mg aw.tail aN.tail fun m=>by
   have:=h m
   rw[cG,cG]at this
   exact(Rat.add_left_cancel _ this)
  rw[this]
theorem GA {p q:List bu} (aN:mZ q) (h:∀m,cG q m=cG p m):q=nrm p:=Mg aN (BF p) fun m=>by rw[h,n0]
theorem sH {p q:List bu} (h:∀m,cG p m=cG q m):nrm p=nrm q:=GA (BF p) fun m=>by rw[n0,h]
theorem Mh {p q:List bu} (h:∀m,cG p m=cG q m) (f:List Int->Rat):dw f p=dw f q:=by
 rw[<-A7 f p,<-A7 f q,sH h]
def jt (s:bu) (q:List bu):List bu:=q.map fun t=>(fx s.1 t.1,s.2*t.2)
def eR:List bu->List bu->List bu
 |[],_=>[]
 |s::p,q=>jt s q++eR p q
theorem M1 (f:List Int->Rat) (s:bu):∀q:List bu,dw f (jt s q)=s.2*dw (fun b=>f (fx s.1 b)) q
 |[]=>by rw[dw,Rat.mul_zero];rfl
 |t::q=>by
  have bA:=M1 f s q
  show s.2*t.2*f (fx s.1 t.1)+dw f (jt s q)=_
  rw[bA,dw,Rat.mul_add,Rat.mul_assoc]
theorem nk (f:List Int->Rat):∀p q:List bu,dw f (eR p q)=dw (fun a=>dw (fun b=>f (fx a b)) q) p
 |[],q=>rfl
 |s::p,q=>by rw[eR,A6,M1,nk f p q,dw]
theorem Uu {p m6 q iC:List bu} (U:∀m,cG p m=cG m6 m) (aa:∀m,cG q m=cG iC m) (m:List Int):cG (eR p q) m=cG (eR m6 iC) m:=by
 rw[kc,kc,nk,nk,Mh U]
 congr 1;funext a;rw[Mh aa]
def fT (c:Rat) (p:List bu):List bu:=p.map fun t=>(t.1,t.2*c)
theorem Mj (f:List Int->Rat) (c:Rat):∀p:List bu,dw f (fT c p)=c*dw f p
 |[]=>by rw[dw,Rat.mul_zero];rfl
 |t::p=>by
  show t.2*c*f t.1+dw f (fT c p)=_
  rw[Mj f c p,dw,Rat.mul_add,Rat.mul_comm t.2 c,Rat.mul_assoc]
theorem At (c:Rat) (p:List bu) (m:List Int):cG (fT c p) m=c*cG p m:=by rw[kc,kc,Mj]
def h5:List bu->bu->List bu
 |[],t=>[t]
 |u::p,t=>if u.1=t.1 then(u.1,u.2+t.2)::p else u::h5 p t
theorem E0 {t:bu}:∀{p:List bu},(∀u∈p,u.1≠t.1)->h5 p t=p++[t]
 |[],_=>rfl
 |u::p,h=>by rw[h5,if_neg (h u (by simp)),E0 fun v aM=>h v (by simp[aM])];rfl
theorem Pj {t:bu}:∀{p:List bu} {j:Nat} {u:bu},(p.map Prod.fst).Nodup->p[j]? =some u->u.1=t.1->h5 p t=p.set j (u.1,u.2+t.2)
 |[],j,u,_,h,_=>by simp at h
 |x::p,0,u,_,h,e=>by
  obtain rfl:x=u:=by simpa using h
  rw[h5,if_pos e];rfl
 |x::p,j+1,u,aP,h,e=>by
  have h:p[j]? =some u:=by simpa using h
  simp only[List.map_cons,List.nodup_cons]at aP
  have af:x.1≠t.1:=fun ex=>aP.1 (List.mem_map.2 ⟨u,List.mem_of_getElem? h,by rw[e,ex]⟩)
  rw[h5,if_neg af,Pj aP.2 h e];rfl
theorem M4 (t:bu) (m:List Int):∀p:List bu,cG (h5 p t) m=cG p m+(if t.1=m then t.2 else 0)
 |[]=>by rw[h5,cG,cG,cG,Rat.add_zero,Rat.zero_add]
 |u::p=>by
  have bA:=M4 t m p
  rw[h5]
  split
  ·rename_i e
   rw[cG,cG]
   simp only
   rw[e]
   split
   ·rw[Rat.add_assoc,Rat.add_comm t.2,<-Rat.add_assoc]
   ·rw[Rat.add_zero]
  ·rw[cG,cG,bA,Rat.add_assoc]
theorem N8 (t:bu):∀p:List bu,(h5 p t).map Prod.fst=p.map Prod.fst/\t.1∈p.map Prod.fst\/(h5 p t).map Prod.fst=p.map Prod.fst++[t.1]/\t.1∉p.map Prod.fst
 |[]=> .inr ⟨rfl,by simp⟩
 |u::p=>by
  rw[h5]
  split
  ·rename_i e;exact .inl ⟨rfl,by simp[e]⟩
  ·rename_i ne
   rcases N8 t p with⟨U,aa⟩|⟨U,aa⟩
   ·refine .inl ⟨by rw[List.map_cons,List.map_cons,U], ?_⟩
    rw[List.map_cons];exact List.mem_cons_of_mem _ aa
   ·refine .inr ⟨by rw[List.map_cons,List.map_cons,U];rfl, ?_⟩
    rw[List.map_cons]
    intro hm
    rcases List.mem_cons.1 hm with e|hm
    ·exact ne e.symm
    ·exact aa hm
theorem Md {t:bu} {p:List bu} (h:(p.map Prod.fst).Nodup):((h5 p t).map Prod.fst).Nodup:=by
 rcases N8 t p with⟨U,_⟩|⟨U,aa⟩
 ·rw[U];exact h
 ·rw[U,List.nodup_append]
  exact⟨h,by simp,fun a aC b ae=>by
   rw[List.mem_singleton.1 ae]
   rintro rfl;exact aa aC⟩
theorem Vj {p q:List bu} (h:p.Perm q) (m:List Int):cG p m=cG q m:=by
 induction h with
 |nil=>rfl
 |cons x _ bA=>rw[cG,cG,bA]
 |swap x y l=>rw[cG,cG,cG,cG,<-Rat.add_assoc,<-Rat.add_assoc,Rat.add_comm (if y.1=m then y.2 else 0)]
 |trans _ _ Z4 Z5=>rw[Z4,Z5]
theorem Ew (m:List Int):∀p:List bu,cG (p.filter fun t=> !decide (t.2=0)) m=cG p m
 |[]=>rfl
 |t::p=>by
  rw[List.filter_cons]
  split
  ·rw[cG,cG,Ew m p]
  ·rename_i h
   have aE:t.2=0:=by simpa using h
   rw[cG,Ew m p,aE]
   split<;>rw[Rat.zero_add]
theorem Uq {p acc q:List bu} (ay:∀m,cG acc m=cG p m) (aP:(acc.map Prod.fst).Nodup) (aw:q.Perm (acc.filter fun t=> !decide (t.2=0))) (ao:q.Pairwise fun t u=>¬m_ u.1 t.1):q=nrm p:=by
 refine GA ⟨?_,fun t aA=> ?_⟩ fun m=>by rw[Vj aw,Ew,ay]
 ·have ar:(q.map Prod.fst).Nodup:=by
   rw[(aw.map Prod.fst).nodup_iff]
   exact aP.sublist ((List.filter_sublist).map _)
  have qJ:q.Pairwise fun t u=>t.1≠u.1:=List.pairwise_map.1 ar
  exact(ao.and qJ).imp fun⟨U,aa⟩=>(FC aa).resolve_right U
 ·have:=aw.mem_iff.1 aA
  rw[List.mem_filter]at this
  simpa using this.2
theorem Me (m:List Int):∀(p acc:List bu),cG (p.foldl h5 acc) m=cG acc m+cG p m
 |[],acc=>by rw[List.foldl_nil,cG,Rat.add_zero]
 |t::p,acc=>by rw[List.foldl_cons,Me m p,M4,cG,Rat.add_assoc]
end I
end
section
open Go Go.bG
namespace I
theorem acO (a:Int) (K:J->Prop) (h:Ca.T [.d (.int .i64 a)] K):J3 a K:=by
 obtain⟨_,ab⟩:=h
 unfold J3
 simpa using ab
theorem acv (a b:Int) (K:J->Prop) (h:CN.T [.d (.int .i64 a), .d (.int .i64 b)] K):JR a b K:=by
 obtain⟨_,ab⟩:=h
 unfold JR
 refine⟨trivial, ?_⟩
 rintro _ rfl
 refine⟨trivial, ?_⟩
 rintro _ rfl
 refine⟨fun h=>by simp at h,fun _=>⟨fun h=>by simp at h,fun _=>⟨fun h=> ?_,fun h=>⟨fun aa=> ?_,fun aa=> ?_⟩⟩⟩⟩
 ·rw[if_pos (of_decide_eq_true h)]at ab;exact ab
 ·rw[if_neg (of_decide_eq_false h),if_pos (of_decide_eq_true aa)]at ab;exact ab
 ·rw[if_neg (of_decide_eq_false h),if_neg (of_decide_eq_false aa)]at ab;exact ab
theorem gu {n:Int} (aE:0<=n) (U:n<9223372036854775808):IntKind.wrap .i64 n=n:=
 bl (by omega)
theorem wW {a b:List Int}:∀(i:Nat),i<=a.length->i<=b.length->(∀j,j<i->a.getD j 0=b.getD j 0)->dR a b=dR (a.drop i) (b.drop i)
 |0,_,_,_=>by simp
 |i+1,aC,ae,h=>by
  rw[wW i (by omega) (by omega) fun j aK=>h j (by omega)]
  have e:=h i (by omega)
  rw[List.drop_eq_getElem_cons (i:=i) (by omega),List.drop_eq_getElem_cons (i:=i) (l:=b) (by omega),dR]
  rw[List.getD_eq_getElem?_getD,List.getD_eq_getElem?_getD,List.getElem?_eq_getElem (by omega),List.getElem?_eq_getElem (by omega)]at e
  simp only[Option.getD_some]at e
  rw[e,if_neg (Int.lt_irrefl _),if_neg (Int.lt_irrefl _)]
theorem ab5 (a b:List Int) (K:J->Prop) (h:AW.T [.d (.ints .i64 a), .d (.ints .i64 b)] K):Ju a b K:=by
 obtain⟨⟨eU,eG⟩,ab⟩:=h
 unfold Ju
 refine⟨fun v=>∃i:Nat,v=i/\i<=a.length/\i<=b.length/\∀j,j<i->a.getD j 0=b.getD j 0,fun v=>a.length-v.toNat,⟨0,rfl,by omega,by omega,fun j aK=>by omega⟩, ?_⟩
 rintro _ ⟨i,rfl,U,aa,al⟩
 simp only[decide_eq_true_iff,decide_eq_false_iff_not,Int.toNat_natCast]
 refine⟨fun aL=>⟨by omega,aL,fun bo=> ?_,fun bo=>⟨by omega,by omega,trivial, ?_⟩⟩,fun aL=>⟨fun bo=> ?_,fun bo=> ?_⟩⟩
 ·have aC:i<a.length:=by omega
  rw[wW i U aa al,List.drop_eq_nil_of_le (show b.length<=i by omega),List.drop_eq_getElem_cons (i:=i) aC,dR]at ab
  ·exact ab
  ·simp;exact aC
 ·have aC:i<a.length:=by omega
  have ae:i<b.length:=by omega
  have e:=wW i U aa al
  rw[List.drop_eq_getElem_cons (i:=i) aC,List.drop_eq_getElem_cons (i:=i) (l:=b) ae,dR]at e
  have g1:a.getD i 0=a[i]:=by simp[List.getD_eq_getElem?_getD,aC]
  have g2:b.getD i 0=b[i]:=by simp[List.getD_eq_getElem?_getD,ae]
  simp only[g1,g2]
  rintro _ rfl
  refine⟨fun bX=> ?_,fun bX=> ?_⟩
  ·have:dR a b=if a[i]<b[i]then-1 else if b[i]<a[i]then 1 else 0:=by
    rw[e]
    split
    ·rfl
    ·split
     ·rfl
     ·exfalso;rename_i aU a_;simp[aU,a_]at bX
   rw[this]at ab;exact ab
  ·have jf:a[i]=b[i]:=by
    have bX:(if a[i]<b[i]then(-1:Int)else if b[i]<a[i]then 1 else 0)=0:=by simpa using bX
    split at bX
    ·cases bX
    ·split at bX
     ·cases bX
     ·omega
   rw[gu (by omega) (by omega)]
   refine⟨⟨i+1,rfl,by omega,by omega,fun j aK=> ?_⟩,by omega⟩
   by_cases y0:j=i
   ·subst y0;rw[g1,g2,jf]
   ·exact al j (by omega)
 ·have:a.drop i=[]:=List.drop_eq_nil_of_le (by omega)
  have ae:i<b.length:=by omega
  rw[wW i U aa al,this,List.drop_eq_getElem_cons (i:=i) (l:=b) ae,dR]at ab
  ·exact ab
  ·simp;exact ae
 ·rw[wW i U aa al,List.drop_eq_nil_of_le (show a.length<=i by omega),List.drop_eq_nil_of_le (show b.length<=i by omega),dR]at ab
  exact ab
theorem dZ.tP {r:Row} (h:dZ r):∀x∈r.take 8,x.isInt .i64:=by
 obtain⟨pK,gD,ha,jE,lT,j4,pJ,ud,s,a,b,rfl⟩:=h
 simp[R.isInt]
theorem MS (a b:List Int):dR a b=-1\/dR a b=0\/dR a b=1:=by
 induction a generalizing b with
 |nil=>cases b<;>simp[dR]
 |cons x a bA=>
  cases b with
  |nil=>simp[dR]
  |cons y b=>
   rw[dR]
   split
   ·exact .inl rfl
   ·split
    ·exact .inr (.inr rfl)
    ·exact bA b
theorem NT (a b:List Int):IntKind.wrap .i64 (0-dR a b)=-dR a b:=by
 rcases MS a b with e|e|e<;>rw[e]<;>rfl
theorem ab0 (q:dn) (aN:q.desc=false) (a b:Row) (K:J->Prop) (h:pf.T q [.agg [.d (.int .i64 8)], .rw 11 a, .rw 11 b] K):Jq a b K:=by
 unfold pf.T spec at h
 simp only[aN]at h
 obtain⟨⟨eU,eG⟩,ab⟩:=h
 unfold Jq
 have an:(List.take 8 (List.map R.toInt (List.take 8 a)))=dY a:=by rw[<-List.map_take,List.take_take];rfl
 have az:(List.take 8 (List.map R.toInt (List.take 8 b)))=dY b:=by rw[<-List.map_take,List.take_take];rfl
 have cj:(dY a).length=8:=by simp[dY,eU.len]
 have db:(dY b).length=8:=by simp[dY,eG.len]
 refine⟨eU.len,eU.tP,by omega,by omega,eG.len,eG.tP,by omega,by omega,⟨by rw[an];omega,by rw[az];omega⟩, ?_⟩
 rintro _ rfl
 rw[an,az,NT];exact ab
theorem abP (q:dn) (aN:q.desc=true) (a b:Row) (K:J->Prop) (h:pf.T q [.agg [.d (.bool true)], .rw 11 a, .rw 11 b] K):Jf a b K:=by
 unfold pf.T spec at h
 simp only[aN]at h
 obtain⟨⟨eU,eG⟩,ab⟩:=h
 unfold Jf
 have an:(List.map R.toInt (List.take 8 a))=dY a:=rfl
 have az:(List.map R.toInt (List.take 8 b))=dY b:=rfl
 have cj:(dY a).length=8:=by simp[dY,eU.len]
 have db:(dY b).length=8:=by simp[dY,eG.len]
 refine⟨eU.len,eU.tP,eG.len,eG.tP,⟨by rw[an];omega,by rw[az];omega⟩, ?_⟩
 rintro _ rfl
 refine⟨fun _=> ?_,fun h=>by cases h⟩
 rw[an,az,NT];exact ab
theorem NU:∀(l:List Int) (a x:Int),kU a (l++[x])=if x>kU a l then x else kU a l
 |[],a,x=>rfl
 |y::l,a,x=>by rw[List.cons_append,kU,NU l,kU]
theorem acw (a:List Int) (K:J->Prop) (h:Dn.T [.d (.ints .i64 a)] K):JS a K:=by
 obtain⟨⟨aE,U⟩,ab⟩:=h
 unfold JS
 refine⟨True,⟨fun h=>by simp at h;omega,fun _=>trivial⟩,fun _=>⟨by omega,by omega,fun x v=>∃i:Nat,v=i/\1<=i/\i<=a.length/\x=kU (a.getD 0 0) ((a.take i).drop 1),fun _ v=>a.length-v.toNat,⟨1,rfl,by omega,by omega, ?_⟩, ?_⟩⟩
 ·rw[List.drop_eq_nil_of_le (by simp;omega),kU]
 ·rintro _ _ ⟨i,rfl,aa,al,rfl⟩
  simp only[decide_eq_true_iff,decide_eq_false_iff_not,Int.toNat_natCast]
  refine⟨fun aL=>⟨by omega,aL,⟨i+1, ?_,by omega,by omega, ?_⟩, ?_⟩,fun aL=> ?_⟩
  ·rw[gu (by omega) (by omega)];rfl
  ·have hi:i<a.length:=by omega
   have e:a.getD i 0=a[i]:=by simp[List.getD_eq_getElem?_getD,hi]
   rw[List.take_add_one,List.getElem?_eq_getElem hi,Option.toList_some,List.drop_append_of_le_length (by simp;omega),NU,e]
  ·rw[gu (by omega) (by omega)];omega
  ·have:i=a.length:=by omega
   rw[this,List.take_length];exact ab
theorem kd (m:List Int):(dG m).length=m.length:=List.length_map ..
theorem sL (m:List Int):pD (dG m)=m:=by
 rw[pD,dG,List.map_map];exact List.map_id' _
theorem Fx (m:List Int) (i:Nat) (h:i<m.length):(dG m).getD i .undef= .int .i64 (m.getD i 0):=by
 simp[dG,List.getD_eq_getElem?_getD,h]
theorem Fy (m:List Int) (i:Nat) (x:Int):(dG m).set i (.int .i64 x)=dG (m.set i x):=by rw[dG,dG,List.map_set]
theorem Fz:∀(m n:List Int),m.length=n.length->(fx m n).length=m.length
 |[],[],_=>rfl
 |[],_::_,h=>by cases h
 |_::_,[],h=>by cases h
 |a::m,b::n,h=>by simp only[fx,List.length_cons]at h⊢;rw[Fz m n (by omega)]
theorem NV:∀(m n:List Int) (i:Nat),i<m.length->i<n.length->(fx m n).getD i 0=m.getD i 0+n.getD i 0
 |a::m,b::n,0,_,_=>rfl
 |a::m,b::n,i+1,h,k=>NV m n i (Nat.lt_of_succ_lt_succ h) (Nat.lt_of_succ_lt_succ k)
theorem Q3 {m n:List Int} (h:m.length=n.length) (k:∀i,i<m.length->m.getD i 0=n.getD i 0):m=n:=by
 refine List.ext_getElem h fun i U aa=> ?_
 have:=k i U
 rw[List.getD_eq_getElem?_getD,List.getD_eq_getElem?_getD,List.getElem?_eq_getElem U,List.getElem?_eq_getElem aa]at this
 exact this
theorem oR {m:List Int} {i:Nat} (h:i<m.length):m.getD i 0∈m:=by
 rw[List.getD_eq_getElem?_getD,List.getElem?_eq_getElem h];exact List.getElem_mem h
theorem ac6 (a b:Row) (K:J->Prop) (h:Cb.T [.rw 8 a, .rw 8 b] K):Kf a b K:=by
 obtain⟨⟨⟨m,rfl,hm,gK⟩,n,rfl,ar,tK⟩,ab⟩:=h
 rw[sL,sL]at ab
 unfold Kf
 refine⟨fun v ai bn ba=>∃(i:Nat) (x:List Int) (r:Row),v=i/\i<=8/\ai=[dG x]/\bn=[dG n]/\ba=[r]/\x.length=8/\(∀j,j<i->x.getD j 0=m.getD j 0+n.getD j 0)/\∀j,i<=j->x.getD j 0=m.getD j 0,
  fun v _ _ _=>8-v.toNat,⟨0,m,_,rfl,by omega,rfl,rfl,rfl,hm,fun j aK=>by omega,fun j aK=>rfl⟩, ?_⟩
 rintro _ _ _ _ ⟨i,x,r,rfl,U,rfl,rfl,rfl,af,aa,al⟩
 have bE:List.getD [dG x] 0 []=dG x:=rfl
 have an:List.getD [dG n] 0 []=dG n:=rfl
 simp only[decide_eq_true_iff,decide_eq_false_iff_not,Int.toNat_natCast,bE,an]
 refine⟨fun aL=> ?_,fun aL=> ?_⟩
 ·have hi:i<8:=by omega
  have cn:=gK _ (oR (m:=m) (i:=i) (by omega))
  have cF:=tK _ (oR (m:=n) (i:=i) (by omega))
  rw[Fx x i (by omega),Fx n i (by omega)]
  have aa7:IntKind.wrap .i64 (R.toInt (.int .i64 (x.getD i 0))+R.toInt (.int .i64 (n.getD i 0)))=m.getD i 0+n.getD i 0:=by
   show IntKind.wrap .i64 (x.getD i 0+n.getD i 0)=_
   rw[al i (Nat.le_refl _),bl (by omega)]
  rw[aa7,Fy]
  refine⟨by omega,aL,rfl,by omega,aL,rfl,by omega,aL,⟨i+1,_,r,gu (by omega) (by omega),by omega,rfl,trivial,rfl,by simp[af],fun j aK=> ?_,fun j aK=> ?_⟩,by rw[gu (by omega) (by omega)];omega⟩
  ·rw[ef]
   by_cases e:i=j
   ·subst e;rw[if_pos ⟨rfl,by omega⟩]
   ·rw[if_neg (fun h=>e h.1),aa j (by omega)]
  ·rw[ef,if_neg (fun h=>by omega),al j (by omega)]
 ·have hi:i=8:=by omega
  subst hi
  have ex:x=fx m n:=Q3 (by rw[Fz m n (by omega)];omega) fun j aK=>by rw[aa j (by omega),NV m n j (by omega) (by omega)]
  subst ex
  refine⟨by rw[kd,af], ?_, ?_⟩
  ·show(dG (fx m n)).length=8
   rw[kd,af]
  ·exact ab
theorem En {l c2:List R} {i:Nat} {d:R} (h:l.length<=i):(l++c2).getD i d=c2.getD (i-l.length) d:=by
 rw[List.getD_eq_getElem?_getD,List.getElem?_append_right h,List.getD_eq_getElem?_getD]
def d_ (m:List Int) (s:Bool) (a b:List Int):Row:=dG m++[.bool s, .ints .u32 a, .ints .u32 b]
section
variable {m:List Int} {s:Bool} {a b:List Int}
theorem lh (h:m.length=8):(d_ m s a b).length=11:=by rw[d_,List.length_append,kd,h];rfl
theorem oZ (h:m.length=8):(d_ m s a b).take 8=dG m:=by rw[d_,List.take_left'];rw[kd,h]
theorem lC (h:m.length=8):(d_ m s a b).getD 8 .undef= .bool s:=by
 rw[d_,En (by rw[kd,h];omega),kd,h];rfl
theorem kV (h:m.length=8):(d_ m s a b).getD 9 .undef= .ints .u32 a:=by
 rw[d_,En (by rw[kd,h];omega),kd,h];rfl
theorem kS (h:m.length=8):(d_ m s a b).getD 10 .undef= .ints .u32 b:=by
 rw[d_,En (by rw[kd,h];omega),kd,h];rfl
theorem Gy (h:m.length=8) (k5:Bool) (cI ee:List Int):setRow (d_ m s a b) 8 [.bool k5, .ints .u32 cI, .ints .u32 ee]=d_ m k5 cI ee:=by
 have l:(dG m).length=8:=by rw[kd,h]
 simp only[setRow,d_]
 rw[List.set_append_right _ _ (by omega),List.set_append_right _ _ (by omega),List.set_append_right _ _ (by omega),l];rfl
theorem uT (h:m.length=8):dY (d_ m s a b)=m:=by rw[dY,oZ h];exact sL m
theorem Qz (h:m.length=8):DQ (d_ m s a b)=ag s a b:=by rw[DQ,lC h,kV h,kS h];rfl
theorem lx (h:m.length=8):bs (d_ m s a b)=(m,ag s a b):=by rw[bs,uT h,Qz h]
theorem Ce (h:m.length=8):DR (d_ m s a b)=a.length+b.length+2:=by rw[DR,kV h,kS h];rfl
end
theorem oP (m:List Int):(dG m).map R.toInt=m:=sL m
theorem F4 (t:bu):fL t=d_ t.1 (bh t.2) (bm t.2) (bg t.2):=rfl
theorem BA {t:bu} (h:t.1.length=8):bs (fL t)=t:=by rw[F4,lx h,h2]
theorem oS {m:List Int} (h:∀x∈m,-4000000000000000000<=x/\x<=4000000000000000000):jI (dG m):=fun x af=>by
 obtain⟨y,a6,rfl⟩:=List.mem_map.1 af
 have:=h y a6
 exact⟨rfl,by show _<=y;omega,by show y<=_;omega⟩
theorem fp.parts {k:Nat} {r:Row} (h:fp k r):∃(m:List Int) (s:Bool) (a b:List Int),r=d_ m s a b/\m.length=8/\(∀x∈m,-4000000000000000000<=x/\x<=4000000000000000000)/\av k a/\av k b:=h
theorem fp.row {k:Nat} {r:Row} (h:fp k r):dZ r:=by
 obtain⟨m,s,a,b,rfl,hm,_⟩:=h
 match m,hm with
 |[pK,gD,ha,jE,lT,j4,pJ,ud],_=>exact⟨pK,gD,ha,jE,lT,j4,pJ,ud,s,a,b,rfl⟩
theorem fp.mono {k j:Nat} {r:Row} (h:fp k r) (ab:k<=j):fp j r:=by
 obtain⟨m,s,a,b,rfl,hm,U,aa,al⟩:=h
 exact⟨m,s,a,b,rfl,hm,U,aa.mono ab,al.mono ab⟩
theorem QA {m:List Int} {s:Bool} {a b:List Int} (h:m.length=8):jm (d_ m s a b)=decide (dh (ag s a b)=0):=by rw[jm,Qz h]
theorem acx (r:Row) (K:J->Prop) (h:Cd.T [.rw 11 r] K):JT r K:=by
 obtain⟨ak,ab⟩:=h
 obtain⟨m,s,a,b,rfl,hm,_,aa,al⟩:=ak.parts
 unfold JT
 simp only[lC hm,kV hm,kS hm]
 refine⟨trivial,rfl,rfl,⟨aa.b5 (by decide),al.b5 (by decide)⟩, ?_⟩
 rintro _ rfl
 rw[QA hm]at ab;exact ab
theorem mA {l:Rows} {i:Nat} (h:i<l.length):l.getD i []∈l:=by
 rw[List.getD_eq_getElem?_getD,List.getElem?_eq_getElem h];exact List.getElem_mem h
theorem Pf:∀(l:Rows) (k:Int) (i:Nat),i<=l.length->(∀j,j<i->jm (l.getD j [])=false)->oh l k=oh (l.drop i) (k+i)
 |l,k,0,_,_=>by simp
 |r::l,k,i+1,h,bc=>by
  have aE:=bc 0 (by omega)
  simp only[List.getD_cons_zero]at aE
  rw[oh,aE,List.drop_succ_cons,if_neg (by decide),Pf l (k+1) i (by simpa using h) fun j aK=>by simpa using bc (j+1) (by omega)]
  congr 1;omega
theorem abQ (g:Nat) (l:Rows) (K:J->Prop) (h:(xh.T g) [.d (.rows 11 l), .fn g] K):Jg l K:=by
 unfold xh.T spec at h
 simp only[Nat.beq_refl]at h
 obtain⟨⟨bj,aq⟩,ab⟩:=h
 unfold Jg
 refine⟨fun v=>∃i:Nat,v=i/\i<=l.length/\∀j,j<i->jm (l.getD j [])=false,fun v=>l.length-v.toNat,⟨0,rfl,by omega,fun j aK=>by omega⟩, ?_⟩
 rintro _ ⟨i,rfl,U,aa⟩
 have e:=Pf l 0 i U aa
 rw[Int.zero_add]at e
 simp only[decide_eq_true_iff,decide_eq_false_iff_not,Int.toNat_natCast]
 refine⟨fun aL=> ?_,fun aL=> ?_⟩
 ·have hi:i<l.length:=by omega
  have m9:l.getD i []=l[i]:=by simp[List.getD_eq_getElem?_getD,hi]
  refine⟨by omega,aL,(bj _ (mA hi)).row.len,bj _ (mA hi), ?_⟩
  rintro _ rfl
  refine⟨fun bo=> ?_,fun bo=>⟨⟨i+1,gu (by omega) (by omega),by omega,fun j aK=> ?_⟩,by rw[gu (by omega) (by omega)];omega⟩⟩
  ·rw[e,List.drop_eq_getElem_cons hi,oh,<-m9,bo,if_pos rfl]at ab
   exact ab
  ·by_cases y0:j=i
   ·subst y0;exact bo
   ·exact aa j (by omega)
 ·rw[e,List.drop_eq_nil_of_le (by omega),oh]at ab
  exact ab
theorem SX:∀(l:Rows) (i:Nat),(∀j,j<i->j<l.length->jm (l.getD j [])=false)->(l.take i).filter (fun r=> !jm r)=l.take i:=fun l i h=>by
 refine List.filter_eq_self.2 fun r ak=> ?_
 obtain⟨j,aK,rfl⟩:=List.getElem_of_mem ak
 have iL:j<i/\j<l.length:=by rw[List.length_take]at aK;omega
 have:=h j iL.1 iL.2
 rw[List.getElem_take]
 rw[List.getD_eq_getElem?_getD,List.getElem?_eq_getElem iL.2]at this
 simpa using this
theorem Mb:∀(l:Rows) (k:Int),0<=k->(oh l k=-1/\∀r∈l,jm r=false)\/∃i:Nat,i<l.length/\oh l k=k+i/\jm (l.getD i [])=true/\∀j,j<i->jm (l.getD j [])=false
 |[],k,_=> .inl ⟨rfl,by simp⟩
 |r::l,k,ab=>by
  rw[oh]
  cases bc:jm r with
  |true=>exact .inr ⟨0,by simp,by simp,by simpa using bc,fun j aK=>by omega⟩
  |false=>
   rw[if_neg (by decide)]
   rcases Mb l (k+1) (by omega)with⟨U,aa⟩|⟨i,U,aa,al,aL⟩
   ·refine .inl ⟨U,fun x af=> ?_⟩
    rcases List.mem_cons.1 af with rfl|af
    ·exact bc
    ·exact aa x af
   ·refine .inr ⟨i+1,by simpa using U,by rw[aa];omega,by simpa using al,fun j aK=> ?_⟩
    cases j with
    |zero=>simpa using bc
    |succ j=>simpa using aL j (by omega)
theorem abN (g:Nat) (l:Rows) (K:ad->Prop) (h:(xG.T g) (.rows 11 l) [.fn g] K):Jd l K:=by
 unfold xG.T vd at h
 simp only[Nat.beq_refl]at h
 obtain⟨⟨bj,aq⟩,ab⟩:=h
 unfold Jd
 refine⟨⟨bj,aq⟩, ?_⟩
 rintro _ rfl
 rcases Mb l 0 (Int.le_refl _)with⟨U,aa⟩|⟨i0,U,aa,al,aL⟩
 ·rw[U]
  refine⟨fun _=> ?_,fun h=>by cases h⟩
  rw[List.filter_eq_self.2 fun r ak=>by rw[aa r ak];rfl]at ab
  exact ab
 ·rw[aa,Int.zero_add]
  refine⟨fun h=>by have:=of_decide_eq_true h;omega,fun _=> ?_⟩
  refine⟨fun a v o=>∃i j:Nat,a=i/\v=j/\i<j/\j<=l.length/\o.length=l.length/\(∀r∈o,fp 1000000 r)/\o.take i=(l.take j).filter (fun r=> !jm r)/\o.drop j=l.drop j,fun _ v _=>l.length-v.toNat,⟨i0,i0+1,rfl, ?_,by omega,by omega,rfl,bj, ?_,rfl⟩, ?_⟩
  ·rw[gu (by omega) (by omega)];rfl
  ·rw[List.take_add_one,List.filter_append,SX l i0 fun j aK _=>aL j aK,List.getElem?_eq_getElem U]
   have:jm l[i0]=true:=by
    rw[List.getD_eq_getElem?_getD,List.getElem?_eq_getElem U]at al;exact al
   simp[this]
  ·rintro _ _ o ⟨i,j,rfl,rfl,aU,a_,bF,di,eB,hb⟩
   simp only[decide_eq_true_iff,decide_eq_false_iff_not,Int.toNat_natCast]
   refine⟨fun bo=> ?_,fun bo=> ?_⟩
   ·have aK:j<l.length:=by omega
    have ZX:j<o.length:=by omega
    have hm:fp 1000000 (o.getD j []):=di _ (mA ZX)
    have Sp:o.getD j []=l[j]:=by
     have:=congrArg (fun x:Rows=>x.getD 0 []) hb
     simp only[List.getD_eq_getElem?_getD,List.getElem?_drop,Nat.add_zero]at this
     rw[List.getD_eq_getElem?_getD,this,List.getElem?_eq_getElem aK];rfl
    have cz:IntKind.wrap .i64 ((j:Int)+1)=((j+1:Nat):Int):=gu (by omega) (by omega)
    have dO:IntKind.wrap .i64 ((i:Int)+1)=((i+1:Nat):Int):=gu (by omega) (by omega)
    refine⟨by omega,bo,hm.row.len,hm.row.len,hm, ?_⟩
    rintro _ rfl
    rw[cz,dO]
    refine⟨fun bX=>⟨hm.row.len,by omega,by omega,⟨i+1,j+1,rfl,rfl,by omega,by omega,by simpa using bF,fun r ak=> ?_, ?_, ?_⟩,by omega⟩,fun bX=>⟨⟨i,j+1,rfl,rfl,by omega,by omega,bF,di, ?_, ?_⟩,by omega⟩⟩
    ·rcases List.mem_or_eq_of_mem_set ak with ak|rfl
     ·exact di r ak
     ·exact hm
    ·rw[List.take_add_one,List.getElem?_set,if_pos rfl,if_pos (show i<o.length by omega),List.take_set_of_le (Nat.le_refl _),eB,List.take_add_one,List.filter_append,List.getElem?_eq_getElem aK]
     rw[Sp]at bX⊢
     simp[bX]
    ·rw[List.drop_set_of_lt (by omega)]
     have:=congrArg (List.drop 1) hb
     rwa [List.drop_drop,List.drop_drop]at this
    ·rw[eB,List.take_add_one,List.filter_append,List.getElem?_eq_getElem aK]
     rw[Sp]at bX
     simp[bX]
    ·have:=congrArg (List.drop 1) hb
     rwa [List.drop_drop,List.drop_drop]at this
   ·have aK:j=l.length:=by omega
    have ajg:i<=o.length:=by omega
    have e:(o.take i++List.replicate (o.length-i) ([R.int IntKind.i64 0,R.int IntKind.i64 0,R.int IntKind.i64 0,R.int IntKind.i64 0,R.int IntKind.i64 0,R.int IntKind.i64 0,R.int IntKind.i64 0,R.int IntKind.i64 0,R.bool false,R.ints IntKind.u32 [],R.ints IntKind.u32 []]:Row)).take i=o.take i:=by
     rw[List.take_append_of_le_length (by simp;omega),List.take_take,Nat.min_self]
    refine⟨by omega,by omega,by omega,by simp;omega, ?_⟩
    rw[e,eB,aK,List.take_length]
    exact ab
theorem abY (l:Rows) (K:ad->Prop) (h:Cc.T [.d (.rows 11 l)] K):Jo l K:=by
 obtain⟨aq,ab⟩:=h
 unfold Jo
 intro b ae
 refine⟨fun h=> ?_,fun h=>⟨by omega,ab⟩⟩
 rw[ae h]at ab;exact ab
theorem F5:∀(a b:Rows),h_ (a++b)=h_ a+h_ b
 |[],b=>by rw[List.nil_append,h_,Nat.zero_add]
 |r::a,b=>by rw[List.cons_append,h_,h_,F5 a b,Nat.add_assoc]
theorem NW (l:Rows) (i:Nat):h_ (l.take i)<=h_ l:=by
 have:=F5 (l.take i) (l.drop i)
 rw[List.take_append_drop]at this;omega
theorem oQ {l:Rows} {i:Nat} (h:i<l.length):l.take (i+1)=l.take i++[l.getD i []]:=by
 rw[List.take_add_one,List.getElem?_eq_getElem h,List.getD_eq_getElem?_getD,List.getElem?_eq_getElem h];rfl
theorem NX {l:Rows} {i:Nat} (h:i<l.length):h_ (l.take (i+1))=h_ (l.take i)+DR (l.getD i []):=by
 rw[oQ h,F5,h_,h_,Nat.add_zero]
def j6 (m:List Int):Prop:=m.length=8/\∀x∈m,-4000000000000000000<=x/\x<=4000000000000000000
def kq:Nat->List bu->Rows
 |_,[]=>[]
 |k,t::p=>(dG t.1++[.int .i64 k])::kq (k+1) p
theorem NY:∀(k:Nat) (p:List bu) (t:bu),kq k (p++[t])=kq k p++[dG t.1++[.int .i64 ((k+p.length:Nat):Int)]]
 |k,[],t=>rfl
 |k,u::p,t=>by
  rw[List.cons_append,kq,kq,NY (k+1) p t,List.cons_append,List.length_cons,show k+1+p.length=k+(p.length+1) by omega]
theorem Mc:∀(k:Nat) (p q:List bu),p.map Prod.fst=q.map Prod.fst->kq k p=kq k q
 |k,[],[],_=>rfl
 |k,[],_::_,h=>by cases h
 |k,_::_,[],h=>by cases h
 |k,t::p,u::q,h=>by
  simp only[List.map_cons,List.cons.injEq]at h
  rw[kq,kq,h.1,Mc (k+1) p q h.2]
theorem NZ:∀(k:Nat) (p:List bu) (j:Nat) (t:bu),p[j]? =some t->(kq k p)[j]? =some (dG t.1++[.int .i64 ((k+j:Nat):Int)])
 |k,[],j,t,h=>by simp at h
 |k,u::p,0,t,h=>by
  obtain rfl:u=t:=by simpa using h
  rfl
 |k,u::p,j+1,t,h=>by
  have:=NZ (k+1) p j t (by simpa using h)
  rw[kq,List.getElem?_cons_succ,this,show k+1+j=k+(j+1) by omega]
theorem As {m:List Int} (h:m.length=8) (x:List R):iF 8 (dG m++x)=m:=by
 rw[iF,List.take_left' (by rw[kd,h]),oP]
theorem MT:∀(k:Nat) (p:List bu),(∀t∈p,t.1.length=8)->(kq k p).map (iF 8)=p.map Prod.fst
 |_,[],_=>rfl
 |k,t::p,h=>by rw[kq,List.map_cons,List.map_cons,As (h t (by simp)),MT (k+1) p fun u hu=>h u (by simp[hu])]
theorem Wq {k:Nat} {p:List bu} {r:Row} (h:r∈kq k p):∃t∈p,∃j:Int,r=dG t.1++[.int .i64 j]:=by
 induction p generalizing k with
 |nil=>cases h
 |cons t p bA=>
  rw[kq]at h
  rcases List.mem_cons.1 h with rfl|h
  ·exact⟨t,by simp,_,rfl⟩
  ·obtain⟨u,hu,j,e⟩:=bA h
   exact⟨u,by simp[hu],j,e⟩
theorem N0 {m:List Int} (h:m.length=8) (x:List R):(dG m++x).drop 8=x:=List.drop_left' (by rw[kd,h])
theorem Xm {t:bu} (h:t.1.length=8):jm (fL t)=decide (t.2=0):=by simp only[F4,QA h,h2,sM]
theorem LF:∀{p:List bu},(∀t∈p,t.1.length=8)->(bP p).filter (fun r=> !jm r)=bP (p.filter fun t=> !decide (t.2=0))
 |[],_=>rfl
 |t::p,h=>by
  have bA:=LF (p:=p) fun u hu=>h u (by simp[hu])
  show List.filter _ (fL t::bP p)=_
  rw[List.filter_cons,List.filter_cons,Xm (h t (by simp))]
  split
  ·rw[bA];rfl
  ·exact bA
theorem iT (p:List bu):(bP p).length=p.length:=List.length_map ..
theorem Wr {p:List bu} {j:Nat} {t:bu} (h:p[j]? =some t):(bP p).getD j []=fL t:=by
 rw[List.getD_eq_getElem?_getD,bP,List.getElem?_map,h];rfl
theorem Pg {k:Nat} {t:bu} (h:j6 t.1) (ao:cv k t.2):fp k (fL t):=⟨_,_,_,_,rfl,h.1,h.2,ao.num,ao.den⟩
theorem Ph:∀{l:Rows},(∀r∈l,∃t:bu,r=fL t/\t.1.length=8)->bP (l.map bs)=l
 |[],_=>rfl
 |r::l,h=>by
  obtain⟨t,e,aA⟩:=h r (by simp)
  show fL (bs r)::bP (l.map bs)=_
  rw[Ph fun u hu=>h u (by simp[hu]),e,BA aA]
theorem hf {p:List bu} (h:∀t∈p,t.1.length=8):(bP p).map bs=p:=by
 induction p with
 |nil=>rfl
 |cons t p bA=>
  show bs (fL t)::(bP p).map bs=_
  rw[BA (h t (by simp)),bA fun u hu=>h u (by simp[hu])]
def pg (l:Rows) (i:Nat) (acc:List bu):Prop:=
 acc=((l.take i).map bs).foldl h5 []/\(acc.map Prod.fst).Nodup/\(∀t∈acc,j6 t.1/\cv (h_ (l.take i)) t.2)/\acc.length<=i
theorem pg.none {l:Rows} {i:Nat} {acc:List bu} (h:pg l i acc) (hi:i<l.length) {m:List Int} {s:Bool} {a b:List Int} (e:l.getD i []=d_ m s a b) (hm:j6 m)
 (aC:aZ a) (ae:aZ b) (ar:∀u∈acc,u.1≠m):pg l (i+1) (acc++[(m,ag s a b)])/\(∀W,h_ (l.take (i+1))<=W->cv W (ag s a b)):=by
 obtain⟨U,aa,al,aL⟩:=h
 have hw:=NX hi
 have zp:=Ce (s:=s) (a:=a) (b:=b) hm.1
 rw[e]at hw
 have ak:cv (a.length+b.length+1) (ag s a b):=cv.of ⟨aC,by omega⟩ ⟨ae,by omega⟩
 refine⟨⟨?_, ?_,fun t aA=> ?_, ?_⟩,fun W dP=>ak.mono (by omega)⟩
 ·rw[oQ hi,e,List.map_append,List.foldl_append,<-U]
  show _=h5 acc (bs (d_ m s a b))
  rw[lx hm.1,E0 ar]
 ·rw[<-E0 (t:=(m,ag s a b)) ar];exact Md aa
 ·rcases List.mem_append.1 aA with aA|aA
  ·exact⟨(al t aA).1,(al t aA).2.mono (by omega)⟩
  ·obtain rfl:=List.mem_singleton.1 aA
   exact⟨hm,ak.mono (by omega)⟩
 ·rw[List.length_append];exact Nat.succ_le_succ aL
theorem pg.at {l:Rows} {i:Nat} {acc:List bu} (h:pg l i acc) (hi:i<l.length) {m:List Int} {s:Bool} {a b:List Int} (e:l.getD i []=d_ m s a b) (hm:j6 m)
 (aC:aZ a) (ae:aZ b) {j:Nat} {u:bu} (aK:acc[j]? =some u) (hu:u.1=m):pg l (i+1) (acc.set j (m,u.2+ag s a b)):=by
 obtain⟨U,aa,al,aL⟩:=h
 have hw:=NX hi
 have zp:=Ce (s:=s) (a:=a) (b:=b) hm.1
 rw[e]at hw
 have ak:cv (a.length+b.length+1) (ag s a b):=cv.of ⟨aC,by omega⟩ ⟨ae,by omega⟩
 have wb:h5 acc (m,ag s a b)=acc.set j (m,u.2+ag s a b):=by rw[Pj aa aK hu,hu]
 refine⟨?_, ?_,fun t aA=> ?_, ?_⟩
 ·rw[oQ hi,e,List.map_append,List.foldl_append,<-U]
  show _=h5 acc (bs (d_ m s a b))
  rw[lx hm.1,wb]
 ·rw[<-wb];exact Md aa
 ·rcases List.mem_or_eq_of_mem_set aA with aA|rfl
  ·exact⟨(al t aA).1,(al t aA).2.mono (by omega)⟩
  ·exact⟨hm,((al u (List.mem_of_getElem? aK)).2.add ak).mono (by omega)⟩
 ·rw[List.length_set];omega
theorem LG {l:Rows} {n:Nat} (h:n=l.length):(l.toArray.extract 0 n).toList=l:=by
 subst h;simp
theorem N1 {l:Rows} {i:Nat} (h:i<l.length):l.toArray[i]! =l.getD i []:=by
 simp[List.getD_eq_getElem?_getD,h]
theorem X5 {a b:Row}:aX a b=decide (m_ (dY a) (dY b)):=by
 unfold aX fX m_
 rcases MS (dY a) (dY b)with e|e|e<;>rw[e]<;>decide
theorem MU {p acc:List bu} {x o:Rows} (dI:∀t∈acc,t.1.length=8) (ay:∀m,cG acc m=cG p m) (aP:(acc.map Prod.fst).Nodup)
 (af:x=bP (acc.filter fun t=> !decide (t.2=0))) (ao:kQ x 0 (x.length:Int) o):o=bP (nrm p):=by
 obtain⟨⟨_,U,_,al⟩,aL⟩:=ao
 have hlen:o.length=x.length:=by simpa using U
 simp only[Int.toNat_natCast]at al aL
 rw[show(0:Int).toNat=0 from rfl,LG hlen.symm,LG rfl]at al
 have l9:∀r∈o,∃t:bu,r=fL t/\t.1.length=8:=fun r ak=>by
  have:=al.mem_iff.1 ak
  rw[af,bP]at this
  obtain⟨t,aA,rfl⟩:=List.mem_map.1 this
  exact⟨t,rfl,dI t (List.mem_filter.1 aA).1⟩
 rw[<-Ph l9]
 congr 1
 refine Uq ay aP ?_ ?_
 ·have:=al.map bs
  rw[af,hf fun t aA=>dI t (List.mem_filter.1 aA).1]at this
  exact this
 ·rw[List.pairwise_map,List.pairwise_iff_getElem]
  intro i j hi aK y1
  have:=aL i j (by simp) y1 (by omega)
  rw[N1 aK,N1 hi,X5]at this
  have aT:=of_decide_eq_false this
  rw[List.getD_eq_getElem?_getD,List.getD_eq_getElem?_getD,List.getElem?_eq_getElem hi,List.getElem?_eq_getElem aK]at aT
  exact aT
theorem pg.end {l:Rows} {acc:List bu} (h:pg l l.length acc):∀m,cG acc m=cG (l.map bs) m:=fun m=>by
 rw[h.1,List.take_length,Me,cG,Rat.zero_add]
theorem acP (l:Rows) (K:J->Prop) (h:sK.T [.d (.rows 11 l)] K):J4 l K:=by
 obtain⟨⟨bj,dP,aq⟩,ab⟩:=h
 unfold J4
 refine⟨by omega,by omega,by omega,fun v ai bn=>∃(i:Nat) (acc:List bu),v=i/\i<=l.length/\pg l i acc/\ai=kq 0 acc/\bn=bP acc,fun v _ _=>l.length-v.toNat,
  ⟨0,[],rfl,by omega,⟨rfl, .nil,by simp,by simp⟩,rfl,rfl⟩, ?_⟩
 rintro _ _ _ ⟨i,acc,rfl,U,fH,rfl,rfl⟩
 have DS:=Nat.le_trans (NW l i) dP
 have dI:∀t∈acc,t.1.length=8:=fun t aA=>(fH.2.2.1 t aA).1.1
 have fm:=fH.2.2.2
 simp only[decide_eq_true_iff,decide_eq_false_iff_not,Int.toNat_natCast]
 refine⟨fun aL=> ?_,fun aL=> ?_⟩
 ·have hi:i<l.length:=by omega
  obtain⟨m,s,a,b,e,hm,gK,aC,ae⟩:=(bj _ (mA hi)).parts
  simp only[e,lh hm,oZ hm,oP,lC hm,kV hm,kS hm]
  have wc:IntKind.wrap .i64 ((i:Int)+1)=((i+1:Nat):Int):=gu (by omega) (by omega)
  rw[wc]
  have qH:j6 m:=⟨hm,gK⟩
  by_cases af:∃u∈acc,u.1=m
  ·obtain⟨u,hu,lL⟩:=af
   obtain⟨j,aK,rfl⟩:=List.getElem_of_mem hu
   have iL:acc[j]? =some acc[j]:=List.getElem?_eq_getElem aK
   have l_:=NZ 0 acc j _ iL
   obtain⟨q1,cb,_⟩:=uG (z:=[R.int IntKind.i64 0]) (by rw[MT 0 acc dI];exact fH.2.1) l_ (by rw[As (dI _ hu)])
   rw[lL]at q1 cb
   rw[q1,cb,N0 hm]
   have sl:R.toInt (List.getD [R.int .i64 ((0+j:Nat):Int)] 0 .undef)=(j:Int):=by rw[Nat.zero_add];rfl
   rw[sl]
   obtain⟨_,ao⟩:=fH.2.2.1 _ hu
   have gS:=ao.mono DS
   simp only[Int.toNat_natCast,Wr iL,F4,lL,lC hm,kV hm,kS hm,iT]
   have cg:=fH.at hi e qH aC.1 ae.1 iL lL
   refine⟨by omega,by omega,trivial,trivial,oS gK,rfl,fun _=>⟨by omega,by omega,trivial,rfl,rfl,trivial,rfl,rfl,⟨gS.num.mono (by decide),gS.den.mono (by decide),aC.mono (by decide),ae.mono (by decide)⟩, ?_⟩,fun h=>by cases h⟩
   simp only[R.toBool,R.b6,h2]
   rintro _ rfl _ rfl _ rfl
   rw[Gy hm]
   refine⟨by omega,by omega,⟨i+1,_,rfl,by omega,cg, ?_, ?_⟩,by omega⟩
   ·refine Mc 0 _ _ ?_
    have mg:(acc.map Prod.fst).set j acc[j].1=acc.map Prod.fst:=by
     have h:= @List.set_getElem_self _ (acc.map Prod.fst) j (by simpa using aK)
     simpa using h
    rw[List.map_set,<-lL]
    exact mg.symm
   ·rw[bP,bP,List.map_set];rfl
  ·have ar:∀u∈acc,u.1≠m:=fun u hu e=>af ⟨u,hu,e⟩
   obtain⟨q1,cb,cu⟩:=wJ (n:=8) (z:=[R.int IntKind.i64 0]) (k:=m) (l:=kq 0 acc) fun r ak=>by
    obtain⟨t,aA,j,rfl⟩:=Wq ak
    rw[As (dI t aA)];exact ar t aA
   rw[q1,cb]
   obtain⟨iM,_⟩:=fH.none hi e qH aC.1 ae.1 ar
   refine⟨by omega,by omega,trivial,trivial,oS gK,rfl,(fun h=>by cases h),fun _=>⟨trivial,oS gK,trivial,trivial,rfl,rfl,⟨aC.b5 (by decide),ae.b5 (by decide)⟩, ?_⟩⟩
   simp only[R.toBool,R.b6]
   rintro _ rfl _ rfl _ rfl
   rw[cu _ _ (oP m),iT]
   refine⟨by rw[List.length_singleton];omega,⟨i+1,_,rfl,by omega,iM, ?_, ?_⟩,by omega⟩
   ·rw[NY,Nat.zero_add]
   ·rw[bP,bP,List.map_append];rfl
 ·have hi:i=l.length:=by omega
  subst hi
  have lM:∀r∈bP acc,fp 1000000 r:=fun r ak=>by
   obtain⟨t,aA,rfl⟩:=List.mem_map.1 ak
   exact Pg (fH.2.2.1 t aA).1 ((fH.2.2.1 t aA).2.mono (by omega))
  refine⟨⟨lM,by rw[iT];omega⟩, ?_⟩
  intro x af
  rw[LF dI]at af
  have ZY:∀r∈x,fp 1000000 r:=fun r ak=>by
   rw[af]at ak
   obtain⟨t,aA,rfl⟩:=List.mem_map.1 ak
   exact lM _ (List.mem_map_of_mem (List.mem_filter.1 aA).1)
  refine⟨⟨fun r ak=>(ZY r ak).row, ?_⟩,fun o aH=> ?_⟩
  ·rw[af,iT]
   have:=List.length_filter_le (fun t:bu=> !decide (t.2=0)) acc
   omega
  ·rw[MU dI fH.end fH.2.1 af aH];exact ab
theorem AX {t:bu} (h:t.1.length=8):iF 8 (fL t)=t.1:=As h _
theorem MV {t:bu} (h:t.1.length=8):(fL t).drop 8=[.bool (bh t.2), .ints .u32 (bm t.2), .ints .u32 (bg t.2)]:=N0 h _
theorem MW {p:List bu} (h:∀t∈p,t.1.length=8):(bP p).map (iF 8)=p.map Prod.fst:=by
 rw[bP,List.map_map]
 exact List.map_congr_left fun t aA=>AX (h t aA)
theorem X6:ag false [] []=0:=FA rfl
theorem uM (p q:List bu):bP (p++q)=bP p++bP q:=List.map_append
theorem ach (l:Rows) (K:J->Prop) (h:sK.T [.d (.rows 11 l)] K):JF l K:=by
 obtain⟨⟨bj,dP,aq⟩,ab⟩:=h
 unfold JF
 refine⟨fun v ai bn=>∃(i:Nat) (acc:List bu),v=i/\i<=l.length/\pg l i acc/\ai=bP acc/\bn=acc.map (fun t=>dG t.1),fun v _ _=>l.length-v.toNat,
  ⟨0,[],rfl,by omega,⟨rfl, .nil,by simp,by simp⟩,rfl,rfl⟩, ?_⟩
 rintro _ _ _ ⟨i,acc,rfl,U,fH,rfl,rfl⟩
 have DS:=Nat.le_trans (NW l i) dP
 have dI:∀t∈acc,t.1.length=8:=fun t aA=>(fH.2.2.1 t aA).1.1
 have fm:=fH.2.2.2
 simp only[decide_eq_true_iff,decide_eq_false_iff_not,Int.toNat_natCast]
 refine⟨fun aL=> ?_,fun aL=> ?_⟩
 ·have hi:i<l.length:=by omega
  obtain⟨m,s,a,b,e,hm,gK,aC,ae⟩:=(bj _ (mA hi)).parts
  simp only[e,lh hm,oZ hm,oP]
  have wc:IntKind.wrap .i64 ((i:Int)+1)=((i+1:Nat):Int):=gu (by omega) (by omega)
  rw[wc]
  have qH:j6 m:=⟨hm,gK⟩
  have bc:(∃(j:Nat) (u:bu),acc[j]? =some u/\u.1=m/\cZ 8 [.bool false, .ints .u32 [], .ints .u32 []] (bP acc) m=[.bool (bh u.2), .ints .u32 (bm u.2), .ints .u32 (bg u.2)]/\l1 8 (bP acc) m=true/\
   ∀v,lj 8 (dG m) v (bP acc)=(bP acc).set j (dG m++v))\/
   ((∀u∈acc,u.1≠m)/\cZ 8 [.bool false, .ints .u32 [], .ints .u32 []] (bP acc) m=[.bool false, .ints .u32 [], .ints .u32 []]/\l1 8 (bP acc) m=false/\
     ∀v,lj 8 (dG m) v (bP acc)=bP acc++[dG m++v]):=by
   by_cases af:∃u∈acc,u.1=m
   ·obtain⟨u,hu,lL⟩:=af
    obtain⟨j,aK,rfl⟩:=List.getElem_of_mem hu
    have iL:acc[j]? =some acc[j]:=List.getElem?_eq_getElem aK
    have l_:(bP acc)[j]? =some (fL acc[j]):=by rw[bP,List.getElem?_map,iL];rfl
    obtain⟨q1,cb,cu⟩:=uG (z:=[R.bool false, .ints .u32 [], .ints .u32 []]) (by rw[MW dI];exact fH.2.1) l_ (by rw[AX (dI _ hu)])
    rw[lL]at q1 cb cu
    rw[MV (dI _ hu)]at q1
    exact .inl ⟨j,_,iL,lL,q1,cb,fun v=>cu _ _ (oP m)⟩
   ·have ar:∀u∈acc,u.1≠m:=fun u hu e=>af ⟨u,hu,e⟩
    obtain⟨q1,cb,cu⟩:=wJ (n:=8) (z:=[R.bool false, .ints .u32 [], .ints .u32 []]) (k:=m) (l:=bP acc) fun r ak=>by
     obtain⟨t,aA,rfl⟩:=List.mem_map.1 ak
     rw[AX (dI t aA)];exact ar t aA
    exact .inr ⟨ar,q1,cb,fun v=>cu _ _ (oP m)⟩
  refine⟨by omega,by omega,trivial,fun ai bn ba=>ai=bP acc/\ba=[d_ m s a b]/\((∃u∈acc,u.1=m)/\bn=acc.map (fun t=>dG t.1)\/(∀u∈acc,u.1≠m)/\bn=acc.map (fun t=>dG t.1)++[dG m]),⟨trivial,oS gK, ?_⟩, ?_⟩
  ·rcases bc with⟨j,u,aK,lL,q1,cb,cu⟩|⟨ar,q1,cb,cu⟩
   ·rw[q1,cb]
    exact⟨trivial,rfl,rfl,(fun h=>by cases h),fun _=>⟨rfl,rfl, .inl ⟨⟨u,List.mem_of_getElem? aK,lL⟩,rfl⟩⟩⟩
   ·rw[q1,cb]
    refine⟨trivial,rfl,rfl,fun _=>⟨trivial, ?_,rfl,rfl, .inr ⟨ar,rfl⟩⟩,(fun h=>by cases h)⟩
    rw[List.length_singleton,List.length_map];omega
  ·rintro _ bn _ ⟨rfl,rfl,aH⟩
   have bE:List.getD [d_ m s a b] 0 []=d_ m s a b:=rfl
   simp only[bE,lh hm,oZ hm,oP,lC hm,kV hm,kS hm]
   rcases bc with⟨j,u,aK,lL,q1,cb,cu⟩|⟨ar,q1,cb,cu⟩
   ·rw[q1]
    rcases aH with⟨_,rfl⟩|⟨iM,_⟩
    rotate_left
    ·exact absurd lL (iM u (List.mem_of_getElem? aK))
    have gS:=(fH.2.2.1 _ (List.mem_of_getElem? aK)).2.mono DS
    have cg:=fH.at hi e qH aC.1 ae.1 aK lL
    refine⟨trivial,trivial,oS gK,trivial,rfl,rfl,trivial,rfl,rfl,⟨gS.num.mono (by decide),gS.den.mono (by decide),aC.mono (by decide),ae.mono (by decide)⟩, ?_⟩
    have m9:∀(x y z:R),[x,y,z].getD 0 .undef=x/\[x,y,z].getD 1 .undef=y/\[x,y,z].getD 2 .undef=z:=fun _ _ _=>⟨rfl,rfl,rfl⟩
    simp only[(m9 _ _ _).1,(m9 _ _ _).2.1,(m9 _ _ _).2.2,R.toBool,R.b6,h2]
    rintro _ rfl _ rfl _ rfl
    rw[cu]
    refine⟨oS gK,⟨i+1,_,rfl,by omega,cg, ?_, ?_⟩,by omega⟩
    ·rw[bP,bP,List.map_set];rfl
    ·have hZ:j<acc.length:=(List.getElem?_eq_some_iff.1 aK).1
     have mg:(acc.map fun t=>dG t.1).set j (dG m)=acc.map fun t=>dG t.1:=by
      have h:= @List.set_getElem_self _ (acc.map fun t=>dG t.1) j (by simpa using hZ)
      rw[List.getElem_map]at h
      have az:acc[j]=u:=by
       rw[List.getElem?_eq_getElem hZ]at aK;exact Option.some.inj aK
      rw[az,lL]at h;exact h
     rw[List.map_set];exact mg.symm
   ·rw[q1]
    rcases aH with⟨⟨u,hu,lL⟩,_⟩|⟨_,rfl⟩
    ·exact absurd lL (ar u hu)
    obtain⟨iM,_⟩:=fH.none hi e qH aC.1 ae.1 ar
    refine⟨trivial,trivial,oS gK,trivial,rfl,rfl,trivial,rfl,rfl,⟨⟨.nil,Nat.zero_le _⟩,⟨.nil,Nat.zero_le _⟩,aC.mono (by decide),ae.mono (by decide)⟩, ?_⟩
    have m9:∀(x y z:R),[x,y,z].getD 0 .undef=x/\[x,y,z].getD 1 .undef=y/\[x,y,z].getD 2 .undef=z:=fun _ _ _=>⟨rfl,rfl,rfl⟩
    simp only[(m9 _ _ _).1,(m9 _ _ _).2.1,(m9 _ _ _).2.2,R.toBool,R.b6,X6,Rat.zero_add]
    rintro _ rfl _ rfl _ rfl
    rw[cu]
    refine⟨oS gK,⟨i+1,_,rfl,by omega,iM, ?_, ?_⟩,by omega⟩
    ·rw[uM];rfl
    ·rw[List.map_append];rfl
 ·have hi:i=l.length:=by omega
  subst hi
  have lM:∀t∈acc,fp 1000000 (fL t):=fun t aA=>Pg (fH.2.2.1 t aA).1 ((fH.2.2.1 t aA).2.mono (by omega))
  refine⟨fun v ai bn ba=>∃j:Nat,v=j/\j<=acc.length/\ai=bP acc/\bn=acc.map (fun t=>dG t.1)/\ba=bP ((acc.take j).filter fun t=> !decide (t.2=0)),fun v _ _ _=>acc.length-v.toNat,
   ⟨0,rfl,by omega,rfl,rfl,rfl⟩, ?_⟩
  rintro _ _ _ _ ⟨j,rfl,aK,rfl,rfl,rfl⟩
  simp only[decide_eq_true_iff,decide_eq_false_iff_not,Int.toNat_natCast,List.length_map]
  refine⟨fun bo=> ?_,fun bo=> ?_⟩
  ·have RK:j<acc.length:=by omega
   have iL:acc[j]? =some acc[j]:=List.getElem?_eq_getElem RK
   have hu:acc[j]∈acc:=List.getElem_mem RK
   have qH:=(fH.2.2.1 _ hu).1
   have ao:=(fH.2.2.1 _ hu).2.mono DS
   have m9:List.getD (acc.map fun t=>dG t.1) j []=dG acc[j].1:=by
    rw[List.getD_eq_getElem?_getD,List.getElem?_map,iL];rfl
   have l_:(bP acc)[j]? =some (fL acc[j]):=by rw[bP,List.getElem?_map,iL];rfl
   obtain⟨q1,cb,cu⟩:=uG (z:=[R.bool false, .ints .u32 [], .ints .u32 []]) (by rw[MW dI];exact fH.2.1) l_ (by rw[AX (dI _ hu)])
   rw[MV (dI _ hu)]at q1
   have c1:IntKind.wrap .i64 ((j:Int)+1)=((j+1:Nat):Int):=gu (by omega) (by omega)
   have we:(acc.take (j+1)).filter (fun t=> !decide (t.2=0))=(acc.take j).filter (fun t=> !decide (t.2=0))++(if acc[j].2=0 then[]else[acc[j]]):=by
    rw[List.take_add_one,List.filter_append,iL,Option.toList_some]
    by_cases aE:acc[j].2=0<;>simp[aE]
   have Ia:∀(x y z:R),[x,y,z].getD 0 .undef=x/\[x,y,z].getD 1 .undef=y/\[x,y,z].getD 2 .undef=z:=fun _ _ _=>⟨rfl,rfl,rfl⟩
   simp only[m9,oP,q1,kd,qH.1,c1,(Ia _ _ _).1,(Ia _ _ _).2.1,(Ia _ _ _).2.2,R.toBool,R.b6,h2]
   refine⟨by omega,bo,trivial,trivial,oS qH.2,trivial,rfl,rfl,⟨ao.num.b5 (by decide),ao.den.b5 (by decide)⟩, ?_⟩
   rintro _ rfl
   have hlen:(bP ((acc.take j).filter fun t=> !decide (t.2=0))).length<=100000:=by
    rw[iT]
    have:=List.length_filter_le (fun t:bu=> !decide (t.2=0)) (acc.take j)
    rw[List.length_take]at this;omega
   refine⟨fun bX=>⟨trivial,trivial,oS qH.2,trivial,rfl,rfl, ?_,⟨j+1,rfl,by omega,trivial,trivial, ?_⟩,by omega⟩,fun bX=>⟨⟨j+1,rfl,by omega,trivial,trivial, ?_⟩,by omega⟩⟩
   ·rw[List.length_singleton];omega
   ·have aE:acc[j].2≠0:=by simpa[sM]using bX
    rw[we,if_neg aE,uM];rfl
   ·have aE:acc[j].2=0:=by simpa[sM]using bX
    rw[we,if_pos aE,List.append_nil]
  ·have aK:j=acc.length:=by omega
   subst aK
   rw[List.take_length]
   refine⟨⟨fun r ak=> ?_, ?_⟩,fun o aH=> ?_⟩
   ·obtain⟨t,aA,rfl⟩:=List.mem_map.1 ak
    exact(lM t (List.mem_filter.1 aA).1).row
   ·rw[iT]
    have:=List.length_filter_le (fun t:bu=> !decide (t.2=0)) acc
    omega
   ·rw[MU dI fH.end fH.2.1 rfl aH];exact ab
end I
end
section
namespace I
open Go Go.bG
def du:List Int:=[0,0,0,0,0,0,0,0]
def lN (k:Nat) (r:Row):Prop:=∃(m:List Int) (s:Bool) (a b:List Int),r=d_ m s a b/\m.length=8/\av k a/\av k b
def eC:Rows->Nat->Prop
 |[],_=>True
 |r::l,W=>∃k V,lN k r/\1<=k/\k+1+V<=W/\eC l V
def dc:List bu->Nat->Prop
 |[],_=>True
 |t::p,W=>∃k V,cv k t.2/\1<=k/\k+1+V<=W/\dc p V
def dA (e:Int) (p:List bu):Prop:=∀t∈p,t.1.length=8/\∀x∈t.1,0<=x/\x<=e
def oy (v:Nat):Int->List bu->Int
 |d,[]=>d
 |d,t::p=>oy v (if t.1.getD v 0>d then t.1.getD v 0 else d) p
def lU (p:List bu) (v:Nat):Int:=oy v (-1) p
def jg:Int->List bu->Int
 |d,[]=>d
 |d,t::p=>jg (if kU (t.1.getD 0 0) (t.1.drop 1)>d then kU (t.1.getD 0 0) (t.1.drop 1)else d) p
def y2 (m:List Int):Bool:=m.all fun x=>decide (0<=x)&&decide (x<=1024)
def hI (l:Rows):Bool:=l.all fun r=>y2 (dY r)
def hF (v:Nat) (p:List bu):List bu:=(p.filter fun t=>decide (0<t.1.getD v 0)).map fun t=>(t.1.set v (t.1.getD v 0-1),t.2*((t.1.getD v 0:Int):Rat))
def oz (n:Int) (p q:List bu) (v:Nat):Bool:=decide (1024<n*max (lU p v) 0+max (lU q v) 0)
def hi (n:Int) (p q:List bu):Bool:=oz n p q 0||oz n p q 1||oz n p q 2||oz n p q 3||oz n p q 4||oz n p q 5||oz n p q 6||oz n p q 7
def ew (p q:Rows):Bool:=hI p&&hI q
def b5 (l:Rows):Prop:=cQ l/\l.length<1000000000
def Cf.T:=spec fun|[.agg [.d (.bool s), .d (.ints .u32 a), .d (.ints .u32 b)]]=>some (av 40000 a/\av 40000 b, .d (.rows 11 (bP (nrm [(du,ag s a b)]))))|_=>none
def CO.T:=spec fun|[.d (.int .i64 n)]=>some (i64 n, .d (.rows 11 (bP (nrm [(du,(n:Rat))]))))|_=>none
def CP.T:=spec fun|[.d (.rows aj p), .d (.rows iP q)]=>(match Nat.beq aj 11,Nat.beq iP 11 with|true,true=>some (iY (p++q), .d (.rows 11 (bP (nrm (p.map bs++q.map bs)))))|_,_=>none)|_=>none
def BB.T:=spec fun
 |[.d (.rows aj p), .agg [.d (.bool s), .d (.ints .u32 a), .d (.ints .u32 b)]]=>(match Nat.beq aj 11 with
  |true=>some ((∀r∈p,fp 1000000 r)/\∃W j,eC p W/\av j a/\av j b/\1<=j/\W+j*p.length<=50000, .d (.rows 11 (bP (nrm (fT (ag s a b) (p.map bs))))))
  |false=>none)
 |_=>none
def CQ.T:=spec fun|[.d (.rows aj p)]=>(match Nat.beq aj 11 with|true=>some ((∀r∈p,fp 1000000 r)/\∃W,eC p W/\W+p.length<=50000, .d (.rows 11 (bP (nrm (fT (-1) (p.map bs))))))|false=>none)|_=>none
def CR.T:=spec fun
 |[.d (.rows aj p), .d (.rows iP q)]=>(match Nat.beq aj 11,Nat.beq iP 11 with
  |true,true=>some ((∀r∈p,fp 1000000 r)/\(∀r∈q,fp 1000000 r)/\∃W V,eC p W/\eC q V/\W+V+q.length<=50000, .d (.rows 11 (bP (nrm (p.map bs++fT (-1) (q.map bs))))))
  |_,_=>none)
 |_=>none
def ya (p q:Rows):Prop:=(∀r∈p,dA 2000000000000000000 [bs r]/\dZ r)/\(∀r∈q,dA 2000000000000000000 [bs r]/\dZ r)/\∃W V,eC p W/\eC q V/\W*q.length+V*p.length<=50000/\W<=50000/\V<=50000
def CS.T:=spec fun
 |[.d (.rows aj p), .d (.rows iP q)]=>(match Nat.beq aj 11,Nat.beq iP 11 with
  |true,true=>some (ya p q, .d (.rows 11 (bP (nrm (eR (p.map bs) (q.map bs))))))
  |_,_=>none)
 |_=>none
def CT.T:=spec fun|[.d (.rows aj p), .d (.int .i64 v)]=>(match Nat.beq aj 11 with|true=>some (b5 p/\0<=v/\v<8, .d (.int .i64 (lU (p.map bs) v.toNat)))|false=>none)|_=>none
def CU.T:=spec fun|[.d (.rows aj p)]=>(match Nat.beq aj 11 with|true=>some (b5 p, .d (.int .i64 (jg 0 (p.map bs))))|false=>none)|_=>none
def CV.T:=spec fun
 |[.d (.rows aj p), .d (.int .i64 v)]=>(match Nat.beq aj 11 with
  |true=>some ((0<=v/\v<8)/\(∀r∈p,fp 1000000 r)/\dA 1024 (p.map bs)/\∃W,eC p W/\W+p.length<=50000, .d (.rows 11 (bP (nrm (hF v.toNat (p.map bs))))))
  |false=>none)
 |_=>none
def u7.T:=spec fun|[.d (.rows aj p)]=>(match Nat.beq aj 11 with|true=>some (b5 p, .d (.bool (hI p)))|false=>none)|_=>none
def AY.T:=spec fun|[.d (.rows aj p)]=>(match Nat.beq aj 11 with|true=>some (b5 p, .tup [.d (.rows 11 (if jg 0 (p.map bs)>1024 then[]else p)), .d (.int .i64 (if jg 0 (p.map bs)>1024 then 9 else 0))])|false=>none)|_=>none
def Cg.T:=spec fun|[.d (.rows aj p)]=>(match Nat.beq aj 11 with|true=>some (b5 p/\eC p 50000, .tup [.d (.rows 11 (bP (if hI p then nrm (p.map bs)else[]))), .d (.int .i64 (if hI p then 0 else 2))])|false=>none)|_=>none
def kW:Rat:=1
def CW.T:=spec fun|[.d (.int .i64 v)]=>some (True, .tup [.d (.rows 11 (bP (if 0<=v/\v<8 then[(du.set v.toNat 1,kW)]else[]))), .d (.int .i64 (if 0<=v/\v<8 then 0 else 1))])|_=>none
def qk (p q:Rows):Prop:=(b5 p/\b5 q)/\∃W V,eC p W/\eC q V/\W+V+q.length<=50000
def CX.T:=spec fun
 |[.d (.rows aj p), .d (.rows iP q)]=>(match Nat.beq aj 11,Nat.beq iP 11 with
  |true,true=>some (qk p q, .tup [.d (.rows 11 (bP (if ew p q=true then nrm (p.map bs++q.map bs)else[]))), .d (.int .i64 (if ew p q=true then 0 else 2))])
  |_,_=>none)
 |_=>none
def CY.T:=spec fun
 |[.d (.rows aj p), .d (.rows iP q)]=>(match Nat.beq aj 11,Nat.beq iP 11 with
  |true,true=>some (qk p q, .tup [.d (.rows 11 (bP (if ew p q=true then nrm (p.map bs++fT (-1) (q.map bs))else[]))), .d (.int .i64 (if ew p q=true then 0 else 2))])
  |_,_=>none)
 |_=>none
def xH.T (g:Nat):=spec fun
 |[.d (.rows aj p), .d (.rows iP q), .fn f]=>(match Nat.beq aj 11,Nat.beq iP 11,Nat.beq f g with
  |true,true,true=>some (qk p q, .tup [.d (.rows 11 (bP (if ew p q=true then nrm (p.map bs++q.map bs)else[]))), .d (.int .i64 (if ew p q=true then 0 else 2))])
  |_,_,_=>none)
 |_=>none
def xI.T (g:Nat):=spec fun
 |[.d (.rows aj p), .d (.rows iP q), .fn f]=>(match Nat.beq aj 11,Nat.beq iP 11,Nat.beq f g with
  |true,true,true=>some (qk p q, .tup [.d (.rows 11 (bP (if ew p q=true then nrm (p.map bs++fT (-1) (q.map bs))else[]))), .d (.int .i64 (if ew p q=true then 0 else 2))])
  |_,_,_=>none)
 |_=>none
def vp (l:Rows):Prop:=∀r∈l,∀x∈dY r,-1000000000000<=x/\x<=1000000000000
def CZ.T:=spec fun
 |[.d (.rows aj p), .d (.int .i64 n), .d (.rows iP q)]=>(match Nat.beq aj 11,Nat.beq iP 11 with
  |true,true=>some ((b5 p/\b5 q)/\(vp p/\vp q)/\0<=n/\n<=1000, .d (.bool (hi n (p.map bs) (q.map bs))))
  |_,_=>none)
 |_=>none
def mX (p q:List bu):Bool:= !decide (p=[])&& !decide (q=[])&&hi 1 p q
def xJ (p q:Rows):Prop:=(b5 p/\b5 q)/\∃W V,eC p W/\eC q V/\W*q.length+V*p.length<=50000/\W<=50000/\V<=50000
def ph (p q:Rows):Bool:=ew p q&& !mX (nrm (p.map bs)) (nrm (q.map bs))
def C0.T:=spec fun
 |[.d (.rows aj p), .d (.rows iP q)]=>(match Nat.beq aj 11,Nat.beq iP 11 with
  |true,true=>some (xJ p q, .tup [.d (.rows 11 (bP (if ph p q=true then nrm (eR (p.map bs) (q.map bs))else[]))), .d (.int .i64 (if ew p q=true then(if mX (nrm (p.map bs)) (nrm (q.map bs))then 9 else 0)else 2))])
  |_,_=>none)
 |_=>none
def gQ (p:Rows) (v:Int):Int:=if hI p then(if 0<=v/\v<8 then 0 else 1)else 2
def Ch.T:=spec fun
 |[.d (.rows aj p), .d (.int .i64 v)]=>(match Nat.beq aj 11 with
  |true=>some (b5 p/\eC p 50000, .tup [.d (.rows 11 (bP (if gQ p v=0 then nrm (p.map bs)else[]))), .d (.int .i64 (gQ p v))])
  |false=>none)
 |_=>none
def C1.T:=spec fun
 |[.d (.rows aj p), .d (.int .i64 v)]=>(match Nat.beq aj 11 with
  |true=>some (b5 p/\eC p 50000, .tup [.d (.int .i64 (if gQ p v=0 then lU (nrm (p.map bs)) v.toNat else 0)), .d (.int .i64 (gQ p v))])
  |false=>none)
 |_=>none
def C2.T:=spec fun
 |[.d (.rows aj p), .d (.int .i64 v)]=>(match Nat.beq aj 11 with
  |true=>some (b5 p/\∃W,eC p W/\W+p.length<=50000, .tup [.d (.rows 11 (bP (if gQ p v=0 then nrm (hF v.toNat (p.map bs))else[]))), .d (.int .i64 (gQ p v))])
  |false=>none)
 |_=>none
def ma (r:Row):List Int×Bool×List Int×List Int:=(dY r,(r.getD 8 .undef).toBool,(r.getD 9 .undef).b6,(r.getD 10 .undef).b6)
def Ci.T:=spec fun
 |[.d (.rows aj p), .d (.rows iP q)]=>(match Nat.beq aj 11,Nat.beq iP 11 with
  |true,true=>some ((∀r∈p,lN 1000000 r)/\(∀r∈q,lN 1000000 r)/\p.length<1000000000/\q.length<1000000000, .d (.bool (decide (p.map ma=q.map ma))))
  |_,_=>none)
 |_=>none
end I
end
section
namespace I
open Go Go.bG
abbrev f_:Row:=[.int .i64 2, .int .i64 0, .int .i64 0, .int .i64 0, .int .i64 0, .int .i64 0, .int .i64 0, .int .i64 0, .bool false, .ints .u32 [1], .ints .u32 [1]]
abbrev ga:Row:=[.int .i64 0, .int .i64 2, .int .i64 0, .int .i64 0, .int .i64 0, .int .i64 0, .int .i64 0, .int .i64 0, .bool true, .ints .u32 [1], .ints .u32 [1]]
abbrev qw:Rows:=[f_,ga]
abbrev Dp:Rows:=[[.str [112]],[.str [113]]]
def BC.T:=spec fun|[.d (.rows aj p)]=>(match Nat.beq aj 11 with|true=>some (p=qw, .d (.bool true))|false=>none)|_=>none
def AZ.T:=spec fun|[.d (.rows aj p)]=>(match Nat.beq aj 11 with|true=>some (p=qw, .d (.rows 11 qw))|false=>none)|_=>none
def Cj.T:=spec fun|[.agg [.d (.bool s), .d (.ints .u32 a), .d (.ints .u32 b)]]=>some (a=[1]/\b=[1], .d (.int .i64 (match s with|true=>-1|false=>1)))|_=>none
def C3.T:=spec fun|[.d (.int .i64 n)]=>some (n=1, .agg [.d (.bool false), .d (.ints .u32 [1]), .d (.ints .u32 [1])])|_=>none
def BD.T:=spec fun|[.agg [.d (.bool s), .d (.ints .u32 a), .d (.ints .u32 b)], .agg [.d (.bool t), .d (.ints .u32 c), .d (.ints .u32 d)]]=>some ((s=false/\t=false)/\a=[1]/\b=[1]/\c=[1]/\d=[1], .d (.bool true))|_=>none
def u9.T:=spec fun|[.d (.int .i64 n)]=>some (n=2, .d (.str [50]))|_=>none
def A0.T:=spec fun|[.d (.int .i64 n), .d (.int .i64 b)]=>some (n=2/\b=10, .d (.str [50]))|_=>none
def Ck.T:=spec fun|[.d (.rows aj l), .d (.str zq)]=>(match Nat.beq aj 1,l with|true,[[.str x]]=>some (True, .d (.str x))|_,_=>none)|_=>none
def A1.T:=spec fun
 |[.d (.rows aj p), .d (.rows iP n)]=>(match Nat.beq aj 11,Nat.beq iP 1 with
  |true,true=>some (p=qw/\n=Dp, .tup [.d (.str [112,94,50,32,45,32,113,94,50]), .d (.int .i64 0)])
  |_,_=>none)
 |_=>none
end I
end
section
namespace I
open Go Go.bG
def A2.T:=spec fun|[]=>some (True, .d (.bool true))|_=>none
def AG.T:=spec fun|[.d (.int .u8 v)]=>some (0<=v/\v<256, .d (.bool true))|_=>none
end I
end
section
open Go Go.bG
namespace I
def Jx:(J->Prop)->Prop:=
 fun(K:J->Prop)=>True/\∀(x:List (List R)),x=I.bP (if(0:Int)<=(0:Int)/\(0:Int)<(8:Int)then[(List.set I.du (0:Nat) (1:Int),I.kW)]else[])->∀(au:Int),au=(0:Int)
 ->True/\∀(ax:List (List R)),ax=I.bP (if(0:Int)<=(1:Int)/\(1:Int)<(8:Int)then[(List.set I.du (1:Nat) (1:Int),I.kW)]else[])->∀(aJ:Int),aJ=(0:Int)->I.qk x ax
 /\∀(bb:List (List R)),bb=I.bP (if I.ew x ax=true then I.nrm (HAppend.hAppend (List.map I.bs x) (List.map I.bs ax))else[])->∀(bJ:Int),(bJ=if I.ew x ax=true then(0:Int)else(2:Int))
 ->I.qk x ax/\∀(aY:List (List R)),aY=I.bP (if I.ew x ax=true then I.nrm (HAppend.hAppend (List.map I.bs x) (I.fT (-1:Rat) (List.map I.bs ax)))else[])->∀(aW:Int),(aW=if I.ew x ax=true then(0:Int)else(2:Int))
 ->I.xJ bb aY/\∀(x:List (List R)),x=I.bP (if I.ph bb aY=true then I.nrm (I.eR (List.map I.bs bb) (List.map I.bs aY))else[])->∀(a7:Int),(a7=if I.ew bb aY=true then if I.mX (I.nrm (List.map I.bs bb)) (I.nrm (List.map I.bs aY))=true then(9:Int)else(0:Int)else(2:Int))
 ->(x=[[R.int IntKind.i64 (2:Int),R.int IntKind.i64 (0:Int),R.int IntKind.i64 (0:Int),R.int IntKind.i64 (0:Int),R.int IntKind.i64 (0:Int),R.int IntKind.i64 (0:Int),R.int IntKind.i64 (0:Int),R.int IntKind.i64 (0:Int),R.bool false,R.ints IntKind.u32 [(1:Int)],R.ints IntKind.u32 [(1:Int)]],[R.int IntKind.i64 (0:Int),R.int IntKind.i64 (2:Int),R.int IntKind.i64 (0:Int),R.int IntKind.i64 (0:Int),R.int IntKind.i64 (0:Int),R.int IntKind.i64 (0:Int),R.int IntKind.i64 (0:Int),R.int IntKind.i64 (0:Int),R.bool true,R.ints IntKind.u32 [(1:Int)],R.ints IntKind.u32 [(1:Int)]]]
 /\[[R.str [(112:Int)]],[R.str [(113:Int)]]]=[[R.str [(112:Int)]],[R.str [(113:Int)]]])/\∀(x:List Int),x=[(112:Int),(94:Int),(50:Int),(32:Int),(45:Int),(32:Int),(113:Int),(94:Int),(50:Int)]
 ->∀(bU:Int),bU=(0:Int)->(decide (au=(0:Int))=true->(decide (aJ=(0:Int))=true->(decide (bJ=(0:Int))=true->(decide (aW=(0:Int))=true->(decide (a7=(0:Int))=true
 ->(decide (bU=(0:Int))=true->K (J.d (R.bool (decide (x=[(112:Int),(94:Int),(50:Int),(32:Int),(45:Int),(32:Int),(113:Int),(94:Int),(50:Int)])))))/\(decide (bU=(0:Int))=false
 ->K (J.d (R.bool false))))/\(decide (a7=(0:Int))=false->K (J.d (R.bool false))))/\(decide (aW=(0:Int))=false->K (J.d (R.bool false))))/\(decide (bJ=(0:Int))=false->K (J.d (R.bool false))))
 /\(decide (aJ=(0:Int))=false->K (J.d (R.bool false))))/\(decide (au=(0:Int))=false->K (J.d (R.bool false)))
def Jh:Int->(J->Prop)->Prop:=
 fun(v:Int) (K:J->Prop)=>I.i64 (1:Int)/\∀(x:Bool),x=I.bh (IntCast.intCast (1:Int))->∀(au:List Int),au=I.bm (IntCast.intCast (1:Int))->∀(ax:List Int),ax=I.bg (IntCast.intCast (1:Int))
 ->(0:Int)<=IntKind.wrap IntKind.i64 (Int.tmod v (8:Int))/\IntKind.wrap IntKind.i64 (Int.tmod v (8:Int))<(8:Int)/\List.length (List.set (setRow [R.int IntKind.i64 (0:Int),R.int IntKind.i64 (0:Int),R.int IntKind.i64 (0:Int),R.int IntKind.i64 (0:Int),R.int IntKind.i64 (0:Int),R.int IntKind.i64 (0:Int),R.int IntKind.i64 (0:Int),R.int IntKind.i64 (0:Int),R.bool false,R.ints IntKind.u32 [],R.ints IntKind.u32 []] (8:Nat) [R.bool x,R.ints IntKind.u32 au,R.ints IntKind.u32 ax]) (Int.toNat (IntKind.wrap IntKind.i64 (Int.tmod v (8:Int)))) (R.int IntKind.i64 (1024:Int)))=(11:Nat)
 /\True/\∀(aJ:List (List R)),aJ=I.bP (if(0:Int)<=IntKind.wrap IntKind.i64 (Int.tmod v (8:Int))/\IntKind.wrap IntKind.i64 (Int.tmod v (8:Int))<(8:Int)then[(List.set I.du (Int.toNat (IntKind.wrap IntKind.i64 (Int.tmod v (8:Int)))) (1:Int),I.kW)]else[])
 ->∀(bb:Int),(bb=if(0:Int)<=IntKind.wrap IntKind.i64 (Int.tmod v (8:Int))/\IntKind.wrap IntKind.i64 (Int.tmod v (8:Int))<(8:Int)then(0:Int)else(1:Int))->I.xJ [List.set (setRow [R.int IntKind.i64 (0:Int),R.int IntKind.i64 (0:Int),R.int IntKind.i64 (0:Int),R.int IntKind.i64 (0:Int),R.int IntKind.i64 (0:Int),R.int IntKind.i64 (0:Int),R.int IntKind.i64 (0:Int),R.int IntKind.i64 (0:Int),R.bool false,R.ints IntKind.u32 [],R.ints IntKind.u32 []] (8:Nat) [R.bool x,R.ints IntKind.u32 au,R.ints IntKind.u32 ax]) (Int.toNat (IntKind.wrap IntKind.i64 (Int.tmod v (8:Int)))) (R.int IntKind.i64 (1024:Int))] aJ
 /\∀(bJ:List (List R)),bJ=I.bP (if I.ph [List.set (setRow [R.int IntKind.i64 (0:Int),R.int IntKind.i64 (0:Int),R.int IntKind.i64 (0:Int),R.int IntKind.i64 (0:Int),R.int IntKind.i64 (0:Int),R.int IntKind.i64 (0:Int),R.int IntKind.i64 (0:Int),R.int IntKind.i64 (0:Int),R.bool false,R.ints IntKind.u32 [],R.ints IntKind.u32 []] (8:Nat) [R.bool x,R.ints IntKind.u32 au,R.ints IntKind.u32 ax]) (Int.toNat (IntKind.wrap IntKind.i64 (Int.tmod v (8:Int)))) (R.int IntKind.i64 (1024:Int))] aJ=true then I.nrm (I.eR (List.map I.bs [List.set (setRow [R.int IntKind.i64 (0:Int),R.int IntKind.i64 (0:Int),R.int IntKind.i64 (0:Int),R.int IntKind.i64 (0:Int),R.int IntKind.i64 (0:Int),R.int IntKind.i64 (0:Int),R.int IntKind.i64 (0:Int),R.int IntKind.i64 (0:Int),R.bool false,R.ints IntKind.u32 [],R.ints IntKind.u32 []] (8:Nat) [R.bool x,R.ints IntKind.u32 au,R.ints IntKind.u32 ax]) (Int.toNat (IntKind.wrap IntKind.i64 (Int.tmod v (8:Int)))) (R.int IntKind.i64 (1024:Int))]) (List.map I.bs aJ))else[])
 ->∀(aY:Int),(aY=if I.ew [List.set (setRow [R.int IntKind.i64 (0:Int),R.int IntKind.i64 (0:Int),R.int IntKind.i64 (0:Int),R.int IntKind.i64 (0:Int),R.int IntKind.i64 (0:Int),R.int IntKind.i64 (0:Int),R.int IntKind.i64 (0:Int),R.int IntKind.i64 (0:Int),R.bool false,R.ints IntKind.u32 [],R.ints IntKind.u32 []] (8:Nat) [R.bool x,R.ints IntKind.u32 au,R.ints IntKind.u32 ax]) (Int.toNat (IntKind.wrap IntKind.i64 (Int.tmod v (8:Int)))) (R.int IntKind.i64 (1024:Int))] aJ=true then if I.mX (I.nrm (List.map I.bs [List.set (setRow [R.int IntKind.i64 (0:Int),R.int IntKind.i64 (0:Int),R.int IntKind.i64 (0:Int),R.int IntKind.i64 (0:Int),R.int IntKind.i64 (0:Int),R.int IntKind.i64 (0:Int),R.int IntKind.i64 (0:Int),R.int IntKind.i64 (0:Int),R.bool false,R.ints IntKind.u32 [],R.ints IntKind.u32 []] (8:Nat) [R.bool x,R.ints IntKind.u32 au,R.ints IntKind.u32 ax]) (Int.toNat (IntKind.wrap IntKind.i64 (Int.tmod v (8:Int)))) (R.int IntKind.i64 (1024:Int))])) (I.nrm (List.map I.bs aJ))=true then(9:Int)else(0:Int)else(2:Int))
 ->(I.b5 [List.set (setRow [R.int IntKind.i64 (0:Int),R.int IntKind.i64 (0:Int),R.int IntKind.i64 (0:Int),R.int IntKind.i64 (0:Int),R.int IntKind.i64 (0:Int),R.int IntKind.i64 (0:Int),R.int IntKind.i64 (0:Int),R.int IntKind.i64 (0:Int),R.bool false,R.ints IntKind.u32 [],R.ints IntKind.u32 []] (8:Nat) [R.bool x,R.ints IntKind.u32 au,R.ints IntKind.u32 ax]) (Int.toNat (IntKind.wrap IntKind.i64 (Int.tmod v (8:Int)))) (R.int IntKind.i64 (1024:Int))]
 /\I.eC [List.set (setRow [R.int IntKind.i64 (0:Int),R.int IntKind.i64 (0:Int),R.int IntKind.i64 (0:Int),R.int IntKind.i64 (0:Int),R.int IntKind.i64 (0:Int),R.int IntKind.i64 (0:Int),R.int IntKind.i64 (0:Int),R.int IntKind.i64 (0:Int),R.bool false,R.ints IntKind.u32 [],R.ints IntKind.u32 []] (8:Nat) [R.bool x,R.ints IntKind.u32 au,R.ints IntKind.u32 ax]) (Int.toNat (IntKind.wrap IntKind.i64 (Int.tmod v (8:Int)))) (R.int IntKind.i64 (1024:Int))] (50000:Nat))
 /\∀(aW:Int),(aW=if I.gQ [List.set (setRow [R.int IntKind.i64 (0:Int),R.int IntKind.i64 (0:Int),R.int IntKind.i64 (0:Int),R.int IntKind.i64 (0:Int),R.int IntKind.i64 (0:Int),R.int IntKind.i64 (0:Int),R.int IntKind.i64 (0:Int),R.int IntKind.i64 (0:Int),R.bool false,R.ints IntKind.u32 [],R.ints IntKind.u32 []] (8:Nat) [R.bool x,R.ints IntKind.u32 au,R.ints IntKind.u32 ax]) (Int.toNat (IntKind.wrap IntKind.i64 (Int.tmod v (8:Int)))) (R.int IntKind.i64 (1024:Int))] (IntKind.wrap IntKind.i64 (Int.tmod v (8:Int)))=(0:Int)then I.lU (I.nrm (List.map I.bs [List.set (setRow [R.int IntKind.i64 (0:Int),R.int IntKind.i64 (0:Int),R.int IntKind.i64 (0:Int),R.int IntKind.i64 (0:Int),R.int IntKind.i64 (0:Int),R.int IntKind.i64 (0:Int),R.int IntKind.i64 (0:Int),R.int IntKind.i64 (0:Int),R.bool false,R.ints IntKind.u32 [],R.ints IntKind.u32 []] (8:Nat) [R.bool x,R.ints IntKind.u32 au,R.ints IntKind.u32 ax]) (Int.toNat (IntKind.wrap IntKind.i64 (Int.tmod v (8:Int)))) (R.int IntKind.i64 (1024:Int))])) (Int.toNat (IntKind.wrap IntKind.i64 (Int.tmod v (8:Int))))else(0:Int))
 ->∀(a7:Int),a7=I.gQ [List.set (setRow [R.int IntKind.i64 (0:Int),R.int IntKind.i64 (0:Int),R.int IntKind.i64 (0:Int),R.int IntKind.i64 (0:Int),R.int IntKind.i64 (0:Int),R.int IntKind.i64 (0:Int),R.int IntKind.i64 (0:Int),R.int IntKind.i64 (0:Int),R.bool false,R.ints IntKind.u32 [],R.ints IntKind.u32 []] (8:Nat) [R.bool x,R.ints IntKind.u32 au,R.ints IntKind.u32 ax]) (Int.toNat (IntKind.wrap IntKind.i64 (Int.tmod v (8:Int)))) (R.int IntKind.i64 (1024:Int))] (IntKind.wrap IntKind.i64 (Int.tmod v (8:Int)))
 ->(0:Int)<=IntKind.wrap IntKind.i64 (Int.tmod v (8:Int))/\IntKind.wrap IntKind.i64 (Int.tmod v (8:Int))<(8:Int)/\R.isInt (List.getD (List.set (setRow [R.int IntKind.i64 (0:Int),R.int IntKind.i64 (0:Int),R.int IntKind.i64 (0:Int),R.int IntKind.i64 (0:Int),R.int IntKind.i64 (0:Int),R.int IntKind.i64 (0:Int),R.int IntKind.i64 (0:Int),R.int IntKind.i64 (0:Int),R.bool false,R.ints IntKind.u32 [],R.ints IntKind.u32 []] (8:Nat) [R.bool x,R.ints IntKind.u32 au,R.ints IntKind.u32 ax]) (Int.toNat (IntKind.wrap IntKind.i64 (Int.tmod v (8:Int)))) (R.int IntKind.i64 (1024:Int))) (Int.toNat (IntKind.wrap IntKind.i64 (Int.tmod v (8:Int)))) R.undef) IntKind.i64
 /\(0:Int)<=IntKind.wrap IntKind.i64 (Int.tmod v (8:Int))/\IntKind.wrap IntKind.i64 (Int.tmod v (8:Int))<(8:Int)/\List.length (List.set (List.set (setRow [R.int IntKind.i64 (0:Int),R.int IntKind.i64 (0:Int),R.int IntKind.i64 (0:Int),R.int IntKind.i64 (0:Int),R.int IntKind.i64 (0:Int),R.int IntKind.i64 (0:Int),R.int IntKind.i64 (0:Int),R.int IntKind.i64 (0:Int),R.bool false,R.ints IntKind.u32 [],R.ints IntKind.u32 []] (8:Nat) [R.bool x,R.ints IntKind.u32 au,R.ints IntKind.u32 ax]) (Int.toNat (IntKind.wrap IntKind.i64 (Int.tmod v (8:Int)))) (R.int IntKind.i64 (1024:Int))) (Int.toNat (IntKind.wrap IntKind.i64 (Int.tmod v (8:Int)))) (R.int IntKind.i64 (IntKind.wrap IntKind.i64 (R.toInt (List.getD (List.set (setRow [R.int IntKind.i64 (0:Int),R.int IntKind.i64 (0:Int),R.int IntKind.i64 (0:Int),R.int IntKind.i64 (0:Int),R.int IntKind.i64 (0:Int),R.int IntKind.i64 (0:Int),R.int IntKind.i64 (0:Int),R.int IntKind.i64 (0:Int),R.bool false,R.ints IntKind.u32 [],R.ints IntKind.u32 []] (8:Nat) [R.bool x,R.ints IntKind.u32 au,R.ints IntKind.u32 ax]) (Int.toNat (IntKind.wrap IntKind.i64 (Int.tmod v (8:Int)))) (R.int IntKind.i64 (1024:Int))) (Int.toNat (IntKind.wrap IntKind.i64 (Int.tmod v (8:Int)))) R.undef)+(1:Int)))))=(11:Nat)
 /\(I.b5 [List.set (List.set (setRow [R.int IntKind.i64 (0:Int),R.int IntKind.i64 (0:Int),R.int IntKind.i64 (0:Int),R.int IntKind.i64 (0:Int),R.int IntKind.i64 (0:Int),R.int IntKind.i64 (0:Int),R.int IntKind.i64 (0:Int),R.int IntKind.i64 (0:Int),R.bool false,R.ints IntKind.u32 [],R.ints IntKind.u32 []] (8:Nat) [R.bool x,R.ints IntKind.u32 au,R.ints IntKind.u32 ax]) (Int.toNat (IntKind.wrap IntKind.i64 (Int.tmod v (8:Int)))) (R.int IntKind.i64 (1024:Int))) (Int.toNat (IntKind.wrap IntKind.i64 (Int.tmod v (8:Int)))) (R.int IntKind.i64 (IntKind.wrap IntKind.i64 (R.toInt (List.getD (List.set (setRow [R.int IntKind.i64 (0:Int),R.int IntKind.i64 (0:Int),R.int IntKind.i64 (0:Int),R.int IntKind.i64 (0:Int),R.int IntKind.i64 (0:Int),R.int IntKind.i64 (0:Int),R.int IntKind.i64 (0:Int),R.int IntKind.i64 (0:Int),R.bool false,R.ints IntKind.u32 [],R.ints IntKind.u32 []] (8:Nat) [R.bool x,R.ints IntKind.u32 au,R.ints IntKind.u32 ax]) (Int.toNat (IntKind.wrap IntKind.i64 (Int.tmod v (8:Int)))) (R.int IntKind.i64 (1024:Int))) (Int.toNat (IntKind.wrap IntKind.i64 (Int.tmod v (8:Int)))) R.undef)+(1:Int))))]
 /\I.eC [List.set (List.set (setRow [R.int IntKind.i64 (0:Int),R.int IntKind.i64 (0:Int),R.int IntKind.i64 (0:Int),R.int IntKind.i64 (0:Int),R.int IntKind.i64 (0:Int),R.int IntKind.i64 (0:Int),R.int IntKind.i64 (0:Int),R.int IntKind.i64 (0:Int),R.bool false,R.ints IntKind.u32 [],R.ints IntKind.u32 []] (8:Nat) [R.bool x,R.ints IntKind.u32 au,R.ints IntKind.u32 ax]) (Int.toNat (IntKind.wrap IntKind.i64 (Int.tmod v (8:Int)))) (R.int IntKind.i64 (1024:Int))) (Int.toNat (IntKind.wrap IntKind.i64 (Int.tmod v (8:Int)))) (R.int IntKind.i64 (IntKind.wrap IntKind.i64 (R.toInt (List.getD (List.set (setRow [R.int IntKind.i64 (0:Int),R.int IntKind.i64 (0:Int),R.int IntKind.i64 (0:Int),R.int IntKind.i64 (0:Int),R.int IntKind.i64 (0:Int),R.int IntKind.i64 (0:Int),R.int IntKind.i64 (0:Int),R.int IntKind.i64 (0:Int),R.bool false,R.ints IntKind.u32 [],R.ints IntKind.u32 []] (8:Nat) [R.bool x,R.ints IntKind.u32 au,R.ints IntKind.u32 ax]) (Int.toNat (IntKind.wrap IntKind.i64 (Int.tmod v (8:Int)))) (R.int IntKind.i64 (1024:Int))) (Int.toNat (IntKind.wrap IntKind.i64 (Int.tmod v (8:Int)))) R.undef)+(1:Int))))] (50000:Nat))
 /\∀(bU:List (List R)),bU=I.bP (if I.hI [List.set (List.set (setRow [R.int IntKind.i64 (0:Int),R.int IntKind.i64 (0:Int),R.int IntKind.i64 (0:Int),R.int IntKind.i64 (0:Int),R.int IntKind.i64 (0:Int),R.int IntKind.i64 (0:Int),R.int IntKind.i64 (0:Int),R.int IntKind.i64 (0:Int),R.bool false,R.ints IntKind.u32 [],R.ints IntKind.u32 []] (8:Nat) [R.bool x,R.ints IntKind.u32 au,R.ints IntKind.u32 ax]) (Int.toNat (IntKind.wrap IntKind.i64 (Int.tmod v (8:Int)))) (R.int IntKind.i64 (1024:Int))) (Int.toNat (IntKind.wrap IntKind.i64 (Int.tmod v (8:Int)))) (R.int IntKind.i64 (IntKind.wrap IntKind.i64 (R.toInt (List.getD (List.set (setRow [R.int IntKind.i64 (0:Int),R.int IntKind.i64 (0:Int),R.int IntKind.i64 (0:Int),R.int IntKind.i64 (0:Int),R.int IntKind.i64 (0:Int),R.int IntKind.i64 (0:Int),R.int IntKind.i64 (0:Int),R.int IntKind.i64 (0:Int),R.bool false,R.ints IntKind.u32 [],R.ints IntKind.u32 []] (8:Nat) [R.bool x,R.ints IntKind.u32 au,R.ints IntKind.u32 ax]) (Int.toNat (IntKind.wrap IntKind.i64 (Int.tmod v (8:Int)))) (R.int IntKind.i64 (1024:Int))) (Int.toNat (IntKind.wrap IntKind.i64 (Int.tmod v (8:Int)))) R.undef)+(1:Int))))]=true then I.nrm (List.map I.bs [List.set (List.set (setRow [R.int IntKind.i64 (0:Int),R.int IntKind.i64 (0:Int),R.int IntKind.i64 (0:Int),R.int IntKind.i64 (0:Int),R.int IntKind.i64 (0:Int),R.int IntKind.i64 (0:Int),R.int IntKind.i64 (0:Int),R.int IntKind.i64 (0:Int),R.bool false,R.ints IntKind.u32 [],R.ints IntKind.u32 []] (8:Nat) [R.bool x,R.ints IntKind.u32 au,R.ints IntKind.u32 ax]) (Int.toNat (IntKind.wrap IntKind.i64 (Int.tmod v (8:Int)))) (R.int IntKind.i64 (1024:Int))) (Int.toNat (IntKind.wrap IntKind.i64 (Int.tmod v (8:Int)))) (R.int IntKind.i64 (IntKind.wrap IntKind.i64 (R.toInt (List.getD (List.set (setRow [R.int IntKind.i64 (0:Int),R.int IntKind.i64 (0:Int),R.int IntKind.i64 (0:Int),R.int IntKind.i64 (0:Int),R.int IntKind.i64 (0:Int),R.int IntKind.i64 (0:Int),R.int IntKind.i64 (0:Int),R.int IntKind.i64 (0:Int),R.bool false,R.ints IntKind.u32 [],R.ints IntKind.u32 []] (8:Nat) [R.bool x,R.ints IntKind.u32 au,R.ints IntKind.u32 ax]) (Int.toNat (IntKind.wrap IntKind.i64 (Int.tmod v (8:Int)))) (R.int IntKind.i64 (1024:Int))) (Int.toNat (IntKind.wrap IntKind.i64 (Int.tmod v (8:Int)))) R.undef)+(1:Int))))])else[])
 ->∀(b_:Int),(b_=if I.hI [List.set (List.set (setRow [R.int IntKind.i64 (0:Int),R.int IntKind.i64 (0:Int),R.int IntKind.i64 (0:Int),R.int IntKind.i64 (0:Int),R.int IntKind.i64 (0:Int),R.int IntKind.i64 (0:Int),R.int IntKind.i64 (0:Int),R.int IntKind.i64 (0:Int),R.bool false,R.ints IntKind.u32 [],R.ints IntKind.u32 []] (8:Nat) [R.bool x,R.ints IntKind.u32 au,R.ints IntKind.u32 ax]) (Int.toNat (IntKind.wrap IntKind.i64 (Int.tmod v (8:Int)))) (R.int IntKind.i64 (1024:Int))) (Int.toNat (IntKind.wrap IntKind.i64 (Int.tmod v (8:Int)))) (R.int IntKind.i64 (IntKind.wrap IntKind.i64 (R.toInt (List.getD (List.set (setRow [R.int IntKind.i64 (0:Int),R.int IntKind.i64 (0:Int),R.int IntKind.i64 (0:Int),R.int IntKind.i64 (0:Int),R.int IntKind.i64 (0:Int),R.int IntKind.i64 (0:Int),R.int IntKind.i64 (0:Int),R.int IntKind.i64 (0:Int),R.bool false,R.ints IntKind.u32 [],R.ints IntKind.u32 []] (8:Nat) [R.bool x,R.ints IntKind.u32 au,R.ints IntKind.u32 ax]) (Int.toNat (IntKind.wrap IntKind.i64 (Int.tmod v (8:Int)))) (R.int IntKind.i64 (1024:Int))) (Int.toNat (IntKind.wrap IntKind.i64 (Int.tmod v (8:Int)))) R.undef)+(1:Int))))]=true then(0:Int)else(2:Int))
 ->True/\∀(bL:List (List R)),bL=I.bP (if(0:Int)<=IntKind.wrap IntKind.i64 (Int.tmod (IntKind.wrap IntKind.u8 (Int.tdiv v (8:Int))) (8:Int))/\IntKind.wrap IntKind.i64 (Int.tmod (IntKind.wrap IntKind.u8 (Int.tdiv v (8:Int))) (8:Int))<(8:Int)then[(List.set I.du (Int.toNat (IntKind.wrap IntKind.i64 (Int.tmod (IntKind.wrap IntKind.u8 (Int.tdiv v (8:Int))) (8:Int)))) (1:Int),I.kW)]else[])
 ->∀(br:Int),(br=if(0:Int)<=IntKind.wrap IntKind.i64 (Int.tmod (IntKind.wrap IntKind.u8 (Int.tdiv v (8:Int))) (8:Int))/\IntKind.wrap IntKind.i64 (Int.tmod (IntKind.wrap IntKind.u8 (Int.tdiv v (8:Int))) (8:Int))<(8:Int)then(0:Int)else(1:Int))
 ->I.xJ [List.set (setRow [R.int IntKind.i64 (0:Int),R.int IntKind.i64 (0:Int),R.int IntKind.i64 (0:Int),R.int IntKind.i64 (0:Int),R.int IntKind.i64 (0:Int),R.int IntKind.i64 (0:Int),R.int IntKind.i64 (0:Int),R.int IntKind.i64 (0:Int),R.bool false,R.ints IntKind.u32 [],R.ints IntKind.u32 []] (8:Nat) [R.bool x,R.ints IntKind.u32 au,R.ints IntKind.u32 ax]) (Int.toNat (IntKind.wrap IntKind.i64 (Int.tmod v (8:Int)))) (R.int IntKind.i64 (1024:Int))] bL
 /\∀(bC:List (List R)),bC=I.bP (if I.ph [List.set (setRow [R.int IntKind.i64 (0:Int),R.int IntKind.i64 (0:Int),R.int IntKind.i64 (0:Int),R.int IntKind.i64 (0:Int),R.int IntKind.i64 (0:Int),R.int IntKind.i64 (0:Int),R.int IntKind.i64 (0:Int),R.int IntKind.i64 (0:Int),R.bool false,R.ints IntKind.u32 [],R.ints IntKind.u32 []] (8:Nat) [R.bool x,R.ints IntKind.u32 au,R.ints IntKind.u32 ax]) (Int.toNat (IntKind.wrap IntKind.i64 (Int.tmod v (8:Int)))) (R.int IntKind.i64 (1024:Int))] bL=true then I.nrm (I.eR (List.map I.bs [List.set (setRow [R.int IntKind.i64 (0:Int),R.int IntKind.i64 (0:Int),R.int IntKind.i64 (0:Int),R.int IntKind.i64 (0:Int),R.int IntKind.i64 (0:Int),R.int IntKind.i64 (0:Int),R.int IntKind.i64 (0:Int),R.int IntKind.i64 (0:Int),R.bool false,R.ints IntKind.u32 [],R.ints IntKind.u32 []] (8:Nat) [R.bool x,R.ints IntKind.u32 au,R.ints IntKind.u32 ax]) (Int.toNat (IntKind.wrap IntKind.i64 (Int.tmod v (8:Int)))) (R.int IntKind.i64 (1024:Int))]) (List.map I.bs bL))else[])
 ->∀(dQ:Int),(dQ=if I.ew [List.set (setRow [R.int IntKind.i64 (0:Int),R.int IntKind.i64 (0:Int),R.int IntKind.i64 (0:Int),R.int IntKind.i64 (0:Int),R.int IntKind.i64 (0:Int),R.int IntKind.i64 (0:Int),R.int IntKind.i64 (0:Int),R.int IntKind.i64 (0:Int),R.bool false,R.ints IntKind.u32 [],R.ints IntKind.u32 []] (8:Nat) [R.bool x,R.ints IntKind.u32 au,R.ints IntKind.u32 ax]) (Int.toNat (IntKind.wrap IntKind.i64 (Int.tmod v (8:Int)))) (R.int IntKind.i64 (1024:Int))] bL=true then if I.mX (I.nrm (List.map I.bs [List.set (setRow [R.int IntKind.i64 (0:Int),R.int IntKind.i64 (0:Int),R.int IntKind.i64 (0:Int),R.int IntKind.i64 (0:Int),R.int IntKind.i64 (0:Int),R.int IntKind.i64 (0:Int),R.int IntKind.i64 (0:Int),R.int IntKind.i64 (0:Int),R.bool false,R.ints IntKind.u32 [],R.ints IntKind.u32 []] (8:Nat) [R.bool x,R.ints IntKind.u32 au,R.ints IntKind.u32 ax]) (Int.toNat (IntKind.wrap IntKind.i64 (Int.tmod v (8:Int)))) (R.int IntKind.i64 (1024:Int))])) (I.nrm (List.map I.bs bL))=true then(9:Int)else(0:Int)else(2:Int))
 ->(decide (bb=(0:Int))=true->(decide (aY=(9:Int))=true->(decide (a7=(0:Int))=true->(decide (aW=(1024:Int))=true->(decide (b_=(2:Int))=true->(decide (br=(0:Int))=true
 ->((decide (dQ=(0:Int))== !decide (IntKind.wrap IntKind.i64 (Int.tmod v (8:Int))=IntKind.wrap IntKind.i64 (Int.tmod (IntKind.wrap IntKind.u8 (Int.tdiv v (8:Int))) (8:Int))))=true->(decide (IntKind.wrap IntKind.i64 (Int.tmod v (8:Int))=IntKind.wrap IntKind.i64 (Int.tmod (IntKind.wrap IntKind.u8 (Int.tdiv v (8:Int))) (8:Int)))=true
 ->True/\∀(x:Bool),x=true->K (J.d (R.bool x)))/\(decide (IntKind.wrap IntKind.i64 (Int.tmod v (8:Int))=IntKind.wrap IntKind.i64 (Int.tmod (IntKind.wrap IntKind.u8 (Int.tdiv v (8:Int))) (8:Int)))=false
 ->(decide ((Nat.cast:Nat->Int) (List.length bC)=(1:Int))=true->True/\∀(x:Bool),x=true->K (J.d (R.bool x)))/\(decide ((Nat.cast:Nat->Int) (List.length bC)=(1:Int))=false
 ->K (J.d (R.bool false)))))/\((decide (dQ=(0:Int))== !decide (IntKind.wrap IntKind.i64 (Int.tmod v (8:Int))=IntKind.wrap IntKind.i64 (Int.tmod (IntKind.wrap IntKind.u8 (Int.tdiv v (8:Int))) (8:Int))))=false
 ->K (J.d (R.bool false))))/\(decide (br=(0:Int))=false->K (J.d (R.bool false))))/\(decide (b_=(2:Int))=false->K (J.d (R.bool false))))/\(decide (aW=(1024:Int))=false
 ->K (J.d (R.bool false))))/\(decide (a7=(0:Int))=false->K (J.d (R.bool false))))/\(decide (aY=(9:Int))=false->K (J.d (R.bool false))))/\(decide (bb=(0:Int))=false->K (J.d (R.bool false)))
end I
end
section
open Go Go.bG
namespace I
def Jr:(J->Prop)->Prop:=
 fun(K:J->Prop)=>(0:Int)<=(2:Int)/\(2:Int)<=(3:Int)/\(3:Int)<=(36:Int)/\K (J.d (R.str (List.drop (2:Nat) (List.take (3:Nat) [(48:Int),(49:Int),(50:Int),(51:Int),(52:Int),(53:Int),(54:Int),(55:Int),(56:Int),(57:Int),(97:Int),(98:Int),(99:Int),(100:Int),(101:Int),(102:Int),(103:Int),(104:Int),(105:Int),(106:Int),(107:Int),(108:Int),(109:Int),(110:Int),(111:Int),(112:Int),(113:Int),(114:Int),(115:Int),(116:Int),(117:Int),(118:Int),(119:Int),(120:Int),(121:Int),(122:Int)]))))
def SS:(J->Prop)->Prop:=
 fun(K:J->Prop)=>(2:Int)=(2:Int)/\K (J.d (R.str [(50:Int)]))
def SO:(J->Prop)->Prop:=
 fun(K:J->Prop)=>((2:Int)=(2:Int)/\(10:Int)=(10:Int))/\K (J.d (R.str [(50:Int)]))
def Jp:(J->Prop)->Prop:=
 fun(K:J->Prop)=>(2:Int)=(2:Int)/\K (J.d (R.str [(50:Int)]))
def Ki:List Int->List Int->(J->Prop)->Prop:=
 fun(x s:List Int) (K:J->Prop)=>(0:Int)<=(0:Int)/\(0:Int)<(Nat.cast:Nat->Int) (List.length [[R.str x]])/\R.isStr (List.getD [R.str x] (0:Nat) R.undef)/\K (J.d (R.str x))
def JI:(J->Prop)->Prop:=
 fun(K:J->Prop)=>[I.f_,I.ga]=[I.f_,I.ga]/\[I.f_,I.ga]=[I.f_,I.ga]/\(0:Int)<=(0:Int)/\(0:Int)<(2:Int)/\(11:Nat)=(11:Nat)/\R.isBool (List.getD I.f_ (8:Nat) R.undef)
 /\R.eM (List.getD I.f_ (9:Nat) R.undef) IntKind.u32/\R.eM (List.getD I.f_ (10:Nat) R.undef) IntKind.u32/\([(1:Int)]=[(1:Int)]/\[(1:Int)]=[(1:Int)])/\R.isBool (List.getD I.f_ (8:Nat) R.undef)
 /\R.eM (List.getD I.f_ (9:Nat) R.undef) IntKind.u32/\R.eM (List.getD I.f_ (10:Nat) R.undef) IntKind.u32/\(11:Nat)=(11:Nat)/\(∀(x:R),x∈List.take (8:Nat) I.f_->R.isInt x IntKind.i64)
 /\(∀(x:R),x∈[R.int IntKind.i64 (0:Int),R.int IntKind.i64 (0:Int),R.int IntKind.i64 (0:Int),R.int IntKind.i64 (0:Int),R.int IntKind.i64 (0:Int),R.int IntKind.i64 (0:Int),R.int IntKind.i64 (0:Int),R.int IntKind.i64 (0:Int)]
 ->R.isInt x IntKind.i64)/\(decide (List.map R.toInt (List.take (8:Nat) I.f_)=List.map R.toInt [R.int IntKind.i64 (0:Int),R.int IntKind.i64 (0:Int),R.int IntKind.i64 (0:Int),R.int IntKind.i64 (0:Int),R.int IntKind.i64 (0:Int),R.int IntKind.i64 (0:Int),R.int IntKind.i64 (0:Int),R.int IntKind.i64 (0:Int)])=true
 ->(I.av (1000000:Nat) [(1:Int)]/\I.av (1000000:Nat) [(1:Int)])/\(16:Int)<=(70368744177664:Int)/\(11:Nat)=(11:Nat)/\(0:Int)<=(0:Int)/\(0:Int)<(8:Int)/\R.isInt (List.getD (List.take (8:Nat) I.f_) (0:Nat) R.undef) IntKind.i64
 /\(0:Int)<=(0:Int)/\(0:Int)<(2:Int)/\R.isStr (List.getD [R.str [(112:Int)]] (0:Nat) R.undef)/\R.toInt (List.getD (List.take (8:Nat) I.f_) (0:Nat) R.undef)=(2:Int)/\(2:Int)<=(9223372036854775807:Int)
 /\(3:Int)<=(9223372036854775807:Int)/\(32:Int)<=(70368744177664:Int)/\(0:Int)<=(1:Int)/\(1:Int)<(8:Int)/\R.isInt (List.getD (List.take (8:Nat) I.f_) (1:Nat) R.undef) IntKind.i64
 /\(0:Int)<=(2:Int)/\(2:Int)<(8:Int)/\R.isInt (List.getD (List.take (8:Nat) I.f_) (2:Nat) R.undef) IntKind.i64/\(0:Int)<=(3:Int)/\(3:Int)<(8:Int)/\R.isInt (List.getD (List.take (8:Nat) I.f_) (3:Nat) R.undef) IntKind.i64
 /\(0:Int)<=(4:Int)/\(4:Int)<(8:Int)/\R.isInt (List.getD (List.take (8:Nat) I.f_) (4:Nat) R.undef) IntKind.i64/\(0:Int)<=(5:Int)/\(5:Int)<(8:Int)/\R.isInt (List.getD (List.take (8:Nat) I.f_) (5:Nat) R.undef) IntKind.i64
 /\(0:Int)<=(6:Int)/\(6:Int)<(8:Int)/\R.isInt (List.getD (List.take (8:Nat) I.f_) (6:Nat) R.undef) IntKind.i64/\(0:Int)<=(7:Int)/\(7:Int)<(8:Int)/\R.isInt (List.getD (List.take (8:Nat) I.f_) (7:Nat) R.undef) IntKind.i64
 /\False)/\(decide (List.map R.toInt (List.take (8:Nat) I.f_)=List.map R.toInt [R.int IntKind.i64 (0:Int),R.int IntKind.i64 (0:Int),R.int IntKind.i64 (0:Int),R.int IntKind.i64 (0:Int),R.int IntKind.i64 (0:Int),R.int IntKind.i64 (0:Int),R.int IntKind.i64 (0:Int),R.int IntKind.i64 (0:Int)])=false
 ->(1:Int)=(1:Int)/\((false=false/\false=false)/\[(1:Int)]=[(1:Int)]/\[(1:Int)]=[(1:Int)]/\[(1:Int)]=[(1:Int)]/\[(1:Int)]=[(1:Int)])/\(11:Nat)=(11:Nat)/\(0:Int)<=(0:Int)
 /\(0:Int)<(8:Int)/\R.isInt (List.getD (List.take (8:Nat) I.f_) (0:Nat) R.undef) IntKind.i64/\(0:Int)<=(0:Int)/\(0:Int)<(2:Int)/\R.isStr (List.getD [R.str [(112:Int)]] (0:Nat) R.undef)
 /\R.toInt (List.getD (List.take (8:Nat) I.f_) (0:Nat) R.undef)=(2:Int)/\(2:Int)<=(9223372036854775807:Int)/\(3:Int)<=(9223372036854775807:Int)/\(16:Int)<=(70368744177664:Int)
 /\(0:Int)<=(1:Int)/\(1:Int)<(8:Int)/\R.isInt (List.getD (List.take (8:Nat) I.f_) (1:Nat) R.undef) IntKind.i64/\(0:Int)<=(2:Int)/\(2:Int)<(8:Int)/\R.isInt (List.getD (List.take (8:Nat) I.f_) (2:Nat) R.undef) IntKind.i64
 /\(0:Int)<=(3:Int)/\(3:Int)<(8:Int)/\R.isInt (List.getD (List.take (8:Nat) I.f_) (3:Nat) R.undef) IntKind.i64/\(0:Int)<=(4:Int)/\(4:Int)<(8:Int)/\R.isInt (List.getD (List.take (8:Nat) I.f_) (4:Nat) R.undef) IntKind.i64
 /\(0:Int)<=(5:Int)/\(5:Int)<(8:Int)/\R.isInt (List.getD (List.take (8:Nat) I.f_) (5:Nat) R.undef) IntKind.i64/\(0:Int)<=(6:Int)/\(6:Int)<(8:Int)/\R.isInt (List.getD (List.take (8:Nat) I.f_) (6:Nat) R.undef) IntKind.i64
 /\(0:Int)<=(7:Int)/\(7:Int)<(8:Int)/\R.isInt (List.getD (List.take (8:Nat) I.f_) (7:Nat) R.undef) IntKind.i64/\True/\(3:Nat)<=(1000000000:Nat)/\(0:Int)<=(1:Int)/\(1:Int)<(2:Int)
 /\(11:Nat)=(11:Nat)/\R.isBool (List.getD I.ga (8:Nat) R.undef)/\R.eM (List.getD I.ga (9:Nat) R.undef) IntKind.u32/\R.eM (List.getD I.ga (10:Nat) R.undef) IntKind.u32
 /\([(1:Int)]=[(1:Int)]/\[(1:Int)]=[(1:Int)])/\(6:Nat)<=(1000000000:Nat)/\R.isBool (List.getD I.ga (8:Nat) R.undef)/\R.eM (List.getD I.ga (9:Nat) R.undef) IntKind.u32
 /\R.eM (List.getD I.ga (10:Nat) R.undef) IntKind.u32/\(11:Nat)=(11:Nat)/\(∀(x:R),x∈List.take (8:Nat) I.ga->R.isInt x IntKind.i64)/\(∀(x:R),x∈[R.int IntKind.i64 (0:Int),R.int IntKind.i64 (0:Int),R.int IntKind.i64 (0:Int),R.int IntKind.i64 (0:Int),R.int IntKind.i64 (0:Int),R.int IntKind.i64 (0:Int),R.int IntKind.i64 (0:Int),R.int IntKind.i64 (0:Int)]
 ->R.isInt x IntKind.i64)/\(decide (List.map R.toInt (List.take (8:Nat) I.ga)=List.map R.toInt [R.int IntKind.i64 (0:Int),R.int IntKind.i64 (0:Int),R.int IntKind.i64 (0:Int),R.int IntKind.i64 (0:Int),R.int IntKind.i64 (0:Int),R.int IntKind.i64 (0:Int),R.int IntKind.i64 (0:Int),R.int IntKind.i64 (0:Int)])=true
 ->(I.av (1000000:Nat) [(1:Int)]/\I.av (1000000:Nat) [(1:Int)])/\(16:Int)<=(70368744177664:Int)/\(11:Nat)=(11:Nat)/\(0:Int)<=(0:Int)/\(0:Int)<(8:Int)/\R.isInt (List.getD (List.take (8:Nat) I.ga) (0:Nat) R.undef) IntKind.i64
 /\(0:Int)<=(1:Int)/\(1:Int)<(8:Int)/\R.isInt (List.getD (List.take (8:Nat) I.ga) (1:Nat) R.undef) IntKind.i64/\(0:Int)<=(1:Int)/\(1:Int)<(2:Int)/\R.isStr (List.getD [R.str [(113:Int)]] (0:Nat) R.undef)
 /\R.toInt (List.getD (List.take (8:Nat) I.ga) (1:Nat) R.undef)=(2:Int)/\(2:Int)<=(9223372036854775807:Int)/\(3:Int)<=(9223372036854775807:Int)/\(32:Int)<=(70368744177664:Int)
 /\(0:Int)<=(2:Int)/\(2:Int)<(8:Int)/\R.isInt (List.getD (List.take (8:Nat) I.ga) (2:Nat) R.undef) IntKind.i64/\(0:Int)<=(3:Int)/\(3:Int)<(8:Int)/\R.isInt (List.getD (List.take (8:Nat) I.ga) (3:Nat) R.undef) IntKind.i64
 /\(0:Int)<=(4:Int)/\(4:Int)<(8:Int)/\R.isInt (List.getD (List.take (8:Nat) I.ga) (4:Nat) R.undef) IntKind.i64/\(0:Int)<=(5:Int)/\(5:Int)<(8:Int)/\R.isInt (List.getD (List.take (8:Nat) I.ga) (5:Nat) R.undef) IntKind.i64
 /\(0:Int)<=(6:Int)/\(6:Int)<(8:Int)/\R.isInt (List.getD (List.take (8:Nat) I.ga) (6:Nat) R.undef) IntKind.i64/\(0:Int)<=(7:Int)/\(7:Int)<(8:Int)/\R.isInt (List.getD (List.take (8:Nat) I.ga) (7:Nat) R.undef) IntKind.i64
 /\False)/\(decide (List.map R.toInt (List.take (8:Nat) I.ga)=List.map R.toInt [R.int IntKind.i64 (0:Int),R.int IntKind.i64 (0:Int),R.int IntKind.i64 (0:Int),R.int IntKind.i64 (0:Int),R.int IntKind.i64 (0:Int),R.int IntKind.i64 (0:Int),R.int IntKind.i64 (0:Int),R.int IntKind.i64 (0:Int)])=false
 ->(1:Int)=(1:Int)/\((false=false/\false=false)/\[(1:Int)]=[(1:Int)]/\[(1:Int)]=[(1:Int)]/\[(1:Int)]=[(1:Int)]/\[(1:Int)]=[(1:Int)])/\(11:Nat)=(11:Nat)/\(0:Int)<=(0:Int)
 /\(0:Int)<(8:Int)/\R.isInt (List.getD (List.take (8:Nat) I.ga) (0:Nat) R.undef) IntKind.i64/\(0:Int)<=(1:Int)/\(1:Int)<(8:Int)/\R.isInt (List.getD (List.take (8:Nat) I.ga) (1:Nat) R.undef) IntKind.i64
 /\(0:Int)<=(1:Int)/\(1:Int)<(2:Int)/\R.isStr (List.getD [R.str [(113:Int)]] (0:Nat) R.undef)/\R.toInt (List.getD (List.take (8:Nat) I.ga) (1:Nat) R.undef)=(2:Int)/\(2:Int)<=(9223372036854775807:Int)
 /\(3:Int)<=(9223372036854775807:Int)/\(16:Int)<=(70368744177664:Int)/\(0:Int)<=(2:Int)/\(2:Int)<(8:Int)/\R.isInt (List.getD (List.take (8:Nat) I.ga) (2:Nat) R.undef) IntKind.i64
 /\(0:Int)<=(3:Int)/\(3:Int)<(8:Int)/\R.isInt (List.getD (List.take (8:Nat) I.ga) (3:Nat) R.undef) IntKind.i64/\(0:Int)<=(4:Int)/\(4:Int)<(8:Int)/\R.isInt (List.getD (List.take (8:Nat) I.ga) (4:Nat) R.undef) IntKind.i64
 /\(0:Int)<=(5:Int)/\(5:Int)<(8:Int)/\R.isInt (List.getD (List.take (8:Nat) I.ga) (5:Nat) R.undef) IntKind.i64/\(0:Int)<=(6:Int)/\(6:Int)<(8:Int)/\R.isInt (List.getD (List.take (8:Nat) I.ga) (6:Nat) R.undef) IntKind.i64
 /\(0:Int)<=(7:Int)/\(7:Int)<(8:Int)/\R.isInt (List.getD (List.take (8:Nat) I.ga) (7:Nat) R.undef) IntKind.i64/\True/\(9:Nat)<=(1000000000:Nat)/\¬HAppend.hAppend (HAppend.hAppend (HAppend.hAppend [] (HAppend.hAppend [(112:Int)] (HAppend.hAppend [(94:Int)] [(50:Int)]))) [(32:Int),(45:Int),(32:Int)]) (HAppend.hAppend [(113:Int)] (HAppend.hAppend [(94:Int)] [(50:Int)]))=[]
 /\K (J.tup [J.d (R.str (HAppend.hAppend (HAppend.hAppend (HAppend.hAppend [] (HAppend.hAppend [(112:Int)] (HAppend.hAppend [(94:Int)] [(50:Int)]))) [(32:Int),(45:Int),(32:Int)]) (HAppend.hAppend [(113:Int)] (HAppend.hAppend [(94:Int)] [(50:Int)])))),J.d (R.int IntKind.i64 (0:Int))])))
end I
end
section
open Go Go.bG
namespace I
def Ku:I.Rows->I.Rows->(J->Prop)->Prop:=
 fun(p q:I.Rows) (K:J->Prop)=>List.length p<(100000000000:Nat)/\∀(x:List (List R)),x=p->((Nat.cast:Nat->Int) (List.length x)+(Nat.cast:Nat->Int) (List.length q))*(120:Int)<=(70368744177664:Int)
 /\I.iY (HAppend.hAppend x q)/\∀(au:List (List R)),au=I.bP (I.nrm (List.map I.bs (HAppend.hAppend x q)))->K (J.d (R.rows (11:Nat) au))
def Kd:I.Rows->Int->(J->Prop)->Prop:=
 fun(p:I.Rows) (v:Int) (K:J->Prop)=>∃(aD:Int->Int->Prop),∃(m:Int->Int->Nat),aD (-1:Int) (0:Int)/\∀(v5 v10:Int),aD v5 v10->(decide (v10<(Nat.cast:Nat->Int) (List.length p))=true
 ->(0:Int)<=v10/\v10<(Nat.cast:Nat->Int) (List.length p)/\List.length (List.getD p (Int.toNat v10) [])=(11:Nat)/\(0:Int)<=v/\v<(8:Int)/\R.isInt (List.getD (List.getD p (Int.toNat v10) []) (Int.toNat v) R.undef) IntKind.i64
 /\aD (if v5<R.toInt (List.getD (List.getD p (Int.toNat v10) []) (Int.toNat v) R.undef)then R.toInt (List.getD (List.getD p (Int.toNat v10) []) (Int.toNat v) R.undef)else v5) (IntKind.wrap IntKind.i64 (v10+(1:Int)))
 /\m (if v5<R.toInt (List.getD (List.getD p (Int.toNat v10) []) (Int.toNat v) R.undef)then R.toInt (List.getD (List.getD p (Int.toNat v10) []) (Int.toNat v) R.undef)else v5) (IntKind.wrap IntKind.i64 (v10+(1:Int)))<m v5 v10)
 /\(decide (v10<(Nat.cast:Nat->Int) (List.length p))=false->K (J.d (R.int IntKind.i64 v5)))
def Kv:I.Rows->(J->Prop)->Prop:=
 fun(p:I.Rows) (K:J->Prop)=>∃(aD:Int->Int->Prop),∃(m:Int->Int->Nat),aD (0:Int) (0:Int)/\∀(v3 aV:Int),aD v3 aV->(decide (aV<(Nat.cast:Nat->Int) (List.length p))=true
 ->(0:Int)<=aV/\aV<(Nat.cast:Nat->Int) (List.length p)/\List.length (List.getD p (Int.toNat aV) [])=(11:Nat)/\List.length (List.getD p (Int.toNat aV) [])=(11:Nat)/\(∀(x:R),x∈List.take (8:Nat) (List.getD p (Int.toNat aV) [])
 ->R.isInt x IntKind.i64)/\((0:Nat)<List.length (List.map R.toInt (List.take (8:Nat) (List.getD p (Int.toNat aV) [])))/\List.length (List.map R.toInt (List.take (8:Nat) (List.getD p (Int.toNat aV) [])))<(1000000000:Nat))
 /\∀(x:Int),x=I.kU (List.getD (List.map R.toInt (List.take (8:Nat) (List.getD p (Int.toNat aV) []))) (0:Nat) (0:Int)) (List.drop (1:Nat) (List.map R.toInt (List.take (8:Nat) (List.getD p (Int.toNat aV) []))))
 ->aD (if v3<x then x else v3) (IntKind.wrap IntKind.i64 (aV+(1:Int)))/\m (if v3<x then x else v3) (IntKind.wrap IntKind.i64 (aV+(1:Int)))<m v3 aV)/\(decide (aV<(Nat.cast:Nat->Int) (List.length p))=false
 ->K (J.d (R.int IntKind.i64 v3)))
def JU:I.Rows->(J->Prop)->Prop:=
 fun(p:I.Rows) (K:J->Prop)=>∃(aD:Int->Prop),∃(m:Int->Nat),aD (0:Int)/\∀(v9:Int),aD v9->(decide (v9<(Nat.cast:Nat->Int) (List.length p))=true->(0:Int)<=v9/\v9<(Nat.cast:Nat
 ->Int) (List.length p)/\List.length (List.getD p (Int.toNat v9) [])=(11:Nat)/\List.length (List.getD p (Int.toNat v9) [])=(11:Nat)/\∃(fz:Int->Prop),∃(e_:Int->Nat),((false,ad.rows (11:Nat) [List.getD p (Int.toNat v9) []])=(false,ad.rows (11:Nat) [List.getD p (Int.toNat v9) []])
 /\fz (0:Int))/\∀(bI:Int),fz bI->(decide (bI<(8:Int))=true->(0:Int)<=bI/\bI<(8:Int)/\R.isInt (List.getD (List.take (8:Nat) (List.getD p (Int.toNat v9) [])) (Int.toNat bI) R.undef) IntKind.i64
 /\(decide (R.toInt (List.getD (List.take (8:Nat) (List.getD p (Int.toNat v9) [])) (Int.toNat bI) R.undef)<(0:Int))=true->K (J.d (R.bool false)))/\(decide (R.toInt (List.getD (List.take (8:Nat) (List.getD p (Int.toNat v9) [])) (Int.toNat bI) R.undef)<(0:Int))=false
 ->(decide ((1024:Int)<R.toInt (List.getD (List.take (8:Nat) (List.getD p (Int.toNat v9) [])) (Int.toNat bI) R.undef))=true->K (J.d (R.bool false)))/\(decide ((1024:Int)<R.toInt (List.getD (List.take (8:Nat) (List.getD p (Int.toNat v9) [])) (Int.toNat bI) R.undef))=false
 ->(false,ad.rows (11:Nat) [List.getD p (Int.toNat v9) []])=(false,ad.rows (11:Nat) [List.getD p (Int.toNat v9) []])/\fz (IntKind.wrap IntKind.i64 (bI+(1:Int)))/\e_ (IntKind.wrap IntKind.i64 (bI+(1:Int)))<e_ bI)))
 /\(decide (bI<(8:Int))=false->aD (IntKind.wrap IntKind.i64 (v9+(1:Int)))/\m (IntKind.wrap IntKind.i64 (v9+(1:Int)))<m v9))/\(decide (v9<(Nat.cast:Nat->Int) (List.length p))=false
 ->K (J.d (R.bool true)))
def Kh:I.Rows->Bool->List Int->List Int->(J->Prop)->Prop:=
 fun(p:I.Rows) (s:Bool) (a b:List Int) (K:J->Prop)=>List.length p<(100000000000:Nat)/\∀(x:List (List R)),x=p->∃(aD:Int->List (List R)->Prop),∃(m:Int->List (List R)
 ->Nat),((false,ad.cells [J.d (R.bool s),J.d (R.ints IntKind.u32 a),J.d (R.ints IntKind.u32 b)])=(false,ad.cells [J.d (R.bool s),J.d (R.ints IntKind.u32 a),J.d (R.ints IntKind.u32 b)])
 /\aD (0:Int) x)/\∀(v11:Int) (bn:List (List R)),aD v11 bn->(decide (v11<(Nat.cast:Nat->Int) (List.length x))=true->(0:Int)<=v11/\v11<(Nat.cast:Nat->Int) (List.length bn)/\R.isBool (List.getD (List.getD bn (Int.toNat v11) []) (8:Nat) R.undef)
 /\R.eM (List.getD (List.getD bn (Int.toNat v11) []) (9:Nat) R.undef) IntKind.u32/\R.eM (List.getD (List.getD bn (Int.toNat v11) []) (10:Nat) R.undef) IntKind.u32/\(I.av (1000000:Nat) (R.b6 (List.getD (List.getD bn (Int.toNat v11) []) (9:Nat) R.undef))
 /\I.av (1000000:Nat) (R.b6 (List.getD (List.getD bn (Int.toNat v11) []) (10:Nat) R.undef))/\I.av (1000000:Nat) a/\I.av (1000000:Nat) b)/\∀(x:Bool),x=I.bh (I.ag (R.toBool (List.getD (List.getD bn (Int.toNat v11) []) (8:Nat) R.undef)) (R.b6 (List.getD (List.getD bn (Int.toNat v11) []) (9:Nat) R.undef)) (R.b6 (List.getD (List.getD bn (Int.toNat v11) []) (10:Nat) R.undef))*I.ag s a b)
 ->∀(au:List Int),au=I.bm (I.ag (R.toBool (List.getD (List.getD bn (Int.toNat v11) []) (8:Nat) R.undef)) (R.b6 (List.getD (List.getD bn (Int.toNat v11) []) (9:Nat) R.undef)) (R.b6 (List.getD (List.getD bn (Int.toNat v11) []) (10:Nat) R.undef))*I.ag s a b)
 ->∀(ax:List Int),ax=I.bg (I.ag (R.toBool (List.getD (List.getD bn (Int.toNat v11) []) (8:Nat) R.undef)) (R.b6 (List.getD (List.getD bn (Int.toNat v11) []) (9:Nat) R.undef)) (R.b6 (List.getD (List.getD bn (Int.toNat v11) []) (10:Nat) R.undef))*I.ag s a b)
 ->(0:Int)<=v11/\v11<(Nat.cast:Nat->Int) (List.length bn)/\(false,ad.cells [J.d (R.bool s),J.d (R.ints IntKind.u32 a),J.d (R.ints IntKind.u32 b)])=(false,ad.cells [J.d (R.bool s),J.d (R.ints IntKind.u32 a),J.d (R.ints IntKind.u32 b)])
 /\aD (IntKind.wrap IntKind.i64 (v11+(1:Int))) (List.set bn (Int.toNat v11) (setRow (List.getD bn (Int.toNat v11) []) (8:Nat) [R.bool x,R.ints IntKind.u32 au,R.ints IntKind.u32 ax]))/\m (IntKind.wrap IntKind.i64 (v11+(1:Int))) (List.set bn (Int.toNat v11) (setRow (List.getD bn (Int.toNat v11) []) (8:Nat) [R.bool x,R.ints IntKind.u32 au,R.ints IntKind.u32 ax]))<m v11 bn)
 /\(decide (v11<(Nat.cast:Nat->Int) (List.length x))=false->I.iY bn/\∀(x:List (List R)),x=I.bP (I.nrm (List.map I.bs bn))->K (J.d (R.rows (11:Nat) x)))
def Kw:I.Rows->(J->Prop)->Prop:=
 fun(p:I.Rows) (K:J->Prop)=>I.i64 (-1:Int)/\∀(x:Bool),x=I.bh (IntCast.intCast (-1:Int))->∀(au:List Int),au=I.bm (IntCast.intCast (-1:Int))->∀(ax:List Int),ax=I.bg (IntCast.intCast (-1:Int))
 ->((∀(r:List R),r∈p->I.fp (1000000:Nat) r)/\∃(W:Nat),∃(j:Nat),I.eC p W/\I.av j au/\I.av j ax/\(1:Nat)<=j/\W+j*List.length p<=(50000:Nat))/\∀(aJ:List (List R)),aJ=I.bP (I.nrm (I.fT (I.ag x au ax) (List.map I.bs p)))
 ->K (J.d (R.rows (11:Nat) aJ))
def Kx:I.Rows->I.Rows->(J->Prop)->Prop:=
 fun(p q:I.Rows) (K:J->Prop)=>((∀(r:List R),r∈q->I.fp (1000000:Nat) r)/\∃(W:Nat),I.eC q W/\W+List.length q<=(50000:Nat))/\∀(x:List (List R)),x=I.bP (I.nrm (I.fT (-1:Rat) (List.map I.bs q)))
 ->I.iY (HAppend.hAppend p x)/\∀(au:List (List R)),au=I.bP (I.nrm (HAppend.hAppend (List.map I.bs p) (List.map I.bs x)))->K (J.d (R.rows (11:Nat) au))
def Ky:I.Rows->I.Rows->(J->Prop)->Prop:=
 fun(p q:I.Rows) (K:J->Prop)=>(0:Int)<=(0:Int)/\(0:Int)<=IntKind.wrap IntKind.i64 ((Nat.cast:Nat->Int) (List.length p)*(Nat.cast:Nat->Int) (List.length q))/\IntKind.wrap IntKind.i64 ((Nat.cast:Nat
 ->Int) (List.length p)*(Nat.cast:Nat->Int) (List.length q))*(120:Int)<=(281474976710656:Int)/\∃(aD:Int->List (List R)->Prop),∃(m:Int->List (List R)->Nat),aD (0:Int) (List.replicate (0:Nat) [R.int IntKind.i64 (0:Int),R.int IntKind.i64 (0:Int),R.int IntKind.i64 (0:Int),R.int IntKind.i64 (0:Int),R.int IntKind.i64 (0:Int),R.int IntKind.i64 (0:Int),R.int IntKind.i64 (0:Int),R.int IntKind.i64 (0:Int),R.bool false,R.ints IntKind.u32 [],R.ints IntKind.u32 []])
 /\∀(eF:Int) (ai:List (List R)),aD eF ai->(decide (eF<(Nat.cast:Nat->Int) (List.length p))=true->(0:Int)<=eF/\eF<(Nat.cast:Nat->Int) (List.length p)/\List.length (List.getD p (Int.toNat eF) [])=(11:Nat)
 /\∃(fz:Int->List (List R)->List (List R)->Prop),∃(e_:Int->List (List R)->List (List R)->Nat),fz (0:Int) ai [List.getD p (Int.toNat eF) []]/\∀(v24:Int) (bq bn:List (List R)),fz v24 bq bn
 ->(decide (v24<(Nat.cast:Nat->Int) (List.length q))=true->(0:Int)<=v24/\v24<(Nat.cast:Nat->Int) (List.length q)/\List.length (List.getD q (Int.toNat v24) [])=(11:Nat)/\List.length (List.getD bn (0:Nat) [])=(11:Nat)
 /\List.length (List.getD q (Int.toNat v24) [])=(11:Nat)/\(I.Dm (List.take (8:Nat) (List.getD bn (0:Nat) []))/\I.Dm (List.take (8:Nat) (List.getD q (Int.toNat v24) [])))/\R.isBool (List.getD (List.getD bn (0:Nat) []) (8:Nat) R.undef)
 /\R.eM (List.getD (List.getD bn (0:Nat) []) (9:Nat) R.undef) IntKind.u32/\R.eM (List.getD (List.getD bn (0:Nat) []) (10:Nat) R.undef) IntKind.u32/\R.isBool (List.getD (List.getD q (Int.toNat v24) []) (8:Nat) R.undef)
 /\R.eM (List.getD (List.getD q (Int.toNat v24) []) (9:Nat) R.undef) IntKind.u32/\R.eM (List.getD (List.getD q (Int.toNat v24) []) (10:Nat) R.undef) IntKind.u32/\(I.av (1000000:Nat) (R.b6 (List.getD (List.getD bn (0:Nat) []) (9:Nat) R.undef))
 /\I.av (1000000:Nat) (R.b6 (List.getD (List.getD bn (0:Nat) []) (10:Nat) R.undef))/\I.av (1000000:Nat) (R.b6 (List.getD (List.getD q (Int.toNat v24) []) (9:Nat) R.undef))/\I.av (1000000:Nat) (R.b6 (List.getD (List.getD q (Int.toNat v24) []) (10:Nat) R.undef)))
 /\∀(x:Bool),x=I.bh (I.ag (R.toBool (List.getD (List.getD bn (0:Nat) []) (8:Nat) R.undef)) (R.b6 (List.getD (List.getD bn (0:Nat) []) (9:Nat) R.undef)) (R.b6 (List.getD (List.getD bn (0:Nat) []) (10:Nat) R.undef))*I.ag (R.toBool (List.getD (List.getD q (Int.toNat v24) []) (8:Nat) R.undef)) (R.b6 (List.getD (List.getD q (Int.toNat v24) []) (9:Nat) R.undef)) (R.b6 (List.getD (List.getD q (Int.toNat v24) []) (10:Nat) R.undef)))
 ->∀(au:List Int),au=I.bm (I.ag (R.toBool (List.getD (List.getD bn (0:Nat) []) (8:Nat) R.undef)) (R.b6 (List.getD (List.getD bn (0:Nat) []) (9:Nat) R.undef)) (R.b6 (List.getD (List.getD bn (0:Nat) []) (10:Nat) R.undef))*I.ag (R.toBool (List.getD (List.getD q (Int.toNat v24) []) (8:Nat) R.undef)) (R.b6 (List.getD (List.getD q (Int.toNat v24) []) (9:Nat) R.undef)) (R.b6 (List.getD (List.getD q (Int.toNat v24) []) (10:Nat) R.undef)))
 ->∀(ax:List Int),ax=I.bg (I.ag (R.toBool (List.getD (List.getD bn (0:Nat) []) (8:Nat) R.undef)) (R.b6 (List.getD (List.getD bn (0:Nat) []) (9:Nat) R.undef)) (R.b6 (List.getD (List.getD bn (0:Nat) []) (10:Nat) R.undef))*I.ag (R.toBool (List.getD (List.getD q (Int.toNat v24) []) (8:Nat) R.undef)) (R.b6 (List.getD (List.getD q (Int.toNat v24) []) (9:Nat) R.undef)) (R.b6 (List.getD (List.getD q (Int.toNat v24) []) (10:Nat) R.undef)))
 ->((Nat.cast:Nat->Int) (List.length bq)+(Nat.cast:Nat->Int) (List.length [HAppend.hAppend (I.dG (I.fx (I.pD (List.take (8:Nat) (List.getD bn (0:Nat) []))) (I.pD (List.take (8:Nat) (List.getD q (Int.toNat v24) []))))) [R.bool x,R.ints IntKind.u32 au,R.ints IntKind.u32 ax]]))*(120:Int)<=(70368744177664:Int)
 /\fz (IntKind.wrap IntKind.i64 (v24+(1:Int))) (HAppend.hAppend bq [HAppend.hAppend (I.dG (I.fx (I.pD (List.take (8:Nat) (List.getD bn (0:Nat) []))) (I.pD (List.take (8:Nat) (List.getD q (Int.toNat v24) []))))) [R.bool x,R.ints IntKind.u32 au,R.ints IntKind.u32 ax]]) bn
 /\e_ (IntKind.wrap IntKind.i64 (v24+(1:Int))) (HAppend.hAppend bq [HAppend.hAppend (I.dG (I.fx (I.pD (List.take (8:Nat) (List.getD bn (0:Nat) []))) (I.pD (List.take (8:Nat) (List.getD q (Int.toNat v24) []))))) [R.bool x,R.ints IntKind.u32 au,R.ints IntKind.u32 ax]]) bn<e_ v24 bq bn)
 /\(decide (v24<(Nat.cast:Nat->Int) (List.length q))=false->aD (IntKind.wrap IntKind.i64 (eF+(1:Int))) bq/\m (IntKind.wrap IntKind.i64 (eF+(1:Int))) bq<m eF ai))/\(decide (eF<(Nat.cast:Nat
 ->Int) (List.length p))=false->I.iY ai/\∀(x:List (List R)),x=I.bP (I.nrm (List.map I.bs ai))->K (J.d (R.rows (11:Nat) x)))
def JA:I.Rows->(J->Prop)->Prop:=
 fun(p:I.Rows) (K:J->Prop)=>I.b5 p/\∀(x:Int),x=I.jg (0:Int) (List.map I.bs p)->(decide ((1024:Int)<x)=true->K (J.tup [J.d (R.rows (11:Nat) []),J.d (R.int IntKind.i64 (9:Int))]))
 /\(decide ((1024:Int)<x)=false->K (J.tup [J.d (R.rows (11:Nat) p),J.d (R.int IntKind.i64 (0:Int))]))
def JX:I.Rows->(J->Prop)->Prop:=
 fun(p:I.Rows) (K:J->Prop)=>I.b5 p/\∀(x:Bool),x=I.hI p->((!x)=true->K (J.tup [J.d (R.rows (11:Nat) []),J.d (R.int IntKind.i64 (2:Int))]))/\((!x)=false->I.iY p
 /\∀(x:List (List R)),x=I.bP (I.nrm (List.map I.bs p))->K (J.tup [J.d (R.rows (11:Nat) x),J.d (R.int IntKind.i64 (0:Int))]))
def J5:Int->(J->Prop)->Prop:=
 fun(v:Int) (K:J->Prop)=>(decide (v<(0:Int))=true->K (J.tup [J.d (R.rows (11:Nat) []),J.d (R.int IntKind.i64 (1:Int))]))/\(decide (v<(0:Int))=false->(decide ((8:Int)<=v)=true
 ->K (J.tup [J.d (R.rows (11:Nat) []),J.d (R.int IntKind.i64 (1:Int))]))/\(decide ((8:Int)<=v)=false->I.i64 (1:Int)/\∀(x:Bool),x=I.bh (IntCast.intCast (1:Int))->∀(au:List Int),au=I.bm (IntCast.intCast (1:Int))
 ->∀(ax:List Int),ax=I.bg (IntCast.intCast (1:Int))->(0:Int)<=v/\v<(8:Int)/\List.length (List.set (HAppend.hAppend [R.int IntKind.i64 (0:Int),R.int IntKind.i64 (0:Int),R.int IntKind.i64 (0:Int),R.int IntKind.i64 (0:Int),R.int IntKind.i64 (0:Int),R.int IntKind.i64 (0:Int),R.int IntKind.i64 (0:Int),R.int IntKind.i64 (0:Int)] [R.bool x,R.ints IntKind.u32 au,R.ints IntKind.u32 ax]) (Int.toNat v) (R.int IntKind.i64 (1:Int)))=(11:Nat)
 /\K (J.tup [J.d (R.rows (11:Nat) [List.set (HAppend.hAppend [R.int IntKind.i64 (0:Int),R.int IntKind.i64 (0:Int),R.int IntKind.i64 (0:Int),R.int IntKind.i64 (0:Int),R.int IntKind.i64 (0:Int),R.int IntKind.i64 (0:Int),R.int IntKind.i64 (0:Int),R.int IntKind.i64 (0:Int)] [R.bool x,R.ints IntKind.u32 au,R.ints IntKind.u32 ax]) (Int.toNat v) (R.int IntKind.i64 (1:Int))]),J.d (R.int IntKind.i64 (0:Int))])))
def Jv:I.Rows->I.Rows->(J->Prop)->Prop:=
 fun(p q:I.Rows) (K:J->Prop)=>I.b5 p/\∀(x:Bool),x=I.hI p->((!x)=true->K (J.tup [J.d (R.rows (11:Nat) []),J.d (R.int IntKind.i64 (2:Int))]))/\((!x)=false->I.b5 q
 /\∀(x:Bool),x=I.hI q->((!x)=true->K (J.tup [J.d (R.rows (11:Nat) []),J.d (R.int IntKind.i64 (2:Int))]))/\((!x)=false->I.iY p/\∀(x:List (List R)),x=I.bP (I.nrm (List.map I.bs p))
 ->I.iY q/\∀(au:List (List R)),au=I.bP (I.nrm (List.map I.bs q))->I.iY (HAppend.hAppend x au)/\∀(ax:List (List R)),ax=I.bP (I.nrm (HAppend.hAppend (List.map I.bs x) (List.map I.bs au)))
 ->I.b5 ax/\∀(x:List (List R)),(x=if(1024:Int)<I.jg (0:Int) (List.map I.bs ax)then[]else ax)->∀(aJ:Int),(aJ=if(1024:Int)<I.jg (0:Int) (List.map I.bs ax)then(9:Int)else(0:Int))
 ->K (J.tup [J.d (R.rows (11:Nat) x),J.d (R.int IntKind.i64 aJ)])))
def Jw:I.Rows->I.Rows->(J->Prop)->Prop:=
 fun(p q:I.Rows) (K:J->Prop)=>I.b5 p/\∀(x:Bool),x=I.hI p->((!x)=true->K (J.tup [J.d (R.rows (11:Nat) []),J.d (R.int IntKind.i64 (2:Int))]))/\((!x)=false->I.b5 q
 /\∀(x:Bool),x=I.hI q->((!x)=true->K (J.tup [J.d (R.rows (11:Nat) []),J.d (R.int IntKind.i64 (2:Int))]))/\((!x)=false->I.iY p/\∀(x:List (List R)),x=I.bP (I.nrm (List.map I.bs p))
 ->I.iY q/\∀(au:List (List R)),au=I.bP (I.nrm (List.map I.bs q))->((∀(r:List R),r∈x->I.fp (1000000:Nat) r)/\(∀(r:List R),r∈au->I.fp (1000000:Nat) r)/\∃(W:Nat),∃(V:Nat),I.eC x W
 /\I.eC au V/\W+V+List.length au<=(50000:Nat))/\∀(ax:List (List R)),ax=I.bP (I.nrm (HAppend.hAppend (List.map I.bs x) (I.fT (-1:Rat) (List.map I.bs au))))->I.b5 ax
 /\∀(x:List (List R)),(x=if(1024:Int)<I.jg (0:Int) (List.map I.bs ax)then[]else ax)->∀(aJ:Int),(aJ=if(1024:Int)<I.jg (0:Int) (List.map I.bs ax)then(9:Int)else(0:Int))
 ->K (J.tup [J.d (R.rows (11:Nat) x),J.d (R.int IntKind.i64 aJ)])))
def J6:I.Rows->I.Rows->(J->Prop)->Prop:=
 fun(p q:I.Rows) (K:J->Prop)=>I.qk p q/\∀(x:List (List R)),x=I.bP (if I.ew p q=true then I.nrm (HAppend.hAppend (List.map I.bs p) (List.map I.bs q))else[])->∀(au:Int),(au=if I.ew p q=true then(0:Int)else(2:Int))
 ->K (J.tup [J.d (R.rows (11:Nat) x),J.d (R.int IntKind.i64 au)])
def J7:I.Rows->I.Rows->(J->Prop)->Prop:=
 fun(p q:I.Rows) (K:J->Prop)=>I.qk p q/\∀(x:List (List R)),x=I.bP (if I.ew p q=true then I.nrm (HAppend.hAppend (List.map I.bs p) (I.fT (-1:Rat) (List.map I.bs q)))else[])
 ->∀(au:Int),(au=if I.ew p q=true then(0:Int)else(2:Int))->K (J.tup [J.d (R.rows (11:Nat) x),J.d (R.int IntKind.i64 au)])
def JB:I.Rows->Int->I.Rows->(J->Prop)->Prop:=
 fun(p:I.Rows) (n:Int) (q:I.Rows) (K:J->Prop)=>∃(aD:Int->Prop),∃(m:Int->Nat),aD (0:Int)/\∀(aV:Int),aD aV->(decide (aV<(8:Int))=true->(I.b5 p/\(0:Int)<=aV/\aV<(8:Int))
 /\∀(x:Int),x=I.lU (List.map I.bs p) (Int.toNat aV)->(I.b5 q/\(0:Int)<=aV/\aV<(8:Int))/\∀(au:Int),au=I.lU (List.map I.bs q) (Int.toNat aV)->(decide ((1024:Int)<IntKind.wrap IntKind.i64 (IntKind.wrap IntKind.i64 (n*if x<(0:Int)then(0:Int)else x)+if au<(0:Int)then(0:Int)else au))=true
 ->K (J.d (R.bool true)))/\(decide ((1024:Int)<IntKind.wrap IntKind.i64 (IntKind.wrap IntKind.i64 (n*if x<(0:Int)then(0:Int)else x)+if au<(0:Int)then(0:Int)else au))=false
 ->aD (IntKind.wrap IntKind.i64 (aV+(1:Int)))/\m (IntKind.wrap IntKind.i64 (aV+(1:Int)))<m aV))/\(decide (aV<(8:Int))=false->K (J.d (R.bool false)))
def J8:I.Rows->I.Rows->(J->Prop)->Prop:=
 fun(p q:I.Rows) (K:J->Prop)=>I.b5 p/\∀(x:Bool),x=I.hI p->((!x)=true->K (J.tup [J.d (R.rows (11:Nat) []),J.d (R.int IntKind.i64 (2:Int))]))/\((!x)=false->I.b5 q
 /\∀(x:Bool),x=I.hI q->((!x)=true->K (J.tup [J.d (R.rows (11:Nat) []),J.d (R.int IntKind.i64 (2:Int))]))/\((!x)=false->I.iY p/\∀(x:List (List R)),x=I.bP (I.nrm (List.map I.bs p))
 ->I.iY q/\∀(au:List (List R)),au=I.bP (I.nrm (List.map I.bs q))->(decide ((0:Int)<(Nat.cast:Nat->Int) (List.length x))=true->(decide ((0:Int)<(Nat.cast:Nat->Int) (List.length au))=true
 ->((I.b5 x/\I.b5 au)/\(I.vp x/\I.vp au)/\(0:Int)<=(1:Int)/\(1:Int)<=(1000:Int))/\∀(ax:Bool),ax=I.hi (1:Int) (List.map I.bs x) (List.map I.bs au)->(ax=true
 ->K (J.tup [J.d (R.rows (11:Nat) []),J.d (R.int IntKind.i64 (9:Int))]))/\(ax=false->I.ya x au/\∀(aJ:List (List R)),aJ=I.bP (I.nrm (I.eR (List.map I.bs x) (List.map I.bs au)))
 ->K (J.tup [J.d (R.rows (11:Nat) aJ),J.d (R.int IntKind.i64 (0:Int))])))/\(decide ((0:Int)<(Nat.cast:Nat->Int) (List.length au))=false->I.ya x au/\∀(ax:List (List R)),ax=I.bP (I.nrm (I.eR (List.map I.bs x) (List.map I.bs au)))
 ->K (J.tup [J.d (R.rows (11:Nat) ax),J.d (R.int IntKind.i64 (0:Int))])))/\(decide ((0:Int)<(Nat.cast:Nat->Int) (List.length x))=false->I.ya x au/\∀(ax:List (List R)),ax=I.bP (I.nrm (I.eR (List.map I.bs x) (List.map I.bs au)))
 ->K (J.tup [J.d (R.rows (11:Nat) ax),J.d (R.int IntKind.i64 (0:Int))]))))
def Js:I.Rows->Int->(J->Prop)->Prop:=
 fun(p:I.Rows) (v:Int) (K:J->Prop)=>I.b5 p/\∀(x:Bool),x=I.hI p->((!x)=true->K (J.tup [J.d (R.rows (11:Nat) []),J.d (R.int IntKind.i64 (2:Int))]))/\((!x)=false->(decide (v<(0:Int))=true
 ->K (J.tup [J.d (R.rows (11:Nat) []),J.d (R.int IntKind.i64 (1:Int))]))/\(decide (v<(0:Int))=false->(decide ((8:Int)<=v)=true->K (J.tup [J.d (R.rows (11:Nat) []),J.d (R.int IntKind.i64 (1:Int))]))
 /\(decide ((8:Int)<=v)=false->I.iY p/\∀(x:List (List R)),x=I.bP (I.nrm (List.map I.bs p))->K (J.tup [J.d (R.rows (11:Nat) x),J.d (R.int IntKind.i64 (0:Int))]))))
def JH:I.Rows->Int->(J->Prop)->Prop:=
 fun(p:I.Rows) (v:Int) (K:J->Prop)=>(I.b5 p/\I.eC p (50000:Nat))/\∀(x:List (List R)),x=I.bP (if I.gQ p v=(0:Int)then I.nrm (List.map I.bs p)else[])->∀(au:Int),au=I.gQ p v
 ->((!decide (au=(0:Int)))=true->K (J.tup [J.d (R.int IntKind.i64 (0:Int)),J.d (R.int IntKind.i64 au)]))/\((!decide (au=(0:Int)))=false->(I.b5 x/\(0:Int)<=v/\v<(8:Int))
 /\∀(ax:Int),ax=I.lU (List.map I.bs x) (Int.toNat v)->K (J.tup [J.d (R.int IntKind.i64 ax),J.d (R.int IntKind.i64 (0:Int))]))
end I
end
section
open Go Go.bG
namespace I
theorem lN.mono {k j:Nat} {r:Row} (h:lN k r) (ab:k<=j):lN j r:=by
 obtain⟨m,s,a,b,rfl,hm,U,aa⟩:=h
 exact⟨m,s,a,b,rfl,hm,U.mono ab,aa.mono ab⟩
theorem lN.row {k:Nat} {r:Row} (h:lN k r):dZ r:=by
 obtain⟨m,s,a,b,rfl,hm,_⟩:=h
 match m,hm with
 |[pK,gD,ha,jE,lT,j4,pJ,ud],_=>exact⟨pK,gD,ha,jE,lT,j4,pJ,ud,s,a,b,rfl⟩
theorem lN.len {k:Nat} {r:Row} (h:lN k r):(bs r).1.length=8:=by
 obtain⟨m,s,a,b,rfl,hm,_⟩:=h
 rw[lx hm];exact hm
theorem lN.RS {k:Nat} {r:Row} (h:lN k r) (hm:j6 (bs r).1):fp k r:=by
 obtain⟨m,s,a,b,rfl,dI,U,aa⟩:=h
 rw[lx dI]at hm
 exact⟨m,s,a,b,rfl,dI,hm.2,U,aa⟩
theorem fp.nR {k:Nat} {r:Row} (h:fp k r):j6 (bs r).1:=by
 obtain⟨m,s,a,b,rfl,dI,aE,U,aa⟩:=h
 show j6 (bs (d_ m s a b)).1
 rw[lx dI];exact⟨dI,aE⟩
theorem eC.mono {W V:Nat}:∀{l:Rows},eC l W->W<=V->eC l V
 |[],_,_=>trivial
 |r::l,⟨k,gf,U,aa,al,aL⟩,h=>⟨k,gf,U,aa,by omega,aL⟩
theorem eC.app {V:Nat} {q:Rows} (aN:eC q V):∀{p:Rows} {W:Nat},eC p W->eC (p++q) (W+V)
 |[],W,_=>aN.mono (by omega)
 |r::p,W,⟨k,gf,U,aa,al,aL⟩=>⟨k,gf+V,U,aa,by omega,aN.app aL⟩
theorem eC.each:∀{l:Rows} {W:Nat},eC l W->∀r∈l,lN W r
 |[],_,_,r,ak=>by cases ak
 |x::l,W,⟨k,gf,U,aa,al,aL⟩,r,ak=>by
  rcases List.mem_cons.1 ak with rfl|ak
  ·exact U.mono (by omega)
  ·exact(aL.each r ak).mono (by omega)
theorem eC.len:∀{l:Rows} {W:Nat},eC l W->2*l.length<=W
 |[],_,_=>Nat.zero_le _
 |x::l,W,⟨k,gf,U,aa,al,aL⟩=>by have:=aL.len;rw[List.length_cons];omega
theorem eC.h_:∀{l:Rows} {W:Nat},eC l W->h_ l<=2*W
 |[],_,_=>Nat.zero_le _
 |x::l,W,⟨k,gf,U,aa,al,aL⟩=>by
  have:=aL.h_
  obtain⟨m,s,a,b,rfl,hm,aC,ae⟩:=U
  have e:=Ce (s:=s) (a:=a) (b:=b) hm
  have:=aC.2;have:=ae.2
  rw[I.h_,e];omega
theorem eC.Hb {l:Rows} {W:Nat} (h:eC l W) (hm:∀r∈l,j6 (bs r).1) (dP:W<=50000):iY l:=
 ⟨fun r ak=>((h.each r ak).mono (by omega)).RS (hm r ak),by have:=h.h_;omega,by have:=h.len;omega⟩
theorem dc.mono {W V:Nat}:∀{p:List bu},dc p W->W<=V->dc p V
 |[],_,_=>trivial
 |t::p,⟨k,gf,U,aa,al,aL⟩,h=>⟨k,gf,U,aa,by omega,aL⟩
theorem dc.app {V:Nat} {q:List bu} (aN:dc q V):∀{p:List bu} {W:Nat},dc p W->dc (p++q) (W+V)
 |[],W,_=>aN.mono (by omega)
 |t::p,W,⟨k,gf,U,aa,al,aL⟩=>⟨k,gf+V,U,aa,by omega,aN.app aL⟩
theorem dc.len:∀{p:List bu} {W:Nat},dc p W->2*p.length<=W
 |[],_,_=>Nat.zero_le _
 |x::l,W,⟨k,gf,U,aa,al,aL⟩=>by have:=aL.len;rw[List.length_cons];omega
theorem dc.each:∀{p:List bu} {W:Nat},dc p W->∀t∈p,cv W t.2
 |[],_,_,t,aA=>by cases aA
 |x::p,W,⟨k,gf,U,aa,al,aL⟩,t,aA=>by
  rcases List.mem_cons.1 aA with rfl|aA
  ·exact U.mono (by omega)
  ·exact(aL.each t aA).mono (by omega)
theorem eC.iQ:∀{l:Rows} {W:Nat},eC l W->dc (l.map bs) W
 |[],_,_=>trivial
 |x::l,W,⟨k,gf,U,aa,al,aL⟩=>by
  obtain⟨m,s,a,b,rfl,hm,aC,ae⟩:=U
  refine⟨k,gf, ?_,aa,al,aL.iQ⟩
  rw[lx hm];exact cv.of aC ae
theorem dc.rw:∀{p:List bu} {W:Nat},dc p W->(∀t∈p,t.1.length=8)->eC (bP p) W
 |[],_,_,_=>trivial
 |t::p,W,⟨k,gf,U,aa,al,aL⟩,h=>⟨k,gf,⟨_,_,_,_,rfl,h t (by simp),U.num,U.den⟩,aa,al,aL.rw fun u hu=>h u (by simp[hu])⟩
theorem dc.ins {t:bu} {k:Nat} (aA:cv k t.2) (ab:1<=k):∀{p:List bu} {V:Nat},dc p V->dc (ins t p) (k+1+V)
 |[],V,_=>by
  unfold I.ins
  split
  ·trivial
  ·exact⟨k,0,aA,ab,by omega,trivial⟩
 |u::p,V,⟨j,gf,U,aa,al,aL⟩=>by
  unfold I.ins
  split
  ·split
   ·exact aL.mono (by omega)
   ·exact⟨j+k+1,gf,U.add aA,by omega,by omega,aL⟩
  ·split
   ·split
    ·exact⟨j,gf,U,aa,by omega,aL⟩
    ·exact⟨k,V,aA,ab,by omega,j,gf,U,aa,al,aL⟩
   ·exact⟨j,k+1+gf,U,aa,by omega,dc.ins aA ab aL⟩
theorem dc.nrm:∀{p:List bu} {W:Nat},dc p W->dc (nrm p) W
 |[],_,_=>trivial
 |t::p,W,⟨k,gf,U,aa,al,aL⟩=>(dc.ins U aa aL.nrm).mono al
theorem dc.scale {j:Nat} {c:Rat} (ay:cv j c):∀{p:List bu} {W:Nat},dc p W->dc (fT c p) (W+j*p.length)
 |[],_,_=>trivial
 |t::p,W,⟨k,gf,U,aa,al,aL⟩=>by
  refine⟨k+j,gf+j*p.length,U.mul ay (by omega),by omega, ?_,dc.scale ay aL⟩
  rw[List.length_cons,Nat.mul_add,Nat.mul_one];omega
theorem dc.jt {k:Nat} {s:bu} (ao:cv k s.2):∀{q:List bu} {V:Nat},dc q V->dc (jt s q) (V+k*q.length)
 |[],_,_=>trivial
 |t::q,V,⟨j,gf,U,aa,al,aL⟩=>by
  refine⟨k+j,gf+k*q.length,ao.mul U (by omega),by omega, ?_,dc.jt ao aL⟩
  rw[List.length_cons,Nat.mul_add,Nat.mul_one];omega
theorem dc.mul {q:List bu} {V:Nat} (aN:dc q V):∀{p:List bu} {W:Nat},dc p W->dc (eR p q) (W*q.length+V*p.length)
 |[],_,_=>trivial
 |s::p,W,⟨k,gf,U,aa,al,aL⟩=>by
  refine((dc.mul aN aL).app (dc.jt U aN)).mono ?_
  rw[List.length_cons,Nat.mul_add,Nat.mul_one]
  have:(k+1+gf)*q.length<=W*q.length:=Nat.mul_le_mul_right _ al
  have e:(k+1+gf)*q.length=k*q.length+q.length+gf*q.length:=by rw[Nat.add_mul,Nat.add_mul,Nat.one_mul]
  omega
theorem dA.mono {e f:Int} {p:List bu} (h:dA e p) (aQ:e<=f):dA f p:=fun t aA=>⟨(h t aA).1,fun x af=>⟨((h t aA).2 x af).1,Int.le_trans ((h t aA).2 x af).2 aQ⟩⟩
theorem dA.nR {e:Int} {p:List bu} (h:dA e p) (he:e<=4000000000000000000):∀t∈p,j6 t.1:=fun t aA=>⟨(h t aA).1,fun x af=>by have:=(h t aA).2 x af;omega⟩
theorem dA.len {e:Int} {p:List bu} (h:dA e p):∀t∈p,t.1.length=8:=fun t aA=>(h t aA).1
theorem dA.app {e:Int} {p q:List bu} (h:dA e p) (g:dA e q):dA e (p++q):=fun t aA=>by
 rcases List.mem_append.1 aA with aA|aA
 ·exact h t aA
 ·exact g t aA
theorem dA.sub {e:Int} {p q:List bu} (h:dA e p) (aN:∀t∈q,∃u∈p,u.1=t.1):dA e q:=fun t aA=>by
 obtain⟨u,hu,e⟩:=aN t aA
 rw[<-e];exact h u hu
theorem F6:∀{p:List bu} {t:bu},t∈nrm p->∃u∈p,u.1=t.1
 |[],t,h=>by cases h
 |x::p,t,h=>by
  rcases Gd h with h|⟨v,aM,e⟩
  ·exact⟨x,by simp,h.symm⟩
  ·obtain⟨u,hu,az⟩:=F6 aM
   exact⟨u,by simp[hu],by rw[az,e]⟩
theorem dA.nrm {e:Int} {p:List bu} (h:dA e p):dA e (nrm p):=h.sub fun _=>F6
theorem dA.scale {e:Int} {p:List bu} (h:dA e p) (c:Rat):dA e (fT c p):=h.sub fun t aA=>by
 obtain⟨u,hu,rfl⟩:=List.mem_map.1 aA
 exact⟨u,hu,rfl⟩
theorem N_:∀{a b:List Int} {x:Int},x∈fx a b->∃y∈a,∃z∈b,x=y+z
 |a::p,b::q,x,h=>by
  rcases List.mem_cons.1 h with rfl|h
  ·exact⟨a,by simp,b,by simp,rfl⟩
  ·obtain⟨y,a6,z,bc,e⟩:=N_ h
   exact⟨y,by simp[a6],z,by simp[bc],e⟩
 |[],_,x,h=>by simp[fx]at h
 |_::_,[],x,h=>by simp[fx]at h
theorem Oa:∀{p q:List bu} {t:bu},t∈eR p q->∃u∈p,∃v∈q,t=(fx u.1 v.1,u.2*v.2)
 |[],_,t,h=>by cases h
 |s::p,q,t,h=>by
  rcases List.mem_append.1 h with h|h
  ·obtain⟨v,aM,rfl⟩:=List.mem_map.1 h
   exact⟨s,by simp,v,aM,rfl⟩
  ·obtain⟨u,hu,v,aM,e⟩:=Oa h
   exact⟨u,by simp[hu],v,aM,e⟩
theorem dA.mul {e f:Int} {p q:List bu} (h:dA e p) (g:dA f q):dA (e+f) (eR p q):=fun t aA=>by
 obtain⟨u,hu,v,aM,rfl⟩:=Oa aA
 refine⟨by rw[Fz _ _ (by rw[(h u hu).1,(g v aM).1])];exact(h u hu).1,fun x af=> ?_⟩
 obtain⟨y,a6,z,bc,rfl⟩:=N_ af
 have:=(h u hu).2 y a6
 have:=(g v aM).2 z bc
 omega
theorem b5.rows {l:Rows} (h:b5 l):cQ l:=h.1
theorem mH {l:Rows} (h:hI l=true) (ak:cQ l):dA 1024 (l.map bs):=fun t aA=>by
 obtain⟨r,hm,rfl⟩:=List.mem_map.1 aA
 have U:=List.all_eq_true.1 h r hm
 unfold y2 at U
 refine⟨by simp[bs,dY,(ak r hm).len],fun x af=> ?_⟩
 have:=List.all_eq_true.1 U x af
 simpa using this
theorem uN {p:List bu} {W:Nat} (h:dc p W) (he:∀t∈p,t.1.length=8) (dP:W<1000000000):b5 (bP p):=
 ⟨fun r ak=>((h.rw he).each r ak).row,by have:=h.len;rw[iT];omega⟩
theorem F7 {p:List bu} (h:∀t∈p,j6 t.1):∀r∈bP p,j6 (bs r).1:=fun r ak=>by
 obtain⟨t,aA,rfl⟩:=List.mem_map.1 ak
 rw[BA (h t aA).1];exact h t aA
theorem wX {p:List bu} {W:Nat} (h:dc p W) (he:∀t∈p,j6 t.1) (dP:W<=50000):iY (bP p):=
 (h.rw fun t aA=>(he t aA).1).Hb (F7 he) dP
theorem FB {p:List bu} {W:Nat} (h:dc p W) (he:∀t∈p,j6 t.1) (dP:W<=1000000):∀r∈bP p,fp 1000000 r:=fun r ak=>
 (((h.rw fun t aA=>(he t aA).1).each r ak).mono dP).RS (F7 he r ak)
theorem Vg (p q:List bu):bP p++bP q=bP (p++q):=(uM p q).symm
theorem ri {l:Rows} {W:Nat} (h:hI l=true) (aQ:b5 l) (hw:eC l W) (dP:W<=50000):iY l:=
 hw.Hb (fun r ak=>(mH h aQ.1).nR (by decide) _ (List.mem_map_of_mem ak)) dP
theorem Pw (t:bu):∀p:List bu,(ins t p).length<=p.length+1
 |[]=>by unfold I.ins;split<;>simp
 |u::p=>by
  have bA:=Pw t p
  unfold I.ins
  split
  ·split
   ·rw[List.length_cons];omega
   ·rw[List.length_cons,List.length_cons];omega
  ·split
   ·split
    ·omega
    ·rw[List.length_cons];omega
   ·rw[List.length_cons,List.length_cons];omega
theorem xi:∀p:List bu,(nrm p).length<=p.length
 |[]=>Nat.le_refl _
 |t::p=>by
  have:=Pw t (nrm p)
  have:=xi p
  rw[nrm,List.length_cons];omega
theorem Xo (p q:List bu):nrm (nrm p++nrm q)=nrm (p++q):=sH fun m=>by rw[sN,sN,n0,n0]
theorem Ve (p q:List bu):nrm (p++nrm q)=nrm (p++q):=sH fun m=>by rw[sN,sN,n0]
theorem Xp (p q:List bu):nrm (eR (nrm p) (nrm q))=nrm (eR p q):=sH (Uu (n0 p) (n0 q))
end I
end
section
open Go Go.bG
namespace I
theorem u_:du.length=8:=rfl
theorem PV (s:Bool) (a b:List Int):([R.int IntKind.i64 (0:Int),R.int IntKind.i64 (0:Int),R.int IntKind.i64 (0:Int),R.int IntKind.i64 (0:Int),R.int IntKind.i64 (0:Int),R.int IntKind.i64 (0:Int),R.int IntKind.i64 (0:Int),R.int IntKind.i64 (0:Int)]++[R.bool s,R.ints IntKind.u32 a,R.ints IntKind.u32 b]:Row)=d_ du s a b:=rfl
theorem adu (p q:Rows) (K:J->Prop) (h:CP.T [.d (.rows 11 p), .d (.rows 11 q)] K):Ku p q K:=by
 obtain⟨ao,ab⟩:=h
 unfold Ku
 have aq:=ao.2.2
 rw[List.length_append]at aq
 refine⟨by omega, ?_⟩
 rintro _ rfl
 refine⟨by omega,ao, ?_⟩
 rintro _ rfl
 rw[List.map_append];exact ab
theorem Pk (v:Nat):∀(p:List bu) (d:Int) (t:bu),oy v d (p++[t])=(if t.1.getD v 0>oy v d p then t.1.getD v 0 else oy v d p)
 |[],d,t=>rfl
 |u::p,d,t=>by rw[List.cons_append,oy,Pk v p,oy]
theorem Pl:∀(p:List bu) (d:Int) (t:bu),jg d (p++[t])=(if kU (t.1.getD 0 0) (t.1.drop 1)>jg d p then kU (t.1.getD 0 0) (t.1.drop 1)else jg d p)
 |[],d,t=>rfl
 |u::p,d,t=>by rw[List.cons_append,jg,Pl p,jg]
theorem dZ.at {r:Row} (h:dZ r) {v:Nat} (aM:v<8):r.getD v .undef= .int .i64 ((dY r).getD v 0):=by
 obtain⟨pK,gD,ha,jE,lT,j4,pJ,ud,s,a,b,rfl⟩:=h
 match v,aM with
 |0,_=>rfl
 |1,_=>rfl
 |2,_=>rfl
 |3,_=>rfl
 |4,_=>rfl
 |5,_=>rfl
 |6,_=>rfl
 |7,_=>rfl
theorem ac1 (p:Rows) (v:Int) (K:J->Prop) (h:CT.T [.d (.rows 11 p), .d (.int .i64 v)] K):Kd p v K:=by
 obtain⟨⟨⟨bj,aq⟩,iJ,mY⟩,ab⟩:=h
 unfold Kd
 refine⟨fun d w=>∃i:Nat,w=i/\i<=p.length/\d=oy v.toNat (-1) ((p.take i).map bs),fun _ w=>p.length-w.toNat,⟨0,rfl,by omega,rfl⟩, ?_⟩
 rintro _ _ ⟨i,rfl,U,rfl⟩
 simp only[decide_eq_true_iff,decide_eq_false_iff_not,Int.toNat_natCast]
 refine⟨fun aL=> ?_,fun aL=> ?_⟩
 ·have hi:i<p.length:=by omega
  have ak:=bj.get hi
  rw[ak.at (by omega)]
  refine⟨by omega,aL,ak.len,iJ,mY,rfl,⟨i+1,gu (by omega) (by omega),by omega, ?_⟩,by rw[gu (by omega) (by omega)];omega⟩
  rw[oQ hi,List.map_append]
  exact(Pk v.toNat ((p.take i).map bs) (-1) (bs (p.getD i []))).symm
 ·have:i=p.length:=by omega
  rw[this,List.take_length];exact ab
theorem adv (p:Rows) (K:J->Prop) (h:CU.T [.d (.rows 11 p)] K):Kv p K:=by
 obtain⟨⟨bj,aq⟩,ab⟩:=h
 unfold Kv
 refine⟨fun d w=>∃i:Nat,w=i/\i<=p.length/\d=jg 0 ((p.take i).map bs),fun _ w=>p.length-w.toNat,⟨0,rfl,by omega,rfl⟩, ?_⟩
 rintro _ _ ⟨i,rfl,U,rfl⟩
 simp only[decide_eq_true_iff,decide_eq_false_iff_not,Int.toNat_natCast]
 refine⟨fun aL=> ?_,fun aL=> ?_⟩
 ·have hi:i<p.length:=by omega
  have ak:=bj.get hi
  have aa8:(List.map R.toInt (List.take 8 (p.getD i []))).length=8:=by rw[List.length_map,List.length_take,ak.len];rfl
  refine⟨by omega,aL,ak.len,ak.len,ak.tP,⟨by omega,by omega⟩, ?_⟩
  rintro _ rfl
  refine⟨⟨i+1,gu (by omega) (by omega),by omega, ?_⟩,by rw[gu (by omega) (by omega)];omega⟩
  rw[oQ hi,List.map_append]
  exact(Pl ((p.take i).map bs) 0 (bs (p.getD i []))).symm
 ·have:i=p.length:=by omega
  rw[this,List.take_length];exact ab
theorem Ur (c:Rat) (p q:List bu):fT c (p++q)=fT c p++fT c q:=List.map_append
theorem ac_ (p:Rows) (s:Bool) (a b:List Int) (K:J->Prop) (h:BB.T [.d (.rows 11 p), .agg [.d (.bool s), .d (.ints .u32 a), .d (.ints .u32 b)]] K):Kh p s a b K:=by
 obtain⟨⟨bj,W,j,dP,aC,ae,aK,hle⟩,ab⟩:=h
 unfold Kh
 have hlen:=dP.len
 have ay:cv j (ag s a b):=cv.of aC ae
 have ZZ:j*p.length<=50000:=by omega
 have jT:p.length≠0->j<=50000:=fun h=>Nat.le_trans (Nat.le_mul_of_pos_right j (Nat.pos_of_ne_zero h)) ZZ
 refine⟨by omega,fun x af=> ?_⟩
 have af:=af.symm
 subst af
 refine⟨fun v o=>∃i:Nat,v=i/\i<=p.length/\o=bP (fT (ag s a b) ((p.take i).map bs))++p.drop i,fun v _=>p.length-v.toNat,⟨rfl,0,rfl,by omega,rfl⟩, ?_⟩
 rintro _ _ ⟨i,rfl,U,rfl⟩
 have h8:(bP (fT (ag s a b) ((p.take i).map bs))).length=i:=by rw[iT,fT,List.length_map,List.length_map,List.length_take];omega
 simp only[decide_eq_true_iff,decide_eq_false_iff_not,Int.toNat_natCast]
 refine⟨fun aL=> ?_,fun aL=> ?_⟩
 ·have hi:i<p.length:=by omega
  have hZ:=jT (by omega)
  obtain⟨m,t,c,d,e,hm,gK,aa,al⟩:=(bj _ (mA hi)).parts
  have m9:(bP (fT (ag s a b) ((p.take i).map bs))++p.drop i).getD i []=d_ m t c d:=by
   rw[List.getD_eq_getElem?_getD,List.getElem?_append_right (by omega),h8,Nat.sub_self,List.getElem?_drop,Nat.add_zero,<-List.getD_eq_getElem?_getD,e]
  simp only[m9,lC hm,kV hm,kS hm,R.toBool,R.b6]
  refine⟨by omega,by rw[List.length_append,h8,List.length_drop];omega,trivial,rfl,rfl,⟨aa,al,aC.mono (by omega),ae.mono (by omega)⟩, ?_⟩
  rintro _ rfl _ rfl _ rfl
  rw[Gy hm,gu (by omega) (by omega)]
  refine⟨by omega,by rw[List.length_append,h8,List.length_drop];omega,trivial,⟨i+1,rfl,by omega, ?_⟩,by omega⟩
  rw[List.set_append_right _ _ (by omega),h8,Nat.sub_self,List.drop_eq_getElem_cons hi,List.set_cons_zero,oQ hi,e,List.map_append,List.map_singleton,lx hm,Ur,uM,List.append_assoc];rfl
 ·have hi:i=p.length:=by omega
  have he:bP (fT (ag s a b) ((p.take i).map bs))++p.drop i=bP (fT (ag s a b) (p.map bs)):=by
   rw[hi,List.take_length,List.drop_length,List.append_nil]
  rw[he]
  have gK:∀t∈fT (ag s a b) (p.map bs),j6 t.1:=fun t aA=>by
   obtain⟨u,hu,rfl⟩:=List.mem_map.1 aA
   obtain⟨r,ak,rfl⟩:=List.mem_map.1 hu
   exact(bj r ak).nR
  have hw:=dc.scale ay dP.iQ
  rw[List.length_map]at hw
  refine⟨wX hw gK hle, ?_⟩
  rintro _ rfl
  rw[hf fun t aA=>(gK t aA).1];exact ab
theorem ve:cv 1 (-1):=cv.one.neg
theorem Xn:(IntCast.intCast (-1:Int):Rat)=-1:=rfl
theorem adw (p:Rows) (K:J->Prop) (h:CQ.T [.d (.rows 11 p)] K):Kw p K:=by
 obtain⟨⟨bj,W,dP,hle⟩,ab⟩:=h
 unfold Kw
 refine⟨⟨by decide,by decide⟩, ?_⟩
 rintro _ rfl _ rfl _ rfl
 rw[Xn]
 refine⟨⟨bj,W,1,dP,ve.num,ve.den,Nat.le_refl _,by omega⟩, ?_⟩
 rintro _ rfl
 rw[h2];exact ab
theorem adx (p q:Rows) (K:J->Prop) (h:CR.T [.d (.rows 11 p), .d (.rows 11 q)] K):Kx p q K:=by
 obtain⟨⟨wg,kz,W,V,dP,fj,hle⟩,ab⟩:=h
 unfold Kx
 refine⟨⟨kz,V,fj,by omega⟩, ?_⟩
 rintro _ rfl
 have gK:∀t∈nrm (fT (-1) (q.map bs)),j6 t.1:=fun t aA=>by
  obtain⟨u,hu,e⟩:=F6 aA
  obtain⟨x,af,rfl⟩:=List.mem_map.1 hu
  obtain⟨r,ak,rfl⟩:=List.mem_map.1 af
  rw[<-e];exact(kz r ak).nR
 have dI:=fun t aA=>(gK t aA).1
 have hw:dc (nrm (fT (-1) (q.map bs))) (V+1*q.length):=by
  have:=(dc.scale ve fj.iQ).nrm
  rwa [List.length_map]at this
 refine⟨?_, ?_⟩
 ·refine((hw.rw dI).app dP).Hb (fun r ak=> ?_) (by omega)
  rcases List.mem_append.1 ak with ak|ak
  ·exact(wg r ak).nR
  ·exact F7 gK r ak
 ·rintro _ rfl
  rw[hf dI,Ve];exact ab
theorem MX (s:bu) (q:List bu):∀p:List bu,eR (p++[s]) q=eR p q++jt s q
 |[]=>by show jt s q++[]=[]++jt s q;simp
 |t::p=>by show jt t q++eR (p++[s]) q=(jt t q++eR p q)++jt s q;rw[MX s q p,List.append_assoc]
theorem Vf (s t:bu) (q:List bu):jt s (q++[t])=jt s q++[(fx s.1 t.1,s.2*t.2)]:=List.map_append
theorem N2 (q:List bu):∀p:List bu,(eR p q).length=p.length*q.length
 |[]=>by simp[eR]
 |t::p=>by rw[eR,List.length_append,N2 q p,jt,List.length_map,List.length_cons,Nat.add_mul,Nat.one_mul,Nat.add_comm]
theorem X7 {e:Int} {m:List Int} {c:Rat} (h:dA e [(m,c)]):m.length=8/\∀x∈m,0<=x/\x<=e:=h (m,c) (by simp)
theorem Pm {r:Row} {W:Nat} (h:lN W r) (he:dA 2000000000000000000 [bs r]):∃(m:List Int) (s:Bool) (a b:List Int),r=d_ m s a b/\m.length=8/\(∀x∈m,-4000000000000000000<=x/\x<=4000000000000000000)/\av W a/\av W b:=by
 obtain⟨m,s,a,b,rfl,hm,U,aa⟩:=h
 rw[lx hm]at he
 exact⟨m,s,a,b,rfl,hm,fun x af=>by have:=(X7 he).2 x af;omega,U,aa⟩
theorem ady (p q:Rows) (K:J->Prop) (h:CS.T [.d (.rows 11 p), .d (.rows 11 q)] K):Ky p q K:=by
 obtain⟨⟨wg,kz,W,V,dP,fj,hle,Ib,Ic⟩,ab⟩:=h
 unfold Ky
 have qY:=dP.len
 have ie:=fj.len
 have qI:p.length*q.length<=50000:=Nat.le_trans (Nat.mul_le_mul_right q.length (show p.length<=W by omega)) (by omega)
 have ay:((p.length:Nat):Int)*((q.length:Nat):Int)=((p.length*q.length:Nat):Int):=(Int.natCast_mul _ _).symm
 have Ie:IntKind.wrap .i64 (((p.length:Nat):Int)*((q.length:Nat):Int))=((p.length*q.length:Nat):Int):=by rw[ay];exact gu (by omega) (by omega)
 rw[Ie]
 refine⟨by omega,by omega,by omega,fun v o=>∃i:Nat,v=i/\i<=p.length/\o=bP (eR ((p.take i).map bs) (q.map bs)),fun v _=>p.length-v.toNat,⟨0,rfl,by omega,rfl⟩, ?_⟩
 rintro _ _ ⟨i,rfl,U,rfl⟩
 simp only[decide_eq_true_iff,decide_eq_false_iff_not,Int.toNat_natCast]
 refine⟨fun aL=> ?_,fun aL=> ?_⟩
 ·have hi:i<p.length:=by omega
  have vJ:=mA hi
  obtain⟨m,s,a,b,e,hm,gK,aC,ae⟩:=Pm (dP.each _ vJ) (wg _ vJ).1
  have nI:(i+1)*q.length<=p.length*q.length:=Nat.mul_le_mul_right _ hi
  rw[Nat.add_mul,Nat.one_mul]at nI
  rw[e]
  refine⟨by omega,by omega,lh hm,fun v o bn=>∃j:Nat,v=j/\j<=q.length/\o=bP (eR ((p.take i).map bs) (q.map bs)++jt (m,ag s a b) ((q.take j).map bs))/\bn=[d_ m s a b],fun v _ _=>q.length-v.toNat,⟨0,rfl,by omega,by simp[jt],rfl⟩, ?_⟩
  rintro _ _ _ ⟨j,rfl,aU,rfl,rfl⟩
  have bE:List.getD [d_ m s a b] 0 []=d_ m s a b:=rfl
  simp only[decide_eq_true_iff,decide_eq_false_iff_not,Int.toNat_natCast,bE]
  refine⟨fun bo=> ?_,fun bo=> ?_⟩
  ·have aK:j<q.length:=by omega
   have vH:=mA aK
   obtain⟨n,t,c,d,f,ar,tK,pB,aP⟩:=Pm (fj.each _ vH) (kz _ vH).1
   simp only[f,lh hm,lh ar,oZ hm,oZ ar,lC hm,kV hm,kS hm,lC ar,kV ar,kS ar,sL,R.toBool,R.b6]
   refine⟨by omega,by omega,trivial,trivial,trivial,⟨⟨m,rfl,hm,gK⟩,⟨n,rfl,ar,tK⟩⟩,trivial,rfl,rfl,trivial,rfl,rfl,⟨aC.mono (by omega),ae.mono (by omega),pB.mono (by omega),aP.mono (by omega)⟩, ?_⟩
   rintro _ rfl _ rfl _ rfl
   rw[gu (by omega) (by omega)]
   refine⟨?_,⟨j+1,rfl,by omega, ?_,trivial⟩,by omega⟩
   ·rw[iT,List.length_append,N2,jt,List.length_map,List.length_map,List.length_map,List.length_take,List.length_map,List.length_take,List.length_singleton,Nat.min_eq_left U,Nat.min_eq_left aU]
    generalize i*q.length=z at*
    omega
   ·rw[oQ aK,f,List.map_append,List.map_singleton,lx ar,Vf,<-List.append_assoc,uM _ [_]];rfl
  ·have aK:j=q.length:=by omega
   rw[gu (by omega) (by omega)]
   refine⟨⟨i+1,rfl,by omega, ?_⟩,by omega⟩
   rw[oQ hi,e,List.map_append,List.map_singleton,lx hm,MX,aK,List.take_length]
 ·have hi:i=p.length:=by omega
  rw[hi,List.take_length]
  have Z0:dA 2000000000000000000 (p.map bs):=fun t aA=>by
   obtain⟨r,ak,rfl⟩:=List.mem_map.1 aA
   exact(wg r ak).1 _ (by simp)
  have Z1:dA 2000000000000000000 (q.map bs):=fun t aA=>by
   obtain⟨r,ak,rfl⟩:=List.mem_map.1 aA
   exact(kz r ak).1 _ (by simp)
  have gK:=(Z0.mul Z1).nR (by decide)
  have hw:=dc.mul fj.iQ dP.iQ
  rw[List.length_map,List.length_map]at hw
  refine⟨wX hw gK hle, ?_⟩
  rintro _ rfl
  rw[hf fun t aA=>(gK t aA).1];exact ab
theorem aca (p:Rows) (K:J->Prop) (h:AY.T [.d (.rows 11 p)] K):JA p K:=by
 obtain⟨aQ,ab⟩:=h
 unfold JA
 refine⟨aQ, ?_⟩
 rintro _ rfl
 refine⟨fun h=> ?_,fun h=> ?_⟩
 ·have h:=of_decide_eq_true h
  rw[if_pos h,if_pos h]at ab;exact ab
 ·have h:=of_decide_eq_false h
  rw[if_neg h,if_neg h]at ab;exact ab
theorem ql {b:Bool} (h:(!b)=true):b=false:=by simpa using h
theorem n_ {b:Bool} (h:(!b)=false):b=true:=by simpa using h
theorem acD (p:Rows) (K:J->Prop) (h:Cg.T [.d (.rows 11 p)] K):JX p K:=by
 obtain⟨⟨aQ,hw⟩,ab⟩:=h
 unfold JX
 refine⟨aQ, ?_⟩
 rintro _ rfl
 refine⟨fun h=> ?_,fun h=> ?_⟩
 ·rw[ql h]at ab;exact ab
 ·have h:=n_ h
  rw[if_pos h,if_pos h]at ab
  refine⟨ri h aQ hw (by decide), ?_⟩
  rintro _ rfl
  exact ab
theorem acQ (v:Int) (K:J->Prop) (h:CW.T [.d (.int .i64 v)] K):J5 v K:=by
 obtain⟨_,ab⟩:=h
 unfold J5
 simp only[decide_eq_true_iff,decide_eq_false_iff_not]
 refine⟨fun h=> ?_,fun U=>⟨fun h=> ?_,fun aa=>⟨⟨by decide,by decide⟩, ?_⟩⟩⟩
 ·rw[if_neg (by omega),if_neg (by omega)]at ab;exact ab
 ·rw[if_neg (by omega),if_neg (by omega)]at ab;exact ab
 ·rintro _ rfl _ rfl _ rfl
  rw[PV]
  refine⟨by omega,by omega,by rw[List.length_set];exact lh u_, ?_⟩
  rw[if_pos (by omega),if_pos (by omega)]at ab
  have e:(d_ du (bh ((1:Int):Rat)) (bm ((1:Int):Rat)) (bg ((1:Int):Rat))).set v.toNat (.int .i64 1)=fL (du.set v.toNat 1,kW):=by
   rw[d_,List.set_append_left _ _ (by rw[kd];show v.toNat<8;omega),Fy];rfl
  show K (.tup [.d (.rows 11 [(d_ du (bh ((1:Int):Rat)) (bm ((1:Int):Rat)) (bg ((1:Int):Rat))).set v.toNat (.int .i64 1)]), .d (.int .i64 0)])
  rw[e];exact ab
theorem PW {e:Int}:∀{p:List bu} {d:Int},dA e p->d<=e->jg d p<=e
 |[],_,_,aP=>aP
 |t::p,d,h,aP=>by
  rw[jg]
  refine PW (fun u hu=>h u (by simp[hu])) ?_
  split
  ·have aA:=h t (by simp)
   have:∀(l:List Int) (a:Int),a<=e->(∀x∈l,x<=e)->kU a l<=e:=by
    intro l
    induction l with
    |nil=>intro a aC _;exact aC
    |cons x l bA=>
     intro a aC aq
     rw[kU]
     refine bA _ ?_ fun y a6=>aq y (by simp[a6])
     split
     ·exact aq x (by simp)
     ·exact aC
   refine this _ _ ?_ fun x af=>(aA.2 x (List.mem_of_mem_drop af)).2
   have dI:=aA.1
   exact(aA.2 _ (oR (by omega))).2
  ·exact aP
theorem Mf {P:List bu} {W:Nat} (hw:dc P W) (he:dA 1024 P) (dP:W<=100000) {K:J->Prop} (ab:K (.tup [.d (.rows 11 (bP P)), .d (.int .i64 0)])):
 b5 (bP P)/\∀x:List (List R),(x=if(1024:Int)<jg 0 ((bP P).map bs)then[]else bP P)->∀y:Int,(y=if(1024:Int)<jg 0 ((bP P).map bs)then 9 else 0)->K (.tup [.d (.rows 11 x), .d (.int .i64 y)]):=by
 refine⟨uN hw he.len (by omega), ?_⟩
 have h:¬(1024:Int)<jg 0 ((bP P).map bs):=by
  rw[hf he.len]
  have:=PW he (show(0:Int)<=1024 by decide)
  omega
 rintro _ rfl _ rfl
 rw[if_neg h,if_neg h];exact ab
theorem ab6 (g:Nat) (p q:Rows) (K:J->Prop) (h:(xH.T g) [.d (.rows 11 p), .d (.rows 11 q), .fn g] K):Jv p q K:=by
 unfold xH.T spec at h
 simp only[Nat.beq_refl]at h
 obtain⟨⟨⟨hp,j1⟩,W,V,dP,fj,hle⟩,ab⟩:=h
 unfold Jv
 refine⟨hp, ?_⟩
 rintro _ rfl
 refine⟨fun h=> ?_,fun U=>⟨j1, ?_⟩⟩
 ·have e:ew p q=false:=by rw[ew,ql h];rfl
  rw[e]at ab;exact ab
 ·rintro _ rfl
  refine⟨fun h=> ?_,fun aa=> ?_⟩
  ·have e:ew p q=false:=by rw[ew,ql h,Bool.and_false]
   rw[e]at ab;exact ab
  ·have U:=n_ U
   have aa:=n_ aa
   have e:ew p q=true:=by rw[ew,U,aa];rfl
   rw[if_pos e,if_pos e]at ab
   have hy:=(mH U hp.1).nrm
   have eq:=(mH aa j1.1).nrm
   have wp:=dP.iQ.nrm
   have qZ:=fj.iQ.nrm
   refine⟨ri U hp dP (by omega), ?_⟩
   rintro _ rfl
   refine⟨ri aa j1 fj (by omega), ?_⟩
   rintro _ rfl
   refine⟨?_, ?_⟩
   ·rw[Vg]
    exact wX (qZ.app wp) ((hy.app eq).nR (by decide)) (by omega)
   ·rintro _ rfl
    rw[hf hy.len,hf eq.len,Xo]
    exact Mf (fj.iQ.app dP.iQ).nrm ((mH U hp.1).app (mH aa j1.1)).nrm (by omega) ab
theorem ab7 (g:Nat) (p q:Rows) (K:J->Prop) (h:(xI.T g) [.d (.rows 11 p), .d (.rows 11 q), .fn g] K):Jw p q K:=by
 unfold xI.T spec at h
 simp only[Nat.beq_refl]at h
 obtain⟨⟨⟨hp,j1⟩,W,V,dP,fj,hle⟩,ab⟩:=h
 unfold Jw
 refine⟨hp, ?_⟩
 rintro _ rfl
 refine⟨fun h=> ?_,fun U=>⟨j1, ?_⟩⟩
 ·have e:ew p q=false:=by rw[ew,ql h];rfl
  rw[e]at ab;exact ab
 ·rintro _ rfl
  refine⟨fun h=> ?_,fun aa=> ?_⟩
  ·have e:ew p q=false:=by rw[ew,ql h,Bool.and_false]
   rw[e]at ab;exact ab
  ·have U:=n_ U
   have aa:=n_ aa
   have e:ew p q=true:=by rw[ew,U,aa];rfl
   rw[if_pos e,if_pos e]at ab
   have hy:=(mH U hp.1).nrm
   have eq:=(mH aa j1.1).nrm
   have wp:=dP.iQ.nrm
   have qZ:=fj.iQ.nrm
   have ie:=fj.len
   have ajh:=qZ.len
   refine⟨ri U hp dP (by omega), ?_⟩
   rintro _ rfl
   refine⟨ri aa j1 fj (by omega), ?_⟩
   rintro _ rfl
   have cj:(nrm (q.map bs)).length<=q.length:=by
    have:=xi (q.map bs)
    rwa [List.length_map]at this
   refine⟨⟨FB wp (hy.nR (by decide)) (by omega),FB qZ (eq.nR (by decide)) (by omega),W,V,wp.rw hy.len,qZ.rw eq.len,by rw[iT];omega⟩, ?_⟩
   rintro _ rfl
   rw[hf hy.len,hf eq.len]
   have bK:nrm (nrm (p.map bs)++fT (-1) (nrm (q.map bs)))=nrm (p.map bs++fT (-1) (q.map bs)):=sH fun m=>by rw[sN,sN,At,At,n0,n0]
   rw[bK]
   have mn:=dc.scale ve fj.iQ
   rw[List.length_map]at mn
   exact Mf (mn.app dP.iQ).nrm ((mH U hp.1).app ((mH aa j1.1).scale _)).nrm (by omega) ab
theorem acR (p q:Rows) (K:J->Prop) (h:CX.T [.d (.rows 11 p), .d (.rows 11 q)] K):J6 p q K:=by
 obtain⟨U,ab⟩:=h
 unfold J6
 refine⟨U, ?_⟩
 rintro _ rfl _ rfl
 exact ab
theorem acS (p q:Rows) (K:J->Prop) (h:CY.T [.d (.rows 11 p), .d (.rows 11 q)] K):J7 p q K:=by
 obtain⟨U,ab⟩:=h
 unfold J7
 refine⟨U, ?_⟩
 rintro _ rfl _ rfl
 exact ab
theorem QB {n:Int} {p q:List bu}:hi n p q=true↔∃v:Nat,v<8/\oz n p q v=true:=by
 unfold hi
 simp only[Bool.or_eq_true]
 constructor
 ·rintro(((((((h|h)|h)|h)|h)|h)|h)|h)
  ·exact⟨0,by omega,h⟩
  ·exact⟨1,by omega,h⟩
  ·exact⟨2,by omega,h⟩
  ·exact⟨3,by omega,h⟩
  ·exact⟨4,by omega,h⟩
  ·exact⟨5,by omega,h⟩
  ·exact⟨6,by omega,h⟩
  ·exact⟨7,by omega,h⟩
 ·rintro⟨v,aM,h⟩
  match v,aM with
  |0,_=>simp[h]
  |1,_=>simp[h]
  |2,_=>simp[h]
  |3,_=>simp[h]
  |4,_=>simp[h]
  |5,_=>simp[h]
  |6,_=>simp[h]
  |7,_=>simp[h]
theorem PX {a b:Int} {v:Nat}:∀{p:List bu} {d:Int},(∀t∈p,a<=t.1.getD v 0/\t.1.getD v 0<=b)->a<=d->d<=b->a<=oy v d p/\oy v d p<=b
 |[],d,_,U,aa=>⟨U,aa⟩
 |t::p,d,h,U,aa=>by
  rw[oy]
  have aA:=h t (by simp)
  refine PX (fun u hu=>h u (by simp[hu])) ?_ ?_
  ·split
   ·exact aA.1
   ·exact U
  ·split
   ·exact aA.2
   ·exact aa
theorem Pn {p:Rows} (h:vp p) (bj:cQ p) {v:Nat} (aM:v<8):-1000000000000<=lU (p.map bs) v/\lU (p.map bs) v<=1000000000000:=by
 refine PX (fun t aA=> ?_) (by decide) (by decide)
 obtain⟨r,ak,rfl⟩:=List.mem_map.1 aA
 exact h r ak _ (oR (by rw[dY,List.length_map,List.length_take,(bj r ak).len];omega))
theorem PY (x:Int):(if x<0 then(0:Int)else x)=max x 0:=by omega
theorem acb (p:Rows) (n:Int) (q:Rows) (K:J->Prop) (h:CZ.T [.d (.rows 11 p), .d (.int .i64 n), .d (.rows 11 q)] K):JB p n q K:=by
 obtain⟨⟨⟨hp,j1⟩,⟨mp,aa9⟩,H3,vK⟩,ab⟩:=h
 unfold JB
 refine⟨fun v=>∃i:Nat,v=i/\i<=8/\∀j,j<i->oz n (p.map bs) (q.map bs) j=false,fun v=>8-v.toNat,⟨0,rfl,by omega,fun j aK=>by omega⟩, ?_⟩
 rintro _ ⟨i,rfl,U,aa⟩
 simp only[decide_eq_true_iff,decide_eq_false_iff_not,Int.toNat_natCast]
 refine⟨fun aL=>⟨⟨hp,by omega,by omega⟩, ?_⟩,fun aL=> ?_⟩
 ·rintro _ rfl
  refine⟨⟨j1,by omega,by omega⟩, ?_⟩
  rintro _ rfl
  have cn:=Pn mp hp.1 (v:=i) (by omega)
  have cF:=Pn aa9 j1.1 (v:=i) (by omega)
  rw[PY,PY]
  have e:oz n (p.map bs) (q.map bs) i=decide (1024<n*max (lU (p.map bs) i) 0+max (lU (q.map bs) i) 0):=rfl
  generalize lU (p.map bs) i=x at*
  generalize lU (q.map bs) i=y at*
  have pK:0<=max x 0:=by omega
  have gD:max x 0<=1000000000000:=by omega
  have ajM:0<=n*max x 0:=Int.mul_nonneg H3 pK
  have g_:n*max x 0<=1000*1000000000000:=Int.mul_le_mul vK gD pK (by decide)
  have cz:IntKind.wrap .i64 (n*max x 0)=n*max x 0:=bl (by omega)
  rw[cz,bl (by omega)]
  refine⟨fun bo=> ?_,fun bo=>⟨⟨i+1,gu (by omega) (by omega),by omega,fun j aK=> ?_⟩,by rw[gu (by omega) (by omega)];omega⟩⟩
  ·have:hi n (p.map bs) (q.map bs)=true:=QB.2 ⟨i,by omega,by rw[e];exact decide_eq_true bo⟩
   rw[this]at ab;exact ab
  ·by_cases y0:j=i
   ·rw[y0,e];exact decide_eq_false bo
   ·exact aa j (by omega)
 ·have:hi n (p.map bs) (q.map bs)=false:=by
   cases b2:hi n (p.map bs) (q.map bs)with
   |false=>rfl
   |true=>
    obtain⟨v,aM,lJ⟩:=QB.1 b2
    rw[aa v (by omega)]at lJ;cases lJ
  rw[this]at ab;exact ab
theorem dA.RL {e:Int} {p:List bu} (h:dA e p) (he:e<=1000000000000):vp (bP p):=fun r ak x af=>by
 obtain⟨t,aA,rfl⟩:=List.mem_map.1 ak
 have an:dY (fL t)=t.1:=uT (h t aA).1
 rw[an]at af
 have:=(h t aA).2 x af
 omega
theorem dA.Q4 {e:Int} {p:List bu} {W:Nat} (h:dA e p) (he:e<=2000000000000000000) (hw:dc p W):∀r∈bP p,dA 2000000000000000000 [bs r]/\dZ r:=fun r ak=>by
 refine⟨?_,((hw.rw h.len).each r ak).row⟩
 obtain⟨t,aA,rfl⟩:=List.mem_map.1 ak
 rw[BA (h t aA).1]
 intro u hu
 rw[List.mem_singleton.1 hu]
 exact h.mono he t aA
theorem acT (p q:Rows) (K:J->Prop) (h:C0.T [.d (.rows 11 p), .d (.rows 11 q)] K):J8 p q K:=by
 obtain⟨⟨⟨hp,j1⟩,W,V,dP,fj,hle,Ib,Ic⟩,ab⟩:=h
 unfold J8
 refine⟨hp, ?_⟩
 rintro _ rfl
 refine⟨fun h=> ?_,fun U=>⟨j1, ?_⟩⟩
 ·have e:ew p q=false:=by rw[ew,ql h];rfl
  rw[ph,e]at ab;exact ab
 ·rintro _ rfl
  refine⟨fun h=> ?_,fun aa=> ?_⟩
  ·have e:ew p q=false:=by rw[ew,ql h,Bool.and_false]
   rw[ph,e]at ab;exact ab
  ·have U:=n_ U
   have aa:=n_ aa
   have e:ew p q=true:=by rw[ew,U,aa];rfl
   rw[ph,e,Bool.true_and,if_pos rfl]at ab
   have hy:=(mH U hp.1).nrm
   have eq:=(mH aa j1.1).nrm
   have wp:=dP.iQ.nrm
   have qZ:=fj.iQ.nrm
   refine⟨ri U hp dP Ib, ?_⟩
   rintro _ rfl
   refine⟨ri aa j1 fj Ic, ?_⟩
   rintro _ rfl
   have qY:=xi (p.map bs)
   have ie:=xi (q.map bs)
   rw[List.length_map]at qY ie
   have ic:ya (bP (nrm (p.map bs))) (bP (nrm (q.map bs))):=by
    refine⟨hy.Q4 (by decide) wp,eq.Q4 (by decide) qZ,W,V,wp.rw hy.len,qZ.rw eq.len, ?_,Ib,Ic⟩
    rw[iT,iT]
    have:=Nat.mul_le_mul_left W ie
    have:=Nat.mul_le_mul_left V qY
    omega
   have fin:∀x:List (List R),x=bP (nrm (eR ((bP (nrm (p.map bs))).map bs) ((bP (nrm (q.map bs))).map bs)))->x=bP (nrm (eR (p.map bs) (q.map bs))):=by
    rintro _ rfl
    rw[hf hy.len,hf eq.len,Xp]
   rw[iT,iT]
   have Q5:∀l:List bu,decide ((0:Int)<((l.length:Nat):Int))= !decide (l=[]):=fun l=>by
    cases l with
    |nil=>rfl
    |cons t l=>simp
   rw[Q5,Q5]
   refine⟨fun g1=>⟨fun g2=>⟨⟨⟨uN wp hy.len (by omega),uN qZ eq.len (by omega)⟩,⟨hy.RL (by decide),eq.RL (by decide)⟩,by decide,by decide⟩, ?_⟩,fun g2=>⟨ic, ?_⟩⟩,fun g1=>⟨ic, ?_⟩⟩
   ·rintro _ rfl
    rw[hf hy.len,hf eq.len]
    have zr:mX (nrm (p.map bs)) (nrm (q.map bs))=hi 1 (nrm (p.map bs)) (nrm (q.map bs)):=by rw[mX,g1,g2,Bool.true_and,Bool.true_and]
    rw[zr]at ab
    refine⟨fun h=> ?_,fun h=>⟨ic, ?_⟩⟩
    ·rw[h]at ab;exact ab
    ·rw[h]at ab
     intro x af
     rw[hf hy.len,hf eq.len]at fin
     rw[fin x af];exact ab
   ·have zr:mX (nrm (p.map bs)) (nrm (q.map bs))=false:=by rw[mX,g2,Bool.and_false];rfl
    rw[zr]at ab
    intro x af
    rw[fin x af];exact ab
   ·have zr:mX (nrm (p.map bs)) (nrm (q.map bs))=false:=by rw[mX,g1];rfl
    rw[zr]at ab
    intro x af
    rw[fin x af];exact ab
theorem ab3 (p:Rows) (v:Int) (K:J->Prop) (h:Ch.T [.d (.rows 11 p), .d (.int .i64 v)] K):Js p v K:=by
 obtain⟨⟨hp,dP⟩,ab⟩:=h
 unfold Js
 refine⟨hp, ?_⟩
 rintro _ rfl
 simp only[decide_eq_true_iff,decide_eq_false_iff_not]
 refine⟨fun h=> ?_,fun U=>⟨fun h=> ?_,fun aa=>⟨fun h=> ?_,fun al=>⟨ri (n_ U) hp dP (by decide), ?_⟩⟩⟩⟩
 ·have e:gQ p v=2:=by rw[gQ,ql h];rfl
  rw[e]at ab;exact ab
 ·have e:gQ p v=1:=by rw[gQ,if_pos (n_ U),if_neg (by omega)]
  rw[e]at ab;exact ab
 ·have e:gQ p v=1:=by rw[gQ,if_pos (n_ U),if_neg (by omega)]
  rw[e]at ab;exact ab
 ·rintro _ rfl
  have e:gQ p v=0:=by rw[gQ,if_pos (n_ U),if_pos (by omega)]
  rw[e]at ab;exact ab
theorem PZ {p:Rows} {v:Int} (h:gQ p v=0):hI p=true/\0<=v/\v<8:=by
 unfold gQ at h
 split at h
 ·split at h
  ·rename_i U aa;exact⟨U,aa⟩
  ·cases h
 ·cases h
theorem acj (p:Rows) (v:Int) (K:J->Prop) (h:C1.T [.d (.rows 11 p), .d (.int .i64 v)] K):JH p v K:=by
 obtain⟨⟨hp,dP⟩,ab⟩:=h
 unfold JH
 refine⟨⟨hp,dP⟩, ?_⟩
 rintro _ rfl _ rfl
 refine⟨fun h=> ?_,fun h=> ?_⟩
 ·have h:¬gQ p v=0:=by simpa using h
  rw[if_neg h]at ab;exact ab
 ·have h:gQ p v=0:=by simpa using h
  obtain⟨U,aa,al⟩:=PZ h
  rw[if_pos h,h]at ab
  rw[if_pos h]
  have hy:=(mH U hp.1).nrm
  refine⟨⟨uN dP.iQ.nrm hy.len (by decide),aa,al⟩, ?_⟩
  rintro _ rfl
  rw[hf hy.len];exact ab
theorem ur {m:List Int} {v:Nat} (h:v<m.length) (x:Int):(m.set v x).getD v 0=x:=by rw[ef,if_pos ⟨rfl,h⟩]
theorem Wt {v:Nat} {p:List bu} {t:bu} (h:t∈hF v p):∃u∈p,0<u.1.getD v 0/\t=(u.1.set v (u.1.getD v 0-1),u.2*((u.1.getD v 0:Int):Rat)):=by
 obtain⟨u,hu,rfl⟩:=List.mem_map.1 h
 rw[List.mem_filter]at hu
 exact⟨u,hu.1,of_decide_eq_true hu.2,rfl⟩
theorem dA.hF {e:Int} {p:List bu} (h:dA e p) {v:Nat}:dA e (hF v p):=fun t aA=>by
 obtain⟨u,hu,aE,rfl⟩:=Wt aA
 refine⟨by rw[List.length_set];exact(h u hu).1,fun x af=> ?_⟩
 rcases List.mem_or_eq_of_mem_set af with af|rfl
 ·exact(h u hu).2 x af
 ·by_cases aq:v<u.1.length
  ·have:=(h u hu).2 _ (oR aq);omega
  ·rw[List.getD_eq_getElem?_getD,List.getElem?_eq_none (by omega)]at aE;simp at aE
theorem N4 {n:Int} (h:n.natAbs<4294967296):cv 1 (n:Rat):=by
 refine⟨by rw[Rat.num_intCast];simpa using h,by rw[Rat.den_intCast];decide⟩
theorem dc.hF {e:Int} (he:e<4294967296) {v:Nat} (aM:v<8):∀{p:List bu} {W:Nat},dA e p->dc p W->dc (hF v p) (W+p.length)
 |[],_,_,_=>trivial
 |t::p,W,dj,⟨k,gf,U,aa,al,aL⟩=>by
  have bA:=dc.hF he aM (fun u hu=>dj u (by simp[hu])) aL
  have aA:=dj t (by simp)
  have ae:=aA.2 _ (oR (m:=t.1) (i:=v) (by have:=aA.1;omega))
  unfold I.hF
  rw[List.filter_cons]
  split
  ·rw[List.map_cons]
   refine⟨k+1,gf+p.length,U.mul (N4 (by omega)) (by omega),by omega,by rw[List.length_cons];omega,bA⟩
  ·exact bA.mono (by rw[List.length_cons];omega)
theorem QC {m:List Int} {s:Bool} {a b:List Int} (hm:m.length=8) {v:Nat} (aM:v<8):(d_ m s a b).getD v .undef= .int .i64 (m.getD v 0):=by
 rw[d_,List.getD_eq_getElem?_getD,List.getElem?_append_left (by rw[kd];omega),<-List.getD_eq_getElem?_getD,Fx _ _ (by omega)]
theorem F8 {m:List Int} {s:Bool} {a b:List Int} (hm:m.length=8) {v:Nat} (aM:v<8) (x:Int):(d_ m s a b).set v (.int .i64 x)=d_ (m.set v x) s a b:=by
 rw[d_,List.set_append_left _ _ (by rw[kd];omega),Fy];rfl
theorem dZ.at' {r:Row} (h:dZ r) {v:Nat} (aM:v<8):(r.take 8).getD v .undef= .int .i64 ((dY r).getD v 0):=by
 rw[<-h.at aM,List.getD_eq_getElem?_getD,List.getElem?_take,if_pos aM,<-List.getD_eq_getElem?_getD]
theorem E2 {p:Rows} {r:Row} (ak:r∈p) {x:Int} (af:x∈dY r) (h:x<0\/1024<x):hI p=false:=by
 cases aM:hI p with
 |false=>rfl
 |true=>
  have U:=List.all_eq_true.1 aM r ak
  have:=List.all_eq_true.1 U x af
  simp at this
  omega
theorem acy (p:Rows) (K:J->Prop) (h:u7.T [.d (.rows 11 p)] K):JU p K:=by
 obtain⟨⟨bj,aq⟩,ab⟩:=h
 unfold JU
 refine⟨fun w=>∃i:Nat,w=i/\i<=p.length/\∀j,j<i->y2 (dY (p.getD j []))=true,fun w=>p.length-w.toNat,⟨0,rfl,by omega,fun j aK=>by omega⟩, ?_⟩
 rintro _ ⟨i,rfl,U,aa⟩
 simp only[decide_eq_true_iff,decide_eq_false_iff_not,Int.toNat_natCast]
 refine⟨fun aL=> ?_,fun aL=> ?_⟩
 ·have hi:i<p.length:=by omega
  have ak:=bj.get hi
  have aa8:(dY (p.getD i [])).length=8:=by rw[dY,List.length_map,List.length_take,ak.len];rfl
  refine⟨by omega,aL,ak.len,ak.len,fun w=>∃j:Nat,w=j/\j<=8/\∀k,k<j->0<=(dY (p.getD i [])).getD k 0/\(dY (p.getD i [])).getD k 0<=1024,fun w=>8-w.toNat,⟨trivial,0,rfl,by omega,fun j aK=>by omega⟩, ?_⟩
  rintro _ ⟨j,rfl,aU,a_⟩
  simp only[decide_eq_true_iff,decide_eq_false_iff_not,Int.toNat_natCast]
  refine⟨fun bo=> ?_,fun bo=> ?_⟩
  ·have aK:j<8:=by omega
   simp only[ak.at' aK,R.toInt]
   have hm:=oR (m:=dY (p.getD i [])) (i:=j) (by omega)
   refine⟨by omega,bo,rfl,fun bX=> ?_,fun bX=>⟨fun fi=> ?_,fun fi=>⟨trivial,⟨j+1,gu (by omega) (by omega),by omega,fun k ab=> ?_⟩,by rw[gu (by omega) (by omega)];omega⟩⟩⟩
   ·rw[E2 (mA hi) hm (.inl bX)]at ab;exact ab
   ·rw[E2 (mA hi) hm (.inr fi)]at ab;exact ab
   ·by_cases e:k=j
    ·rw[e];omega
    ·exact a_ k (by omega)
  ·refine⟨⟨i+1,gu (by omega) (by omega),by omega,fun k ab=> ?_⟩,by rw[gu (by omega) (by omega)];omega⟩
   by_cases e:k=i
   ·rw[e,y2,List.all_eq_true]
    intro x af
    obtain⟨n,ar,rfl⟩:=List.getElem_of_mem af
    have:=a_ n (by omega)
    rw[List.getD_eq_getElem?_getD,List.getElem?_eq_getElem ar]at this
    simpa using this
   ·exact aa k (by omega)
 ·have aM:hI p=true:=List.all_eq_true.2 fun r ak=>by
   obtain⟨n,ar,rfl⟩:=List.getElem_of_mem ak
   have:=aa n (by omega)
   rwa [List.getD_eq_getElem?_getD,List.getElem?_eq_getElem ar]at this
  rw[aM]at ab;exact ab
end I
end
section
open Go Go.bG
namespace I
theorem ab1 (K:J->Prop) (h:u9.T [.d (.int .i64 2)] K):Jr K:=by
 obtain⟨_,ab⟩:=h
 unfold Jr
 exact⟨by decide,by decide,by decide,ab⟩
theorem ac7 (K:J->Prop) (h:u9.T [.d (.int .i64 2)] K):SS K:=h
theorem ab2 (K:J->Prop) (h:u9.T [.d (.int .i64 2)] K):SO K:=⟨⟨rfl,rfl⟩,h.2⟩
theorem abZ (K:J->Prop) (h:A0.T [.d (.int .i64 2), .d (.int .i64 10)] K):Jp K:=by
 obtain⟨_,ab⟩:=h
 unfold Jp
 simpa using ab
theorem ac8 (x s:List Int) (K:J->Prop) (h:Ck.T [.d (.rows 1 [[.str x]]), .d (.str s)] K):Ki x s K:=by
 obtain⟨_,ab⟩:=h
 unfold Ki
 simpa[R.isStr]using ab
theorem aci (K:J->Prop) (h:A1.T [.d (.rows 11 qw), .d (.rows 1 Dp)] K):JI K:=by
 obtain⟨_,ab⟩:=h
 unfold JI
 simp[R.isInt,R.isBool,R.eM,R.isStr,R.toInt]
 exact ab
end I
end
