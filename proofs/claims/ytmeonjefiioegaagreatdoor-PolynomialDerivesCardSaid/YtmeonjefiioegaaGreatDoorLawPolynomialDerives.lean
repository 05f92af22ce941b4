/- PolynomialDerives returns true whatever its arguments are: a list of ints and two bytes; no further condition. -/
import Derived.Test.YtmeonjefiioegaaGreatDoorRows
import Derived.Test.YtmeonjefiioegaaGreatDoorCards
import Derived.Test.YtmeonjefiioegaaGreatDoorTie
import Derived.Test.YtmeonjefiioegaaGreatDoorC
import Derived.WalkKit
import Derived.ProofKit
import Derived.OpenShut
import Derived.ShutString
import Derived.ChangeOld
import Derived.Below
import Derived.SizedLaws
import Derived.LaidMore
import Derived.Stop.Joined
import Derived.SevenTiedAt
section
open Go Go.bG
set_option maxRecDepth 1000000
namespace Go.Proofs.YtmeonjefiioegaaGreatDoor.S
noncomputable def ar_:Env:=R4 (P:=P) aj3 [⟨_,aqf.n⟩,⟨_,aqj.n⟩,⟨_,akP.n⟩,⟨_,aqk.n⟩,⟨_,anQ.n⟩,⟨_,anZ.n⟩,⟨_,arT.n⟩] [] []
theorem aba:wy P 5 [.bS (.sints .i64), .bS (.int .u8), .bS (.int .u8)] I.ao0.T:=ajs ar_ ua Go.Proofs.Tryz.f5 [.tmp 6] [Go.bG.ajX] (ahm _) (I.aqJ fun l v w K aog=>aiG (by kernel_rfl) (I.aqD l v w K aog))
end Go.Proofs.YtmeonjefiioegaaGreatDoor.S
end
namespace Go.Proofs.YtmeonjefiioegaaGreatDoor.polynomialDerives
open Go.ChangeShapes Go.WideShapes Go.ChangeAt Go.RowKit Go.bG
open Go.ChangeMaps (open_string shut_string)
set_option linter.unusedVariables false
theorem own:ownKnob Tryz.prog.godebug=none:=by kernel_rfl
theorem laidOut:laidOutB Tryz.prog=true:=by kernel_rfl
theorem met (os:Os)(args:Array Value):laidMetH Tryz.prog Rows.polynomialDerivesRow.laid ((World.doorLaid Tryz.prog 4000 os).forCall (fun _ _=>0) ⟨#[],args,[]⟩).memory:=
 laidMetH_of_parts3 (fuel:=8) (laidMet_of_run' 8 (by kernel_rfl) (by kernel_rfl)) (by kernel_rfl) (by kernel_rfl)
set_option maxRecDepth 100000 in
theorem lifted (os:Os)(started:os.Started)(H:Type)(enc:TypeId×Value->H):
 ReturnsInHanded {} Tryz.checked os 5 .any (fun w args=>(Rows.polynomialDerivesSpec.pre enc Tryz.prog Tryz.f5 Rows.polynomialDerivesRow.domain false w args/\laidMetH Tryz.prog Rows.polynomialDerivesRow.laid w)/\sizedMet enc Tryz.prog Tryz.f5 (OpenSpec.ofChange Rows.polynomialDerivesSpec) false w args) (Rows.polynomialDerivesSpec.post enc Tryz.prog Tryz.f5 false true false false):=by
 refine returnsInHanded_of_change_and (C:=Tryz.checked) (X:=fun w _=>laidMetH Tryz.prog Rows.polynomialDerivesRow.laid w) (fun _ _ _ b2 h=>h.of_heap b2) own started (by kernel_rfl) Tryz.func5
  (ChangeSpec.witness_shaped (enc:=enc) (C:=Tryz.checked) (os:=os) (X:=fun w _=>laidMetH Tryz.prog Rows.polynomialDerivesRow.laid w) false (World.doorLaid Tryz.prog 4000 os) #[.slice none 0 0, .int .u8 0, .int .u8 0] 8 rfl (World.shaped_of_RefB (by kernel_rfl) (by kernel_rfl)) (by kernel_rfl) (by kernel_rfl) (by kernel_rfl) (met os _)) ?_
 intro W base args abC gs before ako dP aod akN kA _
 have ca:(DataW.weightsEach Tryz.prog (Tryz.f5.params.toList++Rows.polynomialDerivesSpec.plain.varTypes Tryz.prog) (abC++gs)).all (·<=reachBytes)=true:=akN
 have iX:∀(j:Nat) t v,Tryz.f5.params[j]? =some t->args[j]? =some v->Value.okWide Tryz.prog W .any base t v:=ako
 have an_:=dP
 obtain⟨p,q,tI,fj,rfl,dy,ze⟩:=dP
 have eU:DataW.TrodAll enc Tryz.prog W 0 (fun _=>true) true Tryz.f5.params.toList args.toList abC p:=tI
 rw[Tryz.params5]at eU iX ca
 obtain⟨v0,aoe,d0,aof,ajM,abm,fA,rfl,rfl,aE,zv⟩:=trodAll_cons eU
 obtain⟨v1,ase,d1,asf,g_,q1,rfl,rfl,rfl,U,c3⟩:=trodAll_cons zv
 obtain⟨v2,asg,d2,ash,j3,cb,rfl,rfl,rfl,aa,cP⟩:=trodAll_cons c3
 obtain⟨rfl,rfl,rfl⟩:=trodAll_nil cP
 obtain rfl:args=#[v0,v1,v2]:=by cases args;simp_all
 obtain⟨rfl,rfl⟩:=trodVars_none fj
 obtain⟨a0,ao8,apB,rfl⟩:=okWide_slice Tryz.underlying22 (iX 0 22 v0 rfl rfl)
 have k7:=aE
 have apF:∀x∈ajM,x.block<W.heap.size:=by obtain⟨m,hm⟩:=k7;exact DataW.trod_lt m _ _ _ hm
 obtain⟨z0,hv⟩:∃j8,GY .i64 W a0 ao8 apB j8:=by
  obtain⟨fuel,aQ⟩:=aE
  rcases open_ints Tryz.underlying22 Tryz.underlying3 (by kernel_rfl) aQ with⟨pB,_⟩|⟨x,l,c,j8,pB,_,aq,hm,bc,_,gA,aai⟩
  ·simp[Value.cells]at pB
   obtain⟨rfl,rfl,rfl⟩:=pB
   exact⟨[], .inl ⟨rfl,rfl,rfl,rfl⟩⟩
  ·simp[Value.cells]at pB
   obtain⟨rfl,rfl,rfl⟩:=pB
   exact⟨j8, .inr ⟨_,rfl,aq,hm,by simpa using bc,gA,aai⟩⟩
 obtain⟨a1,rfl,rfl,rfl,cz⟩:=open_int Tryz.underlying5 (iX 1 5 v1 rfl rfl) U
 obtain⟨a2,rfl,rfl,rfl,dO⟩:=open_int Tryz.underlying5 (iX 2 5 v2 rfl rfl) aa
 clear tI ako akN ca
 refine(af5 S.aba.s (xs:=[.ints .i64 (z0.take ao8), .int .u8 a1, .int .u8 a2]) ⟨⟨I.ahw (aiE hv),I.aiJ cz,I.aiJ dO⟩,rfl⟩ rfl ?_).mono fun e Sh ⟨he,aoa⟩=> ?_
 ·intro i hi
  match i with
  |0=>exact af4 hv
  |1=>exact .int _ _
  |2=>exact .int _ _
  |i+3=>simp at hi<;>omega
 subst he
 exact⟨_,rfl,_,_,_,[],_,[],an_,trodAll_mk1 (shut_bool Tryz.underlying4 _),(trodAll_cons_mk (Below.trod laidOut (by kernel_rfl) (asC (by kernel_rfl)) k7 aoa apF) (trodAll_cons_mk (shut_int Tryz.underlying5 cz) (trodAll_cons_mk (shut_int Tryz.underlying5 dO) trodAll_mk0))),rfl,aoa.frame _,fun h=>by cases h⟩
theorem over:Rows.polynomialDerivesRow.holds Tryz.pinned (OpenSpec.ofChange Rows.polynomialDerivesSpec):=
 OpenClaim.holds_of_wide 5 Tryz.f5 rfl rfl rfl rfl rfl rfl rfl ⟨rfl,rfl,rfl,rfl,rfl⟩ rfl rfl rfl rfl rfl (by kernel_rfl) Tryz.func5 (by kernel_rfl)
  (asC (by kernel_rfl)) (by unfold Func.isWrapper;first|(rw[asq (by decide+kernel)];kernel_rfl)|(rw[asp (by decide+kernel)];exact⟨rfl,rfl⟩))
  (fun os started H enc _=>lifted os started H enc)
theorem anC:Claim7.holds Tryz.pinned (.plain (OpenSpec.ofChange Rows.polynomialDerivesSpec)) Rows.polynomialDerivesCard:=
 Claim7.holds_tied_plain_at .later [] [.data, .data, .data] true (true, "c51548f0d069f09bb7cee11aaec875e8fd6a32022490e80e68f18fa0d9625625") false
  over (fun _ h=>by cases h) (by kernel_rfl) (fun _ h=>by cases h) polynomialDerives_row_tie rfl ⟨rfl,rfl⟩ (by kernel_rfl) rfl
  (fun f fn aQ aaa=>by
    obtain rfl:f=5:=asB ((show Tryz.prog.funcNamed "exactppl/exactppllaw03.PolynomialDerives" =some 5 by kernel_rfl).symm.trans aQ)|>.symm
    obtain rfl:fn=Tryz.f5:=(asB (Tryz.func5.symm.trans aaa)).symm
    exact⟨by kernel_rfl,fun j t aA=>by
     rw[Tryz.params5]at aA
     have hm:t∈[22,5,5]:=by simpa using Array.mem_of_getElem? aA
     have yt:([22,5,5].all fun u=> !Tryz.prog.wantsStandIn u)=true:=by kernel_rfl
     exact(show Tryz.prog.wantsStandIn t=false by simpa using asH.1 yt t hm)⟩)
  (by kernel_rfl)
theorem proved:Rows.PolynomialDerivesCardSaid:=anC
end Go.Proofs.YtmeonjefiioegaaGreatDoor.polynomialDerives
namespace Go.Proofs.YtmeonjefiioegaaGreatDoor
theorem polynomialDerives_holds:Rows.PolynomialDerivesCardSaid:=polynomialDerives.proved
#print axioms polynomialDerives_holds
end Go.Proofs.YtmeonjefiioegaaGreatDoor
