/- PolynomialRing returns true whatever its arguments are: a list of ints; no further condition. -/
import Derived.Test.YtmeonjefiioegaaGreatDoorRows
import Derived.Test.YtmeonjefiioegaaGreatDoorCards
import Derived.Test.YtmeonjefiioegaaGreatDoorTie
import Derived.Test.YtmeonjefiioegaaGreatDoorC
import Derived.WalkKit
import Derived.ProofKit
import Derived.OpenShut
import Derived.ShutString
import Derived.ChangeOld
import Derived.Below
import Derived.SizedLaws
import Derived.LaidMore
import Derived.Stop.Joined
import Derived.SevenTiedAt
section
open Go Go.bG
set_option maxRecDepth 1000000
namespace Go.Proofs.YtmeonjefiioegaaGreatDoor.S
noncomputable def ar9:Env:=R4 (P:=P) aj3 [⟨_,aqf.n⟩,⟨_,aqj.n⟩,⟨_,akP.n⟩,⟨_,aqk.n⟩,⟨_,anQ.n⟩,⟨_,anV.n⟩,⟨_,anM.n⟩,⟨_,anZ.n⟩] [] []
theorem m7:wy P 3 [.bS (.sints .i64)] I.ao4.T:=ajs ar9 ua Go.Proofs.Tryz.f3 [.tmp 2] [Go.bG.ajX] (ahm _) (I.aqO fun l K aog=>aiG (by kernel_rfl) (I.aqE l K aog))
end Go.Proofs.YtmeonjefiioegaaGreatDoor.S
end
namespace Go.Proofs.YtmeonjefiioegaaGreatDoor.polynomialRing
open Go.ChangeShapes Go.WideShapes Go.ChangeAt Go.RowKit Go.bG
open Go.ChangeMaps (open_string shut_string)
set_option linter.unusedVariables false
theorem own:ownKnob Tryz.prog.godebug=none:=by kernel_rfl
theorem laidOut:laidOutB Tryz.prog=true:=by kernel_rfl
theorem met (os:Os)(args:Array Value):laidMetH Tryz.prog Rows.polynomialRingRow.laid ((World.doorLaid Tryz.prog 4000 os).forCall (fun _ _=>0) ⟨#[],args,[]⟩).memory:=
 laidMetH_of_parts3 (fuel:=8) (laidMet_of_run' 8 (by kernel_rfl) (by kernel_rfl)) (by kernel_rfl) (by kernel_rfl)
set_option maxRecDepth 100000 in
theorem lifted (os:Os)(started:os.Started)(H:Type)(enc:TypeId×Value->H):
 ReturnsInHanded {} Tryz.checked os 3 .any (fun w args=>(Rows.polynomialRingSpec.pre enc Tryz.prog Tryz.f3 Rows.polynomialRingRow.domain false w args/\laidMetH Tryz.prog Rows.polynomialRingRow.laid w)/\sizedMet enc Tryz.prog Tryz.f3 (OpenSpec.ofChange Rows.polynomialRingSpec) false w args) (Rows.polynomialRingSpec.post enc Tryz.prog Tryz.f3 false true false false):=by
 refine returnsInHanded_of_change_and (C:=Tryz.checked) (X:=fun w _=>laidMetH Tryz.prog Rows.polynomialRingRow.laid w) (fun _ _ _ b2 h=>h.of_heap b2) own started (by kernel_rfl) Tryz.func3
  (ChangeSpec.witness_shaped (enc:=enc) (C:=Tryz.checked) (os:=os) (X:=fun w _=>laidMetH Tryz.prog Rows.polynomialRingRow.laid w) false (World.doorLaid Tryz.prog 4000 os) #[.slice none 0 0] 8 rfl (World.shaped_of_RefB (by kernel_rfl) (by kernel_rfl)) (by kernel_rfl) (by kernel_rfl) (by kernel_rfl) (met os _)) ?_
 intro W base args abC gs before ako dP aod akN kA _
 have ca:(DataW.weightsEach Tryz.prog (Tryz.f3.params.toList++Rows.polynomialRingSpec.plain.varTypes Tryz.prog) (abC++gs)).all (·<=reachBytes)=true:=akN
 have iX:∀(j:Nat) t v,Tryz.f3.params[j]? =some t->args[j]? =some v->Value.okWide Tryz.prog W .any base t v:=ako
 have an_:=dP
 obtain⟨p,q,tI,fj,rfl,dy,ze⟩:=dP
 have eU:DataW.TrodAll enc Tryz.prog W 0 (fun _=>true) true Tryz.f3.params.toList args.toList abC p:=tI
 rw[Tryz.params3]at eU iX ca
 obtain⟨v0,aoe,d0,aof,ajM,abm,fA,rfl,rfl,aE,zv⟩:=trodAll_cons eU
 obtain⟨rfl,rfl,rfl⟩:=trodAll_nil zv
 obtain rfl:args=#[v0]:=by cases args;simp_all
 obtain⟨rfl,rfl⟩:=trodVars_none fj
 obtain⟨a0,ao8,apB,rfl⟩:=okWide_slice Tryz.underlying22 (iX 0 22 v0 rfl rfl)
 have k7:=aE
 have apF:∀x∈ajM,x.block<W.heap.size:=by obtain⟨m,hm⟩:=k7;exact DataW.trod_lt m _ _ _ hm
 obtain⟨z0,hv⟩:∃j8,GY .i64 W a0 ao8 apB j8:=by
  obtain⟨fuel,aQ⟩:=aE
  rcases open_ints Tryz.underlying22 Tryz.underlying3 (by kernel_rfl) aQ with⟨pB,_⟩|⟨x,l,c,j8,pB,_,aq,hm,bc,_,gA,aai⟩
  ·simp[Value.cells]at pB
   obtain⟨rfl,rfl,rfl⟩:=pB
   exact⟨[], .inl ⟨rfl,rfl,rfl,rfl⟩⟩
  ·simp[Value.cells]at pB
   obtain⟨rfl,rfl,rfl⟩:=pB
   exact⟨j8, .inr ⟨_,rfl,aq,hm,by simpa using bc,gA,aai⟩⟩
 clear tI ako akN ca
 refine(af5 S.m7.s (xs:=[.ints .i64 (z0.take ao8)]) ⟨I.ahw (aiE hv),rfl⟩ rfl ?_).mono fun e Sh ⟨he,aoa⟩=> ?_
 ·intro i hi
  match i with
  |0=>exact af4 hv
  |i+1=>simp at hi<;>omega
 subst he
 exact⟨_,rfl,_,_,_,[],_,[],an_,trodAll_mk1 (shut_bool Tryz.underlying4 _),(trodAll_cons_mk (Below.trod laidOut (by kernel_rfl) (asC (by kernel_rfl)) k7 aoa apF) trodAll_mk0),rfl,aoa.frame _,fun h=>by cases h⟩
theorem over:Rows.polynomialRingRow.holds Tryz.pinned (OpenSpec.ofChange Rows.polynomialRingSpec):=
 OpenClaim.holds_of_wide 3 Tryz.f3 rfl rfl rfl rfl rfl rfl rfl ⟨rfl,rfl,rfl,rfl,rfl⟩ rfl rfl rfl rfl rfl (by kernel_rfl) Tryz.func3 (by kernel_rfl)
  (asC (by kernel_rfl)) (by unfold Func.isWrapper;first|(rw[asq (by decide+kernel)];kernel_rfl)|(rw[asp (by decide+kernel)];exact⟨rfl,rfl⟩))
  (fun os started H enc _=>lifted os started H enc)
theorem anC:Claim7.holds Tryz.pinned (.plain (OpenSpec.ofChange Rows.polynomialRingSpec)) Rows.polynomialRingCard:=
 Claim7.holds_tied_plain_at .later [] [.data, .data, .data] true (true, "c51548f0d069f09bb7cee11aaec875e8fd6a32022490e80e68f18fa0d9625625") false
  over (fun _ h=>by cases h) (by kernel_rfl) (fun _ h=>by cases h) polynomialRing_row_tie rfl ⟨rfl,rfl⟩ (by kernel_rfl) rfl
  (fun f fn aQ aaa=>by
    obtain rfl:f=3:=asB ((show Tryz.prog.funcNamed "exactppl/exactppllaw03.PolynomialRing" =some 3 by kernel_rfl).symm.trans aQ)|>.symm
    obtain rfl:fn=Tryz.f3:=(asB (Tryz.func3.symm.trans aaa)).symm
    exact⟨by kernel_rfl,fun j t aA=>by
     rw[Tryz.params3]at aA
     have hm:t∈[22]:=by simpa using Array.mem_of_getElem? aA
     have yt:([22].all fun u=> !Tryz.prog.wantsStandIn u)=true:=by kernel_rfl
     exact(show Tryz.prog.wantsStandIn t=false by simpa using asH.1 yt t hm)⟩)
  (by kernel_rfl)
theorem proved:Rows.PolynomialRingCardSaid:=anC
end Go.Proofs.YtmeonjefiioegaaGreatDoor.polynomialRing
namespace Go.Proofs.YtmeonjefiioegaaGreatDoor
theorem polynomialRing_holds:Rows.PolynomialRingCardSaid:=polynomialRing.proved
#print axioms polynomialRing_holds
end Go.Proofs.YtmeonjefiioegaaGreatDoor
