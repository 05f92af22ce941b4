/- PolynomialLimits returns true whatever its arguments are: a byte; no further condition. -/
import Derived.Test.YtmeonjefiioegaaGreatDoorRows
import Derived.Test.YtmeonjefiioegaaGreatDoorCards
import Derived.Test.YtmeonjefiioegaaGreatDoorTie
import Derived.Test.YtmeonjefiioegaaGreatDoorC
import Derived.WalkKit
import Derived.ProofKit
import Derived.OpenShut
import Derived.ShutString
import Derived.ChangeOld
import Derived.Below
import Derived.SizedLaws
import Derived.LaidMore
import Derived.Stop.Joined
import Derived.SevenTiedAt
section
open Go Go.bG
set_option maxRecDepth 1000000
namespace Go.Proofs.YtmeonjefiioegaaGreatDoor.S
noncomputable def aoc:Env:=R4 (P:=P) aj3 [⟨_,akP.n⟩,⟨_,anM.n⟩,⟨_,anZ.n⟩,⟨_,an5.n⟩,⟨_,akS.n⟩,⟨_,an9.n⟩] [] []
theorem lR:wy P 4 [.bS (.int .u8)] I.AG.T:=ajs aoc ua Go.Proofs.Tryz.f4 [.tmp 2] [Go.bG.ajX] (ahm _) (I.adV fun v K lo=>aiG (by kernel_rfl) (I.abR v K lo))
end Go.Proofs.YtmeonjefiioegaaGreatDoor.S
end
namespace Go.Proofs.YtmeonjefiioegaaGreatDoor.polynomialLimits
open Go.ChangeShapes Go.WideShapes Go.ChangeAt Go.RowKit Go.bG
open Go.ChangeMaps (open_string shut_string)
set_option linter.unusedVariables false
theorem own:ownKnob Tryz.prog.godebug=none:=by kernel_rfl
theorem laidOut:laidOutB Tryz.prog=true:=by kernel_rfl
theorem met (os:Os) (args:Array Value):laidMetH Tryz.prog Rows.polynomialLimitsRow.laid ((World.doorLaid Tryz.prog 4000 os).forCall (fun _ _=>0) ⟨#[],args,[]⟩).memory:=
 laidMetH_of_parts3 (fuel:=8) (laidMet_of_run' 8 (by kernel_rfl) (by kernel_rfl)) (by kernel_rfl) (by kernel_rfl)
set_option maxRecDepth 100000 in
theorem lifted (os:Os) (started:os.Started) (H:Type) (enc:TypeId×Value->H):
 ReturnsInHanded {} Tryz.checked os 4 .any (fun w args=>(Rows.polynomialLimitsSpec.pre enc Tryz.prog Tryz.f4 Rows.polynomialLimitsRow.domain false w args/\laidMetH Tryz.prog Rows.polynomialLimitsRow.laid w)/\sizedMet enc Tryz.prog Tryz.f4 (OpenSpec.ofChange Rows.polynomialLimitsSpec) false w args) (Rows.polynomialLimitsSpec.post enc Tryz.prog Tryz.f4 false true false false):=by
 refine returnsInHanded_of_change_and (C:=Tryz.checked) (X:=fun w _=>laidMetH Tryz.prog Rows.polynomialLimitsRow.laid w) (fun _ _ _ b2 h=>h.of_heap b2) own started (by kernel_rfl) Tryz.func4
  (ChangeSpec.witness_shaped (enc:=enc) (C:=Tryz.checked) (os:=os) (X:=fun w _=>laidMetH Tryz.prog Rows.polynomialLimitsRow.laid w) false (World.doorLaid Tryz.prog 4000 os) #[.int .u8 0] 8 rfl (World.shaped_of_RefB (by kernel_rfl) (by kernel_rfl)) (by kernel_rfl) (by kernel_rfl) (by kernel_rfl) (met os _)) ?_
 intro W base args abC gs before ako dP aod akN kA _
 have ca:(DataW.weightsEach Tryz.prog (Tryz.f4.params.toList++Rows.polynomialLimitsSpec.plain.varTypes Tryz.prog) (abC++gs)).all (·<=reachBytes)=true:=akN
 have iX:∀(j:Nat) t v,Tryz.f4.params[j]? =some t->args[j]? =some v->Value.okWide Tryz.prog W .any base t v:=ako
 have an_:=dP
 obtain⟨p,q,tI,fj,rfl,dy,ze⟩:=dP
 have eU:DataW.TrodAll enc Tryz.prog W 0 (fun _=>true) true Tryz.f4.params.toList args.toList abC p:=tI
 rw[Tryz.params4]at eU iX ca
 obtain⟨v0,aoe,d0,aof,ajM,abm,fA,rfl,rfl,aE,zv⟩:=trodAll_cons eU
 obtain⟨rfl,rfl,rfl⟩:=trodAll_nil zv
 obtain rfl:args=#[v0]:=by cases args;simp_all
 obtain⟨rfl,rfl⟩:=trodVars_none fj
 obtain⟨a0,rfl,rfl,rfl,hv⟩:=open_int Tryz.underlying5 (iX 0 5 v0 rfl rfl) aE
 clear tI ako akN ca
 refine(af5 S.lR.s (xs:=[.int .u8 a0]) ⟨I.aiJ hv,rfl⟩ rfl ?_).mono fun e Sh ⟨he,aoa⟩=> ?_
 ·intro i hi
  match i with
  |0=>exact .int _ _
  |i+1=>simp at hi<;>omega
 subst he
 exact⟨_,rfl,_,_,_,[],_,[],an_,trodAll_mk1 (shut_bool Tryz.underlying4 _),(trodAll_cons_mk (shut_int Tryz.underlying5 hv) trodAll_mk0),rfl,aoa.frame _,fun h=>by cases h⟩
theorem over:Rows.polynomialLimitsRow.holds Tryz.pinned (OpenSpec.ofChange Rows.polynomialLimitsSpec):=
 OpenClaim.holds_of_wide 4 Tryz.f4 rfl rfl rfl rfl rfl rfl rfl ⟨rfl,rfl,rfl,rfl,rfl⟩ rfl rfl rfl rfl rfl (by kernel_rfl) Tryz.func4 (by kernel_rfl)
  (of_decide_eq_true (by kernel_rfl)) (by unfold Func.isWrapper;first|(rw[if_pos (by decide+kernel)];kernel_rfl)|(rw[if_neg (by decide+kernel)];exact⟨rfl,rfl⟩))
  (fun os started H enc _=>lifted os started H enc)
theorem anC:Claim7.holds Tryz.pinned (.plain (OpenSpec.ofChange Rows.polynomialLimitsSpec)) Rows.polynomialLimitsCard:=
 Claim7.holds_tied_plain_at .later [] [.data, .data, .data] true (true, "c51548f0d069f09bb7cee11aaec875e8fd6a32022490e80e68f18fa0d9625625") false
  over (fun _ h=>by cases h) (by kernel_rfl) (fun _ h=>by cases h) polynomialLimits_row_tie rfl ⟨rfl,rfl⟩ (by kernel_rfl) rfl
  (fun f fn aQ aaa=>by
    obtain rfl:f=4:=Option.some.inj ((show Tryz.prog.funcNamed "exactppl/exactppllaw03.PolynomialLimits" =some 4 by kernel_rfl).symm.trans aQ)|>.symm
    obtain rfl:fn=Tryz.f4:=(Option.some.inj (Tryz.func4.symm.trans aaa)).symm
    exact⟨by kernel_rfl,fun j t aA=>by
     rw[Tryz.params4]at aA
     have hm:t∈[5]:=by simpa using Array.mem_of_getElem? aA
     have yt:([5].all fun u=> !Tryz.prog.wantsStandIn u)=true:=by kernel_rfl
     exact(show Tryz.prog.wantsStandIn t=false by simpa using List.all_eq_true.1 yt t hm)⟩)
  (by kernel_rfl)
theorem proved:Rows.PolynomialLimitsCardSaid:=anC
end Go.Proofs.YtmeonjefiioegaaGreatDoor.polynomialLimits
namespace Go.Proofs.YtmeonjefiioegaaGreatDoor
theorem polynomialLimits_holds:Rows.PolynomialLimitsCardSaid:=polynomialLimits.proved
#print axioms polynomialLimits_holds
end Go.Proofs.YtmeonjefiioegaaGreatDoor
