/- PolynomialDivides returns true whatever its arguments are: a list of ints; no further condition. -/
import Derived.Test.YtmeonjefiioegaaGreatDoorRows
import Derived.Test.YtmeonjefiioegaaGreatDoorCards
import Derived.Test.YtmeonjefiioegaaGreatDoorTie
import Derived.Test.YtmeonjefiioegaaGreatDoorC
import Derived.WalkKit
import Derived.ProofKit
import Derived.OpenShut
import Derived.ShutString
import Derived.ChangeOld
import Derived.Below
import Derived.SizedLaws
import Derived.LaidMore
import Derived.Stop.Joined
import Derived.SevenTiedAt
section
open Go Go.aj
set_option maxRecDepth 1000000
namespace Go.Proofs.YtmeonjefiioegaaGreatDoor.S
noncomputable def amJ:bD:=b2 (P:=P) b3 [⟨_,ak0.n⟩,⟨_,alj.n⟩,⟨_,Uy.n⟩,⟨_,alG.n⟩,⟨_,alQ.n⟩,⟨_,UF.n⟩,⟨_,alV.n⟩,⟨_,al5.n⟩] [] []
theorem KF:cC P 7 [.aE (.cv .i64)] ab.BO.T:=cU amJ bZ Go.Proofs.Tryz.f7 [.tmp 2] [Go.aj.h5] (cE _) (Go.aj.gC ab.WY fun l K bh=>cJ (by kernel_rfl) (ab.Vl l K bh))
end Go.Proofs.YtmeonjefiioegaaGreatDoor.S
end
namespace Go.Proofs.YtmeonjefiioegaaGreatDoor.polynomialDivides
open Go.ChangeShapes Go.WideShapes Go.ChangeAt Go.RowKit Go.aj
open Go.ChangeMaps (open_string shut_string)
set_option linter.unusedVariables false
theorem I:ownKnob Tryz.prog.godebug=none:=by kernel_rfl
theorem laidOut:laidOutB Tryz.prog=true:=by kernel_rfl
theorem met (os:Os)(args:Array Value):laidMetH Tryz.prog Rows.polynomialDividesRow.laid ((World.doorLaid Tryz.prog 4000 os).forCall (fun _ _=>0) ⟨#[],args,[]⟩).memory:=
 laidMetH_of_parts3 (fuel:=8) (laidMet_of_run' 8 (by kernel_rfl) (by kernel_rfl)) (by kernel_rfl) (by kernel_rfl)
set_option maxRecDepth 100000 in
theorem lifted (os:Os)(started:os.Started)(H:Type)(enc:TypeId×Value->H):
 ReturnsInHanded {} Tryz.checked os 7 .any (fun w args=>(Rows.polynomialDividesSpec.pre enc Tryz.prog Tryz.f7 Rows.polynomialDividesRow.domain false w args/\laidMetH Tryz.prog Rows.polynomialDividesRow.laid w)/\sizedMet enc Tryz.prog Tryz.f7 (OpenSpec.ofChange Rows.polynomialDividesSpec) false w args) (Rows.polynomialDividesSpec.post enc Tryz.prog Tryz.f7 false true false false):=by
 refine returnsInHanded_of_change_and (C:=Tryz.checked) (X:=fun w _=>laidMetH Tryz.prog Rows.polynomialDividesRow.laid w) (fun _ _ _ ca h=>h.of_heap ca) I started (by kernel_rfl) Tryz.func7
  (ChangeSpec.witness_shaped (enc:=enc) (C:=Tryz.checked) (os:=os) (X:=fun w _=>laidMetH Tryz.prog Rows.polynomialDividesRow.laid w) false (World.doorLaid Tryz.prog 4000 os) #[.slice none 0 0] 8 rfl (World.shaped_of_RefB (by kernel_rfl) (by kernel_rfl)) (by kernel_rfl) (by kernel_rfl) (by kernel_rfl) (met os _)) ?_
 intro W base args FV gs before Sy qF an1 Tw lZ _;have cr:(DataW.weightsEach Tryz.prog (Tryz.f7.params.toList++Rows.polynomialDividesSpec.plain.varTypes Tryz.prog) (FV++gs)).all (·<=reachBytes)=true:=Tw
 have jZ:∀(j:Nat) t v,Tryz.f7.params[j]? =some t->args[j]? =some v->Value.okWide Tryz.prog W .any base t v:=Sy
 have al6:=qF;obtain⟨p,q,pe,jP,rfl,en,vk⟩:=qF;have dM:DataW.TrodAll enc Tryz.prog W 0 (fun _=>true) true Tryz.f7.params.toList args.toList FV p:=pe;rw[Tryz.params7]at dM jZ cr;obtain⟨v0,aol,d0,aom,pE,gj,gl,rfl,rfl,bc,A5⟩:=trodAll_cons dM;obtain⟨rfl,rfl,rfl⟩:=trodAll_nil A5;obtain rfl:args=#[v0]:=by cases args;simp_all
 obtain⟨rfl,rfl⟩:=trodVars_none jP;obtain⟨a0,Tx,aiO,rfl⟩:=okWide_slice Tryz.underlying22 (jZ 0 22 v0 rfl rfl);have k4:=bc
 have al7:∀x∈pE,x.block<W.heap.size:=by obtain⟨m,hm⟩:=k4;exact DataW.trod_lt m _ _ _ hm
 obtain⟨z0,eo⟩:∃mH,IC .i64 W a0 Tx aiO mH:=by
  obtain⟨fuel,aT⟩:=bc;rcases open_ints Tryz.underlying22 Tryz.underlying3 (by kernel_rfl) aT with⟨j3,_⟩|⟨x,l,c,mH,j3,_,az,hm,bm,_,hp,al8⟩
  ·simp[Value.cells]at j3;obtain⟨rfl,rfl,rfl⟩:=j3;exact⟨[], .inl ⟨rfl,rfl,rfl,rfl⟩⟩
  ·simp[Value.cells]at j3;obtain⟨rfl,rfl,rfl⟩:=j3;exact⟨mH, .inr ⟨_,rfl,az,hm,by simpa using bm,hp,al8⟩⟩
 clear pe Sy Tw cr;refine(aaA S.KF.s (xs:=[.af .i64 (z0.take Tx)]) ⟨ab.adK (aeq eo),rfl⟩ rfl ?_).mono fun e Ky ⟨he,UG⟩=> ?_
 ·intro i hi
  match i with
  |0=>exact aaz eo
  |i+1=>simp at hi<;>omega
 subst he;exact⟨_,rfl,_,_,_,[],_,[],al6,trodAll_mk1 (shut_bool Tryz.underlying4 _),(trodAll_cons_mk (Below.trod laidOut (by kernel_rfl) (aoN (by kernel_rfl)) k4 UG al7) trodAll_mk0),rfl,UG.frame _,fun h=>by cases h⟩
theorem over:Rows.polynomialDividesRow.holds Tryz.pinned (OpenSpec.ofChange Rows.polynomialDividesSpec):=
 OpenClaim.holds_of_wide 7 Tryz.f7 rfl rfl rfl rfl rfl rfl rfl ⟨rfl,rfl,rfl,rfl,rfl⟩ rfl rfl rfl rfl rfl (by kernel_rfl) Tryz.func7 (by kernel_rfl)
  (aoN (by kernel_rfl)) (by unfold Func.isWrapper;first|(rw[aoB (by decide+kernel)];kernel_rfl)|(rw[aoA (by decide+kernel)];exact⟨rfl,rfl⟩))
  (fun os started H enc _=>lifted os started H enc)
theorem aiP:Claim7.holds Tryz.pinned (.plain (OpenSpec.ofChange Rows.polynomialDividesSpec)) Rows.polynomialDividesCard:=
 Claim7.holds_tied_plain_at .later [] [.data, .data, .data] true (true, "c51548f0d069f09bb7cee11aaec875e8fd6a32022490e80e68f18fa0d9625625") false
  over (fun _ h=>by cases h) (by kernel_rfl) (fun _ h=>by cases h) polynomialDivides_row_tie rfl ⟨rfl,rfl⟩ (by kernel_rfl) rfl
  (fun f fn aT J8=>by
    obtain rfl:f=7:=aoL ((show Tryz.prog.funcNamed "exactppl/exactppllaw03.PolynomialDivides" =some 7 by kernel_rfl).symm.trans aT)|>.symm;obtain rfl:fn=Tryz.f7:=(aoL (Tryz.func7.symm.trans J8)).symm
    exact⟨by kernel_rfl,fun j t au=>by
     rw[Tryz.params7]at au;have hm:t∈[22]:=by simpa using Array.mem_of_getElem? au
     have EX:([22].all fun u=> !Tryz.prog.wantsStandIn u)=true:=by kernel_rfl
     exact(show Tryz.prog.wantsStandIn t=false by simpa using aoU.1 EX t hm)⟩)
  (by kernel_rfl)
theorem proved:Rows.PolynomialDividesCardSaid:=aiP
end Go.Proofs.YtmeonjefiioegaaGreatDoor.polynomialDivides
namespace Go.Proofs.YtmeonjefiioegaaGreatDoor
theorem polynomialDivides_holds:Rows.PolynomialDividesCardSaid:=polynomialDivides.proved
#print axioms polynomialDivides_holds
end Go.Proofs.YtmeonjefiioegaaGreatDoor
