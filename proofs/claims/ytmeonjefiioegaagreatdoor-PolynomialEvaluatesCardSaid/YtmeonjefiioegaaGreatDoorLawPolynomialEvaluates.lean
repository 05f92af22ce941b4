/- PolynomialEvaluates returns true whatever its arguments are: a list of ints and a byte; no further condition. -/
import Derived.Test.YtmeonjefiioegaaGreatDoorRows
import Derived.Test.YtmeonjefiioegaaGreatDoorCards
import Derived.Test.YtmeonjefiioegaaGreatDoorTie
import Derived.Test.YtmeonjefiioegaaGreatDoorC
import Derived.WalkKit
import Derived.ProofKit
import Derived.OpenShut
import Derived.ShutString
import Derived.ChangeOld
import Derived.Below
import Derived.SizedLaws
import Derived.LaidMore
import Derived.Stop.Joined
import Derived.SevenTiedAt
section
open Go Go.ak
set_option maxRecDepth 1000000
namespace Go.Proofs.YtmeonjefiioegaaGreatDoor.S
noncomputable def anw:bA:=b2 (P:=P) b3 [⟨_,alP.n⟩,⟨_,al9.n⟩,⟨_,Vy.n⟩,⟨_,Vz.n⟩,⟨_,ams.n⟩,⟨_,amu.n⟩,⟨_,amy.n⟩,⟨_,amH.n⟩,⟨_,VD.n⟩,⟨_,amJ.n⟩,⟨_,amS.n⟩,⟨_,amW.n⟩] [] []
theorem anx:cF P 8 [.aG (.cp .i64), .aG (.int .u8)] aa.BX.T:=cY anw bZ Go.Proofs.Tryz.f8 [.tmp 4] [Go.ak.jC] (cJ _) (Go.ak.gm aa.W_ fun l v K bg=>cM (by kernel_rfl) (aa.Wf l v K bg))
end Go.Proofs.YtmeonjefiioegaaGreatDoor.S
end
namespace Go.Proofs.YtmeonjefiioegaaGreatDoor.polynomialEvaluates
open Go.ChangeShapes Go.WideShapes Go.ChangeAt Go.RowKit Go.ak
open Go.ChangeMaps (open_string shut_string)
set_option linter.unusedVariables false
theorem I:ownKnob Tryz.prog.godebug=none:=by kernel_rfl
theorem laidOut:laidOutB Tryz.prog=true:=by kernel_rfl
theorem met (os:Os)(args:Array Value):laidMetH Tryz.prog Rows.polynomialEvaluatesRow.laid ((World.doorLaid Tryz.prog 4000 os).forCall (fun _ _=>0) ⟨#[],args,[]⟩).memory:=
 laidMetH_of_parts3 (fuel:=8) (laidMet_of_run' 8 (by kernel_rfl) (by kernel_rfl)) (by kernel_rfl) (by kernel_rfl)
set_option maxRecDepth 100000 in
theorem lifted (os:Os)(started:os.Started)(H:Type)(enc:TypeId×Value->H):
 ReturnsInHanded {} Tryz.checked os 8 .any (fun w args=>(Rows.polynomialEvaluatesSpec.pre enc Tryz.prog Tryz.f8 Rows.polynomialEvaluatesRow.domain false w args/\laidMetH Tryz.prog Rows.polynomialEvaluatesRow.laid w)/\sizedMet enc Tryz.prog Tryz.f8 (OpenSpec.ofChange Rows.polynomialEvaluatesSpec) false w args) (Rows.polynomialEvaluatesSpec.post enc Tryz.prog Tryz.f8 false true false false):=by
 refine returnsInHanded_of_change_and (C:=Tryz.checked) (X:=fun w _=>laidMetH Tryz.prog Rows.polynomialEvaluatesRow.laid w) (fun _ _ _ b5 h=>h.of_heap b5) I started (by kernel_rfl) Tryz.func8
  (ChangeSpec.witness_shaped (enc:=enc) (C:=Tryz.checked) (os:=os) (X:=fun w _=>laidMetH Tryz.prog Rows.polynomialEvaluatesRow.laid w) false (World.doorLaid Tryz.prog 4000 os) #[.slice none 0 0, .int .u8 0] 8 rfl (World.shaped_of_RefB (by kernel_rfl) (by kernel_rfl)) (by kernel_rfl) (by kernel_rfl) (by kernel_rfl) (met os _)) ?_
 intro W base args Gv gs before Tr ln aoV Um yg _;have cx:(DataW.weightsEach Tryz.prog (Tryz.f8.params.toList++Rows.polynomialEvaluatesSpec.plain.varTypes Tryz.prog) (Gv++gs)).all (·<=reachBytes)=true:=Um
 have jL:∀(j:Nat) t v,Tryz.f8.params[j]? =some t->args[j]? =some v->Value.okWide Tryz.prog W .any base t v:=Tr
 have amX:=ln;obtain⟨p,q,pz,hE,rfl,ep,vA⟩:=ln;have dG:DataW.TrodAll enc Tryz.prog W 0 (fun _=>true) true Tryz.f8.params.toList args.toList Gv p:=pz;rw[Tryz.params8]at dG jL cx;obtain⟨v0,apd,d0,ape,V4,apx,fR,rfl,rfl,bc,Bx⟩:=trodAll_cons dG;obtain⟨v1,apf,d1,apg,jq,q1,rfl,rfl,rfl,ab,dX⟩:=trodAll_cons Bx;obtain⟨rfl,rfl,rfl⟩:=trodAll_nil dX;obtain rfl:args=#[v0,v1]:=by cases args;simp_all
 obtain⟨rfl,rfl⟩:=trodVars_none hE;obtain⟨a0,Un,ajF,rfl⟩:=okWide_slice Tryz.underlying22 (jL 0 22 v0 rfl rfl);have la:=bc
 have amY:∀x∈V4,x.block<W.heap.size:=by obtain⟨m,hm⟩:=la;exact DataW.trod_lt m _ _ _ hm
 obtain⟨z0,er⟩:∃mL,I7 .i64 W a0 Un ajF mL:=by
  obtain⟨fuel,aU⟩:=bc;rcases open_ints Tryz.underlying22 Tryz.underlying3 (by kernel_rfl) aU with⟨j6,_⟩|⟨x,l,c,mL,j6,_,ax,hm,bm,_,hv,amZ⟩
  ·simp[Value.cells]at j6;obtain⟨rfl,rfl,rfl⟩:=j6;exact⟨[], .inl ⟨rfl,rfl,rfl,rfl⟩⟩
  ·simp[Value.cells]at j6;obtain⟨rfl,rfl,rfl⟩:=j6;exact⟨mL, .inr ⟨_,rfl,ax,hm,by simpa using bm,hv,amZ⟩⟩
 obtain⟨a1,rfl,rfl,rfl,w1⟩:=open_int Tryz.underlying5 (jL 1 5 v1 rfl rfl) ab;clear pz Tr Um cx;refine(abq S.anx.s (xs:=[.af .i64 (z0.take Un), .int .u8 a1]) ⟨⟨aa.aeH (afk er),aa.afY w1⟩,rfl⟩ rfl ?_).mono fun e Lm ⟨he,VE⟩=> ?_
 ·intro i hi
  match i with
  |0=>exact abp er
  |1=>exact .int _ _
  |i+2=>simp at hi<;>omega
 subst he;exact⟨_,rfl,_,_,_,[],_,[],amX,trodAll_mk1 (shut_bool Tryz.underlying4 _),(trodAll_cons_mk (Below.trod laidOut (by kernel_rfl) (apJ (by kernel_rfl)) la VE amY) (trodAll_cons_mk (shut_int Tryz.underlying5 w1) trodAll_mk0)),rfl,VE.frame _,fun h=>by cases h⟩
theorem over:Rows.polynomialEvaluatesRow.holds Tryz.pinned (OpenSpec.ofChange Rows.polynomialEvaluatesSpec):=
 OpenClaim.holds_of_wide 8 Tryz.f8 rfl rfl rfl rfl rfl rfl rfl ⟨rfl,rfl,rfl,rfl,rfl⟩ rfl rfl rfl rfl rfl (by kernel_rfl) Tryz.func8 (by kernel_rfl)
  (apJ (by kernel_rfl)) (by unfold Func.isWrapper;first|(rw[apz (by decide+kernel)];kernel_rfl)|(rw[apy (by decide+kernel)];exact⟨rfl,rfl⟩))
  (fun os started H enc _=>lifted os started H enc)
theorem ajG:Claim7.holds Tryz.pinned (.plain (OpenSpec.ofChange Rows.polynomialEvaluatesSpec)) Rows.polynomialEvaluatesCard:=
 Claim7.holds_tied_plain_at .later [] [.data, .data, .data] true (true, "c51548f0d069f09bb7cee11aaec875e8fd6a32022490e80e68f18fa0d9625625") false
  over (fun _ h=>by cases h) (by kernel_rfl) (fun _ h=>by cases h) polynomialEvaluates_row_tie rfl ⟨rfl,rfl⟩ (by kernel_rfl) rfl
  (fun f fn aU KS=>by
    obtain rfl:f=8:=apK ((show Tryz.prog.funcNamed "exactppl/exactppllaw03.PolynomialEvaluates" =some 8 by kernel_rfl).symm.trans aU)|>.symm;obtain rfl:fn=Tryz.f8:=(apK (Tryz.func8.symm.trans KS)).symm
    exact⟨by kernel_rfl,fun j t aw=>by
     rw[Tryz.params8]at aw;have hm:t∈[22,5]:=by simpa using Array.mem_of_getElem? aw
     have Fw:([22,5].all fun u=> !Tryz.prog.wantsStandIn u)=true:=by kernel_rfl
     exact(show Tryz.prog.wantsStandIn t=false by simpa using apR.1 Fw t hm)⟩)
  (by kernel_rfl)
theorem proved:Rows.PolynomialEvaluatesCardSaid:=ajG
end Go.Proofs.YtmeonjefiioegaaGreatDoor.polynomialEvaluates
namespace Go.Proofs.YtmeonjefiioegaaGreatDoor
theorem polynomialEvaluates_holds:Rows.PolynomialEvaluatesCardSaid:=polynomialEvaluates.proved
#print axioms polynomialEvaluates_holds
end Go.Proofs.YtmeonjefiioegaaGreatDoor
