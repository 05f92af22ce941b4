/- PolynomialCoefs returns true whatever its arguments are: a list of ints and a byte; no further condition. -/
import Derived.Test.YtmeonjefiioegaaGreatDoorRows
import Derived.Test.YtmeonjefiioegaaGreatDoorCards
import Derived.Test.YtmeonjefiioegaaGreatDoorTie
import Derived.Test.YtmeonjefiioegaaGreatDoorC
import Derived.WalkKit
import Derived.ProofKit
import Derived.OpenShut
import Derived.ShutString
import Derived.ChangeOld
import Derived.Below
import Derived.SizedLaws
import Derived.LaidMore
import Derived.Stop.Joined
import Derived.SevenTiedAt
section
open Go Go.al
set_option maxRecDepth 1000000
namespace Go.Proofs.YtmeonjefiioegaaGreatDoor.S
noncomputable def amH:bw:=b0 (P:=P) b1 [⟨_,akN.n⟩,⟨_,ak6.n⟩,⟨_,Un.n⟩,⟨_,alz.n⟩,⟨_,alC.n⟩,⟨_,alH.n⟩,⟨_,alJ.n⟩,⟨_,alV.n⟩,⟨_,alX.n⟩,⟨_,Uv.n⟩,⟨_,Uw.n⟩,⟨_,al7.n⟩,⟨_,Kf.n⟩] [(0,{bN:=[(5, .ao),(6, .ao),(7, .ao),(9, .ao),(11, .ao),(13, .aB (.dB 11)),(14, .aB (.int .i64))],I:=[.ao]})] []
theorem tN:cr P 6 [.aB (.cu .i64), .aB (.int .u8)] ab.Cm.T:=cM amH bV Go.Proofs.Tryz.f6 [.tmp 4] [Go.al.iy] (ct _) (Go.al.e8 ab.Yd fun l v K bd=>cB (by kernel_rfl) (ab.U9 l v K bd))
end Go.Proofs.YtmeonjefiioegaaGreatDoor.S
end
namespace Go.Proofs.YtmeonjefiioegaaGreatDoor.polynomialCoefs
open Go.ChangeShapes Go.WideShapes Go.ChangeAt Go.RowKit Go.al
open Go.ChangeMaps (open_string shut_string)
set_option linter.unusedVariables false
theorem I:ownKnob Tryz.prog.godebug=none:=by kernel_rfl
theorem laidOut:laidOutB Tryz.prog=true:=by kernel_rfl
theorem met (os:Os)(args:Array Value):laidMetH Tryz.prog Rows.polynomialCoefsRow.laid ((World.doorLaid Tryz.prog 4000 os).forCall (fun _ _=>0) ⟨#[],args,[]⟩).memory:=
 laidMetH_of_parts3 (fuel:=8) (laidMet_of_run' 8 (by kernel_rfl) (by kernel_rfl)) (by kernel_rfl) (by kernel_rfl)
set_option maxRecDepth 100000 in
theorem lifted (os:Os)(started:os.Started)(H:Type)(enc:TypeId×Value->H):
 ReturnsInHanded {} Tryz.checked os 6 .any (fun w args=>(Rows.polynomialCoefsSpec.pre enc Tryz.prog Tryz.f6 Rows.polynomialCoefsRow.domain false w args/\laidMetH Tryz.prog Rows.polynomialCoefsRow.laid w)/\sizedMet enc Tryz.prog Tryz.f6 (OpenSpec.ofChange Rows.polynomialCoefsSpec) false w args) (Rows.polynomialCoefsSpec.post enc Tryz.prog Tryz.f6 false true false false):=by
 refine returnsInHanded_of_change_and (C:=Tryz.checked) (X:=fun w _=>laidMetH Tryz.prog Rows.polynomialCoefsRow.laid w) (fun _ _ _ b6 h=>h.of_heap b6) I started (by kernel_rfl) Tryz.func6
  (ChangeSpec.witness_shaped (enc:=enc) (C:=Tryz.checked) (os:=os) (X:=fun w _=>laidMetH Tryz.prog Rows.polynomialCoefsRow.laid w) false (World.doorLaid Tryz.prog 4000 os) #[.slice none 0 0, .int .u8 0] 8 rfl (World.shaped_of_RefB (by kernel_rfl) (by kernel_rfl)) (by kernel_rfl) (by kernel_rfl) (by kernel_rfl) (met os _)) ?_
 intro W base args F3 gs before Sk jM anW Ti r4 _;have cq:(DataW.weightsEach Tryz.prog (Tryz.f6.params.toList++Rows.polynomialCoefsSpec.plain.varTypes Tryz.prog) (F3++gs)).all (·<=reachBytes)=true:=Ti
 have jy:∀(j:Nat) t v,Tryz.f6.params[j]? =some t->args[j]? =some v->Value.okWide Tryz.prog W .any base t v:=Sk
 have al8:=jM;obtain⟨p,q,pg,jN,rfl,eo,xt⟩:=jM;have dE:DataW.TrodAll enc Tryz.prog W 0 (fun _=>true) true Tryz.f6.params.toList args.toList F3 p:=pg;rw[Tryz.params6]at dE jy cq;obtain⟨v0,aod,d0,aoe,UX,aow,ga,rfl,rfl,bc,AS⟩:=trodAll_cons dE;obtain⟨v1,aof,d1,aog,je,q1,rfl,rfl,rfl,U,dC⟩:=trodAll_cons AS;obtain⟨rfl,rfl,rfl⟩:=trodAll_nil dC;obtain rfl:args=#[v0,v1]:=by cases args;simp_all
 obtain⟨rfl,rfl⟩:=trodVars_none jN;obtain⟨a0,Tj,aiE,rfl⟩:=okWide_slice Tryz.underlying22 (jy 0 22 v0 rfl rfl);have k4:=bc
 have al9:∀x∈UX,x.block<W.heap.size:=by obtain⟨m,hm⟩:=k4;exact DataW.trod_lt m _ _ _ hm
 obtain⟨z0,er⟩:∃mG,IC .i64 W a0 Tj aiE mG:=by
  obtain⟨fuel,aU⟩:=bc;rcases open_ints Tryz.underlying22 Tryz.underlying3 (by kernel_rfl) aU with⟨j1,_⟩|⟨x,l,c,mG,j1,_,ax,hm,bq,_,hf,al_⟩
  ·simp[Value.cells]at j1;obtain⟨rfl,rfl,rfl⟩:=j1;exact⟨[], .inl ⟨rfl,rfl,rfl,rfl⟩⟩
  ·simp[Value.cells]at j1;obtain⟨rfl,rfl,rfl⟩:=j1;exact⟨mG, .inr ⟨_,rfl,ax,hm,by simpa using bq,hf,al_⟩⟩
 obtain⟨a1,rfl,rfl,rfl,w1⟩:=open_int Tryz.underlying5 (jy 1 5 v1 rfl rfl) U;clear pg Sk Ti cq;refine(aaw S.tN.s (xs:=[.ad .i64 (z0.take Tj), .int .u8 a1]) ⟨⟨ab.adS (aer er),ab.ae5 w1⟩,rfl⟩ rfl ?_).mono fun e Ks ⟨he,Ux⟩=> ?_
 ·intro i hi
  match i with
  |0=>exact aav er
  |1=>exact .int _ _
  |i+2=>simp at hi<;>omega
 subst he;exact⟨_,rfl,_,_,_,[],_,[],al8,trodAll_mk1 (shut_bool Tryz.underlying4 _),(trodAll_cons_mk (Below.trod laidOut (by kernel_rfl) (aoJ (by kernel_rfl)) k4 Ux al9) (trodAll_cons_mk (shut_int Tryz.underlying5 w1) trodAll_mk0)),rfl,Ux.frame _,fun h=>by cases h⟩
theorem over:Rows.polynomialCoefsRow.holds Tryz.pinned (OpenSpec.ofChange Rows.polynomialCoefsSpec):=
 OpenClaim.holds_of_wide 6 Tryz.f6 rfl rfl rfl rfl rfl rfl rfl ⟨rfl,rfl,rfl,rfl,rfl⟩ rfl rfl rfl rfl rfl (by kernel_rfl) Tryz.func6 (by kernel_rfl)
  (aoJ (by kernel_rfl)) (by unfold Func.isWrapper;first|(rw[aoy (by decide+kernel)];kernel_rfl)|(rw[aox (by decide+kernel)];exact⟨rfl,rfl⟩))
  (fun os started H enc _=>lifted os started H enc)
theorem aiF:Claim7.holds Tryz.pinned (.plain (OpenSpec.ofChange Rows.polynomialCoefsSpec)) Rows.polynomialCoefsCard:=
 Claim7.holds_tied_plain_at .later [] [.data, .data, .data] true (true, "c51548f0d069f09bb7cee11aaec875e8fd6a32022490e80e68f18fa0d9625625") false
  over (fun _ h=>by cases h) (by kernel_rfl) (fun _ h=>by cases h) polynomialCoefs_row_tie rfl ⟨rfl,rfl⟩ (by kernel_rfl) rfl
  (fun f fn aU J1=>by
    obtain rfl:f=6:=aoK ((show Tryz.prog.funcNamed "exactppl/exactppllaw03.PolynomialCoefs" =some 6 by kernel_rfl).symm.trans aU)|>.symm;obtain rfl:fn=Tryz.f6:=(aoK (Tryz.func6.symm.trans J1)).symm
    exact⟨by kernel_rfl,fun j t au=>by
     rw[Tryz.params6]at au;have hm:t∈[22,5]:=by simpa using Array.mem_of_getElem? au
     have E1:([22,5].all fun u=> !Tryz.prog.wantsStandIn u)=true:=by kernel_rfl
     exact(show Tryz.prog.wantsStandIn t=false by simpa using aoR.1 E1 t hm)⟩)
  (by kernel_rfl)
theorem proved:Rows.PolynomialCoefsCardSaid:=aiF
end Go.Proofs.YtmeonjefiioegaaGreatDoor.polynomialCoefs
namespace Go.Proofs.YtmeonjefiioegaaGreatDoor
theorem polynomialCoefs_holds:Rows.PolynomialCoefsCardSaid:=polynomialCoefs.proved
#print axioms polynomialCoefs_holds
end Go.Proofs.YtmeonjefiioegaaGreatDoor
