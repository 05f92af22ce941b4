/- NaturalInts returns true whatever its arguments are: two ints; no further condition. -/
import Derived.Test.YtcnaceleinmbcaaRows
import Derived.Test.YtcnaceleinmbcaaC
import Derived.WalkKit
import Derived.ProofKit
import Derived.OpenShut
import Derived.ShutString
import Derived.ChangeOld
import Derived.Below
import Derived.SizedLaws
section
open Go Go.Vc
set_option maxRecDepth 1000000
namespace Go.Proofs.Ytcnaceleinmbcaa.S
def E6 : Env := { tys := [(1, { ty := .sc (.other) }), (3, { ty := .sc (.int .i64) }), (4, { ty := .sc (.bool) }), (22, { ty := .sc (.sints .u32), elem := 35, bytes := 4, ecells := [.int .u32], lit := true }), (24, { ty := .sc (.int .i64) })], cons := [(11, dataCon [] Nt.cawake.T), (14, dataCon [.sc (.sints .u32), .sc (.sints .u32)] Nt.cMul.T), (18, dataCon [.sc (.sints .u32), .sc (.sints .u32)] Nt.cAdd.T), (19, dataCon [.sc (.sints .u32), .sc (.sints .u32)] Nt.cCmp.T), (23, dataCon [.sc (.int .i64)] Nt.cFromInt.T), (24, dataCon [.sc (.sints .u32)] Nt.cInt.T)], heads := [], meets := [(53, { slots := [(0, .keep), (1, .keep), (5, .keep), (6, .keep), (7, .keep), (8, .keep), (9, .keep), (10, .keep), (11, .sc (.int .i64))] })] }
theorem ok6 : EnvOk Go.Proofs.Try.prog E6 := .of (by kernel_rfl) (cons_cons s11 (dataCon_ok (spec_ok _)) (cons_cons s14 (dataCon_ok (spec_ok _)) (cons_cons s18 (dataCon_ok (spec_ok _)) (cons_cons s19 (dataCon_ok (spec_ok _)) (cons_cons s23 (dataCon_ok (spec_ok _)) (cons_cons s24 (dataCon_ok (spec_ok _)) cons_nil)))))) (by kernel_rfl)
theorem eq6 (m n : Int) (K : TV → Prop) : awpBody E6 Go.Proofs.Try.f6.ntmps (List.map ResultVar.tmp [4]) (Go.Proofs.Try.f6.body.getD .skip) [.d (.int .i64 m), .d (.int .i64 n)] [] (dataK [.sc .bool] K) = Nt.vc_nlawNaturalInts m n K := by kernel_rfl
theorem s6 : SoundCon Go.Proofs.Try.prog 6 (dataCon [.sc (.int .i64), .sc (.int .i64)] Nt.cNaturalInts.T) := by
  refine data_sound E6 ok6 (fn := Go.Proofs.Try.f6) (c := Go.Proofs.Try.f6.body.getD .skip) (by kernel_rfl) (by kernel_rfl) (by kernel_rfl) (rts := [4]) (by kernel_rfl) (ts := [.sc .bool]) (by kernel_rfl) (Nt.cNaturalInts_el (M := fun args K => awpBody E6 Go.Proofs.Try.f6.ntmps (List.map ResultVar.tmp [4]) (Go.Proofs.Try.f6.body.getD .skip) args [] (dataK [.sc .bool] K)) fun m n K hyp => ?_)
  show awpBody E6 _ _ _ _ _ _
  rw [eq6 m n K]
  exact Nt.p_nlawNaturalInts m n K hyp
end Go.Proofs.Ytcnaceleinmbcaa.S
end
namespace Go.Proofs.Ytcnaceleinmbcaa.naturalInts
open Go.ChangeShapes Go.WideShapes Go.ChangeAt Go.RowKit Go.Vc
open Go.ChangeMaps (open_string shut_string)
set_option linter.unusedVariables false
theorem own : ownKnob Try.prog.godebug = none := by kernel_rfl
theorem laidOut : laidOutB Try.prog = true := by kernel_rfl
set_option maxRecDepth 100000 in
theorem lifted (os : Os) (started : os.Started) (H : Type) (enc : TypeId × Value → H) :
    ReturnsInHanded {} Try.checked os 6 .any (Rows.naturalIntsSpec.pre6 enc Try.prog Try.f6 Rows.naturalIntsRow.domain false) (Rows.naturalIntsSpec.post enc Try.prog Try.f6 false true false false) := by
  refine returnsInHanded_of_change_sized (C := Try.checked) own started (by kernel_rfl) Try.func6
    (ChangeSpec.witness6 (enc := enc) (C := Try.checked) false ⟨#[], #[.int .i64 0, .int .i64 0], []⟩ 8 (by kernel_rfl) (by kernel_rfl) (by kernel_rfl) (by kernel_rfl)) ?_
  intro W base args ds gs before hval0 hW hcnd hsz0 _
  have hsz : (DataW.weightsEach Try.prog (Try.f6.params.toList ++ Rows.naturalIntsSpec.plain.varTypes Try.prog) (ds ++ gs)).all (· ≤ reachBytes) = true := hsz0
  have hval : ∀ (j : Nat) t v, Try.f6.params[j]? = some t → args[j]? = some v → Value.okWide Try.prog W .any base t v := hval0
  have hW' := hW
  obtain ⟨p, q, hA0, hV, rfl, hfz, hnd⟩ := hW
  have hA : DataW.TrodAll enc Try.prog W 0 (fun _ => true) true Try.f6.params.toList args.toList ds p := hA0
  rw [Try.params6] at hA hval hsz
  obtain ⟨v0, vs0, d0, ds0, p0, q0, hargs, rfl, rfl, h0, r0⟩ := trodAll_cons hA
  obtain ⟨v1, vs1, d1, ds1, p1, q1, rfl, rfl, rfl, h1, r1⟩ := trodAll_cons r0
  obtain ⟨rfl, rfl, rfl⟩ := trodAll_nil r1
  obtain rfl : args = #[v0, v1] := by cases args; simp_all
  obtain ⟨rfl, rfl⟩ := trodVars_none hV
  obtain ⟨a0, rfl, rfl, rfl, w0⟩ := open_int Try.underlying3 (hval 0 3 v0 rfl rfl) h0
  obtain ⟨a1, rfl, rfl, rfl, w1⟩ := open_int Try.underlying3 (hval 1 3 v1 rfl rfl) h1
  clear hA0 hval0 hsz0 hsz
  refine (law_calls S.s6 (xs := [.int .i64 a0, .int .i64 a1]) ⟨⟨(Nt.i64_of w0).1, (Nt.i64_of w0).2, Nt.i64_of w1⟩, rfl⟩ rfl ?_).mono fun e W' ⟨he, bel⟩ => ?_
  · intro i hi
    match i with
    | 0 => exact .int _ _
    | 1 => exact .int _ _
    | i + 2 => simp at hi; omega
  subst he
  exact ⟨_, rfl, _, _, _, [], _, [], hW', trodAll_mk1 (shut_bool Try.underlying4 _), (trodAll_cons_mk (shut_int Try.underlying3 w0) (trodAll_cons_mk (shut_int Try.underlying3 w1) trodAll_mk0)), rfl, bel.frame _, fun h => by cases h⟩
theorem over : Rows.naturalIntsRow.holds Try.pinned (OpenSpec.ofChange Rows.naturalIntsSpec) :=
  OpenClaim.holds_of_wide 6 Try.f6 rfl rfl rfl rfl rfl rfl rfl ⟨rfl, rfl, rfl, rfl, rfl⟩ rfl rfl rfl rfl rfl (by kernel_rfl) Try.func6 (by kernel_rfl)
    (of_decide_eq_true (by kernel_rfl)) (by unfold Func.isWrapper; first | (rw [if_pos (by decide +kernel)]; kernel_rfl) | (rw [if_neg (by decide +kernel)]; exact ⟨rfl, rfl⟩))
    (fun os started H enc _ => lifted os started H enc)
theorem proved : Rows.NaturalIntsSaid := over
end Go.Proofs.Ytcnaceleinmbcaa.naturalInts
namespace Go.Proofs.Ytcnaceleinmbcaa
/-- The row, under a short name, for the claim. -/
theorem naturalInts_holds : Rows.NaturalIntsSaid := naturalInts.proved
#print axioms naturalInts_holds
end Go.Proofs.Ytcnaceleinmbcaa
