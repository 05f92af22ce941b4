/- RationalNormal returns true whatever its arguments are: two fractions; no further condition. -/
import Derived.Test.YtabajebkmipogaaRows
import Derived.Test.YtabajebkmipogaaC
import Derived.WalkKit
import Derived.ProofKit
import Derived.OpenShut
import Derived.ShutString
import Derived.ChangeOld
import Derived.Below
import Derived.SizedLaws
section
open Go Go.Vc
set_option maxRecDepth 1000000
namespace Go.Proofs.Ytabajebkmipogaa.S
def E3 : Env := { tys := [(1, { ty := .sc (.other) }), (2, { ty := .sc (.int .i64) }), (3, { ty := .sc (.int .i64) }), (4, { ty := .sc (.bool) }), (6, { ty := .sc (.int .u8) }), (22, { ty := .sc (.sints .u32), elem := 37, bytes := 4, ecells := [.int .u32], lit := true }), (24, { ty := .struct [(0, 1, .sc (.bool)), (1, 1, .sc (.sints .u32)), (2, 1, .sc (.sints .u32))] [.bool, .sints .u32, .sints .u32] }), (30, { ty := .sc (.srows 3), elem := 24, bytes := 56, ecells := [.bool, .sints .u32, .sints .u32] }), (31, { ty := .sc (.int .i64) })], cons := [(9, dataCon [.struct [] [.bool, .sints .u32, .sints .u32]] (named Nt.cl2short.T)), (10, dataCon [] (named Nt.cl2awake.T)), (11, dataCon [.struct [] [.bool, .sints .u32, .sints .u32]] (named Nt.cnumber.T)), (12, dataCon [.struct [] [.bool, .sints .u32, .sints .u32], .struct [] [.bool, .sints .u32, .sints .u32]] (named Nt.crAdd.T)), (13, dataCon [.struct [] [.bool, .sints .u32, .sints .u32], .struct [] [.bool, .sints .u32, .sints .u32]] (named Nt.crSub.T)), (14, dataCon [.struct [] [.bool, .sints .u32, .sints .u32], .struct [] [.bool, .sints .u32, .sints .u32]] (named Nt.crMul.T)), (15, dataCon [.struct [] [.bool, .sints .u32, .sints .u32]] (named Nt.crNeg.T)), (16, dataCon [.sc (.int .i64)] (named Nt.crInt.T)), (17, dataCon [.struct [] [.bool, .sints .u32, .sints .u32], .struct [] [.bool, .sints .u32, .sints .u32]] (named Nt.crDiv.T)), (18, dataCon [.sc (.sints .u32)] (named Nt.crefNormal.T)), (19, dataCon [.sc (.sints .u32), .sc (.sints .u32)] (named Nt.cSame.T)), (20, dataCon [.sc (.sints .u32), .sc (.sints .u32)] (named Nt.crefGCD.T))], data := [9, 10, 11, 12, 13, 14, 15, 16, 17, 18, 19, 20], heads := [(0, { slots := [(5, .keep), (8, .sc (.int .i64))], own := [.keep, .keep, .rows 3] })], meets := [(45, { slots := [(5, .keep)], own := [.keep, .keep, .rows 3] })] }
theorem ok3 : EnvOk Go.Proofs.Try.prog E3 := .of (by kernel_rfl) (cons_cons (named_con s9) (dataCon_ok (named_ok (spec_ok _))) (cons_cons (named_con s10) (dataCon_ok (named_ok (spec_ok _))) (cons_cons (named_con s11) (dataCon_ok (named_ok (spec_ok _))) (cons_cons (named_con s12) (dataCon_ok (named_ok (spec_ok _))) (cons_cons (named_con s13) (dataCon_ok (named_ok (spec_ok _))) (cons_cons (named_con s14) (dataCon_ok (named_ok (spec_ok _))) (cons_cons (named_con s15) (dataCon_ok (named_ok (spec_ok _))) (cons_cons (named_con s16) (dataCon_ok (named_ok (spec_ok _))) (cons_cons (named_con s17) (dataCon_ok (named_ok (spec_ok _))) (cons_cons (named_con s18) (dataCon_ok (named_ok (spec_ok _))) (cons_cons (named_con s19) (dataCon_ok (named_ok (spec_ok _))) (cons_cons (named_con s20) (dataCon_ok (named_ok (spec_ok _))) cons_nil)))))))))))) (by kernel_rfl) (dat_cons (named_ok (spec_ok _)) rfl (dat_cons (named_ok (spec_ok _)) rfl (dat_cons (named_ok (spec_ok _)) rfl (dat_cons (named_ok (spec_ok _)) rfl (dat_cons (named_ok (spec_ok _)) rfl (dat_cons (named_ok (spec_ok _)) rfl (dat_cons (named_ok (spec_ok _)) rfl (dat_cons (named_ok (spec_ok _)) rfl (dat_cons (named_ok (spec_ok _)) rfl (dat_cons (named_ok (spec_ok _)) rfl (dat_cons (named_ok (spec_ok _)) rfl (dat_cons (named_ok (spec_ok _)) rfl dat_nil))))))))))))
theorem eq3 (s : Bool) (a b : List Int) (t : Bool) (c d : List Int) (K : TV → Prop) : awpBody E3 Go.Proofs.Try.f3.ntmps [.tmp 4] (Go.Proofs.Try.f3.body.getD .skip) [.agg [.d (.bool s), .d (.ints .u32 a), .d (.ints .u32 b)], .agg [.d (.bool t), .d (.ints .u32 c), .d (.ints .u32 d)]] [] (dataK [.sc .bool] K) = Nt.vc_nlaw2RationalNormal s a b t c d K := by kernel_rfl
theorem s3 : SoundCon Go.Proofs.Try.prog 3 (dataCon [.struct [] [.bool, .sints .u32, .sints .u32], .struct [] [.bool, .sints .u32, .sints .u32]] Nt.cRationalNormal.T) := by
  refine data_sound E3 ok3 (fn := Go.Proofs.Try.f3) (c := Go.Proofs.Try.f3.body.getD .skip) (by kernel_rfl) (by kernel_rfl) (by kernel_rfl) (rvs := [.tmp 4]) (by kernel_rfl) (ts := [.sc .bool]) (by kernel_rfl) (Nt.cRationalNormal_el (M := fun args K => awpBody E3 Go.Proofs.Try.f3.ntmps [.tmp 4] (Go.Proofs.Try.f3.body.getD .skip) args [] (dataK [.sc .bool] K)) fun s a b t c d K hyp => ?_)
  show awpBody E3 _ _ _ _ _ _
  rw [eq3 s a b t c d K]
  exact Nt.p_nlaw2RationalNormal s a b t c d K hyp
end Go.Proofs.Ytabajebkmipogaa.S
end
namespace Go.Proofs.Ytabajebkmipogaa.rationalNormal
open Go.ChangeShapes Go.WideShapes Go.ChangeAt Go.RowKit Go.Vc
open Go.ChangeMaps (open_string shut_string)
set_option linter.unusedVariables false
theorem own : ownKnob Try.prog.godebug = none := by kernel_rfl
theorem laidOut : laidOutB Try.prog = true := by kernel_rfl
set_option maxRecDepth 100000 in
theorem lifted (os : Os) (started : os.Started) (H : Type) (enc : TypeId × Value → H) :
    ReturnsInHanded {} Try.checked os 3 .any (Rows.rationalNormalSpec.pre6 enc Try.prog Try.f3 Rows.rationalNormalRow.domain false) (Rows.rationalNormalSpec.post enc Try.prog Try.f3 false true false false) := by
  refine returnsInHanded_of_change_sized (C := Try.checked) own started (by kernel_rfl) Try.func3
    (ChangeSpec.witness6 (enc := enc) (C := Try.checked) false ⟨#[], #[.agg #[.bool false, .slice none 0 0, .slice none 0 0], .agg #[.bool false, .slice none 0 0, .slice none 0 0]], []⟩ 8 (by kernel_rfl) (by kernel_rfl) (by kernel_rfl) (by kernel_rfl)) ?_
  intro W base args ds gs before hval0 hW hcnd hsz0 _
  have hsz : (DataW.weightsEach Try.prog (Try.f3.params.toList ++ Rows.rationalNormalSpec.plain.varTypes Try.prog) (ds ++ gs)).all (· ≤ reachBytes) = true := hsz0
  have hval : ∀ (j : Nat) t v, Try.f3.params[j]? = some t → args[j]? = some v → Value.okWide Try.prog W .any base t v := hval0
  have hW' := hW
  obtain ⟨p, q, hA0, hV, rfl, hfz, hnd⟩ := hW
  have hA : DataW.TrodAll enc Try.prog W 0 (fun _ => true) true Try.f3.params.toList args.toList ds p := hA0
  rw [Try.params3] at hA hval hsz
  obtain ⟨v0, vs0, d0, ds0, p0, q0, hargs, rfl, rfl, h0, r0⟩ := trodAll_cons hA
  obtain ⟨v1, vs1, d1, ds1, p1, q1, rfl, rfl, rfl, h1, r1⟩ := trodAll_cons r0
  obtain ⟨rfl, rfl, rfl⟩ := trodAll_nil r1
  obtain rfl : args = #[v0, v1] := by cases args; simp_all
  obtain ⟨rfl, rfl⟩ := trodVars_none hV
  obtain ⟨a0, rfl, _⟩ := okWide_struct Try.underlying24 (hval 0 24 v0 rfl rfl)
  have k0 := h0
  have lt0 : ∀ x ∈ p0, x.block < W.heap.size := by obtain ⟨m, hm⟩ := k0; exact DataW.trod_lt m _ _ _ hm
  obtain ⟨avs0, ft0, rd0⟩ : ∃ avs, Sps.fits (.cons .bool (.cons (.ints .u32) (.cons (.ints .u32) .nil))) avs ∧ RdL W avs a0.toList := by
    obtain ⟨fuel, hf⟩ := h0
    exact trod_flat 4 24 _ (by kernel_rfl) fuel _ _ hf
  obtain ⟨s0, x0, y0, rfl, w0⟩ := Nt.frac_fits ft0
  obtain ⟨a1, rfl, _⟩ := okWide_struct Try.underlying24 (hval 1 24 v1 rfl rfl)
  have k1 := h1
  have lt1 : ∀ x ∈ p1, x.block < W.heap.size := by obtain ⟨m, hm⟩ := k1; exact DataW.trod_lt m _ _ _ hm
  obtain ⟨avs1, ft1, rd1⟩ : ∃ avs, Sps.fits (.cons .bool (.cons (.ints .u32) (.cons (.ints .u32) .nil))) avs ∧ RdL W avs a1.toList := by
    obtain ⟨fuel, hf⟩ := h1
    exact trod_flat 4 24 _ (by kernel_rfl) fuel _ _ hf
  obtain ⟨s1, x1, y1, rfl, w1⟩ := Nt.frac_fits ft1
  clear hA0 hval0 hsz0 hsz
  refine (law_calls' S.s3 (xs := [.agg [.d (.bool s0), .d (.ints .u32 x0), .d (.ints .u32 y0)], .agg [.d (.bool s1), .d (.ints .u32 x1), .d (.ints .u32 y1)]]) ⟨⟨w0.1, w0.2, w1.1, w1.2⟩, rfl⟩ rfl ?_).mono fun e W' ⟨he, bel⟩ => ?_
  · intro i hi
    match i with
    | 0 => exact arg_agg rd0
    | 1 => exact arg_agg rd1
    | i + 2 => simp at hi <;> omega
  subst he
  exact ⟨_, rfl, _, _, _, [], _, [], hW', trodAll_mk1 (shut_bool Try.underlying4 _), (trodAll_cons_mk (Below.trod laidOut (by kernel_rfl) (of_decide_eq_true (by kernel_rfl)) k0 bel lt0) (trodAll_cons_mk (Below.trod laidOut (by kernel_rfl) (of_decide_eq_true (by kernel_rfl)) k1 bel lt1) trodAll_mk0)), rfl, bel.frame _, fun h => by cases h⟩
theorem over : Rows.rationalNormalRow.holds Try.pinned (OpenSpec.ofChange Rows.rationalNormalSpec) :=
  OpenClaim.holds_of_wide 3 Try.f3 rfl rfl rfl rfl rfl rfl rfl ⟨rfl, rfl, rfl, rfl, rfl⟩ rfl rfl rfl rfl rfl (by kernel_rfl) Try.func3 (by kernel_rfl)
    (of_decide_eq_true (by kernel_rfl)) (by unfold Func.isWrapper; first | (rw [if_pos (by decide +kernel)]; kernel_rfl) | (rw [if_neg (by decide +kernel)]; exact ⟨rfl, rfl⟩))
    (fun os started H enc _ => lifted os started H enc)
theorem proved : Rows.RationalNormalSaid := over
end Go.Proofs.Ytabajebkmipogaa.rationalNormal
namespace Go.Proofs.Ytabajebkmipogaa
/-- The row, under a short name, for the claim. -/
theorem rationalNormal_holds : Rows.RationalNormalSaid := rationalNormal.proved
#print axioms rationalNormal_holds
end Go.Proofs.Ytabajebkmipogaa
