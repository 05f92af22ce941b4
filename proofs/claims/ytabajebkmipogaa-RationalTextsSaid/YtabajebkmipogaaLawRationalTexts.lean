/- RationalTexts returns true whatever its arguments are: a fraction; no further condition. -/
import Derived.Test.YtabajebkmipogaaRows
import Derived.Test.YtabajebkmipogaaC
import Derived.WalkKit
import Derived.ProofKit
import Derived.OpenShut
import Derived.ShutString
import Derived.ChangeOld
import Derived.Below
import Derived.SizedLaws
section
open Go Go.Vc
set_option maxRecDepth 1000000
namespace Go.Proofs.Ytabajebkmipogaa.S
def E7 : Env := { tys := [(1, { ty := .sc (.other) }), (2, { ty := .sc (.int .i64) }), (3, { ty := .sc (.int .i64) }), (4, { ty := .sc (.bool) }), (9, { ty := .sc (.str) }), (22, { ty := .sc (.sints .u32), elem := 37, bytes := 4, ecells := [.int .u32], lit := true }), (24, { ty := .struct [(0, 1, .sc (.bool)), (1, 1, .sc (.sints .u32)), (2, 1, .sc (.sints .u32))] [.bool, .sints .u32, .sints .u32] }), (31, { ty := .sc (.int .i64) })], cons := [(9, dataCon [.struct [] [.bool, .sints .u32, .sints .u32]] (named Nt.cl2short.T)), (10, dataCon [] (named Nt.cl2awake.T)), (28, dataCon [.struct [] [.bool, .sints .u32, .sints .u32], .struct [] [.bool, .sints .u32, .sints .u32]] (named Nt.crSame.T)), (29, dataCon [.struct [] [.bool, .sints .u32, .sints .u32]] (named Nt.crFormat.T)), (30, dataCon [.sc .str] (named Nt.crParse.T)), (31, dataCon [.struct [] [.bool, .sints .u32, .sints .u32]] (named Nt.cqNumber.T)), (32, dataCon [.sc (.sints .u32)] (named Nt.crefFormat.T))], data := [9, 10, 28, 29, 30, 31, 32], heads := [], meets := [] }
theorem ok7 : EnvOk Go.Proofs.Try.prog E7 := .of (by kernel_rfl) (cons_cons (named_con s9) (dataCon_ok (named_ok (spec_ok _))) (cons_cons (named_con s10) (dataCon_ok (named_ok (spec_ok _))) (cons_cons (named_con s28) (dataCon_ok (named_ok (spec_ok _))) (cons_cons (named_con s29) (dataCon_ok (named_ok (spec_ok _))) (cons_cons (named_con s30) (dataCon_ok (named_ok (spec_ok _))) (cons_cons (named_con s31) (dataCon_ok (named_ok (spec_ok _))) (cons_cons (named_con s32) (dataCon_ok (named_ok (spec_ok _))) cons_nil))))))) (by kernel_rfl) (dat_cons (named_ok (spec_ok _)) rfl (dat_cons (named_ok (spec_ok _)) rfl (dat_cons (named_ok (spec_ok _)) rfl (dat_cons (named_ok (spec_ok _)) rfl (dat_cons (named_ok (spec_ok _)) rfl (dat_cons (named_ok (spec_ok _)) rfl (dat_cons (named_ok (spec_ok _)) rfl dat_nil)))))))
theorem eq7 (s : Bool) (a b : List Int) (K : TV → Prop) : awpBody E7 Go.Proofs.Try.f7.ntmps [.tmp 2] (Go.Proofs.Try.f7.body.getD .skip) [.agg [.d (.bool s), .d (.ints .u32 a), .d (.ints .u32 b)]] [] (dataK [.sc .bool] K) = Nt.vc_nlaw2RationalTexts s a b K := by kernel_rfl
theorem s7 : SoundCon Go.Proofs.Try.prog 7 (dataCon [.struct [] [.bool, .sints .u32, .sints .u32]] Nt.cRationalTexts.T) := by
  refine data_sound E7 ok7 (fn := Go.Proofs.Try.f7) (c := Go.Proofs.Try.f7.body.getD .skip) (by kernel_rfl) (by kernel_rfl) (by kernel_rfl) (rvs := [.tmp 2]) (by kernel_rfl) (ts := [.sc .bool]) (by kernel_rfl) (Nt.cRationalTexts_el (M := fun args K => awpBody E7 Go.Proofs.Try.f7.ntmps [.tmp 2] (Go.Proofs.Try.f7.body.getD .skip) args [] (dataK [.sc .bool] K)) fun s a b K hyp => ?_)
  show awpBody E7 _ _ _ _ _ _
  rw [eq7 s a b K]
  exact Nt.p_nlaw2RationalTexts s a b K hyp
end Go.Proofs.Ytabajebkmipogaa.S
end
namespace Go.Proofs.Ytabajebkmipogaa.rationalTexts
open Go.ChangeShapes Go.WideShapes Go.ChangeAt Go.RowKit Go.Vc
open Go.ChangeMaps (open_string shut_string)
set_option linter.unusedVariables false
theorem own : ownKnob Try.prog.godebug = none := by kernel_rfl
theorem laidOut : laidOutB Try.prog = true := by kernel_rfl
set_option maxRecDepth 100000 in
theorem lifted (os : Os) (started : os.Started) (H : Type) (enc : TypeId × Value → H) :
    ReturnsInHanded {} Try.checked os 7 .any (Rows.rationalTextsSpec.pre6 enc Try.prog Try.f7 Rows.rationalTextsRow.domain false) (Rows.rationalTextsSpec.post enc Try.prog Try.f7 false true false false) := by
  refine returnsInHanded_of_change_sized (C := Try.checked) own started (by kernel_rfl) Try.func7
    (ChangeSpec.witness6 (enc := enc) (C := Try.checked) false ⟨#[], #[.agg #[.bool false, .slice none 0 0, .slice none 0 0]], []⟩ 8 (by kernel_rfl) (by kernel_rfl) (by kernel_rfl) (by kernel_rfl)) ?_
  intro W base args ds gs before hval0 hW hcnd hsz0 _
  have hsz : (DataW.weightsEach Try.prog (Try.f7.params.toList ++ Rows.rationalTextsSpec.plain.varTypes Try.prog) (ds ++ gs)).all (· ≤ reachBytes) = true := hsz0
  have hval : ∀ (j : Nat) t v, Try.f7.params[j]? = some t → args[j]? = some v → Value.okWide Try.prog W .any base t v := hval0
  have hW' := hW
  obtain ⟨p, q, hA0, hV, rfl, hfz, hnd⟩ := hW
  have hA : DataW.TrodAll enc Try.prog W 0 (fun _ => true) true Try.f7.params.toList args.toList ds p := hA0
  rw [Try.params7] at hA hval hsz
  obtain ⟨v0, vs0, d0, ds0, p0, q0, hargs, rfl, rfl, h0, r0⟩ := trodAll_cons hA
  obtain ⟨rfl, rfl, rfl⟩ := trodAll_nil r0
  obtain rfl : args = #[v0] := by cases args; simp_all
  obtain ⟨rfl, rfl⟩ := trodVars_none hV
  obtain ⟨a0, rfl, _⟩ := okWide_struct Try.underlying24 (hval 0 24 v0 rfl rfl)
  have k0 := h0
  have lt0 : ∀ x ∈ p0, x.block < W.heap.size := by obtain ⟨m, hm⟩ := k0; exact DataW.trod_lt m _ _ _ hm
  obtain ⟨avs0, ft0, rd0⟩ : ∃ avs, Sps.fits (.cons .bool (.cons (.ints .u32) (.cons (.ints .u32) .nil))) avs ∧ RdL W avs a0.toList := by
    obtain ⟨fuel, hf⟩ := h0
    exact trod_flat 4 24 _ (by kernel_rfl) fuel _ _ hf
  obtain ⟨s0, x0, y0, rfl, w0⟩ := Nt.frac_fits ft0
  clear hA0 hval0 hsz0 hsz
  refine (law_calls' S.s7 (xs := [.agg [.d (.bool s0), .d (.ints .u32 x0), .d (.ints .u32 y0)]]) ⟨w0, rfl⟩ rfl ?_).mono fun e W' ⟨he, bel⟩ => ?_
  · intro i hi
    match i with
    | 0 => exact arg_agg rd0
    | i + 1 => simp at hi <;> omega
  subst he
  exact ⟨_, rfl, _, _, _, [], _, [], hW', trodAll_mk1 (shut_bool Try.underlying4 _), (trodAll_cons_mk (Below.trod laidOut (by kernel_rfl) (of_decide_eq_true (by kernel_rfl)) k0 bel lt0) trodAll_mk0), rfl, bel.frame _, fun h => by cases h⟩
theorem over : Rows.rationalTextsRow.holds Try.pinned (OpenSpec.ofChange Rows.rationalTextsSpec) :=
  OpenClaim.holds_of_wide 7 Try.f7 rfl rfl rfl rfl rfl rfl rfl ⟨rfl, rfl, rfl, rfl, rfl⟩ rfl rfl rfl rfl rfl (by kernel_rfl) Try.func7 (by kernel_rfl)
    (of_decide_eq_true (by kernel_rfl)) (by unfold Func.isWrapper; first | (rw [if_pos (by decide +kernel)]; kernel_rfl) | (rw [if_neg (by decide +kernel)]; exact ⟨rfl, rfl⟩))
    (fun os started H enc _ => lifted os started H enc)
theorem proved : Rows.RationalTextsSaid := over
end Go.Proofs.Ytabajebkmipogaa.rationalTexts
namespace Go.Proofs.Ytabajebkmipogaa
/-- The row, under a short name, for the claim. -/
theorem rationalTexts_holds : Rows.RationalTextsSaid := rationalTexts.proved
#print axioms rationalTexts_holds
end Go.Proofs.Ytabajebkmipogaa
