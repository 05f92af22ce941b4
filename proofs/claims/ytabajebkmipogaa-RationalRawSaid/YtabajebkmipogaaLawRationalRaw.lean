/- RationalRaw returns true whatever its arguments are: two fractions, three ints and a string; no further condition. -/
import Derived.Test.YtabajebkmipogaaRows
import Derived.Test.YtabajebkmipogaaC
import Derived.WalkKit
import Derived.ProofKit
import Derived.OpenShut
import Derived.ShutString
import Derived.ChangeOld
import Derived.Below
import Derived.SizedLaws
section
open Go Go.Vc
set_option maxRecDepth 1000000
namespace Go.Proofs.Ytabajebkmipogaa.S
def E8 : Env := { tys := [(1, { ty := .sc (.other) }), (3, { ty := .sc (.int .i64) }), (4, { ty := .sc (.bool) }), (9, { ty := .sc (.str) }), (22, { ty := .sc (.sints .u32), elem := 37, bytes := 4, ecells := [.int .u32], lit := true }), (24, { ty := .struct [(0, 1, .sc (.bool)), (1, 1, .sc (.sints .u32)), (2, 1, .sc (.sints .u32))] [.bool, .sints .u32, .sints .u32] }), (31, { ty := .sc (.int .i64) })], cons := [(9, dataCon [.struct [] [.bool, .sints .u32, .sints .u32]] (named Nt.cl2short.T)), (10, dataCon [] (named Nt.cl2awake.T)), (16, dataCon [.sc (.int .i64)] (named Nt.crInt.T)), (28, dataCon [.struct [] [.bool, .sints .u32, .sints .u32], .struct [] [.bool, .sints .u32, .sints .u32]] (named Nt.crSame.T)), (30, dataCon [.sc .str] (named Nt.crParse.T)), (33, dataCon [.sc (.int .i64), .sc (.int .i64)] (named Nt.crNew.T)), (34, dataCon [.sc (.int .i64), .sc (.int .i64)] (named Nt.crNew.T)), (35, dataCon [.sc .str] (named Nt.crParse.T)), (36, dataCon [.sc .bool, .sc (.sints .u32), .sc (.sints .u32)] (named Nt.crMake.T)), (37, dataCon [.sc .bool, .sc (.sints .u32), .sc (.sints .u32)] (named Nt.cqMake.T)), (38, dataCon [.sc (.int .i64)] (named Nt.crInt.T)), (39, dataCon [.struct [] [.bool, .sints .u32, .sints .u32], .struct [] [.bool, .sints .u32, .sints .u32]] (named Nt.cl2agrees.T))], data := [9, 10, 16, 28, 30, 33, 34, 35, 36, 37, 38, 39], heads := [], meets := [] }
theorem ok8 : EnvOk Go.Proofs.Try.prog E8 := .of (by kernel_rfl) (cons_cons (named_con s9) (dataCon_ok (named_ok (spec_ok _))) (cons_cons (named_con s10) (dataCon_ok (named_ok (spec_ok _))) (cons_cons (named_con s16) (dataCon_ok (named_ok (spec_ok _))) (cons_cons (named_con s28) (dataCon_ok (named_ok (spec_ok _))) (cons_cons (named_con s30) (dataCon_ok (named_ok (spec_ok _))) (cons_cons (named_con s33) (dataCon_ok (named_ok (spec_ok _))) (cons_cons (named_con s34) (dataCon_ok (named_ok (spec_ok _))) (cons_cons (named_con s35) (dataCon_ok (named_ok (spec_ok _))) (cons_cons (named_con s36) (dataCon_ok (named_ok (spec_ok _))) (cons_cons (named_con s37) (dataCon_ok (named_ok (spec_ok _))) (cons_cons (named_con s38) (dataCon_ok (named_ok (spec_ok _))) (cons_cons (named_con s39) (dataCon_ok (named_ok (spec_ok _))) cons_nil)))))))))))) (by kernel_rfl) (dat_cons (named_ok (spec_ok _)) rfl (dat_cons (named_ok (spec_ok _)) rfl (dat_cons (named_ok (spec_ok _)) rfl (dat_cons (named_ok (spec_ok _)) rfl (dat_cons (named_ok (spec_ok _)) rfl (dat_cons (named_ok (spec_ok _)) rfl (dat_cons (named_ok (spec_ok _)) rfl (dat_cons (named_ok (spec_ok _)) rfl (dat_cons (named_ok (spec_ok _)) rfl (dat_cons (named_ok (spec_ok _)) rfl (dat_cons (named_ok (spec_ok _)) rfl (dat_cons (named_ok (spec_ok _)) rfl dat_nil))))))))))))
theorem eq8 (s : Bool) (a b : List Int) (t : Bool) (c d : List Int) (x y n : Int) (u : List Int) (K : TV → Prop) : awpBody E8 Go.Proofs.Try.f8.ntmps [.tmp 12] (Go.Proofs.Try.f8.body.getD .skip) [.agg [.d (.bool s), .d (.ints .u32 a), .d (.ints .u32 b)], .agg [.d (.bool t), .d (.ints .u32 c), .d (.ints .u32 d)], .d (.int .i64 x), .d (.int .i64 y), .d (.int .i64 n), .d (.str u)] [] (dataK [.sc .bool] K) = Nt.vc_nlaw2RationalRaw s a b t c d x y n u K := by kernel_rfl
theorem s8 : SoundCon Go.Proofs.Try.prog 8 (dataCon [.struct [] [.bool, .sints .u32, .sints .u32], .struct [] [.bool, .sints .u32, .sints .u32], .sc (.int .i64), .sc (.int .i64), .sc (.int .i64), .sc .str] Nt.cRationalRaw.T) := by
  refine data_sound E8 ok8 (fn := Go.Proofs.Try.f8) (c := Go.Proofs.Try.f8.body.getD .skip) (by kernel_rfl) (by kernel_rfl) (by kernel_rfl) (rvs := [.tmp 12]) (by kernel_rfl) (ts := [.sc .bool]) (by kernel_rfl) (Nt.cRationalRaw_el (M := fun args K => awpBody E8 Go.Proofs.Try.f8.ntmps [.tmp 12] (Go.Proofs.Try.f8.body.getD .skip) args [] (dataK [.sc .bool] K)) fun s a b t c d x y n u K hyp => ?_)
  show awpBody E8 _ _ _ _ _ _
  rw [eq8 s a b t c d x y n u K]
  exact Nt.p_nlaw2RationalRaw s a b t c d x y n u K hyp
end Go.Proofs.Ytabajebkmipogaa.S
end
namespace Go.Proofs.Ytabajebkmipogaa.rationalRaw
open Go.ChangeShapes Go.WideShapes Go.ChangeAt Go.RowKit Go.Vc
open Go.ChangeMaps (open_string shut_string)
set_option linter.unusedVariables false
theorem own : ownKnob Try.prog.godebug = none := by kernel_rfl
theorem laidOut : laidOutB Try.prog = true := by kernel_rfl
set_option maxRecDepth 100000 in
theorem lifted (os : Os) (started : os.Started) (H : Type) (enc : TypeId × Value → H) :
    ReturnsInHanded {} Try.checked os 8 .any (Rows.rationalRawSpec.pre6 enc Try.prog Try.f8 Rows.rationalRawRow.domain false) (Rows.rationalRawSpec.post enc Try.prog Try.f8 false true false false) := by
  refine returnsInHanded_of_change_sized (C := Try.checked) own started (by kernel_rfl) Try.func8
    (ChangeSpec.witness6 (enc := enc) (C := Try.checked) false ⟨#[], #[.agg #[.bool false, .slice none 0 0, .slice none 0 0], .agg #[.bool false, .slice none 0 0, .slice none 0 0], .int .i64 0, .int .i64 0, .int .i64 0, .string ByteArray.empty], []⟩ 8 (by kernel_rfl) (by kernel_rfl) (by kernel_rfl) (by kernel_rfl)) ?_
  intro W base args ds gs before hval0 hW hcnd hsz0 _
  have hsz : (DataW.weightsEach Try.prog (Try.f8.params.toList ++ Rows.rationalRawSpec.plain.varTypes Try.prog) (ds ++ gs)).all (· ≤ reachBytes) = true := hsz0
  have hval : ∀ (j : Nat) t v, Try.f8.params[j]? = some t → args[j]? = some v → Value.okWide Try.prog W .any base t v := hval0
  have hW' := hW
  obtain ⟨p, q, hA0, hV, rfl, hfz, hnd⟩ := hW
  have hA : DataW.TrodAll enc Try.prog W 0 (fun _ => true) true Try.f8.params.toList args.toList ds p := hA0
  rw [Try.params8] at hA hval hsz
  obtain ⟨v0, vs0, d0, ds0, p0, q0, hargs, rfl, rfl, h0, r0⟩ := trodAll_cons hA
  obtain ⟨v1, vs1, d1, ds1, p1, q1, rfl, rfl, rfl, h1, r1⟩ := trodAll_cons r0
  obtain ⟨v2, vs2, d2, ds2, p2, q2, rfl, rfl, rfl, h2, r2⟩ := trodAll_cons r1
  obtain ⟨v3, vs3, d3, ds3, p3, q3, rfl, rfl, rfl, h3, r3⟩ := trodAll_cons r2
  obtain ⟨v4, vs4, d4, ds4, p4, q4, rfl, rfl, rfl, h4, r4⟩ := trodAll_cons r3
  obtain ⟨v5, vs5, d5, ds5, p5, q5, rfl, rfl, rfl, h5, r5⟩ := trodAll_cons r4
  obtain ⟨rfl, rfl, rfl⟩ := trodAll_nil r5
  obtain rfl : args = #[v0, v1, v2, v3, v4, v5] := by cases args; simp_all
  obtain ⟨rfl, rfl⟩ := trodVars_none hV
  obtain ⟨a0, rfl, _⟩ := okWide_struct Try.underlying24 (hval 0 24 v0 rfl rfl)
  have k0 := h0
  have lt0 : ∀ x ∈ p0, x.block < W.heap.size := by obtain ⟨m, hm⟩ := k0; exact DataW.trod_lt m _ _ _ hm
  obtain ⟨avs0, ft0, rd0⟩ : ∃ avs, Sps.fits (.cons .bool (.cons (.ints .u32) (.cons (.ints .u32) .nil))) avs ∧ RdL W avs a0.toList := by
    obtain ⟨fuel, hf⟩ := h0
    exact trod_flat 4 24 _ (by kernel_rfl) fuel _ _ hf
  obtain ⟨s0, x0, y0, rfl, w0⟩ := Nt.frac_fits ft0
  obtain ⟨a1, rfl, _⟩ := okWide_struct Try.underlying24 (hval 1 24 v1 rfl rfl)
  have k1 := h1
  have lt1 : ∀ x ∈ p1, x.block < W.heap.size := by obtain ⟨m, hm⟩ := k1; exact DataW.trod_lt m _ _ _ hm
  obtain ⟨avs1, ft1, rd1⟩ : ∃ avs, Sps.fits (.cons .bool (.cons (.ints .u32) (.cons (.ints .u32) .nil))) avs ∧ RdL W avs a1.toList := by
    obtain ⟨fuel, hf⟩ := h1
    exact trod_flat 4 24 _ (by kernel_rfl) fuel _ _ hf
  obtain ⟨s1, x1, y1, rfl, w1⟩ := Nt.frac_fits ft1
  obtain ⟨a2, rfl, rfl, rfl, w2⟩ := open_int Try.underlying3 (hval 2 3 v2 rfl rfl) h2
  obtain ⟨a3, rfl, rfl, rfl, w3⟩ := open_int Try.underlying3 (hval 3 3 v3 rfl rfl) h3
  obtain ⟨a4, rfl, rfl, rfl, w4⟩ := open_int Try.underlying3 (hval 4 3 v4 rfl rfl) h4
  obtain ⟨a5, rfl, rfl, rfl, y5⟩ := open_string Try.underlying9 (hval 5 9 v5 rfl rfl) h5
  clear hA0 hval0 hsz0 hsz
  refine (law_calls' S.s8 (xs := [.agg [.d (.bool s0), .d (.ints .u32 x0), .d (.ints .u32 y0)], .agg [.d (.bool s1), .d (.ints .u32 x1), .d (.ints .u32 y1)], .d (.int .i64 a2), .d (.int .i64 a3), .d (.int .i64 a4), .d (.str (a5.data.toList.map fun b => (b.toNat : Int)))]) ⟨⟨w0.1, w0.2, w1.1, w1.2, Nt.i64_of w2, Nt.i64_of w3, Nt.i64_of w4⟩, rfl⟩ rfl ?_).mono fun e W' ⟨he, bel⟩ => ?_
  · intro i hi
    match i with
    | 0 => exact arg_agg rd0
    | 1 => exact arg_agg rd1
    | 2 => exact .of0 (.int _ _)
    | 3 => exact .of0 (.int _ _)
    | 4 => exact .of0 (.int _ _)
    | 5 => exact .of0 (str_reads _)
    | i + 6 => simp at hi <;> omega
  subst he
  exact ⟨_, rfl, _, _, _, [], _, [], hW', trodAll_mk1 (shut_bool Try.underlying4 _), (trodAll_cons_mk (Below.trod laidOut (by kernel_rfl) (of_decide_eq_true (by kernel_rfl)) k0 bel lt0) (trodAll_cons_mk (Below.trod laidOut (by kernel_rfl) (of_decide_eq_true (by kernel_rfl)) k1 bel lt1) (trodAll_cons_mk (shut_int Try.underlying3 w2) (trodAll_cons_mk (shut_int Try.underlying3 w3) (trodAll_cons_mk (shut_int Try.underlying3 w4) (trodAll_cons_mk (shut_string Try.underlying9 y5) trodAll_mk0)))))), rfl, bel.frame _, fun h => by cases h⟩
theorem over : Rows.rationalRawRow.holds Try.pinned (OpenSpec.ofChange Rows.rationalRawSpec) :=
  OpenClaim.holds_of_wide 8 Try.f8 rfl rfl rfl rfl rfl rfl rfl ⟨rfl, rfl, rfl, rfl, rfl⟩ rfl rfl rfl rfl rfl (by kernel_rfl) Try.func8 (by kernel_rfl)
    (of_decide_eq_true (by kernel_rfl)) (by unfold Func.isWrapper; first | (rw [if_pos (by decide +kernel)]; kernel_rfl) | (rw [if_neg (by decide +kernel)]; exact ⟨rfl, rfl⟩))
    (fun os started H enc _ => lifted os started H enc)
theorem proved : Rows.RationalRawSaid := over
end Go.Proofs.Ytabajebkmipogaa.rationalRaw
namespace Go.Proofs.Ytabajebkmipogaa
/-- The row, under a short name, for the claim. -/
theorem rationalRaw_holds : Rows.RationalRawSaid := rationalRaw.proved
#print axioms rationalRaw_holds
end Go.Proofs.Ytabajebkmipogaa
