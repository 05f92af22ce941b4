/- RationalField returns true whatever its arguments are: a list of ints; no further condition. -/
import Derived.Test.YtabajebkmipogaaRows
import Derived.Test.YtabajebkmipogaaC
import Derived.WalkKit
import Derived.ProofKit
import Derived.OpenShut
import Derived.ShutString
import Derived.ChangeOld
import Derived.Below
import Derived.SizedLaws
section
open Go Go.Vc
set_option maxRecDepth 1000000
namespace Go.Proofs.Ytabajebkmipogaa.S
def E6 : Env := { tys := [(1, { ty := .sc (.other) }), (3, { ty := .sc (.int .i64) }), (4, { ty := .sc (.bool) }), (24, { ty := .struct [(0, 1, .sc (.bool)), (1, 1, .sc (.sints .u32)), (2, 1, .sc (.sints .u32))] [.bool, .sints .u32, .sints .u32] }), (31, { ty := .sc (.int .i64) }), (39, { ty := .sc (.sints .i64), elem := 3, bytes := 8, ecells := [.int .i64], lit := true }), (40, { ty := .sc (.other) })], cons := [(10, dataCon [] (named Nt.cl2awake.T)), (11, dataCon [.struct [] [.bool, .sints .u32, .sints .u32]] (named Nt.cnumber.T)), (12, dataCon [.struct [] [.bool, .sints .u32, .sints .u32], .struct [] [.bool, .sints .u32, .sints .u32]] (named Nt.crAdd.T)), (14, dataCon [.struct [] [.bool, .sints .u32, .sints .u32], .struct [] [.bool, .sints .u32, .sints .u32]] (named Nt.crMul.T)), (15, dataCon [.struct [] [.bool, .sints .u32, .sints .u32]] (named Nt.crNeg.T)), (16, dataCon [.sc (.int .i64)] (named Nt.crInt.T)), (17, dataCon [.struct [] [.bool, .sints .u32, .sints .u32], .struct [] [.bool, .sints .u32, .sints .u32]] (named Nt.crDiv.T)), (21, ptrCon [.sc (.sints .i64)] (pnamed Nt.cmkNew.T)), (22, lendCon [] (lnamed Nt.cmkLoose.T)), (25, dataCon [.struct [] [.bool, .sints .u32, .sints .u32]] (named Nt.crSign.T)), (28, dataCon [.struct [] [.bool, .sints .u32, .sints .u32], .struct [] [.bool, .sints .u32, .sints .u32]] (named Nt.crSame.T))], data := [10, 11, 12, 14, 15, 16, 17, 22, 25, 28], heads := [], meets := [] }
theorem ok6 : EnvOk Go.Proofs.Try.prog E6 := .of (by kernel_rfl) (cons_cons (named_con s10) (dataCon_ok (named_ok (spec_ok _))) (cons_cons (named_con s11) (dataCon_ok (named_ok (spec_ok _))) (cons_cons (named_con s12) (dataCon_ok (named_ok (spec_ok _))) (cons_cons (named_con s14) (dataCon_ok (named_ok (spec_ok _))) (cons_cons (named_con s15) (dataCon_ok (named_ok (spec_ok _))) (cons_cons (named_con s16) (dataCon_ok (named_ok (spec_ok _))) (cons_cons (named_con s17) (dataCon_ok (named_ok (spec_ok _))) (cons_cons (pnamed_con s21) (ptrCon_ok (pnamed_ok (fspec_ok _))) (cons_cons (lnamed_con s22) (lendCon_ok (lnamed_ok (lspec_ok _))) (cons_cons (named_con s25) (dataCon_ok (named_ok (spec_ok _))) (cons_cons (named_con s28) (dataCon_ok (named_ok (spec_ok _))) cons_nil))))))))))) (by kernel_rfl) (dat_cons (named_ok (spec_ok _)) rfl (dat_cons (named_ok (spec_ok _)) rfl (dat_cons (named_ok (spec_ok _)) rfl (dat_cons (named_ok (spec_ok _)) rfl (dat_cons (named_ok (spec_ok _)) rfl (dat_cons (named_ok (spec_ok _)) rfl (dat_cons (named_ok (spec_ok _)) rfl (dat_lend (lnamed_ok (lspec_ok _)) rfl (dat_cons (named_ok (spec_ok _)) rfl (dat_cons (named_ok (spec_ok _)) rfl dat_nil))))))))))
theorem eq6 (l : List Int) (K : TV → Prop) : awpBody E6 Go.Proofs.Try.f6.ntmps [.tmp 2] (Go.Proofs.Try.f6.body.getD .skip) [.d (.ints .i64 l)] [] (dataK [.sc .bool] K) = Nt.vc_nlaw2RationalField l K := by kernel_rfl
theorem s6 : SoundCon Go.Proofs.Try.prog 6 (dataCon [.sc (.sints .i64)] Nt.cRationalList.T) := by
  refine data_sound E6 ok6 (fn := Go.Proofs.Try.f6) (c := Go.Proofs.Try.f6.body.getD .skip) (by kernel_rfl) (by kernel_rfl) (by kernel_rfl) (rvs := [.tmp 2]) (by kernel_rfl) (ts := [.sc .bool]) (by kernel_rfl) (Nt.cRationalList_el (M := fun args K => awpBody E6 Go.Proofs.Try.f6.ntmps [.tmp 2] (Go.Proofs.Try.f6.body.getD .skip) args [] (dataK [.sc .bool] K)) fun l K hyp => ?_)
  show awpBody E6 _ _ _ _ _ _
  rw [eq6 l K]
  exact Nt.p_nlaw2RationalField l K hyp
end Go.Proofs.Ytabajebkmipogaa.S
end
namespace Go.Proofs.Ytabajebkmipogaa.rationalField
open Go.ChangeShapes Go.WideShapes Go.ChangeAt Go.RowKit Go.Vc
open Go.ChangeMaps (open_string shut_string)
set_option linter.unusedVariables false
theorem own : ownKnob Try.prog.godebug = none := by kernel_rfl
theorem laidOut : laidOutB Try.prog = true := by kernel_rfl
set_option maxRecDepth 100000 in
theorem lifted (os : Os) (started : os.Started) (H : Type) (enc : TypeId × Value → H) :
    ReturnsInHanded {} Try.checked os 6 .any (Rows.rationalFieldSpec.pre6 enc Try.prog Try.f6 Rows.rationalFieldRow.domain false) (Rows.rationalFieldSpec.post enc Try.prog Try.f6 false true false false) := by
  refine returnsInHanded_of_change_sized (C := Try.checked) own started (by kernel_rfl) Try.func6
    (ChangeSpec.witness6 (enc := enc) (C := Try.checked) false ⟨#[], #[.slice none 0 0], []⟩ 8 (by kernel_rfl) (by kernel_rfl) (by kernel_rfl) (by kernel_rfl)) ?_
  intro W base args ds gs before hval0 hW hcnd hsz0 _
  have hsz : (DataW.weightsEach Try.prog (Try.f6.params.toList ++ Rows.rationalFieldSpec.plain.varTypes Try.prog) (ds ++ gs)).all (· ≤ reachBytes) = true := hsz0
  have hval : ∀ (j : Nat) t v, Try.f6.params[j]? = some t → args[j]? = some v → Value.okWide Try.prog W .any base t v := hval0
  have hW' := hW
  obtain ⟨p, q, hA0, hV, rfl, hfz, hnd⟩ := hW
  have hA : DataW.TrodAll enc Try.prog W 0 (fun _ => true) true Try.f6.params.toList args.toList ds p := hA0
  rw [Try.params6] at hA hval hsz
  obtain ⟨v0, vs0, d0, ds0, p0, q0, hargs, rfl, rfl, h0, r0⟩ := trodAll_cons hA
  obtain ⟨rfl, rfl, rfl⟩ := trodAll_nil r0
  obtain rfl : args = #[v0] := by cases args; simp_all
  obtain ⟨rfl, rfl⟩ := trodVars_none hV
  obtain ⟨a0, len0, cap0, rfl⟩ := okWide_slice Try.underlying39 (hval 0 39 v0 rfl rfl)
  have k0 := h0
  have lt0 : ∀ x ∈ p0, x.block < W.heap.size := by obtain ⟨m, hm⟩ := k0; exact DataW.trod_lt m _ _ _ hm
  obtain ⟨z0, w0⟩ : ∃ zs, IsRow .i64 W a0 len0 cap0 zs := by
    obtain ⟨fuel, hf⟩ := h0
    rcases open_ints Try.underlying39 Try.underlying3 (by kernel_rfl) hf with ⟨hcs, _⟩ | ⟨x, l, c, zs, hcs, _, hl, hm, hz, _, hcell, hwz⟩
    · simp [Value.cells] at hcs
      obtain ⟨rfl, rfl, rfl⟩ := hcs
      exact ⟨[], .inl ⟨rfl, rfl, rfl, rfl⟩⟩
    · simp [Value.cells] at hcs
      obtain ⟨rfl, rfl, rfl⟩ := hcs
      exact ⟨zs, .inr ⟨_, rfl, hl, hm, by simpa using hz, hcell, hwz⟩⟩
  clear hA0 hval0 hsz0 hsz
  refine (law_calls S.s6 (xs := [.ints .i64 (z0.take len0)]) ⟨Nt.i64s_of (row_wf w0), rfl⟩ rfl ?_).mono fun e W' ⟨he, bel⟩ => ?_
  · intro i hi
    match i with
    | 0 => exact row_reads w0
    | i + 1 => simp at hi <;> omega
  subst he
  exact ⟨_, rfl, _, _, _, [], _, [], hW', trodAll_mk1 (shut_bool Try.underlying4 _), (trodAll_cons_mk (Below.trod laidOut (by kernel_rfl) (of_decide_eq_true (by kernel_rfl)) k0 bel lt0) trodAll_mk0), rfl, bel.frame _, fun h => by cases h⟩
theorem over : Rows.rationalFieldRow.holds Try.pinned (OpenSpec.ofChange Rows.rationalFieldSpec) :=
  OpenClaim.holds_of_wide 6 Try.f6 rfl rfl rfl rfl rfl rfl rfl ⟨rfl, rfl, rfl, rfl, rfl⟩ rfl rfl rfl rfl rfl (by kernel_rfl) Try.func6 (by kernel_rfl)
    (of_decide_eq_true (by kernel_rfl)) (by unfold Func.isWrapper; first | (rw [if_pos (by decide +kernel)]; kernel_rfl) | (rw [if_neg (by decide +kernel)]; exact ⟨rfl, rfl⟩))
    (fun os started H enc _ => lifted os started H enc)
theorem proved : Rows.RationalFieldSaid := over
end Go.Proofs.Ytabajebkmipogaa.rationalField
namespace Go.Proofs.Ytabajebkmipogaa
/-- The row, under a short name, for the claim. -/
theorem rationalField_holds : Rows.RationalFieldSaid := rationalField.proved
#print axioms rationalField_holds
end Go.Proofs.Ytabajebkmipogaa
