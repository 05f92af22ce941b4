/- RationalDenotes returns true whatever its arguments are: a list of ints, a limb and a byte; no further condition. -/
import Derived.Test.YtabajebkmipogaaRows
import Derived.Test.YtabajebkmipogaaC
import Derived.WalkKit
import Derived.ProofKit
import Derived.OpenShut
import Derived.ShutString
import Derived.ChangeOld
import Derived.Below
import Derived.SizedLaws
section
open Go Go.Vc
set_option maxRecDepth 1000000
namespace Go.Proofs.Ytabajebkmipogaa.S
def E5 : Env := { tys := [(1, { ty := .sc (.other) }), (2, { ty := .sc (.int .i64) }), (3, { ty := .sc (.int .i64) }), (4, { ty := .sc (.bool) }), (5, { ty := .sc (.int .u8) }), (9, { ty := .sc (.str) }), (22, { ty := .sc (.sints .u32), elem := 37, bytes := 4, ecells := [.int .u32], lit := true }), (24, { ty := .struct [(0, 1, .sc (.bool)), (1, 1, .sc (.sints .u32)), (2, 1, .sc (.sints .u32))] [.bool, .sints .u32, .sints .u32] }), (37, { ty := .sc (.int .u32) }), (39, { ty := .sc (.sints .i64), elem := 3, bytes := 8, ecells := [.int .i64], lit := true }), (40, { ty := .sc (.other) })], cons := [(10, dataCon [] (named Nt.cl2awake.T)), (11, dataCon [.struct [] [.bool, .sints .u32, .sints .u32]] (named Nt.cnumber.T)), (12, dataCon [.struct [] [.bool, .sints .u32, .sints .u32], .struct [] [.bool, .sints .u32, .sints .u32]] (named Nt.crAdd.T)), (14, dataCon [.struct [] [.bool, .sints .u32, .sints .u32], .struct [] [.bool, .sints .u32, .sints .u32]] (named Nt.crMul.T)), (21, ptrCon [.sc (.sints .i64)] (pnamed Nt.cmkNew.T)), (23, dataCon [.struct [] [.bool, .sints .u32, .sints .u32], .struct [] [.bool, .sints .u32, .sints .u32]] (named Nt.crCmp.T)), (24, dataCon [.struct [] [.bool, .sints .u32, .sints .u32], .struct [] [.bool, .sints .u32, .sints .u32]] (named Nt.crEqual.T)), (25, dataCon [.struct [] [.bool, .sints .u32, .sints .u32]] (named Nt.crSign.T)), (26, lendCon [] (lnamed Nt.cmkRat.T)), (27, freshCon [.sc (.sints .u32), .sc (.sints .u32)] (fnamed Nt.crefMulF.T)), (28, dataCon [.struct [] [.bool, .sints .u32, .sints .u32], .struct [] [.bool, .sints .u32, .sints .u32]] (named Nt.crSame.T)), (29, dataCon [.struct [] [.bool, .sints .u32, .sints .u32]] (named Nt.crFormat.T))], data := [10, 11, 12, 14, 23, 24, 25, 26, 28, 29], fresh := [27], heads := [(0, { slots := [(2, .keep), (8, .keep), (9, .keep), (10, .keep), (11, .sc (.int .i64))], own := [.keep, .keep, .keep, .keep, .ints .u32, .ints .u32] })], meets := [] }
theorem ok5 : EnvOk Go.Proofs.Try.prog E5 := .of (by kernel_rfl) (cons_cons (named_con s10) (dataCon_ok (named_ok (spec_ok _))) (cons_cons (named_con s11) (dataCon_ok (named_ok (spec_ok _))) (cons_cons (named_con s12) (dataCon_ok (named_ok (spec_ok _))) (cons_cons (named_con s14) (dataCon_ok (named_ok (spec_ok _))) (cons_cons (pnamed_con s21) (ptrCon_ok (pnamed_ok (fspec_ok _))) (cons_cons (named_con s23) (dataCon_ok (named_ok (spec_ok _))) (cons_cons (named_con s24) (dataCon_ok (named_ok (spec_ok _))) (cons_cons (named_con s25) (dataCon_ok (named_ok (spec_ok _))) (cons_cons (lnamed_con s26) (lendCon_ok (lnamed_ok (lspec_ok _))) (cons_cons (fnamed_con s27f) (freshCon_ok (fnamed_ok (fspec_ok _))) (cons_cons (named_con s28) (dataCon_ok (named_ok (spec_ok _))) (cons_cons (named_con s29) (dataCon_ok (named_ok (spec_ok _))) cons_nil)))))))))))) (by kernel_rfl) (dat_cons (named_ok (spec_ok _)) rfl (dat_cons (named_ok (spec_ok _)) rfl (dat_cons (named_ok (spec_ok _)) rfl (dat_cons (named_ok (spec_ok _)) rfl (dat_cons (named_ok (spec_ok _)) rfl (dat_cons (named_ok (spec_ok _)) rfl (dat_cons (named_ok (spec_ok _)) rfl (dat_lend (lnamed_ok (lspec_ok _)) rfl (dat_cons (named_ok (spec_ok _)) rfl (dat_cons (named_ok (spec_ok _)) rfl dat_nil)))))))))) (fre_cons (fnamed_ok (fspec_ok _)) rfl fre_nil)
theorem eq5 (l : List Int) (k z : Int) (K : TV → Prop) : awpBody E5 Go.Proofs.Try.f5.ntmps [.tmp 6] (Go.Proofs.Try.f5.body.getD .skip) [.d (.ints .i64 l), .d (.int .u32 k), .d (.int .u8 z)] [] (dataK [.sc .bool] K) = Nt.vc_nlaw2RationalDenotes l k z K := by kernel_rfl
theorem s5 : SoundCon Go.Proofs.Try.prog 5 (dataCon [.sc (.sints .i64), .sc (.int .u32), .sc (.int .u8)] Nt.cRationalDenotes.T) := by
  refine data_sound E5 ok5 (fn := Go.Proofs.Try.f5) (c := Go.Proofs.Try.f5.body.getD .skip) (by kernel_rfl) (by kernel_rfl) (by kernel_rfl) (rvs := [.tmp 6]) (by kernel_rfl) (ts := [.sc .bool]) (by kernel_rfl) (Nt.cRationalDenotes_el (M := fun args K => awpBody E5 Go.Proofs.Try.f5.ntmps [.tmp 6] (Go.Proofs.Try.f5.body.getD .skip) args [] (dataK [.sc .bool] K)) fun l k z K hyp => ?_)
  show awpBody E5 _ _ _ _ _ _
  rw [eq5 l k z K]
  exact Nt.p_nlaw2RationalDenotes l k z K hyp
end Go.Proofs.Ytabajebkmipogaa.S
end
namespace Go.Proofs.Ytabajebkmipogaa.rationalDenotes
open Go.ChangeShapes Go.WideShapes Go.ChangeAt Go.RowKit Go.Vc
open Go.ChangeMaps (open_string shut_string)
set_option linter.unusedVariables false
theorem own : ownKnob Try.prog.godebug = none := by kernel_rfl
theorem laidOut : laidOutB Try.prog = true := by kernel_rfl
set_option maxRecDepth 100000 in
theorem lifted (os : Os) (started : os.Started) (H : Type) (enc : TypeId × Value → H) :
    ReturnsInHanded {} Try.checked os 5 .any (Rows.rationalDenotesSpec.pre6 enc Try.prog Try.f5 Rows.rationalDenotesRow.domain false) (Rows.rationalDenotesSpec.post enc Try.prog Try.f5 false true false false) := by
  refine returnsInHanded_of_change_sized (C := Try.checked) own started (by kernel_rfl) Try.func5
    (ChangeSpec.witness6 (enc := enc) (C := Try.checked) false ⟨#[], #[.slice none 0 0, .int .u32 0, .int .u8 0], []⟩ 8 (by kernel_rfl) (by kernel_rfl) (by kernel_rfl) (by kernel_rfl)) ?_
  intro W base args ds gs before hval0 hW hcnd hsz0 _
  have hsz : (DataW.weightsEach Try.prog (Try.f5.params.toList ++ Rows.rationalDenotesSpec.plain.varTypes Try.prog) (ds ++ gs)).all (· ≤ reachBytes) = true := hsz0
  have hval : ∀ (j : Nat) t v, Try.f5.params[j]? = some t → args[j]? = some v → Value.okWide Try.prog W .any base t v := hval0
  have hW' := hW
  obtain ⟨p, q, hA0, hV, rfl, hfz, hnd⟩ := hW
  have hA : DataW.TrodAll enc Try.prog W 0 (fun _ => true) true Try.f5.params.toList args.toList ds p := hA0
  rw [Try.params5] at hA hval hsz
  obtain ⟨v0, vs0, d0, ds0, p0, q0, hargs, rfl, rfl, h0, r0⟩ := trodAll_cons hA
  obtain ⟨v1, vs1, d1, ds1, p1, q1, rfl, rfl, rfl, h1, r1⟩ := trodAll_cons r0
  obtain ⟨v2, vs2, d2, ds2, p2, q2, rfl, rfl, rfl, h2, r2⟩ := trodAll_cons r1
  obtain ⟨rfl, rfl, rfl⟩ := trodAll_nil r2
  obtain rfl : args = #[v0, v1, v2] := by cases args; simp_all
  obtain ⟨rfl, rfl⟩ := trodVars_none hV
  obtain ⟨a0, len0, cap0, rfl⟩ := okWide_slice Try.underlying39 (hval 0 39 v0 rfl rfl)
  have k0 := h0
  have lt0 : ∀ x ∈ p0, x.block < W.heap.size := by obtain ⟨m, hm⟩ := k0; exact DataW.trod_lt m _ _ _ hm
  obtain ⟨z0, w0⟩ : ∃ zs, IsRow .i64 W a0 len0 cap0 zs := by
    obtain ⟨fuel, hf⟩ := h0
    rcases open_ints Try.underlying39 Try.underlying3 (by kernel_rfl) hf with ⟨hcs, _⟩ | ⟨x, l, c, zs, hcs, _, hl, hm, hz, _, hcell, hwz⟩
    · simp [Value.cells] at hcs
      obtain ⟨rfl, rfl, rfl⟩ := hcs
      exact ⟨[], .inl ⟨rfl, rfl, rfl, rfl⟩⟩
    · simp [Value.cells] at hcs
      obtain ⟨rfl, rfl, rfl⟩ := hcs
      exact ⟨zs, .inr ⟨_, rfl, hl, hm, by simpa using hz, hcell, hwz⟩⟩
  obtain ⟨a1, rfl, rfl, rfl, w1⟩ := open_int Try.underlying37 (hval 1 37 v1 rfl rfl) h1
  obtain ⟨a2, rfl, rfl, rfl, w2⟩ := open_int Try.underlying5 (hval 2 5 v2 rfl rfl) h2
  clear hA0 hval0 hsz0 hsz
  refine (law_calls S.s5 (xs := [.ints .i64 (z0.take len0), .int .u32 a1, .int .u8 a2]) ⟨⟨Nt.i64s_of (row_wf w0), Nt.l32_of w1, Nt.u8_of w2⟩, rfl⟩ rfl ?_).mono fun e W' ⟨he, bel⟩ => ?_
  · intro i hi
    match i with
    | 0 => exact row_reads w0
    | 1 => exact .int _ _
    | 2 => exact .int _ _
    | i + 3 => simp at hi <;> omega
  subst he
  exact ⟨_, rfl, _, _, _, [], _, [], hW', trodAll_mk1 (shut_bool Try.underlying4 _), (trodAll_cons_mk (Below.trod laidOut (by kernel_rfl) (of_decide_eq_true (by kernel_rfl)) k0 bel lt0) (trodAll_cons_mk (shut_int Try.underlying37 w1) (trodAll_cons_mk (shut_int Try.underlying5 w2) trodAll_mk0))), rfl, bel.frame _, fun h => by cases h⟩
theorem over : Rows.rationalDenotesRow.holds Try.pinned (OpenSpec.ofChange Rows.rationalDenotesSpec) :=
  OpenClaim.holds_of_wide 5 Try.f5 rfl rfl rfl rfl rfl rfl rfl ⟨rfl, rfl, rfl, rfl, rfl⟩ rfl rfl rfl rfl rfl (by kernel_rfl) Try.func5 (by kernel_rfl)
    (of_decide_eq_true (by kernel_rfl)) (by unfold Func.isWrapper; first | (rw [if_pos (by decide +kernel)]; kernel_rfl) | (rw [if_neg (by decide +kernel)]; exact ⟨rfl, rfl⟩))
    (fun os started H enc _ => lifted os started H enc)
theorem proved : Rows.RationalDenotesSaid := over
end Go.Proofs.Ytabajebkmipogaa.rationalDenotes
namespace Go.Proofs.Ytabajebkmipogaa
/-- The row, under a short name, for the claim. -/
theorem rationalDenotes_holds : Rows.RationalDenotesSaid := rationalDenotes.proved
#print axioms rationalDenotes_holds
end Go.Proofs.Ytabajebkmipogaa
