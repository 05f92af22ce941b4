/- NaturalBuilt returns true whatever its arguments are: a list of ints; no further condition. -/
import Derived.Test.YtcnaceleinmbcaaRows
import Derived.Test.YtcnaceleinmbcaaC
import Derived.WalkKit
import Derived.ProofKit
import Derived.OpenShut
import Derived.ShutString
import Derived.ChangeOld
import Derived.Below
import Derived.SizedLaws
section
open Go Go.Vc
set_option maxRecDepth 1000000
namespace Go.Proofs.Ytcnaceleinmbcaa.S
def E9 : Env := { tys := [(1, { ty := .sc (.other) }), (3, { ty := .sc (.int .i64) }), (4, { ty := .sc (.bool) }), (22, { ty := .sc (.sints .u32), elem := 35, bytes := 4, ecells := [.int .u32], lit := true }), (24, { ty := .sc (.int .i64) }), (45, { ty := .sc (.sints .i64), elem := 3, bytes := 8, ecells := [.int .i64], lit := true }), (46, { ty := .sc (.other) })], cons := [(11, dataCon [] (named Nt.cawake.T)), (12, dataCon [.sc (.sints .u32), .sc (.int .i64)] (named Nt.cPow.T)), (13, dataCon [.sc (.sints .u32), .sc (.sints .u32)] (named Nt.cSame.T)), (28, ptrCon [.sc (.sints .i64)] (pnamed Nt.cmkNew.T)), (29, lendCon [] (lnamed Nt.cmkLimbs.T)), (30, dataCon [.sc (.sints .u32), .sc (.sints .u32)] (named Nt.crefMul.T)), (31, lendCon [.sc (.int .i64)] (lnamed Nt.cmkN.T)), (32, dataCon [.sc (.sints .u32), .sc (.int .i64)] (named Nt.crefPow.T)), (33, dataCon [.sc (.sints .u32), .sc (.sints .u32)] (named Nt.clawagrees.T)), (34, dataCon [.sc (.sints .u32), .sc (.sints .u32)] (named Nt.crefAdd.T))], heads := [], meets := [] }
theorem ok9 : EnvOk Go.Proofs.Try.prog E9 := .of (by kernel_rfl) (cons_cons (named_con s11) (dataCon_ok (named_ok (spec_ok _))) (cons_cons (named_con s12) (dataCon_ok (named_ok (spec_ok _))) (cons_cons (named_con s13) (dataCon_ok (named_ok (spec_ok _))) (cons_cons (pnamed_con s28) (ptrCon_ok (pnamed_ok (fspec_ok _))) (cons_cons (lnamed_con s29) (lendCon_ok (lnamed_ok (lspec_ok _))) (cons_cons (named_con s30) (dataCon_ok (named_ok (spec_ok _))) (cons_cons (lnamed_con s31) (lendCon_ok (lnamed_ok (lspec_ok _))) (cons_cons (named_con s32) (dataCon_ok (named_ok (spec_ok _))) (cons_cons (named_con s33) (dataCon_ok (named_ok (spec_ok _))) (cons_cons (named_con s34) (dataCon_ok (named_ok (spec_ok _))) cons_nil)))))))))) (by kernel_rfl)
theorem eq9 (l : List Int) (K : TV → Prop) : awpBody E9 Go.Proofs.Try.f9.ntmps (List.map ResultVar.tmp [2]) (Go.Proofs.Try.f9.body.getD .skip) [.d (.ints .i64 l)] [] (dataK [.sc .bool] K) = Nt.vc_nlawNaturalBuilt l K := by kernel_rfl
theorem s9 : SoundCon Go.Proofs.Try.prog 9 (dataCon [.sc (.sints .i64)] Nt.cNaturalBuilt.T) := by
  refine data_sound E9 ok9 (fn := Go.Proofs.Try.f9) (c := Go.Proofs.Try.f9.body.getD .skip) (by kernel_rfl) (by kernel_rfl) (by kernel_rfl) (rts := [2]) (by kernel_rfl) (ts := [.sc .bool]) (by kernel_rfl) (Nt.cNaturalBuilt_el (M := fun args K => awpBody E9 Go.Proofs.Try.f9.ntmps (List.map ResultVar.tmp [2]) (Go.Proofs.Try.f9.body.getD .skip) args [] (dataK [.sc .bool] K)) fun l K hyp => ?_)
  show awpBody E9 _ _ _ _ _ _
  rw [eq9 l K]
  exact Nt.p_nlawNaturalBuilt l K hyp
end Go.Proofs.Ytcnaceleinmbcaa.S
end
namespace Go.Proofs.Ytcnaceleinmbcaa.naturalBuilt
open Go.ChangeShapes Go.WideShapes Go.ChangeAt Go.RowKit Go.Vc
open Go.ChangeMaps (open_string shut_string)
set_option linter.unusedVariables false
theorem own : ownKnob Try.prog.godebug = none := by kernel_rfl
theorem laidOut : laidOutB Try.prog = true := by kernel_rfl
set_option maxRecDepth 100000 in
theorem lifted (os : Os) (started : os.Started) (H : Type) (enc : TypeId × Value → H) :
    ReturnsInHanded {} Try.checked os 9 .any (Rows.naturalBuiltSpec.pre6 enc Try.prog Try.f9 Rows.naturalBuiltRow.domain false) (Rows.naturalBuiltSpec.post enc Try.prog Try.f9 false true false false) := by
  refine returnsInHanded_of_change_sized (C := Try.checked) own started (by kernel_rfl) Try.func9
    (ChangeSpec.witness6 (enc := enc) (C := Try.checked) false ⟨#[], #[.slice none 0 0], []⟩ 8 (by kernel_rfl) (by kernel_rfl) (by kernel_rfl) (by kernel_rfl)) ?_
  intro W base args ds gs before hval0 hW hcnd hsz0 _
  have hsz : (DataW.weightsEach Try.prog (Try.f9.params.toList ++ Rows.naturalBuiltSpec.plain.varTypes Try.prog) (ds ++ gs)).all (· ≤ reachBytes) = true := hsz0
  have hval : ∀ (j : Nat) t v, Try.f9.params[j]? = some t → args[j]? = some v → Value.okWide Try.prog W .any base t v := hval0
  have hW' := hW
  obtain ⟨p, q, hA0, hV, rfl, hfz, hnd⟩ := hW
  have hA : DataW.TrodAll enc Try.prog W 0 (fun _ => true) true Try.f9.params.toList args.toList ds p := hA0
  rw [Try.params9] at hA hval hsz
  obtain ⟨v0, vs0, d0, ds0, p0, q0, hargs, rfl, rfl, h0, r0⟩ := trodAll_cons hA
  obtain ⟨rfl, rfl, rfl⟩ := trodAll_nil r0
  obtain rfl : args = #[v0] := by cases args; simp_all
  obtain ⟨rfl, rfl⟩ := trodVars_none hV
  obtain ⟨a0, len0, cap0, rfl⟩ := okWide_slice Try.underlying45 (hval 0 45 v0 rfl rfl)
  have k0 := h0
  have lt0 : ∀ x ∈ p0, x.block < W.heap.size := by obtain ⟨m, hm⟩ := k0; exact DataW.trod_lt m _ _ _ hm
  obtain ⟨z0, w0⟩ : ∃ zs, IsRow .i64 W a0 len0 cap0 zs := by
    obtain ⟨fuel, hf⟩ := h0
    rcases open_ints Try.underlying45 Try.underlying3 (by kernel_rfl) hf with ⟨hcs, _⟩ | ⟨x, l, c, zs, hcs, _, hl, hm, hz, _, hcell, hwz⟩
    · simp [Value.cells] at hcs
      obtain ⟨rfl, rfl, rfl⟩ := hcs
      exact ⟨[], .inl ⟨rfl, rfl, rfl, rfl⟩⟩
    · simp [Value.cells] at hcs
      obtain ⟨rfl, rfl, rfl⟩ := hcs
      exact ⟨zs, .inr ⟨_, rfl, hl, hm, by simpa using hz, hcell, hwz⟩⟩
  clear hA0 hval0 hsz0 hsz
  refine (law_calls S.s9 (xs := [.ints .i64 (z0.take len0)]) ⟨Nt.i64s_of (row_wf w0), rfl⟩ rfl ?_).mono fun e W' ⟨he, bel⟩ => ?_
  · intro i hi
    match i with
    | 0 => exact row_reads w0
    | i + 1 => simp at hi <;> omega
  subst he
  exact ⟨_, rfl, _, _, _, [], _, [], hW', trodAll_mk1 (shut_bool Try.underlying4 _), (trodAll_cons_mk (Below.trod laidOut (by kernel_rfl) (of_decide_eq_true (by kernel_rfl)) k0 bel lt0) trodAll_mk0), rfl, bel.frame _, fun h => by cases h⟩
theorem over : Rows.naturalBuiltRow.holds Try.pinned (OpenSpec.ofChange Rows.naturalBuiltSpec) :=
  OpenClaim.holds_of_wide 9 Try.f9 rfl rfl rfl rfl rfl rfl rfl ⟨rfl, rfl, rfl, rfl, rfl⟩ rfl rfl rfl rfl rfl (by kernel_rfl) Try.func9 (by kernel_rfl)
    (of_decide_eq_true (by kernel_rfl)) (by unfold Func.isWrapper; first | (rw [if_pos (by decide +kernel)]; kernel_rfl) | (rw [if_neg (by decide +kernel)]; exact ⟨rfl, rfl⟩))
    (fun os started H enc _ => lifted os started H enc)
theorem proved : Rows.NaturalBuiltSaid := over
end Go.Proofs.Ytcnaceleinmbcaa.naturalBuilt
namespace Go.Proofs.Ytcnaceleinmbcaa
/-- The row, under a short name, for the claim. -/
theorem naturalBuilt_holds : Rows.NaturalBuiltSaid := naturalBuilt.proved
#print axioms naturalBuilt_holds
end Go.Proofs.Ytcnaceleinmbcaa
