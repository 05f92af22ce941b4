/- NaturalDivides returns true whatever its arguments are: two numbers of limbs; no further condition. -/
import Derived.Test.YtcnaceleinmbcaaRows
import Derived.Test.YtcnaceleinmbcaaC
import Derived.WalkKit
import Derived.ProofKit
import Derived.OpenShut
import Derived.ShutString
import Derived.ChangeOld
import Derived.Below
import Derived.SizedLaws
section
open Go Go.Vc
set_option maxRecDepth 1000000
namespace Go.Proofs.Ytcnaceleinmbcaa.S
def E4 : Env := { tys := [(1, { ty := .sc (.other) }), (2, { ty := .sc (.int .i64) }), (3, { ty := .sc (.int .i64) }), (4, { ty := .sc (.bool) }), (22, { ty := .sc (.sints .u32), elem := 35, bytes := 4, ecells := [.int .u32], lit := true }), (24, { ty := .sc (.int .i64) })], cons := [(11, dataCon [] (named Nt.cawake.T)), (13, dataCon [.sc (.sints .u32), .sc (.sints .u32)] (named Nt.cSame.T)), (14, dataCon [.sc (.sints .u32), .sc (.sints .u32)] (named Nt.cMul.T)), (15, dataCon [.sc (.sints .u32)] (named Nt.clawshort.T)), (16, dataCon [.sc (.sints .u32), .sc (.sints .u32)] (named Nt.cDivMod.T)), (17, freshCon [.sc (.sints .u32)] (fnamed Nt.crefTrim.T)), (18, dataCon [.sc (.sints .u32), .sc (.sints .u32)] (named Nt.cAdd.T)), (19, dataCon [.sc (.sints .u32), .sc (.sints .u32)] (named Nt.cCmp.T)), (20, dataCon [.sc (.sints .u32)] (named Nt.cTrim.T))], heads := [], meets := [] }
theorem ok4 : EnvOk Go.Proofs.Try.prog E4 := .of (by kernel_rfl) (cons_cons (named_con s11) (dataCon_ok (named_ok (spec_ok _))) (cons_cons (named_con s13) (dataCon_ok (named_ok (spec_ok _))) (cons_cons (named_con s14) (dataCon_ok (named_ok (spec_ok _))) (cons_cons (named_con s15) (dataCon_ok (named_ok (spec_ok _))) (cons_cons (named_con s16) (dataCon_ok (named_ok (spec_ok _))) (cons_cons (fnamed_con s17) (freshCon_ok (fnamed_ok (fspec_ok _))) (cons_cons (named_con s18) (dataCon_ok (named_ok (spec_ok _))) (cons_cons (named_con s19) (dataCon_ok (named_ok (spec_ok _))) (cons_cons (named_con s20) (dataCon_ok (named_ok (spec_ok _))) cons_nil))))))))) (by kernel_rfl)
theorem eq4 (a b : List Int) (K : TV → Prop) : awpBody E4 Go.Proofs.Try.f4.ntmps (List.map ResultVar.tmp [4]) (Go.Proofs.Try.f4.body.getD .skip) [.d (.ints .u32 a), .d (.ints .u32 b)] [] (dataK [.sc .bool] K) = Nt.vc_nlawNaturalDivides a b K := by kernel_rfl
theorem s4 : SoundCon Go.Proofs.Try.prog 4 (dataCon [.sc (.sints .u32), .sc (.sints .u32)] Nt.cNaturalDivides.T) := by
  refine data_sound E4 ok4 (fn := Go.Proofs.Try.f4) (c := Go.Proofs.Try.f4.body.getD .skip) (by kernel_rfl) (by kernel_rfl) (by kernel_rfl) (rts := [4]) (by kernel_rfl) (ts := [.sc .bool]) (by kernel_rfl) (Nt.cNaturalDivides_el (M := fun args K => awpBody E4 Go.Proofs.Try.f4.ntmps (List.map ResultVar.tmp [4]) (Go.Proofs.Try.f4.body.getD .skip) args [] (dataK [.sc .bool] K)) fun a b K hyp => ?_)
  show awpBody E4 _ _ _ _ _ _
  rw [eq4 a b K]
  exact Nt.p_nlawNaturalDivides a b K hyp
end Go.Proofs.Ytcnaceleinmbcaa.S
end
namespace Go.Proofs.Ytcnaceleinmbcaa.naturalDivides
open Go.ChangeShapes Go.WideShapes Go.ChangeAt Go.RowKit Go.Vc
open Go.ChangeMaps (open_string shut_string)
set_option linter.unusedVariables false
theorem own : ownKnob Try.prog.godebug = none := by kernel_rfl
theorem laidOut : laidOutB Try.prog = true := by kernel_rfl
set_option maxRecDepth 100000 in
theorem lifted (os : Os) (started : os.Started) (H : Type) (enc : TypeId × Value → H) :
    ReturnsInHanded {} Try.checked os 4 .any (Rows.naturalDividesSpec.pre6 enc Try.prog Try.f4 Rows.naturalDividesRow.domain false) (Rows.naturalDividesSpec.post enc Try.prog Try.f4 false true false false) := by
  refine returnsInHanded_of_change_sized (C := Try.checked) own started (by kernel_rfl) Try.func4
    (ChangeSpec.witness6 (enc := enc) (C := Try.checked) false ⟨#[], #[.slice none 0 0, .slice none 0 0], []⟩ 8 (by kernel_rfl) (by kernel_rfl) (by kernel_rfl) (by kernel_rfl)) ?_
  intro W base args ds gs before hval0 hW hcnd hsz0 _
  have hsz : (DataW.weightsEach Try.prog (Try.f4.params.toList ++ Rows.naturalDividesSpec.plain.varTypes Try.prog) (ds ++ gs)).all (· ≤ reachBytes) = true := hsz0
  have hval : ∀ (j : Nat) t v, Try.f4.params[j]? = some t → args[j]? = some v → Value.okWide Try.prog W .any base t v := hval0
  have hW' := hW
  obtain ⟨p, q, hA0, hV, rfl, hfz, hnd⟩ := hW
  have hA : DataW.TrodAll enc Try.prog W 0 (fun _ => true) true Try.f4.params.toList args.toList ds p := hA0
  rw [Try.params4] at hA hval hsz
  obtain ⟨v0, vs0, d0, ds0, p0, q0, hargs, rfl, rfl, h0, r0⟩ := trodAll_cons hA
  obtain ⟨v1, vs1, d1, ds1, p1, q1, rfl, rfl, rfl, h1, r1⟩ := trodAll_cons r0
  obtain ⟨rfl, rfl, rfl⟩ := trodAll_nil r1
  obtain rfl : args = #[v0, v1] := by cases args; simp_all
  obtain ⟨rfl, rfl⟩ := trodVars_none hV
  obtain ⟨a0, len0, cap0, rfl⟩ := okWide_slice Try.underlying22 (hval 0 22 v0 rfl rfl)
  have k0 := h0
  have lt0 : ∀ x ∈ p0, x.block < W.heap.size := by obtain ⟨m, hm⟩ := k0; exact DataW.trod_lt m _ _ _ hm
  obtain ⟨z0, w0⟩ : ∃ zs, IsRow .u32 W a0 len0 cap0 zs := by
    obtain ⟨fuel, hf⟩ := h0
    rcases open_ints Try.underlying22 Try.underlying35 (by kernel_rfl) hf with ⟨hcs, _⟩ | ⟨x, l, c, zs, hcs, _, hl, hm, hz, _, hcell, hwz⟩
    · simp [Value.cells] at hcs
      obtain ⟨rfl, rfl, rfl⟩ := hcs
      exact ⟨[], .inl ⟨rfl, rfl, rfl, rfl⟩⟩
    · simp [Value.cells] at hcs
      obtain ⟨rfl, rfl, rfl⟩ := hcs
      exact ⟨zs, .inr ⟨_, rfl, hl, hm, by simpa using hz, hcell, hwz⟩⟩
  obtain ⟨a1, len1, cap1, rfl⟩ := okWide_slice Try.underlying22 (hval 1 22 v1 rfl rfl)
  have k1 := h1
  have lt1 : ∀ x ∈ p1, x.block < W.heap.size := by obtain ⟨m, hm⟩ := k1; exact DataW.trod_lt m _ _ _ hm
  obtain ⟨z1, w1⟩ : ∃ zs, IsRow .u32 W a1 len1 cap1 zs := by
    obtain ⟨fuel, hf⟩ := h1
    rcases open_ints Try.underlying22 Try.underlying35 (by kernel_rfl) hf with ⟨hcs, _⟩ | ⟨x, l, c, zs, hcs, _, hl, hm, hz, _, hcell, hwz⟩
    · simp [Value.cells] at hcs
      obtain ⟨rfl, rfl, rfl⟩ := hcs
      exact ⟨[], .inl ⟨rfl, rfl, rfl, rfl⟩⟩
    · simp [Value.cells] at hcs
      obtain ⟨rfl, rfl, rfl⟩ := hcs
      exact ⟨zs, .inr ⟨_, rfl, hl, hm, by simpa using hz, hcell, hwz⟩⟩
  clear hA0 hval0 hsz0 hsz
  refine (law_calls S.s4 (xs := [.ints .u32 (z0.take len0), .ints .u32 (z1.take len1)]) ⟨⟨Nt.lim_of (row_wf w0), Nt.lim_of (row_wf w1)⟩, rfl⟩ rfl ?_).mono fun e W' ⟨he, bel⟩ => ?_
  · intro i hi
    match i with
    | 0 => exact row_reads w0
    | 1 => exact row_reads w1
    | i + 2 => simp at hi; omega
  subst he
  exact ⟨_, rfl, _, _, _, [], _, [], hW', trodAll_mk1 (shut_bool Try.underlying4 _), (trodAll_cons_mk (Below.trod laidOut (by kernel_rfl) (of_decide_eq_true (by kernel_rfl)) k0 bel lt0) (trodAll_cons_mk (Below.trod laidOut (by kernel_rfl) (of_decide_eq_true (by kernel_rfl)) k1 bel lt1) trodAll_mk0)), rfl, bel.frame _, fun h => by cases h⟩
theorem over : Rows.naturalDividesRow.holds Try.pinned (OpenSpec.ofChange Rows.naturalDividesSpec) :=
  OpenClaim.holds_of_wide 4 Try.f4 rfl rfl rfl rfl rfl rfl rfl ⟨rfl, rfl, rfl, rfl, rfl⟩ rfl rfl rfl rfl rfl (by kernel_rfl) Try.func4 (by kernel_rfl)
    (of_decide_eq_true (by kernel_rfl)) (by unfold Func.isWrapper; first | (rw [if_pos (by decide +kernel)]; kernel_rfl) | (rw [if_neg (by decide +kernel)]; exact ⟨rfl, rfl⟩))
    (fun os started H enc _ => lifted os started H enc)
theorem proved : Rows.NaturalDividesSaid := over
end Go.Proofs.Ytcnaceleinmbcaa.naturalDivides
namespace Go.Proofs.Ytcnaceleinmbcaa
/-- The row, under a short name, for the claim. -/
theorem naturalDivides_holds : Rows.NaturalDividesSaid := naturalDivides.proved
#print axioms naturalDivides_holds
end Go.Proofs.Ytcnaceleinmbcaa
