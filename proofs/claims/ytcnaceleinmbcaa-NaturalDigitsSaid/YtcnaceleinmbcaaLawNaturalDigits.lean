/- NaturalDigits returns true whatever its arguments are: a number of limbs and a byte; no further condition. -/
import Derived.Test.YtcnaceleinmbcaaRows
import Derived.Test.YtcnaceleinmbcaaC
import Derived.WalkKit
import Derived.ProofKit
import Derived.OpenShut
import Derived.ShutString
import Derived.ChangeOld
import Derived.Below
import Derived.SizedLaws
section
open Go Go.Vc
set_option maxRecDepth 1000000
namespace Go.Proofs.Ytcnaceleinmbcaa.S
def E7 : Env := { tys := [(1, { ty := .sc (.other) }), (3, { ty := .sc (.int .i64) }), (4, { ty := .sc (.bool) }), (5, { ty := .sc (.int .u8) }), (9, { ty := .sc (.str) }), (22, { ty := .sc (.sints .u32), elem := 35, bytes := 4, ecells := [.int .u32], lit := true }), (24, { ty := .sc (.int .i64) })], cons := [(11, dataCon [] Nt.cawake.T), (13, dataCon [.sc (.sints .u32), .sc (.sints .u32)] Nt.cSame.T), (15, dataCon [.sc (.sints .u32)] Nt.clawshort.T), (20, dataCon [.sc (.sints .u32)] Nt.cTrim.T), (25, dataCon [.sc (.sints .u32)] Nt.cFormat.T), (26, dataCon [.sc .str] Nt.cParse.T)], heads := [(0, { slots := [(0, .keep), (1, .keep), (5, .sc (.str)), (6, .sc (.int .i64))] })], meets := [] }
theorem ok7 : EnvOk Go.Proofs.Try.prog E7 := .of (by kernel_rfl) (cons_cons s11 (dataCon_ok (spec_ok _)) (cons_cons s13 (dataCon_ok (spec_ok _)) (cons_cons s15 (dataCon_ok (spec_ok _)) (cons_cons s20 (dataCon_ok (spec_ok _)) (cons_cons s25 (dataCon_ok (spec_ok _)) (cons_cons s26 (dataCon_ok (spec_ok _)) cons_nil)))))) (by kernel_rfl)
theorem eq7 (a : List Int) (z : Int) (K : TV → Prop) : awpBody E7 Go.Proofs.Try.f7.ntmps (List.map ResultVar.tmp [4]) (Go.Proofs.Try.f7.body.getD .skip) [.d (.ints .u32 a), .d (.int .u8 z)] [] (dataK [.sc .bool] K) = Nt.vc_nlawNaturalDigits a z K := by kernel_rfl
theorem s7 : SoundCon Go.Proofs.Try.prog 7 (dataCon [.sc (.sints .u32), .sc (.int .u8)] Nt.cNaturalDigits.T) := by
  refine data_sound E7 ok7 (fn := Go.Proofs.Try.f7) (c := Go.Proofs.Try.f7.body.getD .skip) (by kernel_rfl) (by kernel_rfl) (by kernel_rfl) (rts := [4]) (by kernel_rfl) (ts := [.sc .bool]) (by kernel_rfl) (Nt.cNaturalDigits_el (M := fun args K => awpBody E7 Go.Proofs.Try.f7.ntmps (List.map ResultVar.tmp [4]) (Go.Proofs.Try.f7.body.getD .skip) args [] (dataK [.sc .bool] K)) fun a z K hyp => ?_)
  show awpBody E7 _ _ _ _ _ _
  rw [eq7 a z K]
  exact Nt.p_nlawNaturalDigits a z K hyp
end Go.Proofs.Ytcnaceleinmbcaa.S
end
namespace Go.Proofs.Ytcnaceleinmbcaa.naturalDigits
open Go.ChangeShapes Go.WideShapes Go.ChangeAt Go.RowKit Go.Vc
open Go.ChangeMaps (open_string shut_string)
set_option linter.unusedVariables false
theorem own : ownKnob Try.prog.godebug = none := by kernel_rfl
theorem laidOut : laidOutB Try.prog = true := by kernel_rfl
set_option maxRecDepth 100000 in
theorem lifted (os : Os) (started : os.Started) (H : Type) (enc : TypeId × Value → H) :
    ReturnsInHanded {} Try.checked os 7 .any (Rows.naturalDigitsSpec.pre6 enc Try.prog Try.f7 Rows.naturalDigitsRow.domain false) (Rows.naturalDigitsSpec.post enc Try.prog Try.f7 false true false false) := by
  refine returnsInHanded_of_change_sized (C := Try.checked) own started (by kernel_rfl) Try.func7
    (ChangeSpec.witness6 (enc := enc) (C := Try.checked) false ⟨#[], #[.slice none 0 0, .int .u8 0], []⟩ 8 (by kernel_rfl) (by kernel_rfl) (by kernel_rfl) (by kernel_rfl)) ?_
  intro W base args ds gs before hval0 hW hcnd hsz0 _
  have hsz : (DataW.weightsEach Try.prog (Try.f7.params.toList ++ Rows.naturalDigitsSpec.plain.varTypes Try.prog) (ds ++ gs)).all (· ≤ reachBytes) = true := hsz0
  have hval : ∀ (j : Nat) t v, Try.f7.params[j]? = some t → args[j]? = some v → Value.okWide Try.prog W .any base t v := hval0
  have hW' := hW
  obtain ⟨p, q, hA0, hV, rfl, hfz, hnd⟩ := hW
  have hA : DataW.TrodAll enc Try.prog W 0 (fun _ => true) true Try.f7.params.toList args.toList ds p := hA0
  rw [Try.params7] at hA hval hsz
  obtain ⟨v0, vs0, d0, ds0, p0, q0, hargs, rfl, rfl, h0, r0⟩ := trodAll_cons hA
  obtain ⟨v1, vs1, d1, ds1, p1, q1, rfl, rfl, rfl, h1, r1⟩ := trodAll_cons r0
  obtain ⟨rfl, rfl, rfl⟩ := trodAll_nil r1
  obtain rfl : args = #[v0, v1] := by cases args; simp_all
  obtain ⟨rfl, rfl⟩ := trodVars_none hV
  obtain ⟨a0, len0, cap0, rfl⟩ := okWide_slice Try.underlying22 (hval 0 22 v0 rfl rfl)
  have k0 := h0
  have lt0 : ∀ x ∈ p0, x.block < W.heap.size := by obtain ⟨m, hm⟩ := k0; exact DataW.trod_lt m _ _ _ hm
  obtain ⟨z0, w0⟩ : ∃ zs, IsRow .u32 W a0 len0 cap0 zs := by
    obtain ⟨fuel, hf⟩ := h0
    rcases open_ints Try.underlying22 Try.underlying35 (by kernel_rfl) hf with ⟨hcs, _⟩ | ⟨x, l, c, zs, hcs, _, hl, hm, hz, _, hcell, hwz⟩
    · simp [Value.cells] at hcs
      obtain ⟨rfl, rfl, rfl⟩ := hcs
      exact ⟨[], .inl ⟨rfl, rfl, rfl, rfl⟩⟩
    · simp [Value.cells] at hcs
      obtain ⟨rfl, rfl, rfl⟩ := hcs
      exact ⟨zs, .inr ⟨_, rfl, hl, hm, by simpa using hz, hcell, hwz⟩⟩
  obtain ⟨a1, rfl, rfl, rfl, w1⟩ := open_int Try.underlying5 (hval 1 5 v1 rfl rfl) h1
  clear hA0 hval0 hsz0 hsz
  refine (law_calls S.s7 (xs := [.ints .u32 (z0.take len0), .int .u8 a1]) ⟨⟨Nt.lim_of (row_wf w0), Nt.u8_of w1⟩, rfl⟩ rfl ?_).mono fun e W' ⟨he, bel⟩ => ?_
  · intro i hi
    match i with
    | 0 => exact row_reads w0
    | 1 => exact .int _ _
    | i + 2 => simp at hi; omega
  subst he
  exact ⟨_, rfl, _, _, _, [], _, [], hW', trodAll_mk1 (shut_bool Try.underlying4 _), (trodAll_cons_mk (Below.trod laidOut (by kernel_rfl) (of_decide_eq_true (by kernel_rfl)) k0 bel lt0) (trodAll_cons_mk (shut_int Try.underlying5 w1) trodAll_mk0)), rfl, bel.frame _, fun h => by cases h⟩
theorem over : Rows.naturalDigitsRow.holds Try.pinned (OpenSpec.ofChange Rows.naturalDigitsSpec) :=
  OpenClaim.holds_of_wide 7 Try.f7 rfl rfl rfl rfl rfl rfl rfl ⟨rfl, rfl, rfl, rfl, rfl⟩ rfl rfl rfl rfl rfl (by kernel_rfl) Try.func7 (by kernel_rfl)
    (of_decide_eq_true (by kernel_rfl)) (by unfold Func.isWrapper; first | (rw [if_pos (by decide +kernel)]; kernel_rfl) | (rw [if_neg (by decide +kernel)]; exact ⟨rfl, rfl⟩))
    (fun os started H enc _ => lifted os started H enc)
theorem proved : Rows.NaturalDigitsSaid := over
end Go.Proofs.Ytcnaceleinmbcaa.naturalDigits
namespace Go.Proofs.Ytcnaceleinmbcaa
/-- The row, under a short name, for the claim. -/
theorem naturalDigits_holds : Rows.NaturalDigitsSaid := naturalDigits.proved
#print axioms naturalDigits_holds
end Go.Proofs.Ytcnaceleinmbcaa
