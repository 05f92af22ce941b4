/- NaturalRing returns true whatever its arguments are: three numbers of limbs; no further condition. -/
import Derived.Test.YtcnaceleinmbcaaRows
import Derived.Test.YtcnaceleinmbcaaC
import Derived.WalkKit
import Derived.ProofKit
import Derived.OpenShut
import Derived.ShutString
import Derived.ChangeOld
import Derived.Below
import Derived.SizedLaws
section
open Go Go.Vc
set_option maxRecDepth 1000000
namespace Go.Proofs.Ytcnaceleinmbcaa.S
def E8 : Env := { tys := [(1, { ty := .sc (.other) }), (4, { ty := .sc (.bool) }), (22, { ty := .sc (.sints .u32), elem := 35, bytes := 4, ecells := [.int .u32], lit := true }), (24, { ty := .sc (.int .i64) })], cons := [(11, dataCon [] Nt.cawake.T), (13, dataCon [.sc (.sints .u32), .sc (.sints .u32)] Nt.cSame.T), (14, dataCon [.sc (.sints .u32), .sc (.sints .u32)] Nt.cMul.T), (15, dataCon [.sc (.sints .u32)] Nt.clawshort.T), (18, dataCon [.sc (.sints .u32), .sc (.sints .u32)] Nt.cAdd.T), (20, dataCon [.sc (.sints .u32)] Nt.cTrim.T), (27, dataCon [.sc (.sints .u32), .sc (.sints .u32)] Nt.cSub.T)], heads := [], meets := [] }
theorem ok8 : EnvOk Go.Proofs.Try.prog E8 := .of (by kernel_rfl) (cons_cons s11 (dataCon_ok (spec_ok _)) (cons_cons s13 (dataCon_ok (spec_ok _)) (cons_cons s14 (dataCon_ok (spec_ok _)) (cons_cons s15 (dataCon_ok (spec_ok _)) (cons_cons s18 (dataCon_ok (spec_ok _)) (cons_cons s20 (dataCon_ok (spec_ok _)) (cons_cons s27 (dataCon_ok (spec_ok _)) cons_nil))))))) (by kernel_rfl)
theorem eq8 (a b c : List Int) (K : TV → Prop) : awpBody E8 Go.Proofs.Try.f8.ntmps (List.map ResultVar.tmp [6]) (Go.Proofs.Try.f8.body.getD .skip) [.d (.ints .u32 a), .d (.ints .u32 b), .d (.ints .u32 c)] [] (dataK [.sc .bool] K) = Nt.vc_nlawNaturalRing a b c K := by kernel_rfl
theorem s8 : SoundCon Go.Proofs.Try.prog 8 (dataCon [.sc (.sints .u32), .sc (.sints .u32), .sc (.sints .u32)] Nt.cNaturalRing.T) := by
  refine data_sound E8 ok8 (fn := Go.Proofs.Try.f8) (c := Go.Proofs.Try.f8.body.getD .skip) (by kernel_rfl) (by kernel_rfl) (by kernel_rfl) (rts := [6]) (by kernel_rfl) (ts := [.sc .bool]) (by kernel_rfl) (Nt.cNaturalRing_el (M := fun args K => awpBody E8 Go.Proofs.Try.f8.ntmps (List.map ResultVar.tmp [6]) (Go.Proofs.Try.f8.body.getD .skip) args [] (dataK [.sc .bool] K)) fun a b c K hyp => ?_)
  show awpBody E8 _ _ _ _ _ _
  rw [eq8 a b c K]
  exact Nt.p_nlawNaturalRing a b c K hyp
end Go.Proofs.Ytcnaceleinmbcaa.S
end
namespace Go.Proofs.Ytcnaceleinmbcaa.naturalRing
open Go.ChangeShapes Go.WideShapes Go.ChangeAt Go.RowKit Go.Vc
open Go.ChangeMaps (open_string shut_string)
set_option linter.unusedVariables false
theorem own : ownKnob Try.prog.godebug = none := by kernel_rfl
theorem laidOut : laidOutB Try.prog = true := by kernel_rfl
set_option maxRecDepth 100000 in
theorem lifted (os : Os) (started : os.Started) (H : Type) (enc : TypeId × Value → H) :
    ReturnsInHanded {} Try.checked os 8 .any (Rows.naturalRingSpec.pre6 enc Try.prog Try.f8 Rows.naturalRingRow.domain false) (Rows.naturalRingSpec.post enc Try.prog Try.f8 false true false false) := by
  refine returnsInHanded_of_change_sized (C := Try.checked) own started (by kernel_rfl) Try.func8
    (ChangeSpec.witness6 (enc := enc) (C := Try.checked) false ⟨#[], #[.slice none 0 0, .slice none 0 0, .slice none 0 0], []⟩ 8 (by kernel_rfl) (by kernel_rfl) (by kernel_rfl) (by kernel_rfl)) ?_
  intro W base args ds gs before hval0 hW hcnd hsz0 _
  have hsz : (DataW.weightsEach Try.prog (Try.f8.params.toList ++ Rows.naturalRingSpec.plain.varTypes Try.prog) (ds ++ gs)).all (· ≤ reachBytes) = true := hsz0
  have hval : ∀ (j : Nat) t v, Try.f8.params[j]? = some t → args[j]? = some v → Value.okWide Try.prog W .any base t v := hval0
  have hW' := hW
  obtain ⟨p, q, hA0, hV, rfl, hfz, hnd⟩ := hW
  have hA : DataW.TrodAll enc Try.prog W 0 (fun _ => true) true Try.f8.params.toList args.toList ds p := hA0
  rw [Try.params8] at hA hval hsz
  obtain ⟨v0, vs0, d0, ds0, p0, q0, hargs, rfl, rfl, h0, r0⟩ := trodAll_cons hA
  obtain ⟨v1, vs1, d1, ds1, p1, q1, rfl, rfl, rfl, h1, r1⟩ := trodAll_cons r0
  obtain ⟨v2, vs2, d2, ds2, p2, q2, rfl, rfl, rfl, h2, r2⟩ := trodAll_cons r1
  obtain ⟨rfl, rfl, rfl⟩ := trodAll_nil r2
  obtain rfl : args = #[v0, v1, v2] := by cases args; simp_all
  obtain ⟨rfl, rfl⟩ := trodVars_none hV
  obtain ⟨a0, len0, cap0, rfl⟩ := okWide_slice Try.underlying22 (hval 0 22 v0 rfl rfl)
  have k0 := h0
  have lt0 : ∀ x ∈ p0, x.block < W.heap.size := by obtain ⟨m, hm⟩ := k0; exact DataW.trod_lt m _ _ _ hm
  obtain ⟨z0, w0⟩ : ∃ zs, IsRow .u32 W a0 len0 cap0 zs := by
    obtain ⟨fuel, hf⟩ := h0
    rcases open_ints Try.underlying22 Try.underlying35 (by kernel_rfl) hf with ⟨hcs, _⟩ | ⟨x, l, c, zs, hcs, _, hl, hm, hz, _, hcell, hwz⟩
    · simp [Value.cells] at hcs
      obtain ⟨rfl, rfl, rfl⟩ := hcs
      exact ⟨[], .inl ⟨rfl, rfl, rfl, rfl⟩⟩
    · simp [Value.cells] at hcs
      obtain ⟨rfl, rfl, rfl⟩ := hcs
      exact ⟨zs, .inr ⟨_, rfl, hl, hm, by simpa using hz, hcell, hwz⟩⟩
  obtain ⟨a1, len1, cap1, rfl⟩ := okWide_slice Try.underlying22 (hval 1 22 v1 rfl rfl)
  have k1 := h1
  have lt1 : ∀ x ∈ p1, x.block < W.heap.size := by obtain ⟨m, hm⟩ := k1; exact DataW.trod_lt m _ _ _ hm
  obtain ⟨z1, w1⟩ : ∃ zs, IsRow .u32 W a1 len1 cap1 zs := by
    obtain ⟨fuel, hf⟩ := h1
    rcases open_ints Try.underlying22 Try.underlying35 (by kernel_rfl) hf with ⟨hcs, _⟩ | ⟨x, l, c, zs, hcs, _, hl, hm, hz, _, hcell, hwz⟩
    · simp [Value.cells] at hcs
      obtain ⟨rfl, rfl, rfl⟩ := hcs
      exact ⟨[], .inl ⟨rfl, rfl, rfl, rfl⟩⟩
    · simp [Value.cells] at hcs
      obtain ⟨rfl, rfl, rfl⟩ := hcs
      exact ⟨zs, .inr ⟨_, rfl, hl, hm, by simpa using hz, hcell, hwz⟩⟩
  obtain ⟨a2, len2, cap2, rfl⟩ := okWide_slice Try.underlying22 (hval 2 22 v2 rfl rfl)
  have k2 := h2
  have lt2 : ∀ x ∈ p2, x.block < W.heap.size := by obtain ⟨m, hm⟩ := k2; exact DataW.trod_lt m _ _ _ hm
  obtain ⟨z2, w2⟩ : ∃ zs, IsRow .u32 W a2 len2 cap2 zs := by
    obtain ⟨fuel, hf⟩ := h2
    rcases open_ints Try.underlying22 Try.underlying35 (by kernel_rfl) hf with ⟨hcs, _⟩ | ⟨x, l, c, zs, hcs, _, hl, hm, hz, _, hcell, hwz⟩
    · simp [Value.cells] at hcs
      obtain ⟨rfl, rfl, rfl⟩ := hcs
      exact ⟨[], .inl ⟨rfl, rfl, rfl, rfl⟩⟩
    · simp [Value.cells] at hcs
      obtain ⟨rfl, rfl, rfl⟩ := hcs
      exact ⟨zs, .inr ⟨_, rfl, hl, hm, by simpa using hz, hcell, hwz⟩⟩
  clear hA0 hval0 hsz0 hsz
  refine (law_calls S.s8 (xs := [.ints .u32 (z0.take len0), .ints .u32 (z1.take len1), .ints .u32 (z2.take len2)]) ⟨⟨Nt.lim_of (row_wf w0), Nt.lim_of (row_wf w1), Nt.lim_of (row_wf w2)⟩, rfl⟩ rfl ?_).mono fun e W' ⟨he, bel⟩ => ?_
  · intro i hi
    match i with
    | 0 => exact row_reads w0
    | 1 => exact row_reads w1
    | 2 => exact row_reads w2
    | i + 3 => simp at hi; omega
  subst he
  exact ⟨_, rfl, _, _, _, [], _, [], hW', trodAll_mk1 (shut_bool Try.underlying4 _), (trodAll_cons_mk (Below.trod laidOut (by kernel_rfl) (of_decide_eq_true (by kernel_rfl)) k0 bel lt0) (trodAll_cons_mk (Below.trod laidOut (by kernel_rfl) (of_decide_eq_true (by kernel_rfl)) k1 bel lt1) (trodAll_cons_mk (Below.trod laidOut (by kernel_rfl) (of_decide_eq_true (by kernel_rfl)) k2 bel lt2) trodAll_mk0))), rfl, bel.frame _, fun h => by cases h⟩
theorem over : Rows.naturalRingRow.holds Try.pinned (OpenSpec.ofChange Rows.naturalRingSpec) :=
  OpenClaim.holds_of_wide 8 Try.f8 rfl rfl rfl rfl rfl rfl rfl ⟨rfl, rfl, rfl, rfl, rfl⟩ rfl rfl rfl rfl rfl (by kernel_rfl) Try.func8 (by kernel_rfl)
    (of_decide_eq_true (by kernel_rfl)) (by unfold Func.isWrapper; first | (rw [if_pos (by decide +kernel)]; kernel_rfl) | (rw [if_neg (by decide +kernel)]; exact ⟨rfl, rfl⟩))
    (fun os started H enc _ => lifted os started H enc)
theorem proved : Rows.NaturalRingSaid := over
end Go.Proofs.Ytcnaceleinmbcaa.naturalRing
namespace Go.Proofs.Ytcnaceleinmbcaa
/-- The row, under a short name, for the claim. -/
theorem naturalRing_holds : Rows.NaturalRingSaid := naturalRing.proved
#print axioms naturalRing_holds
end Go.Proofs.Ytcnaceleinmbcaa
