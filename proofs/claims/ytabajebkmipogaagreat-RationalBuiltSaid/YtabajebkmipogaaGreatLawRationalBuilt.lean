/- RationalBuilt returns true whatever its arguments are: a list of ints, a string and an int; no further condition. -/
import Derived.Test.YtabajebkmipogaaGreatRows
import Derived.Test.YtabajebkmipogaaGreatC
import Derived.WalkKit
import Derived.ProofKit
import Derived.OpenShut
import Derived.ShutString
import Derived.ChangeOld
import Derived.Below
import Derived.SizedLaws
section
open Go Go.Vc
set_option maxRecDepth 1000000
namespace Go.Proofs.YtabajebkmipogaaGreat.S
def E3 : Env := { tys := [(1, { ty := .sc (.other) }), (3, { ty := .sc (.int .i64) }), (4, { ty := .sc (.bool) }), (7, { ty := .struct [(0, 1, .sc (.int .i64)), (1, 1, .sc (.int .i64)), (2, 1, .sc (.bool)), (3, 1, .sc (.int .u8))] [.int .i64, .int .i64, .bool, .int .u8] }), (9, { ty := .sc (.str) }), (22, { ty := .sc (.sints .i64), elem := 3, bytes := 8, ecells := [.int .i64], lit := true }), (24, { ty := .sc (.other) }), (28, { ty := .struct [(0, 1, .sc (.bool)), (1, 1, .sc (.sints .u32)), (2, 1, .sc (.sints .u32))] [.bool, .sints .u32, .sints .u32] }), (30, { ty := .sc (.int .i64) }), (35, { ty := .sc (.srows 1), elem := 9, bytes := 16, ecells := [.str], lit := true })], cons := [(4, dataCon [] (named Nt.cl2awake.T)), (5, ptrCon [.sc (.sints .i64)] (pnamed Nt.cmkNew.T)), (6, lendCon [] (lnamed Nt.cmkLoose.T)), (7, dataCon [.struct [] [.bool, .sints .u32, .sints .u32], .sc (.int .i64)] (named Nt.crPow.T)), (8, dataCon [.struct [] [.bool, .sints .u32, .sints .u32], .sc (.int .i64)] (named Nt.crPow.T)), (9, dataCon [.struct [] [.bool, .sints .u32, .sints .u32], .struct [] [.bool, .sints .u32, .sints .u32]] (named Nt.crSame.T)), (10, dataCon [.struct [] [.bool, .sints .u32, .sints .u32], .struct [] [.bool, .sints .u32, .sints .u32]] (named Nt.cl2agrees.T)), (11, dataCon [.struct [] [.bool, .sints .u32, .sints .u32]] (named Nt.crFormat.T)), (12, dataCon [.sc .str] (named Nt.crParse.T)), (13, dataCon [.sc .str] (named Nt.crParse.T))], data := [4, 6, 7, 8, 9, 10, 11, 12, 13], heads := [(0, { slots := [(18, .sc (.srows 1)), (19, .sc (.int .i64))], own := [.keep, .keep, .keep, .keep, .keep, .keep, .keep] })], meets := [] }
theorem ok3 : EnvOk Go.Proofs.Tryz.prog E3 := .of (by kernel_rfl) (cons_cons (named_con s4) (dataCon_ok (named_ok (spec_ok _))) (cons_cons (pnamed_con s5) (ptrCon_ok (pnamed_ok (fspec_ok _))) (cons_cons (lnamed_con s6) (lendCon_ok (lnamed_ok (lspec_ok _))) (cons_cons (named_con s7) (dataCon_ok (named_ok (spec_ok _))) (cons_cons (named_con s8) (dataCon_ok (named_ok (spec_ok _))) (cons_cons (named_con s9) (dataCon_ok (named_ok (spec_ok _))) (cons_cons (named_con s10) (dataCon_ok (named_ok (spec_ok _))) (cons_cons (named_con s11) (dataCon_ok (named_ok (spec_ok _))) (cons_cons (named_con s12) (dataCon_ok (named_ok (spec_ok _))) (cons_cons (named_con s13) (dataCon_ok (named_ok (spec_ok _))) cons_nil)))))))))) (by kernel_rfl) (dat_cons (named_ok (spec_ok _)) rfl (dat_lend (lnamed_ok (lspec_ok _)) rfl (dat_cons (named_ok (spec_ok _)) rfl (dat_cons (named_ok (spec_ok _)) rfl (dat_cons (named_ok (spec_ok _)) rfl (dat_cons (named_ok (spec_ok _)) rfl (dat_cons (named_ok (spec_ok _)) rfl (dat_cons (named_ok (spec_ok _)) rfl (dat_cons (named_ok (spec_ok _)) rfl dat_nil)))))))))
theorem eq3 (l : List Int) (u : List Int) (n : Int) (K : TV → Prop) : awpBody E3 Go.Proofs.Tryz.f3.ntmps [.tmp 6] (Go.Proofs.Tryz.f3.body.getD .skip) [.d (.ints .i64 l), .d (.str u), .d (.int .i64 n)] [] (dataK [.sc .bool] K) = Nt.vc_nlaw2RationalBuilt l u n K := by kernel_rfl
theorem s3 : SoundCon Go.Proofs.Tryz.prog 3 (dataCon [.sc (.sints .i64), .sc .str, .sc (.int .i64)] Nt.cRationalBuilt.T) := by
  refine data_sound E3 ok3 (fn := Go.Proofs.Tryz.f3) (c := Go.Proofs.Tryz.f3.body.getD .skip) (by kernel_rfl) (by kernel_rfl) (by kernel_rfl) (rvs := [.tmp 6]) (by kernel_rfl) (ts := [.sc .bool]) (by kernel_rfl) (Nt.cRationalBuilt_el (M := fun args K => awpBody E3 Go.Proofs.Tryz.f3.ntmps [.tmp 6] (Go.Proofs.Tryz.f3.body.getD .skip) args [] (dataK [.sc .bool] K)) fun l u n K hyp => ?_)
  show awpBody E3 _ _ _ _ _ _
  rw [eq3 l u n K]
  exact Nt.p_nlaw2RationalBuilt l u n K hyp
end Go.Proofs.YtabajebkmipogaaGreat.S
end
namespace Go.Proofs.YtabajebkmipogaaGreat.rationalBuilt
open Go.ChangeShapes Go.WideShapes Go.ChangeAt Go.RowKit Go.Vc
open Go.ChangeMaps (open_string shut_string)
set_option linter.unusedVariables false
theorem own : ownKnob Tryz.prog.godebug = none := by kernel_rfl
theorem laidOut : laidOutB Tryz.prog = true := by kernel_rfl
set_option maxRecDepth 100000 in
theorem lifted (os : Os) (started : os.Started) (H : Type) (enc : TypeId × Value → H) :
    ReturnsInHanded {} Tryz.checked os 3 .any (Rows.rationalBuiltSpec.pre6 enc Tryz.prog Tryz.f3 Rows.rationalBuiltRow.domain false) (Rows.rationalBuiltSpec.post enc Tryz.prog Tryz.f3 false true false false) := by
  refine returnsInHanded_of_change_sized (C := Tryz.checked) own started (by kernel_rfl) Tryz.func3
    (ChangeSpec.witness6 (enc := enc) (C := Tryz.checked) false ⟨#[], #[.slice none 0 0, .string ByteArray.empty, .int .i64 0], []⟩ 8 (by kernel_rfl) (by kernel_rfl) (by kernel_rfl) (by kernel_rfl)) ?_
  intro W base args ds gs before hval0 hW hcnd hsz0 _
  have hsz : (DataW.weightsEach Tryz.prog (Tryz.f3.params.toList ++ Rows.rationalBuiltSpec.plain.varTypes Tryz.prog) (ds ++ gs)).all (· ≤ reachBytes) = true := hsz0
  have hval : ∀ (j : Nat) t v, Tryz.f3.params[j]? = some t → args[j]? = some v → Value.okWide Tryz.prog W .any base t v := hval0
  have hW' := hW
  obtain ⟨p, q, hA0, hV, rfl, hfz, hnd⟩ := hW
  have hA : DataW.TrodAll enc Tryz.prog W 0 (fun _ => true) true Tryz.f3.params.toList args.toList ds p := hA0
  rw [Tryz.params3] at hA hval hsz
  obtain ⟨v0, vs0, d0, ds0, p0, q0, hargs, rfl, rfl, h0, r0⟩ := trodAll_cons hA
  obtain ⟨v1, vs1, d1, ds1, p1, q1, rfl, rfl, rfl, h1, r1⟩ := trodAll_cons r0
  obtain ⟨v2, vs2, d2, ds2, p2, q2, rfl, rfl, rfl, h2, r2⟩ := trodAll_cons r1
  obtain ⟨rfl, rfl, rfl⟩ := trodAll_nil r2
  obtain rfl : args = #[v0, v1, v2] := by cases args; simp_all
  obtain ⟨rfl, rfl⟩ := trodVars_none hV
  obtain ⟨a0, len0, cap0, rfl⟩ := okWide_slice Tryz.underlying22 (hval 0 22 v0 rfl rfl)
  have k0 := h0
  have lt0 : ∀ x ∈ p0, x.block < W.heap.size := by obtain ⟨m, hm⟩ := k0; exact DataW.trod_lt m _ _ _ hm
  obtain ⟨z0, w0⟩ : ∃ zs, IsRow .i64 W a0 len0 cap0 zs := by
    obtain ⟨fuel, hf⟩ := h0
    rcases open_ints Tryz.underlying22 Tryz.underlying3 (by kernel_rfl) hf with ⟨hcs, _⟩ | ⟨x, l, c, zs, hcs, _, hl, hm, hz, _, hcell, hwz⟩
    · simp [Value.cells] at hcs
      obtain ⟨rfl, rfl, rfl⟩ := hcs
      exact ⟨[], .inl ⟨rfl, rfl, rfl, rfl⟩⟩
    · simp [Value.cells] at hcs
      obtain ⟨rfl, rfl, rfl⟩ := hcs
      exact ⟨zs, .inr ⟨_, rfl, hl, hm, by simpa using hz, hcell, hwz⟩⟩
  obtain ⟨a1, rfl, rfl, rfl, y1⟩ := open_string Tryz.underlying9 (hval 1 9 v1 rfl rfl) h1
  obtain ⟨a2, rfl, rfl, rfl, w2⟩ := open_int Tryz.underlying3 (hval 2 3 v2 rfl rfl) h2
  clear hA0 hval0 hsz0 hsz
  refine (law_calls S.s3 (xs := [.ints .i64 (z0.take len0), .str (a1.data.toList.map fun b => (b.toNat : Int)), .int .i64 a2]) ⟨⟨Nt.i64s_of (row_wf w0), Nt.str_of a1, Nt.i64_of w2⟩, rfl⟩ rfl ?_).mono fun e W' ⟨he, bel⟩ => ?_
  · intro i hi
    match i with
    | 0 => exact row_reads w0
    | 1 => exact str_reads _
    | 2 => exact .int _ _
    | i + 3 => simp at hi <;> omega
  subst he
  exact ⟨_, rfl, _, _, _, [], _, [], hW', trodAll_mk1 (shut_bool Tryz.underlying4 _), (trodAll_cons_mk (Below.trod laidOut (by kernel_rfl) (of_decide_eq_true (by kernel_rfl)) k0 bel lt0) (trodAll_cons_mk (shut_string Tryz.underlying9 y1) (trodAll_cons_mk (shut_int Tryz.underlying3 w2) trodAll_mk0))), rfl, bel.frame _, fun h => by cases h⟩
theorem over : Rows.rationalBuiltRow.holds Tryz.pinned (OpenSpec.ofChange Rows.rationalBuiltSpec) :=
  OpenClaim.holds_of_wide 3 Tryz.f3 rfl rfl rfl rfl rfl rfl rfl ⟨rfl, rfl, rfl, rfl, rfl⟩ rfl rfl rfl rfl rfl (by kernel_rfl) Tryz.func3 (by kernel_rfl)
    (of_decide_eq_true (by kernel_rfl)) (by unfold Func.isWrapper; first | (rw [if_pos (by decide +kernel)]; kernel_rfl) | (rw [if_neg (by decide +kernel)]; exact ⟨rfl, rfl⟩))
    (fun os started H enc _ => lifted os started H enc)
theorem proved : Rows.RationalBuiltSaid := over
end Go.Proofs.YtabajebkmipogaaGreat.rationalBuilt
namespace Go.Proofs.YtabajebkmipogaaGreat
/-- The row, under a short name, for the claim. -/
theorem rationalBuilt_holds : Rows.RationalBuiltSaid := rationalBuilt.proved
#print axioms rationalBuilt_holds
end Go.Proofs.YtabajebkmipogaaGreat
