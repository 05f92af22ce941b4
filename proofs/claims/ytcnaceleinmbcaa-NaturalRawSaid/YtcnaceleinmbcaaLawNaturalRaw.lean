/- NaturalRaw returns true whatever its arguments are: two numbers of limbs, an int and a string; no further condition. -/
import Derived.Test.YtcnaceleinmbcaaRows
import Derived.Test.YtcnaceleinmbcaaC
import Derived.WalkKit
import Derived.ProofKit
import Derived.OpenShut
import Derived.ShutString
import Derived.ChangeOld
import Derived.Below
import Derived.SizedLaws
section
open Go Go.Vc
set_option maxRecDepth 1000000
namespace Go.Proofs.Ytcnaceleinmbcaa.S
def E10 : Env := { tys := [(1, { ty := .sc (.other) }), (3, { ty := .sc (.int .i64) }), (4, { ty := .sc (.bool) }), (9, { ty := .sc (.str) }), (22, { ty := .sc (.sints .u32), elem := 35, bytes := 4, ecells := [.int .u32], lit := true }), (24, { ty := .sc (.int .i64) })], cons := [(11, dataCon [] (named Nt.cawake.T)), (12, dataCon [.sc (.sints .u32), .sc (.int .i64)] (named Nt.cPow.T)), (13, dataCon [.sc (.sints .u32), .sc (.sints .u32)] (named Nt.cSame.T)), (15, dataCon [.sc (.sints .u32)] (named Nt.clawshort.T)), (23, dataCon [.sc (.int .i64)] (named Nt.cFromInt.T)), (26, dataCon [.sc .str] (named Nt.cParse.T)), (32, dataCon [.sc (.sints .u32), .sc (.int .i64)] (named Nt.crefPow.T)), (33, dataCon [.sc (.sints .u32), .sc (.sints .u32)] (named Nt.clawagrees.T)), (35, dataCon [.sc (.int .i64)] (named Nt.crefFromInt.T)), (36, dataCon [.sc .str] (named Nt.crefParse.T))], heads := [], meets := [] }
theorem ok10 : EnvOk Go.Proofs.Try.prog E10 := .of (by kernel_rfl) (cons_cons (named_con s11) (dataCon_ok (named_ok (spec_ok _))) (cons_cons (named_con s12) (dataCon_ok (named_ok (spec_ok _))) (cons_cons (named_con s13) (dataCon_ok (named_ok (spec_ok _))) (cons_cons (named_con s15) (dataCon_ok (named_ok (spec_ok _))) (cons_cons (named_con s23) (dataCon_ok (named_ok (spec_ok _))) (cons_cons (named_con s26) (dataCon_ok (named_ok (spec_ok _))) (cons_cons (named_con s32) (dataCon_ok (named_ok (spec_ok _))) (cons_cons (named_con s33) (dataCon_ok (named_ok (spec_ok _))) (cons_cons (named_con s35) (dataCon_ok (named_ok (spec_ok _))) (cons_cons (named_con s36) (dataCon_ok (named_ok (spec_ok _))) cons_nil)))))))))) (by kernel_rfl)
theorem eq10 (a b : List Int) (n : Int) (s : List Int) (K : TV → Prop) : awpBody E10 Go.Proofs.Try.f10.ntmps (List.map ResultVar.tmp [8]) (Go.Proofs.Try.f10.body.getD .skip) [.d (.ints .u32 a), .d (.ints .u32 b), .d (.int .i64 n), .d (.str s)] [] (dataK [.sc .bool] K) = Nt.vc_nlawNaturalRaw a b n s K := by kernel_rfl
theorem s10 : SoundCon Go.Proofs.Try.prog 10 (dataCon [.sc (.sints .u32), .sc (.sints .u32), .sc (.int .i64), .sc .str] Nt.cNaturalRaw.T) := by
  refine data_sound E10 ok10 (fn := Go.Proofs.Try.f10) (c := Go.Proofs.Try.f10.body.getD .skip) (by kernel_rfl) (by kernel_rfl) (by kernel_rfl) (rts := [8]) (by kernel_rfl) (ts := [.sc .bool]) (by kernel_rfl) (Nt.cNaturalRaw_el (M := fun args K => awpBody E10 Go.Proofs.Try.f10.ntmps (List.map ResultVar.tmp [8]) (Go.Proofs.Try.f10.body.getD .skip) args [] (dataK [.sc .bool] K)) fun a b n s K hyp => ?_)
  show awpBody E10 _ _ _ _ _ _
  rw [eq10 a b n s K]
  exact Nt.p_nlawNaturalRaw a b n s K hyp
end Go.Proofs.Ytcnaceleinmbcaa.S
end
namespace Go.Proofs.Ytcnaceleinmbcaa.naturalRaw
open Go.ChangeShapes Go.WideShapes Go.ChangeAt Go.RowKit Go.Vc
open Go.ChangeMaps (open_string shut_string)
set_option linter.unusedVariables false
theorem own : ownKnob Try.prog.godebug = none := by kernel_rfl
theorem laidOut : laidOutB Try.prog = true := by kernel_rfl
set_option maxRecDepth 100000 in
theorem lifted (os : Os) (started : os.Started) (H : Type) (enc : TypeId × Value → H) :
    ReturnsInHanded {} Try.checked os 10 .any (Rows.naturalRawSpec.pre6 enc Try.prog Try.f10 Rows.naturalRawRow.domain false) (Rows.naturalRawSpec.post enc Try.prog Try.f10 false true false false) := by
  refine returnsInHanded_of_change_sized (C := Try.checked) own started (by kernel_rfl) Try.func10
    (ChangeSpec.witness6 (enc := enc) (C := Try.checked) false ⟨#[], #[.slice none 0 0, .slice none 0 0, .int .i64 0, .string ByteArray.empty], []⟩ 8 (by kernel_rfl) (by kernel_rfl) (by kernel_rfl) (by kernel_rfl)) ?_
  intro W base args ds gs before hval0 hW hcnd hsz0 _
  have hsz : (DataW.weightsEach Try.prog (Try.f10.params.toList ++ Rows.naturalRawSpec.plain.varTypes Try.prog) (ds ++ gs)).all (· ≤ reachBytes) = true := hsz0
  have hval : ∀ (j : Nat) t v, Try.f10.params[j]? = some t → args[j]? = some v → Value.okWide Try.prog W .any base t v := hval0
  have hW' := hW
  obtain ⟨p, q, hA0, hV, rfl, hfz, hnd⟩ := hW
  have hA : DataW.TrodAll enc Try.prog W 0 (fun _ => true) true Try.f10.params.toList args.toList ds p := hA0
  rw [Try.params10] at hA hval hsz
  obtain ⟨v0, vs0, d0, ds0, p0, q0, hargs, rfl, rfl, h0, r0⟩ := trodAll_cons hA
  obtain ⟨v1, vs1, d1, ds1, p1, q1, rfl, rfl, rfl, h1, r1⟩ := trodAll_cons r0
  obtain ⟨v2, vs2, d2, ds2, p2, q2, rfl, rfl, rfl, h2, r2⟩ := trodAll_cons r1
  obtain ⟨v3, vs3, d3, ds3, p3, q3, rfl, rfl, rfl, h3, r3⟩ := trodAll_cons r2
  obtain ⟨rfl, rfl, rfl⟩ := trodAll_nil r3
  obtain rfl : args = #[v0, v1, v2, v3] := by cases args; simp_all
  obtain ⟨rfl, rfl⟩ := trodVars_none hV
  obtain ⟨a0, len0, cap0, rfl⟩ := okWide_slice Try.underlying22 (hval 0 22 v0 rfl rfl)
  have k0 := h0
  have lt0 : ∀ x ∈ p0, x.block < W.heap.size := by obtain ⟨m, hm⟩ := k0; exact DataW.trod_lt m _ _ _ hm
  obtain ⟨z0, w0⟩ : ∃ zs, IsRow .u32 W a0 len0 cap0 zs := by
    obtain ⟨fuel, hf⟩ := h0
    rcases open_ints Try.underlying22 Try.underlying35 (by kernel_rfl) hf with ⟨hcs, _⟩ | ⟨x, l, c, zs, hcs, _, hl, hm, hz, _, hcell, hwz⟩
    · simp [Value.cells] at hcs
      obtain ⟨rfl, rfl, rfl⟩ := hcs
      exact ⟨[], .inl ⟨rfl, rfl, rfl, rfl⟩⟩
    · simp [Value.cells] at hcs
      obtain ⟨rfl, rfl, rfl⟩ := hcs
      exact ⟨zs, .inr ⟨_, rfl, hl, hm, by simpa using hz, hcell, hwz⟩⟩
  obtain ⟨a1, len1, cap1, rfl⟩ := okWide_slice Try.underlying22 (hval 1 22 v1 rfl rfl)
  have k1 := h1
  have lt1 : ∀ x ∈ p1, x.block < W.heap.size := by obtain ⟨m, hm⟩ := k1; exact DataW.trod_lt m _ _ _ hm
  obtain ⟨z1, w1⟩ : ∃ zs, IsRow .u32 W a1 len1 cap1 zs := by
    obtain ⟨fuel, hf⟩ := h1
    rcases open_ints Try.underlying22 Try.underlying35 (by kernel_rfl) hf with ⟨hcs, _⟩ | ⟨x, l, c, zs, hcs, _, hl, hm, hz, _, hcell, hwz⟩
    · simp [Value.cells] at hcs
      obtain ⟨rfl, rfl, rfl⟩ := hcs
      exact ⟨[], .inl ⟨rfl, rfl, rfl, rfl⟩⟩
    · simp [Value.cells] at hcs
      obtain ⟨rfl, rfl, rfl⟩ := hcs
      exact ⟨zs, .inr ⟨_, rfl, hl, hm, by simpa using hz, hcell, hwz⟩⟩
  obtain ⟨a2, rfl, rfl, rfl, w2⟩ := open_int Try.underlying3 (hval 2 3 v2 rfl rfl) h2
  obtain ⟨a3, rfl, rfl, rfl, y3⟩ := open_string Try.underlying9 (hval 3 9 v3 rfl rfl) h3
  clear hA0 hval0 hsz0 hsz
  refine (law_calls S.s10 (xs := [.ints .u32 (z0.take len0), .ints .u32 (z1.take len1), .int .i64 a2, .str (a3.data.toList.map fun b => (b.toNat : Int))]) ⟨⟨Nt.lim_of (row_wf w0), Nt.lim_of (row_wf w1), Nt.i64_of w2⟩, rfl⟩ rfl ?_).mono fun e W' ⟨he, bel⟩ => ?_
  · intro i hi
    match i with
    | 0 => exact row_reads w0
    | 1 => exact row_reads w1
    | 2 => exact .int _ _
    | 3 => exact str_reads _
    | i + 4 => simp at hi; omega
  subst he
  exact ⟨_, rfl, _, _, _, [], _, [], hW', trodAll_mk1 (shut_bool Try.underlying4 _), (trodAll_cons_mk (Below.trod laidOut (by kernel_rfl) (of_decide_eq_true (by kernel_rfl)) k0 bel lt0) (trodAll_cons_mk (Below.trod laidOut (by kernel_rfl) (of_decide_eq_true (by kernel_rfl)) k1 bel lt1) (trodAll_cons_mk (shut_int Try.underlying3 w2) (trodAll_cons_mk (shut_string Try.underlying9 y3) trodAll_mk0)))), rfl, bel.frame _, fun h => by cases h⟩
theorem over : Rows.naturalRawRow.holds Try.pinned (OpenSpec.ofChange Rows.naturalRawSpec) :=
  OpenClaim.holds_of_wide 10 Try.f10 rfl rfl rfl rfl rfl rfl rfl ⟨rfl, rfl, rfl, rfl, rfl⟩ rfl rfl rfl rfl rfl (by kernel_rfl) Try.func10 (by kernel_rfl)
    (of_decide_eq_true (by kernel_rfl)) (by unfold Func.isWrapper; first | (rw [if_pos (by decide +kernel)]; kernel_rfl) | (rw [if_neg (by decide +kernel)]; exact ⟨rfl, rfl⟩))
    (fun os started H enc _ => lifted os started H enc)
theorem proved : Rows.NaturalRawSaid := over
end Go.Proofs.Ytcnaceleinmbcaa.naturalRaw
namespace Go.Proofs.Ytcnaceleinmbcaa
/-- The row, under a short name, for the claim. -/
theorem naturalRaw_holds : Rows.NaturalRawSaid := naturalRaw.proved
#print axioms naturalRaw_holds
end Go.Proofs.Ytcnaceleinmbcaa
