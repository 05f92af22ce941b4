/- Helpers for the statements: each function keeps its contract. Condition: none. -/
import Derived.Test.YtcnaceleinmbcaaProg
import Derived.Test.YtcnaceleinmbcaaB2
section
open Go Go.Vc
set_option maxRecDepth 1000000
namespace Go.Proofs.Ytcnaceleinmbcaa.S
def E38 : Env := { tys := [(35, { ty := .sc (.int .u32) }), (58, { ty := .sc (.int .u64) }), (62, { ty := .sc (.int .u64) })], cons := [], heads := [], meets := [] }
theorem ok38 : EnvOk Go.Proofs.Try.prog E38 := .of (by kernel_rfl) cons_nil (by kernel_rfl)
theorem eq38 (x y : Int) (K : TV → Prop) : awpBody E38 Go.Proofs.Try.f38.ntmps (List.map ResultVar.tmp [4, 5]) (Go.Proofs.Try.f38.body.getD .skip) [.d (.int .u32 x), .d (.int .u32 y)] [] (dataK [.sc (.int .u32), .sc (.int .u32)] K) = Nt.vc_nbitsMul32 x y K := by kernel_rfl
theorem s38 : SoundCon Go.Proofs.Try.prog 38 (dataCon [.sc (.int .u32), .sc (.int .u32)] Nt.cMul32.T) := by
  refine data_sound E38 ok38 (fn := Go.Proofs.Try.f38) (c := Go.Proofs.Try.f38.body.getD .skip) (by kernel_rfl) (by kernel_rfl) (by kernel_rfl) (rts := [4, 5]) (by kernel_rfl) (ts := [.sc (.int .u32), .sc (.int .u32)]) (by kernel_rfl) (Nt.cMul32_el (M := fun args K => awpBody E38 Go.Proofs.Try.f38.ntmps (List.map ResultVar.tmp [4, 5]) (Go.Proofs.Try.f38.body.getD .skip) args [] (dataK [.sc (.int .u32), .sc (.int .u32)] K)) fun x y K hyp => ?_)
  show awpBody E38 _ _ _ _ _ _
  rw [eq38 x y K]
  exact Nt.p_nbitsMul32 x y K hyp
def E39 : Env := { tys := [(35, { ty := .sc (.int .u32) }), (58, { ty := .sc (.int .u64) }), (62, { ty := .sc (.int .u64) })], cons := [], heads := [], meets := [] }
theorem ok39 : EnvOk Go.Proofs.Try.prog E39 := .of (by kernel_rfl) cons_nil (by kernel_rfl)
theorem eq39 (x y c : Int) (K : TV → Prop) : awpBody E39 Go.Proofs.Try.f39.ntmps (List.map ResultVar.tmp [6, 7]) (Go.Proofs.Try.f39.body.getD .skip) [.d (.int .u32 x), .d (.int .u32 y), .d (.int .u32 c)] [] (dataK [.sc (.int .u32), .sc (.int .u32)] K) = Nt.vc_nbitsAdd32 x y c K := by kernel_rfl
theorem s39 : SoundCon Go.Proofs.Try.prog 39 (dataCon [.sc (.int .u32), .sc (.int .u32), .sc (.int .u32)] Nt.cAdd32.T) := by
  refine data_sound E39 ok39 (fn := Go.Proofs.Try.f39) (c := Go.Proofs.Try.f39.body.getD .skip) (by kernel_rfl) (by kernel_rfl) (by kernel_rfl) (rts := [6, 7]) (by kernel_rfl) (ts := [.sc (.int .u32), .sc (.int .u32)]) (by kernel_rfl) (Nt.cAdd32_el (M := fun args K => awpBody E39 Go.Proofs.Try.f39.ntmps (List.map ResultVar.tmp [6, 7]) (Go.Proofs.Try.f39.body.getD .skip) args [] (dataK [.sc (.int .u32), .sc (.int .u32)] K)) fun x y c K hyp => ?_)
  show awpBody E39 _ _ _ _ _ _
  rw [eq39 x y c K]
  exact Nt.p_nbitsAdd32 x y c K hyp
def E51 : Env := { tys := [(35, { ty := .sc (.int .u32) }), (62, { ty := .sc (.int .u64) })], cons := [], heads := [], meets := [] }
theorem ok51 : EnvOk Go.Proofs.Try.prog E51 := .of (by kernel_rfl) cons_nil (by kernel_rfl)
theorem eq51 (x y c : Int) (K : TV → Prop) : awpBody E51 Go.Proofs.Try.f51.ntmps (List.map ResultVar.tmp [6, 7]) (Go.Proofs.Try.f51.body.getD .skip) [.d (.int .u32 x), .d (.int .u32 y), .d (.int .u32 c)] [] (dataK [.sc (.int .u32), .sc (.int .u32)] K) = Nt.vc_nbitsSub32 x y c K := by kernel_rfl
theorem s51 : SoundCon Go.Proofs.Try.prog 51 (dataCon [.sc (.int .u32), .sc (.int .u32), .sc (.int .u32)] Nt.cSub32.T) := by
  refine data_sound E51 ok51 (fn := Go.Proofs.Try.f51) (c := Go.Proofs.Try.f51.body.getD .skip) (by kernel_rfl) (by kernel_rfl) (by kernel_rfl) (rts := [6, 7]) (by kernel_rfl) (ts := [.sc (.int .u32), .sc (.int .u32)]) (by kernel_rfl) (Nt.cSub32_el (M := fun args K => awpBody E51 Go.Proofs.Try.f51.ntmps (List.map ResultVar.tmp [6, 7]) (Go.Proofs.Try.f51.body.getD .skip) args [] (dataK [.sc (.int .u32), .sc (.int .u32)] K)) fun x y c K hyp => ?_)
  show awpBody E51 _ _ _ _ _ _
  rw [eq51 x y c K]
  exact Nt.p_nbitsSub32 x y c K hyp
def E58 : Env := { tys := [(4, { ty := .sc (.bool) }), (35, { ty := .sc (.int .u32) }), (58, { ty := .sc (.int .u64) }), (62, { ty := .sc (.int .u64) })], cons := [], heads := [], meets := [(15, { slots := [(0, .keep), (1, .keep), (2, .keep)] })] }
theorem ok58 : EnvOk Go.Proofs.Try.prog E58 := .of (by kernel_rfl) cons_nil (by kernel_rfl)
theorem eq58 (h l y : Int) (K : TV → Prop) : awpBody E58 Go.Proofs.Try.f58.ntmps (List.map ResultVar.tmp [6, 7]) (Go.Proofs.Try.f58.body.getD .skip) [.d (.int .u32 h), .d (.int .u32 l), .d (.int .u32 y)] [] (dataK [.sc (.int .u32), .sc (.int .u32)] K) = Nt.vc_nbitsDiv32 h l y K := by kernel_rfl
theorem s58 : SoundCon Go.Proofs.Try.prog 58 (dataCon [.sc (.int .u32), .sc (.int .u32), .sc (.int .u32)] Nt.cDiv32.T) := by
  refine data_sound E58 ok58 (fn := Go.Proofs.Try.f58) (c := Go.Proofs.Try.f58.body.getD .skip) (by kernel_rfl) (by kernel_rfl) (by kernel_rfl) (rts := [6, 7]) (by kernel_rfl) (ts := [.sc (.int .u32), .sc (.int .u32)]) (by kernel_rfl) (Nt.cDiv32_el (M := fun args K => awpBody E58 Go.Proofs.Try.f58.ntmps (List.map ResultVar.tmp [6, 7]) (Go.Proofs.Try.f58.body.getD .skip) args [] (dataK [.sc (.int .u32), .sc (.int .u32)] K)) fun h l y K hyp => ?_)
  show awpBody E58 _ _ _ _ _ _
  rw [eq58 h l y K]
  exact Nt.p_nbitsDiv32 h l y K hyp
def E61 : Env := { tys := [(3, { ty := .sc (.int .i64) }), (4, { ty := .sc (.bool) }), (5, { ty := .sc (.int .u8) }), (9, { ty := .sc (.str) }), (35, { ty := .sc (.int .u32) }), (62, { ty := .sc (.int .u64) })], cons := [], heads := [], meets := [(4, { slots := [(0, .sc (.int .u32)), (2, .sc (.int .i64))] })] }
theorem ok61 : EnvOk Go.Proofs.Try.prog E61 := .of (by kernel_rfl) cons_nil (by kernel_rfl)
theorem eq61 (x : Int) (K : TV → Prop) : awpBody E61 Go.Proofs.Try.f61.ntmps (List.map ResultVar.tmp [2]) (Go.Proofs.Try.f61.body.getD .skip) [.d (.int .u32 x)] [] (dataK [.sc (.int .i64)] K) = Nt.vc_nbitsLen32 x K := by kernel_rfl
theorem s61 : SoundCon Go.Proofs.Try.prog 61 (dataCon [.sc (.int .u32)] Nt.cLen32.T) := by
  refine data_sound E61 ok61 (fn := Go.Proofs.Try.f61) (c := Go.Proofs.Try.f61.body.getD .skip) (by kernel_rfl) (by kernel_rfl) (by kernel_rfl) (rts := [2]) (by kernel_rfl) (ts := [.sc (.int .i64)]) (by kernel_rfl) (Nt.cLen32_el (M := fun args K => awpBody E61 Go.Proofs.Try.f61.ntmps (List.map ResultVar.tmp [2]) (Go.Proofs.Try.f61.body.getD .skip) args [] (dataK [.sc (.int .i64)] K)) fun x K hyp => ?_)
  show awpBody E61 _ _ _ _ _ _
  rw [eq61 x K]
  exact Nt.p_nbitsLen32 x K hyp
def E59 : Env := { tys := [(3, { ty := .sc (.int .i64) }), (35, { ty := .sc (.int .u32) })], cons := [(61, dataCon [.sc (.int .u32)] Nt.cLen32.T)], heads := [], meets := [] }
theorem ok59 : EnvOk Go.Proofs.Try.prog E59 := .of (by kernel_rfl) (cons_cons s61 (dataCon_ok (spec_ok _)) cons_nil) (by kernel_rfl)
theorem eq59 (x : Int) (K : TV → Prop) : awpBody E59 Go.Proofs.Try.f59.ntmps (List.map ResultVar.tmp [2]) (Go.Proofs.Try.f59.body.getD .skip) [.d (.int .u32 x)] [] (dataK [.sc (.int .i64)] K) = Nt.vc_nbitsLeadingZeros32 x K := by kernel_rfl
theorem s59 : SoundCon Go.Proofs.Try.prog 59 (dataCon [.sc (.int .u32)] Nt.cLeading.T) := by
  refine data_sound E59 ok59 (fn := Go.Proofs.Try.f59) (c := Go.Proofs.Try.f59.body.getD .skip) (by kernel_rfl) (by kernel_rfl) (by kernel_rfl) (rts := [2]) (by kernel_rfl) (ts := [.sc (.int .i64)]) (by kernel_rfl) (Nt.cLeading_el (M := fun args K => awpBody E59 Go.Proofs.Try.f59.ntmps (List.map ResultVar.tmp [2]) (Go.Proofs.Try.f59.body.getD .skip) args [] (dataK [.sc (.int .i64)] K)) fun x K hyp => ?_)
  show awpBody E59 _ _ _ _ _ _
  rw [eq59 x K]
  exact Nt.p_nbitsLeadingZeros32 x K hyp
def E40 : Env := { tys := [(4, { ty := .sc (.bool) }), (22, { ty := .sc (.sints .u32), elem := 35, bytes := 4, ecells := [.int .u32] })], cons := [], heads := [], meets := [] }
theorem ok40 : EnvOk Go.Proofs.Try.prog E40 := .of (by kernel_rfl) cons_nil (by kernel_rfl)
theorem eq40 (a : List Int) (K : TV → Prop) : awpBody E40 Go.Proofs.Try.f40.ntmps (List.map ResultVar.tmp [2]) (Go.Proofs.Try.f40.body.getD .skip) [.d (.ints .u32 a)] [] (dataK [.sc (.sints .u32)] K) = Nt.vc_nslClone a K := by kernel_rfl
theorem s40 : SoundCon Go.Proofs.Try.prog 40 (dataCon [.sc (.sints .u32)] Nt.cClone.T) := by
  refine data_sound E40 ok40 (fn := Go.Proofs.Try.f40) (c := Go.Proofs.Try.f40.body.getD .skip) (by kernel_rfl) (by kernel_rfl) (by kernel_rfl) (rts := [2]) (by kernel_rfl) (ts := [.sc (.sints .u32)]) (by kernel_rfl) (Nt.cClone_el (M := fun args K => awpBody E40 Go.Proofs.Try.f40.ntmps (List.map ResultVar.tmp [2]) (Go.Proofs.Try.f40.body.getD .skip) args [] (dataK [.sc (.sints .u32)] K)) fun a K hyp => ?_)
  show awpBody E40 _ _ _ _ _ _
  rw [eq40 a K]
  exact Nt.p_nslClone a K hyp
def E37 : Env := { tys := [(3, { ty := .sc (.int .i64) }), (4, { ty := .sc (.bool) }), (22, { ty := .sc (.sints .u32), elem := 35, bytes := 4, ecells := [.int .u32], lit := true }), (35, { ty := .sc (.int .u32) })], cons := [], heads := [(0, { slots := [(0, .sc (.sints .u32))] })], meets := [] }
theorem ok37 : EnvOk Go.Proofs.Try.prog E37 := .of (by kernel_rfl) cons_nil (by kernel_rfl)
theorem eq37 (a : List Int) (K : TV → Prop) : awpBody E37 Go.Proofs.Try.f37.ntmps (List.map ResultVar.tmp [2]) (Go.Proofs.Try.f37.body.getD .skip) [.d (.ints .u32 a)] [] (dataK [.sc (.sints .u32)] K) = Nt.vc_ntrim a K := by kernel_rfl
theorem s37 : SoundCon Go.Proofs.Try.prog 37 (dataCon [.sc (.sints .u32)] Nt.ctrim.T) := by
  refine data_sound E37 ok37 (fn := Go.Proofs.Try.f37) (c := Go.Proofs.Try.f37.body.getD .skip) (by kernel_rfl) (by kernel_rfl) (by kernel_rfl) (rts := [2]) (by kernel_rfl) (ts := [.sc (.sints .u32)]) (by kernel_rfl) (Nt.ctrim_el (M := fun args K => awpBody E37 Go.Proofs.Try.f37.ntmps (List.map ResultVar.tmp [2]) (Go.Proofs.Try.f37.body.getD .skip) args [] (dataK [.sc (.sints .u32)] K)) fun a K hyp => ?_)
  show awpBody E37 _ _ _ _ _ _
  rw [eq37 a K]
  exact Nt.p_ntrim a K hyp
def E20 : Env := { tys := [(22, { ty := .sc (.sints .u32), elem := 35, bytes := 4, ecells := [.int .u32], lit := true })], cons := [(37, dataCon [.sc (.sints .u32)] Nt.ctrim.T), (40, dataCon [.sc (.sints .u32)] Nt.cClone.T)], heads := [], meets := [] }
theorem ok20 : EnvOk Go.Proofs.Try.prog E20 := .of (by kernel_rfl) (cons_cons s37 (dataCon_ok (spec_ok _)) (cons_cons s40 (dataCon_ok (spec_ok _)) cons_nil)) (by kernel_rfl)
theorem eq20 (a : List Int) (K : TV → Prop) : awpBody E20 Go.Proofs.Try.f20.ntmps (List.map ResultVar.tmp [2]) (Go.Proofs.Try.f20.body.getD .skip) [.d (.ints .u32 a)] [] (dataK [.sc (.sints .u32)] K) = Nt.vc_nTrim a K := by kernel_rfl
theorem s20 : SoundCon Go.Proofs.Try.prog 20 (dataCon [.sc (.sints .u32)] Nt.cTrim.T) := by
  refine data_sound E20 ok20 (fn := Go.Proofs.Try.f20) (c := Go.Proofs.Try.f20.body.getD .skip) (by kernel_rfl) (by kernel_rfl) (by kernel_rfl) (rts := [2]) (by kernel_rfl) (ts := [.sc (.sints .u32)]) (by kernel_rfl) (Nt.cTrim_el (M := fun args K => awpBody E20 Go.Proofs.Try.f20.ntmps (List.map ResultVar.tmp [2]) (Go.Proofs.Try.f20.body.getD .skip) args [] (dataK [.sc (.sints .u32)] K)) fun a K hyp => ?_)
  show awpBody E20 _ _ _ _ _ _
  rw [eq20 a K]
  exact Nt.p_nTrim a K hyp
def E42 : Env := { tys := [(2, { ty := .sc (.int .i64) }), (22, { ty := .sc (.sints .u32), elem := 35, bytes := 4, ecells := [.int .u32], lit := true }), (35, { ty := .sc (.int .u32) }), (58, { ty := .sc (.int .u64) }), (62, { ty := .sc (.int .u64) })], cons := [(37, dataCon [.sc (.sints .u32)] Nt.ctrim.T)], heads := [], meets := [] }
theorem ok42 : EnvOk Go.Proofs.Try.prog E42 := .of (by kernel_rfl) (cons_cons s37 (dataCon_ok (spec_ok _)) cons_nil) (by kernel_rfl)
theorem eq42 (u : Int) (K : TV → Prop) : awpBody E42 Go.Proofs.Try.f42.ntmps (List.map ResultVar.tmp [2]) (Go.Proofs.Try.f42.body.getD .skip) [.d (.int .u64 u)] [] (dataK [.sc (.sints .u32)] K) = Nt.vc_nfromUint u K := by kernel_rfl
theorem s42 : SoundCon Go.Proofs.Try.prog 42 (dataCon [.sc (.int .u64)] Nt.cfromUint.T) := by
  refine data_sound E42 ok42 (fn := Go.Proofs.Try.f42) (c := Go.Proofs.Try.f42.body.getD .skip) (by kernel_rfl) (by kernel_rfl) (by kernel_rfl) (rts := [2]) (by kernel_rfl) (ts := [.sc (.sints .u32)]) (by kernel_rfl) (Nt.cfromUint_el (M := fun args K => awpBody E42 Go.Proofs.Try.f42.ntmps (List.map ResultVar.tmp [2]) (Go.Proofs.Try.f42.body.getD .skip) args [] (dataK [.sc (.sints .u32)] K)) fun u K hyp => ?_)
  show awpBody E42 _ _ _ _ _ _
  rw [eq42 u K]
  exact Nt.p_nfromUint u K hyp
def E44 : Env := { tys := [(3, { ty := .sc (.int .i64) }), (22, { ty := .sc (.sints .u32), elem := 35, bytes := 4, ecells := [.int .u32], lit := true }), (35, { ty := .sc (.int .u32) }), (58, { ty := .sc (.int .u64) })], cons := [], heads := [(0, { slots := [(3, .sc (.int .u64)), (6, .keep), (7, .keep), (8, .sc (.int .i64))] })], meets := [] }
theorem ok44 : EnvOk Go.Proofs.Try.prog E44 := .of (by kernel_rfl) cons_nil (by kernel_rfl)
theorem eq44 (a : List Int) (K : TV → Prop) : awpBody E44 Go.Proofs.Try.f44.ntmps (List.map ResultVar.tmp [2]) (Go.Proofs.Try.f44.body.getD .skip) [.d (.ints .u32 a)] [] (dataK [.sc (.int .u64)] K) = Nt.vc_ntoUint a K := by kernel_rfl
theorem s44 : SoundCon Go.Proofs.Try.prog 44 (dataCon [.sc (.sints .u32)] Nt.ctoUint.T) := by
  refine data_sound E44 ok44 (fn := Go.Proofs.Try.f44) (c := Go.Proofs.Try.f44.body.getD .skip) (by kernel_rfl) (by kernel_rfl) (by kernel_rfl) (rts := [2]) (by kernel_rfl) (ts := [.sc (.int .u64)]) (by kernel_rfl) (Nt.ctoUint_el (M := fun args K => awpBody E44 Go.Proofs.Try.f44.ntmps (List.map ResultVar.tmp [2]) (Go.Proofs.Try.f44.body.getD .skip) args [] (dataK [.sc (.int .u64)] K)) fun a K hyp => ?_)
  show awpBody E44 _ _ _ _ _ _
  rw [eq44 a K]
  exact Nt.p_ntoUint a K hyp
def E19 : Env := { tys := [(3, { ty := .sc (.int .i64) }), (4, { ty := .sc (.bool) }), (22, { ty := .sc (.sints .u32), elem := 35, bytes := 4, ecells := [.int .u32], lit := true }), (35, { ty := .sc (.int .u32) })], cons := [(37, dataCon [.sc (.sints .u32)] Nt.ctrim.T)], heads := [(0, { slots := [(0, .keep), (1, .keep), (5, .sc (.int .i64))] })], meets := [] }
theorem ok19 : EnvOk Go.Proofs.Try.prog E19 := .of (by kernel_rfl) (cons_cons s37 (dataCon_ok (spec_ok _)) cons_nil) (by kernel_rfl)
theorem eq19 (a b : List Int) (K : TV → Prop) : awpBody E19 Go.Proofs.Try.f19.ntmps (List.map ResultVar.tmp [4]) (Go.Proofs.Try.f19.body.getD .skip) [.d (.ints .u32 a), .d (.ints .u32 b)] [] (dataK [.sc (.int .i64)] K) = Nt.vc_nCmp a b K := by kernel_rfl
theorem s19 : SoundCon Go.Proofs.Try.prog 19 (dataCon [.sc (.sints .u32), .sc (.sints .u32)] Nt.cCmp.T) := by
  refine data_sound E19 ok19 (fn := Go.Proofs.Try.f19) (c := Go.Proofs.Try.f19.body.getD .skip) (by kernel_rfl) (by kernel_rfl) (by kernel_rfl) (rts := [4]) (by kernel_rfl) (ts := [.sc (.int .i64)]) (by kernel_rfl) (Nt.cCmp_el (M := fun args K => awpBody E19 Go.Proofs.Try.f19.ntmps (List.map ResultVar.tmp [4]) (Go.Proofs.Try.f19.body.getD .skip) args [] (dataK [.sc (.int .i64)] K)) fun a b K hyp => ?_)
  show awpBody E19 _ _ _ _ _ _
  rw [eq19 a b K]
  exact Nt.p_nCmp a b K hyp
def E18 : Env := { tys := [(1, { ty := .sc (.other) }), (3, { ty := .sc (.int .i64) }), (4, { ty := .sc (.bool) }), (22, { ty := .sc (.sints .u32), elem := 35, bytes := 4, ecells := [.int .u32], lit := true }), (35, { ty := .sc (.int .u32) })], cons := [(37, dataCon [.sc (.sints .u32)] Nt.ctrim.T), (39, dataCon [.sc (.int .u32), .sc (.int .u32), .sc (.int .u32)] Nt.cAdd32.T)], heads := [(0, { slots := [(0, .keep), (1, .keep), (5, .keep), (6, .sc (.int .u32)), (21, .keep), (22, .keep), (23, .sc (.int .i64))], own := [.ints .u32] })], meets := [(14, { slots := [(0, .sc (.sints .u32)), (1, .sc (.sints .u32))] }), (31, { slots := [(0, .keep), (1, .keep), (5, .keep), (6, .keep), (7, .keep), (8, .keep), (9, .sc (.int .u32)), (21, .keep), (22, .keep), (23, .keep)], own := [.keep] })] }
theorem ok18 : EnvOk Go.Proofs.Try.prog E18 := .of (by kernel_rfl) (cons_cons s37 (dataCon_ok (spec_ok _)) (cons_cons s39 (dataCon_ok (spec_ok _)) cons_nil)) (by kernel_rfl)
theorem eq18 (a b : List Int) (K : TV → Prop) : awpBody E18 Go.Proofs.Try.f18.ntmps (List.map ResultVar.tmp [4]) (Go.Proofs.Try.f18.body.getD .skip) [.d (.ints .u32 a), .d (.ints .u32 b)] [] (dataK [.sc (.sints .u32)] K) = Nt.vc_nAdd a b K := by kernel_rfl
theorem s18 : SoundCon Go.Proofs.Try.prog 18 (dataCon [.sc (.sints .u32), .sc (.sints .u32)] Nt.cAdd.T) := by
  refine data_sound E18 ok18 (fn := Go.Proofs.Try.f18) (c := Go.Proofs.Try.f18.body.getD .skip) (by kernel_rfl) (by kernel_rfl) (by kernel_rfl) (rts := [4]) (by kernel_rfl) (ts := [.sc (.sints .u32)]) (by kernel_rfl) (Nt.cAdd_el (M := fun args K => awpBody E18 Go.Proofs.Try.f18.ntmps (List.map ResultVar.tmp [4]) (Go.Proofs.Try.f18.body.getD .skip) args [] (dataK [.sc (.sints .u32)] K)) fun a b K hyp => ?_)
  show awpBody E18 _ _ _ _ _ _
  rw [eq18 a b K]
  exact Nt.p_nAdd a b K hyp
def E27 : Env := { tys := [(1, { ty := .sc (.other) }), (3, { ty := .sc (.int .i64) }), (4, { ty := .sc (.bool) }), (22, { ty := .sc (.sints .u32), elem := 35, bytes := 4, ecells := [.int .u32], lit := true }), (24, { ty := .sc (.int .i64) }), (35, { ty := .sc (.int .u32) })], cons := [(19, dataCon [.sc (.sints .u32), .sc (.sints .u32)] Nt.cCmp.T), (37, dataCon [.sc (.sints .u32)] Nt.ctrim.T), (51, dataCon [.sc (.int .u32), .sc (.int .u32), .sc (.int .u32)] Nt.cSub32.T)], heads := [(0, { slots := [(1, .keep), (6, .keep), (7, .sc (.int .u32)), (22, .keep), (23, .keep), (24, .sc (.int .i64))], own := [.ints .u32] })], meets := [(32, { slots := [(1, .keep), (6, .keep), (7, .keep), (8, .keep), (9, .keep), (10, .sc (.int .u32)), (22, .keep), (23, .keep), (24, .keep)], own := [.keep] })] }
theorem ok27 : EnvOk Go.Proofs.Try.prog E27 := .of (by kernel_rfl) (cons_cons s19 (dataCon_ok (spec_ok _)) (cons_cons s37 (dataCon_ok (spec_ok _)) (cons_cons s51 (dataCon_ok (spec_ok _)) cons_nil))) (by kernel_rfl)
theorem eq27 (a b : List Int) (K : TV → Prop) : awpBody E27 Go.Proofs.Try.f27.ntmps (List.map ResultVar.tmp [4, 5]) (Go.Proofs.Try.f27.body.getD .skip) [.d (.ints .u32 a), .d (.ints .u32 b)] [] (dataK [.sc (.sints .u32), .sc (.int .i64)] K) = Nt.vc_nSub a b K := by kernel_rfl
theorem s27 : SoundCon Go.Proofs.Try.prog 27 (dataCon [.sc (.sints .u32), .sc (.sints .u32)] Nt.cSub.T) := by
  refine data_sound E27 ok27 (fn := Go.Proofs.Try.f27) (c := Go.Proofs.Try.f27.body.getD .skip) (by kernel_rfl) (by kernel_rfl) (by kernel_rfl) (rts := [4, 5]) (by kernel_rfl) (ts := [.sc (.sints .u32), .sc (.int .i64)]) (by kernel_rfl) (Nt.cSub_el (M := fun args K => awpBody E27 Go.Proofs.Try.f27.ntmps (List.map ResultVar.tmp [4, 5]) (Go.Proofs.Try.f27.body.getD .skip) args [] (dataK [.sc (.sints .u32), .sc (.int .i64)] K)) fun a b K hyp => ?_)
  show awpBody E27 _ _ _ _ _ _
  rw [eq27 a b K]
  exact Nt.p_nSub a b K hyp
def E41 : Env := { tys := [(1, { ty := .sc (.other) }), (3, { ty := .sc (.int .i64) }), (4, { ty := .sc (.bool) }), (22, { ty := .sc (.sints .u32), elem := 35, bytes := 4, ecells := [.int .u32], lit := true }), (35, { ty := .sc (.int .u32) })], cons := [(37, dataCon [.sc (.sints .u32)] Nt.ctrim.T), (58, dataCon [.sc (.int .u32), .sc (.int .u32), .sc (.int .u32)] Nt.cDiv32.T)], heads := [(0, { slots := [(0, .keep), (1, .keep), (6, .keep), (7, .sc (.int .u32)), (8, .sc (.int .i64))], own := [.ints .u32] })], meets := [] }
theorem ok41 : EnvOk Go.Proofs.Try.prog E41 := .of (by kernel_rfl) (cons_cons s37 (dataCon_ok (spec_ok _)) (cons_cons s58 (dataCon_ok (spec_ok _)) cons_nil)) (by kernel_rfl)
theorem eq41 (a : List Int) (d : Int) (K : TV → Prop) : awpBody E41 Go.Proofs.Try.f41.ntmps (List.map ResultVar.tmp [4, 5]) (Go.Proofs.Try.f41.body.getD .skip) [.d (.ints .u32 a), .d (.int .u32 d)] [] (dataK [.sc (.sints .u32), .sc (.int .u32)] K) = Nt.vc_nshort a d K := by kernel_rfl
theorem s41 : SoundCon Go.Proofs.Try.prog 41 (dataCon [.sc (.sints .u32), .sc (.int .u32)] Nt.cshort.T) := by
  refine data_sound E41 ok41 (fn := Go.Proofs.Try.f41) (c := Go.Proofs.Try.f41.body.getD .skip) (by kernel_rfl) (by kernel_rfl) (by kernel_rfl) (rts := [4, 5]) (by kernel_rfl) (ts := [.sc (.sints .u32), .sc (.int .u32)]) (by kernel_rfl) (Nt.cshort_el (M := fun args K => awpBody E41 Go.Proofs.Try.f41.ntmps (List.map ResultVar.tmp [4, 5]) (Go.Proofs.Try.f41.body.getD .skip) args [] (dataK [.sc (.sints .u32), .sc (.int .u32)] K)) fun a d K hyp => ?_)
  show awpBody E41 _ _ _ _ _ _
  rw [eq41 a d K]
  exact Nt.p_nshort a d K hyp
def E60 : Env := { tys := [(3, { ty := .sc (.int .i64) }), (22, { ty := .sc (.sints .u32), elem := 35, bytes := 4, ecells := [.int .u32], lit := true }), (35, { ty := .sc (.int .u32) }), (58, { ty := .sc (.int .u64) }), (62, { ty := .sc (.int .u64) })], cons := [], heads := [(0, { slots := [(1, .keep), (5, .keep), (13, .keep), (14, .keep), (15, .sc (.int .i64))], own := [.ints .u32] })], meets := [] }
theorem ok60 : EnvOk Go.Proofs.Try.prog E60 := .of (by kernel_rfl) cons_nil (by kernel_rfl)
theorem eq60 (a : List Int) (k : Int) (K : OB → Prop) : awpBody E60 Go.Proofs.Try.f60.ntmps (List.map ResultVar.tmp [4]) (Go.Proofs.Try.f60.body.getD .skip) [.d (.ints .u32 a), .d (.int .u64 k)] [] (freshK (.sc (.sints .u32)) K) = Nt.vc_nshift a k K := by kernel_rfl
theorem s60 : SoundCon Go.Proofs.Try.prog 60 (freshCon [.sc (.sints .u32), .sc (.int .u64)] Nt.cshift.T) := by
  refine fresh_sound E60 ok60 (fn := Go.Proofs.Try.f60) (c := Go.Proofs.Try.f60.body.getD .skip) (by kernel_rfl) (by kernel_rfl) (by kernel_rfl) (r := 4) (by kernel_rfl) (t := .sc (.sints .u32)) (Nt.cshift_el (M := fun args K => awpBody E60 Go.Proofs.Try.f60.ntmps (List.map ResultVar.tmp [4]) (Go.Proofs.Try.f60.body.getD .skip) args [] (freshK (.sc (.sints .u32)) K)) fun a k K hyp => ?_)
  show awpBody E60 _ _ _ _ _ _
  rw [eq60 a k K]
  exact Nt.p_nshift a k K hyp
def E43 : Env := { tys := [(3, { ty := .sc (.int .i64) }), (4, { ty := .sc (.bool) }), (22, { ty := .sc (.sints .u32), elem := 35, bytes := 4, ecells := [.int .u32], lit := true }), (35, { ty := .sc (.int .u32) }), (58, { ty := .sc (.int .u64) }), (62, { ty := .sc (.int .u64) })], cons := [(37, dataCon [.sc (.sints .u32)] (named Nt.ctrim.T)), (59, dataCon [.sc (.int .u32)] (named Nt.cLeading.T)), (60, freshCon [.sc (.sints .u32), .sc (.int .u64)] (fnamed Nt.cshift.T))], heads := [(0, { slots := [(4, .keep), (6, .keep), (7, .keep), (8, .keep), (9, .keep), (10, .keep), (11, .keep), (12, .sc (.int .i64))], own := [.ints .u32, .keep, .ints .u32] }), (2, { slots := [(4, .keep), (6, .keep), (7, .keep), (8, .keep), (9, .keep), (10, .keep), (11, .keep), (12, .keep), (14, .sc (.int .u64)), (15, .sc (.int .u64))], own := [.keep, .keep, .keep] }), (4, { slots := [(4, .keep), (6, .keep), (7, .keep), (8, .keep), (9, .keep), (10, .keep), (11, .keep), (12, .keep), (14, .keep), (16, .sc (.int .u64)), (17, .sc (.int .u64)), (117, .keep), (118, .keep), (119, .sc (.int .i64))], own := [.ints .u32, .keep, .ints .u32] }), (6, { slots := [(4, .keep), (6, .keep), (7, .keep), (8, .keep), (9, .keep), (10, .keep), (11, .keep), (12, .keep), (14, .keep), (17, .sc (.int .u64)), (177, .keep), (178, .keep), (179, .sc (.int .i64))], own := [.ints .u32, .keep, .ints .u32] }), (8, { slots := [(4, .keep), (5, .keep), (6, .keep), (7, .keep), (223, .keep), (224, .sc (.int .i64))], own := [.ints .u32, .keep, .ints .u32, .ints .u32] })], meets := [(100002, { slots := [(4, .keep), (6, .keep), (7, .keep), (8, .keep), (9, .keep), (10, .keep), (11, .keep), (12, .keep), (14, .sc (.int .u64))], own := [.keep, .keep, .keep] }), (174, { slots := [(4, .keep), (6, .keep), (7, .keep), (8, .keep), (9, .keep), (10, .keep), (11, .keep), (12, .keep), (14, .sc (.int .u64))], own := [.ints .u32, .keep, .ints .u32] })] }
theorem ok43 : EnvOk Go.Proofs.Try.prog E43 := .of (by kernel_rfl) (cons_cons (named_con s37) (dataCon_ok (named_ok (spec_ok _))) (cons_cons (named_con s59) (dataCon_ok (named_ok (spec_ok _))) (cons_cons (fnamed_con s60) (freshCon_ok (fnamed_ok (fspec_ok _))) cons_nil))) (by kernel_rfl)
theorem eq43 (a b : List Int) (K : TV → Prop) : awpBody E43 Go.Proofs.Try.f43.ntmps (List.map ResultVar.tmp [4, 5]) (Go.Proofs.Try.f43.body.getD .skip) [.d (.ints .u32 a), .d (.ints .u32 b)] [] (dataK [.sc (.sints .u32), .sc (.sints .u32)] K) = Nt.vc_nlong a b K := by kernel_rfl
theorem s43 : SoundCon Go.Proofs.Try.prog 43 (dataCon [.sc (.sints .u32), .sc (.sints .u32)] Nt.clong.T) := by
  refine data_sound E43 ok43 (fn := Go.Proofs.Try.f43) (c := Go.Proofs.Try.f43.body.getD .skip) (by kernel_rfl) (by kernel_rfl) (by kernel_rfl) (rts := [4, 5]) (by kernel_rfl) (ts := [.sc (.sints .u32), .sc (.sints .u32)]) (by kernel_rfl) (Nt.clong_el (M := fun args K => awpBody E43 Go.Proofs.Try.f43.ntmps (List.map ResultVar.tmp [4, 5]) (Go.Proofs.Try.f43.body.getD .skip) args [] (dataK [.sc (.sints .u32), .sc (.sints .u32)] K)) fun a b K hyp => ?_)
  show awpBody E43 _ _ _ _ _ _
  rw [eq43 a b K]
  exact Nt.p_nlong a b K hyp
def E50 : Env := { tys := [(3, { ty := .sc (.int .i64) }), (4, { ty := .sc (.bool) }), (5, { ty := .sc (.int .u8) }), (65, { ty := .sc (.sints .u8), elem := 5, bytes := 1, ecells := [.int .u8], lit := true })], cons := [], heads := [(0, { slots := [(0, .keep), (2, .sc (.int .i64)), (3, .sc (.int .i64))], own := [.ints .u8] })], meets := [] }
theorem ok50 : EnvOk Go.Proofs.Try.prog E50 := .of (by kernel_rfl) cons_nil (by kernel_rfl)
theorem eq50 (l : List Int) (K : OB → TV → Prop) : awpLend E50 Go.Proofs.Try.f50.ntmps (List.map ResultVar.tmp []) (Go.Proofs.Try.f50.body.getD .skip) (.vec 0) (.ints .u8 l) [] [] K = Nt.vc_nslReverse l K := by kernel_rfl
theorem s50 : SoundCon Go.Proofs.Try.prog 50 (lendCon [] Nt.cReverse.T) := by
  refine lend_sound E50 ok50 (fn := Go.Proofs.Try.f50) (c := Go.Proofs.Try.f50.body.getD .skip) (by kernel_rfl) (by kernel_rfl) (by kernel_rfl) (rts := []) (by kernel_rfl) (by kernel_rfl) (ts := []) (by kernel_rfl) (Nt.cReverse_el (M := fun a0 ob args K => awpLend E50 Go.Proofs.Try.f50.ntmps (List.map ResultVar.tmp []) (Go.Proofs.Try.f50.body.getD .skip) a0 ob args [] K) fun l K hyp => ?_)
  show awpLend E50 _ _ _ _ _ _ _ _
  rw [eq50 l K]
  exact Nt.p_nslReverse l K hyp
def E25 : Env := { tys := [(1, { ty := .sc (.other) }), (3, { ty := .sc (.int .i64) }), (4, { ty := .sc (.bool) }), (5, { ty := .sc (.int .u8) }), (9, { ty := .sc (.str) }), (22, { ty := .sc (.sints .u32), elem := 35, bytes := 4, ecells := [.int .u32], lit := true }), (35, { ty := .sc (.int .u32) }), (65, { ty := .sc (.sints .u8), elem := 5, bytes := 1, ecells := [.int .u8], lit := true })], cons := [(37, dataCon [.sc (.sints .u32)] Nt.ctrim.T), (41, dataCon [.sc (.sints .u32), .sc (.int .u32)] Nt.cshort.T), (50, lendCon [] Nt.cReverse.T)], heads := [(0, { slots := [(0, .sc (.sints .u32)), (3, .keep)], own := [.ints .u8], conv := [(3, .sints .u8)] }), (2, { slots := [(0, .keep), (3, .keep), (4, .sc (.int .u32)), (15, .sc (.int .i64))], own := [.ints .u8] })], meets := [] }
theorem ok25 : EnvOk Go.Proofs.Try.prog E25 := .of (by kernel_rfl) (cons_cons s37 (dataCon_ok (spec_ok _)) (cons_cons s41 (dataCon_ok (spec_ok _)) (cons_cons s50 (lendCon_ok (lspec_ok _)) cons_nil))) (by kernel_rfl)
theorem eq25 (a : List Int) (K : TV → Prop) : awpBody E25 Go.Proofs.Try.f25.ntmps (List.map ResultVar.tmp [2]) (Go.Proofs.Try.f25.body.getD .skip) [.d (.ints .u32 a)] [] (dataK [.sc .str] K) = Nt.vc_nFormat a K := by kernel_rfl
theorem s25 : SoundCon Go.Proofs.Try.prog 25 (dataCon [.sc (.sints .u32)] Nt.cFormat.T) := by
  refine data_sound E25 ok25 (fn := Go.Proofs.Try.f25) (c := Go.Proofs.Try.f25.body.getD .skip) (by kernel_rfl) (by kernel_rfl) (by kernel_rfl) (rts := [2]) (by kernel_rfl) (ts := [.sc .str]) (by kernel_rfl) (Nt.cFormat_el (M := fun args K => awpBody E25 Go.Proofs.Try.f25.ntmps (List.map ResultVar.tmp [2]) (Go.Proofs.Try.f25.body.getD .skip) args [] (dataK [.sc .str] K)) fun a K hyp => ?_)
  show awpBody E25 _ _ _ _ _ _
  rw [eq25 a K]
  exact Nt.p_nFormat a K hyp
def E16 : Env := { tys := [(1, { ty := .sc (.other) }), (3, { ty := .sc (.int .i64) }), (4, { ty := .sc (.bool) }), (22, { ty := .sc (.sints .u32), elem := 35, bytes := 4, ecells := [.int .u32], lit := true }), (24, { ty := .sc (.int .i64) }), (35, { ty := .sc (.int .u32) }), (58, { ty := .sc (.int .u64) })], cons := [(19, dataCon [.sc (.sints .u32), .sc (.sints .u32)] Nt.cCmp.T), (37, dataCon [.sc (.sints .u32)] Nt.ctrim.T), (40, dataCon [.sc (.sints .u32)] Nt.cClone.T), (41, dataCon [.sc (.sints .u32), .sc (.int .u32)] Nt.cshort.T), (42, dataCon [.sc (.int .u64)] Nt.cfromUint.T), (43, dataCon [.sc (.sints .u32), .sc (.sints .u32)] Nt.clong.T)], heads := [], meets := [] }
theorem ok16 : EnvOk Go.Proofs.Try.prog E16 := .of (by kernel_rfl) (cons_cons s19 (dataCon_ok (spec_ok _)) (cons_cons s37 (dataCon_ok (spec_ok _)) (cons_cons s40 (dataCon_ok (spec_ok _)) (cons_cons s41 (dataCon_ok (spec_ok _)) (cons_cons s42 (dataCon_ok (spec_ok _)) (cons_cons s43 (dataCon_ok (spec_ok _)) cons_nil)))))) (by kernel_rfl)
theorem eq16 (a b : List Int) (K : TV → Prop) : awpBody E16 Go.Proofs.Try.f16.ntmps (List.map ResultVar.tmp [4, 5, 6]) (Go.Proofs.Try.f16.body.getD .skip) [.d (.ints .u32 a), .d (.ints .u32 b)] [] (dataK [.sc (.sints .u32), .sc (.sints .u32), .sc (.int .i64)] K) = Nt.vc_nDivMod a b K := by kernel_rfl
theorem s16 : SoundCon Go.Proofs.Try.prog 16 (dataCon [.sc (.sints .u32), .sc (.sints .u32)] Nt.cDivMod.T) := by
  refine data_sound E16 ok16 (fn := Go.Proofs.Try.f16) (c := Go.Proofs.Try.f16.body.getD .skip) (by kernel_rfl) (by kernel_rfl) (by kernel_rfl) (rts := [4, 5, 6]) (by kernel_rfl) (ts := [.sc (.sints .u32), .sc (.sints .u32), .sc (.int .i64)]) (by kernel_rfl) (Nt.cDivMod_el (M := fun args K => awpBody E16 Go.Proofs.Try.f16.ntmps (List.map ResultVar.tmp [4, 5, 6]) (Go.Proofs.Try.f16.body.getD .skip) args [] (dataK [.sc (.sints .u32), .sc (.sints .u32), .sc (.int .i64)] K)) fun a b K hyp => ?_)
  show awpBody E16 _ _ _ _ _ _
  rw [eq16 a b K]
  exact Nt.p_nDivMod a b K hyp
def E14 : Env := { tys := [(1, { ty := .sc (.other) }), (3, { ty := .sc (.int .i64) }), (22, { ty := .sc (.sints .u32), elem := 35, bytes := 4, ecells := [.int .u32], lit := true }), (35, { ty := .sc (.int .u32) })], cons := [(37, dataCon [.sc (.sints .u32)] Nt.ctrim.T), (38, dataCon [.sc (.int .u32), .sc (.int .u32)] Nt.cMul32.T), (39, dataCon [.sc (.int .u32), .sc (.int .u32), .sc (.int .u32)] Nt.cAdd32.T)], heads := [(0, { slots := [(1, .keep), (5, .keep), (24, .keep), (25, .keep), (26, .sc (.int .i64))], own := [.ints .u32] }), (2, { slots := [(1, .keep), (5, .keep), (6, .keep), (7, .keep), (8, .sc (.int .u32)), (24, .keep), (25, .keep), (26, .keep), (31, .keep), (32, .keep), (33, .sc (.int .i64))], own := [.ints .u32] })], meets := [] }
theorem ok14 : EnvOk Go.Proofs.Try.prog E14 := .of (by kernel_rfl) (cons_cons s37 (dataCon_ok (spec_ok _)) (cons_cons s38 (dataCon_ok (spec_ok _)) (cons_cons s39 (dataCon_ok (spec_ok _)) cons_nil))) (by kernel_rfl)
theorem eq14 (a b : List Int) (K : TV → Prop) : awpBody E14 Go.Proofs.Try.f14.ntmps (List.map ResultVar.tmp [4]) (Go.Proofs.Try.f14.body.getD .skip) [.d (.ints .u32 a), .d (.ints .u32 b)] [] (dataK [.sc (.sints .u32)] K) = Nt.vc_nMul a b K := by kernel_rfl
theorem s14 : SoundCon Go.Proofs.Try.prog 14 (dataCon [.sc (.sints .u32), .sc (.sints .u32)] Nt.cMul.T) := by
  refine data_sound E14 ok14 (fn := Go.Proofs.Try.f14) (c := Go.Proofs.Try.f14.body.getD .skip) (by kernel_rfl) (by kernel_rfl) (by kernel_rfl) (rts := [4]) (by kernel_rfl) (ts := [.sc (.sints .u32)]) (by kernel_rfl) (Nt.cMul_el (M := fun args K => awpBody E14 Go.Proofs.Try.f14.ntmps (List.map ResultVar.tmp [4]) (Go.Proofs.Try.f14.body.getD .skip) args [] (dataK [.sc (.sints .u32)] K)) fun a b K hyp => ?_)
  show awpBody E14 _ _ _ _ _ _
  rw [eq14 a b K]
  exact Nt.p_nMul a b K hyp
def E12 : Env := { tys := [(1, { ty := .sc (.other) }), (3, { ty := .sc (.int .i64) }), (4, { ty := .sc (.bool) }), (22, { ty := .sc (.sints .u32), elem := 35, bytes := 4, ecells := [.int .u32], lit := true }), (24, { ty := .sc (.int .i64) })], cons := [(14, dataCon [.sc (.sints .u32), .sc (.sints .u32)] Nt.cMul.T)], heads := [(0, { slots := [(0, .keep), (6, .sc (.sints .u32)), (14, .keep), (15, .sc (.int .i64))] })], meets := [] }
theorem ok12 : EnvOk Go.Proofs.Try.prog E12 := .of (by kernel_rfl) (cons_cons s14 (dataCon_ok (spec_ok _)) cons_nil) (by kernel_rfl)
theorem eq12 (a : List Int) (n : Int) (K : TV → Prop) : awpBody E12 Go.Proofs.Try.f12.ntmps (List.map ResultVar.tmp [4, 5]) (Go.Proofs.Try.f12.body.getD .skip) [.d (.ints .u32 a), .d (.int .i64 n)] [] (dataK [.sc (.sints .u32), .sc (.int .i64)] K) = Nt.vc_nPow a n K := by kernel_rfl
theorem s12 : SoundCon Go.Proofs.Try.prog 12 (dataCon [.sc (.sints .u32), .sc (.int .i64)] Nt.cPow.T) := by
  refine data_sound E12 ok12 (fn := Go.Proofs.Try.f12) (c := Go.Proofs.Try.f12.body.getD .skip) (by kernel_rfl) (by kernel_rfl) (by kernel_rfl) (rts := [4, 5]) (by kernel_rfl) (ts := [.sc (.sints .u32), .sc (.int .i64)]) (by kernel_rfl) (Nt.cPow_el (M := fun args K => awpBody E12 Go.Proofs.Try.f12.ntmps (List.map ResultVar.tmp [4, 5]) (Go.Proofs.Try.f12.body.getD .skip) args [] (dataK [.sc (.sints .u32), .sc (.int .i64)] K)) fun a n K hyp => ?_)
  show awpBody E12 _ _ _ _ _ _
  rw [eq12 a n K]
  exact Nt.p_nPow a n K hyp
def E23 : Env := { tys := [(3, { ty := .sc (.int .i64) }), (4, { ty := .sc (.bool) }), (22, { ty := .sc (.sints .u32), elem := 35, bytes := 4, ecells := [.int .u32], lit := true }), (24, { ty := .sc (.int .i64) }), (58, { ty := .sc (.int .u64) })], cons := [(42, dataCon [.sc (.int .u64)] Nt.cfromUint.T)], heads := [], meets := [] }
theorem ok23 : EnvOk Go.Proofs.Try.prog E23 := .of (by kernel_rfl) (cons_cons s42 (dataCon_ok (spec_ok _)) cons_nil) (by kernel_rfl)
theorem eq23 (n : Int) (K : TV → Prop) : awpBody E23 Go.Proofs.Try.f23.ntmps (List.map ResultVar.tmp [2, 3]) (Go.Proofs.Try.f23.body.getD .skip) [.d (.int .i64 n)] [] (dataK [.sc (.sints .u32), .sc (.int .i64)] K) = Nt.vc_nFromInt n K := by kernel_rfl
theorem s23 : SoundCon Go.Proofs.Try.prog 23 (dataCon [.sc (.int .i64)] Nt.cFromInt.T) := by
  refine data_sound E23 ok23 (fn := Go.Proofs.Try.f23) (c := Go.Proofs.Try.f23.body.getD .skip) (by kernel_rfl) (by kernel_rfl) (by kernel_rfl) (rts := [2, 3]) (by kernel_rfl) (ts := [.sc (.sints .u32), .sc (.int .i64)]) (by kernel_rfl) (Nt.cFromInt_el (M := fun args K => awpBody E23 Go.Proofs.Try.f23.ntmps (List.map ResultVar.tmp [2, 3]) (Go.Proofs.Try.f23.body.getD .skip) args [] (dataK [.sc (.sints .u32), .sc (.int .i64)] K)) fun n K hyp => ?_)
  show awpBody E23 _ _ _ _ _ _
  rw [eq23 n K]
  exact Nt.p_nFromInt n K hyp
def E24 : Env := { tys := [(3, { ty := .sc (.int .i64) }), (4, { ty := .sc (.bool) }), (22, { ty := .sc (.sints .u32), elem := 35, bytes := 4, ecells := [.int .u32], lit := true }), (24, { ty := .sc (.int .i64) }), (35, { ty := .sc (.int .u32) }), (58, { ty := .sc (.int .u64) }), (62, { ty := .sc (.int .u64) })], cons := [(37, dataCon [.sc (.sints .u32)] Nt.ctrim.T), (44, dataCon [.sc (.sints .u32)] Nt.ctoUint.T)], heads := [], meets := [] }
theorem ok24 : EnvOk Go.Proofs.Try.prog E24 := .of (by kernel_rfl) (cons_cons s37 (dataCon_ok (spec_ok _)) (cons_cons s44 (dataCon_ok (spec_ok _)) cons_nil)) (by kernel_rfl)
theorem eq24 (a : List Int) (K : TV → Prop) : awpBody E24 Go.Proofs.Try.f24.ntmps (List.map ResultVar.tmp [2, 3]) (Go.Proofs.Try.f24.body.getD .skip) [.d (.ints .u32 a)] [] (dataK [.sc (.int .i64), .sc (.int .i64)] K) = Nt.vc_nInt a K := by kernel_rfl
theorem s24 : SoundCon Go.Proofs.Try.prog 24 (dataCon [.sc (.sints .u32)] Nt.cInt.T) := by
  refine data_sound E24 ok24 (fn := Go.Proofs.Try.f24) (c := Go.Proofs.Try.f24.body.getD .skip) (by kernel_rfl) (by kernel_rfl) (by kernel_rfl) (rts := [2, 3]) (by kernel_rfl) (ts := [.sc (.int .i64), .sc (.int .i64)]) (by kernel_rfl) (Nt.cInt_el (M := fun args K => awpBody E24 Go.Proofs.Try.f24.ntmps (List.map ResultVar.tmp [2, 3]) (Go.Proofs.Try.f24.body.getD .skip) args [] (dataK [.sc (.int .i64), .sc (.int .i64)] K)) fun a K hyp => ?_)
  show awpBody E24 _ _ _ _ _ _
  rw [eq24 a K]
  exact Nt.p_nInt a K hyp
def E26 : Env := { tys := [(1, { ty := .sc (.other) }), (3, { ty := .sc (.int .i64) }), (4, { ty := .sc (.bool) }), (5, { ty := .sc (.int .u8) }), (9, { ty := .sc (.str) }), (22, { ty := .sc (.sints .u32), elem := 35, bytes := 4, ecells := [.int .u32], lit := true }), (24, { ty := .sc (.int .i64) }), (35, { ty := .sc (.int .u32) })], cons := [(14, dataCon [.sc (.sints .u32), .sc (.sints .u32)] Nt.cMul.T), (18, dataCon [.sc (.sints .u32), .sc (.sints .u32)] Nt.cAdd.T)], heads := [(0, { slots := [(0, .keep), (10, .keep), (11, .sc (.int .i64))] }), (2, { slots := [(0, .keep), (5, .sc (.sints .u32)), (29, .keep), (30, .sc (.int .i64))] })], meets := [] }
theorem ok26 : EnvOk Go.Proofs.Try.prog E26 := .of (by kernel_rfl) (cons_cons s14 (dataCon_ok (spec_ok _)) (cons_cons s18 (dataCon_ok (spec_ok _)) cons_nil)) (by kernel_rfl)
theorem eq26 (s : List Int) (K : TV → Prop) : awpBody E26 Go.Proofs.Try.f26.ntmps (List.map ResultVar.tmp [2, 3]) (Go.Proofs.Try.f26.body.getD .skip) [.d (.str s)] [] (dataK [.sc (.sints .u32), .sc (.int .i64)] K) = Nt.vc_nParse s K := by kernel_rfl
theorem s26 : SoundCon Go.Proofs.Try.prog 26 (dataCon [.sc .str] Nt.cParse.T) := by
  refine data_sound E26 ok26 (fn := Go.Proofs.Try.f26) (c := Go.Proofs.Try.f26.body.getD .skip) (by kernel_rfl) (by kernel_rfl) (by kernel_rfl) (rts := [2, 3]) (by kernel_rfl) (ts := [.sc (.sints .u32), .sc (.int .i64)]) (by kernel_rfl) (Nt.cParse_el (M := fun args K => awpBody E26 Go.Proofs.Try.f26.ntmps (List.map ResultVar.tmp [2, 3]) (Go.Proofs.Try.f26.body.getD .skip) args [] (dataK [.sc (.sints .u32), .sc (.int .i64)] K)) fun s K hyp => ?_)
  show awpBody E26 _ _ _ _ _ _
  rw [eq26 s K]
  exact Nt.p_nParse s K hyp
def E21 : Env := { tys := [(1, { ty := .sc (.other) }), (2, { ty := .sc (.int .i64) }), (3, { ty := .sc (.int .i64) }), (4, { ty := .sc (.bool) }), (22, { ty := .sc (.sints .u32), elem := 35, bytes := 4, ecells := [.int .u32], lit := true }), (24, { ty := .sc (.int .i64) }), (58, { ty := .sc (.int .u64) })], cons := [(16, dataCon [.sc (.sints .u32), .sc (.sints .u32)] (named Nt.cDivMod.T)), (20, dataCon [.sc (.sints .u32)] (named Nt.cTrim.T)), (42, dataCon [.sc (.int .u64)] (named Nt.cfromUint.T)), (44, dataCon [.sc (.sints .u32)] (named Nt.ctoUint.T))], heads := [(0, { slots := [(0, .sc (.sints .u32)), (1, .sc (.sints .u32))] }), (2, { slots := [(8, .sc (.int .u64)), (9, .sc (.int .u64))] })], meets := [] }
theorem ok21 : EnvOk Go.Proofs.Try.prog E21 := .of (by kernel_rfl) (cons_cons (named_con s16) (dataCon_ok (named_ok (spec_ok _))) (cons_cons (named_con s20) (dataCon_ok (named_ok (spec_ok _))) (cons_cons (named_con s42) (dataCon_ok (named_ok (spec_ok _))) (cons_cons (named_con s44) (dataCon_ok (named_ok (spec_ok _))) cons_nil)))) (by kernel_rfl)
theorem eq21 (a b : List Int) (K : TV → Prop) : awpBody E21 Go.Proofs.Try.f21.ntmps (List.map ResultVar.tmp [4]) (Go.Proofs.Try.f21.body.getD .skip) [.d (.ints .u32 a), .d (.ints .u32 b)] [] (dataK [.sc (.sints .u32)] K) = Nt.vc_nGCD a b K := by kernel_rfl
theorem s21 : SoundCon Go.Proofs.Try.prog 21 (dataCon [.sc (.sints .u32), .sc (.sints .u32)] Nt.cGCD.T) := by
  refine data_sound E21 ok21 (fn := Go.Proofs.Try.f21) (c := Go.Proofs.Try.f21.body.getD .skip) (by kernel_rfl) (by kernel_rfl) (by kernel_rfl) (rts := [4]) (by kernel_rfl) (ts := [.sc (.sints .u32)]) (by kernel_rfl) (Nt.cGCD_el (M := fun args K => awpBody E21 Go.Proofs.Try.f21.ntmps (List.map ResultVar.tmp [4]) (Go.Proofs.Try.f21.body.getD .skip) args [] (dataK [.sc (.sints .u32)] K)) fun a b K hyp => ?_)
  show awpBody E21 _ _ _ _ _ _
  rw [eq21 a b K]
  exact Nt.p_nGCD a b K hyp
def E13 : Env := { tys := [(3, { ty := .sc (.int .i64) }), (4, { ty := .sc (.bool) }), (22, { ty := .sc (.sints .u32), elem := 35, bytes := 4, ecells := [.int .u32], lit := true }), (35, { ty := .sc (.int .u32) })], cons := [], heads := [(0, { slots := [(0, .keep), (1, .keep), (5, .sc (.int .i64))] })], meets := [] }
theorem ok13 : EnvOk Go.Proofs.Try.prog E13 := .of (by kernel_rfl) cons_nil (by kernel_rfl)
theorem eq13 (a b : List Int) (K : TV → Prop) : awpBody E13 Go.Proofs.Try.f13.ntmps (List.map ResultVar.tmp [4]) (Go.Proofs.Try.f13.body.getD .skip) [.d (.ints .u32 a), .d (.ints .u32 b)] [] (dataK [.sc .bool] K) = Nt.vc_nrefSame a b K := by kernel_rfl
theorem s13 : SoundCon Go.Proofs.Try.prog 13 (dataCon [.sc (.sints .u32), .sc (.sints .u32)] Nt.cSame.T) := by
  refine data_sound E13 ok13 (fn := Go.Proofs.Try.f13) (c := Go.Proofs.Try.f13.body.getD .skip) (by kernel_rfl) (by kernel_rfl) (by kernel_rfl) (rts := [4]) (by kernel_rfl) (ts := [.sc .bool]) (by kernel_rfl) (Nt.cSame_el (M := fun args K => awpBody E13 Go.Proofs.Try.f13.ntmps (List.map ResultVar.tmp [4]) (Go.Proofs.Try.f13.body.getD .skip) args [] (dataK [.sc .bool] K)) fun a b K hyp => ?_)
  show awpBody E13 _ _ _ _ _ _
  rw [eq13 a b K]
  exact Nt.p_nrefSame a b K hyp
def E17 : Env := { tys := [(3, { ty := .sc (.int .i64) }), (4, { ty := .sc (.bool) }), (22, { ty := .sc (.sints .u32), elem := 35, bytes := 4, ecells := [.int .u32], lit := true }), (35, { ty := .sc (.int .u32) })], cons := [], heads := [(0, { slots := [(0, .keep), (3, .sc (.int .i64))] })], meets := [] }
theorem ok17 : EnvOk Go.Proofs.Try.prog E17 := .of (by kernel_rfl) cons_nil (by kernel_rfl)
theorem eq17 (a : List Int) (K : OB → Prop) : awpBody E17 Go.Proofs.Try.f17.ntmps (List.map ResultVar.tmp [2]) (Go.Proofs.Try.f17.body.getD .skip) [.d (.ints .u32 a)] [] (freshK (.sc (.sints .u32)) K) = Nt.vc_nrefTrim a K := by kernel_rfl
theorem s17 : SoundCon Go.Proofs.Try.prog 17 (freshCon [.sc (.sints .u32)] Nt.crefTrim.T) := by
  refine fresh_sound E17 ok17 (fn := Go.Proofs.Try.f17) (c := Go.Proofs.Try.f17.body.getD .skip) (by kernel_rfl) (by kernel_rfl) (by kernel_rfl) (r := 2) (by kernel_rfl) (t := .sc (.sints .u32)) (Nt.crefTrim_el (M := fun args K => awpBody E17 Go.Proofs.Try.f17.ntmps (List.map ResultVar.tmp [2]) (Go.Proofs.Try.f17.body.getD .skip) args [] (freshK (.sc (.sints .u32)) K)) fun a K hyp => ?_)
  show awpBody E17 _ _ _ _ _ _
  rw [eq17 a K]
  exact Nt.p_nrefTrim a K hyp
def E45 : Env := { tys := [(3, { ty := .sc (.int .i64) }), (4, { ty := .sc (.bool) }), (22, { ty := .sc (.sints .u32), elem := 35, bytes := 4, ecells := [.int .u32], lit := true }), (35, { ty := .sc (.int .u32) })], cons := [(17, freshCon [.sc (.sints .u32)] Nt.crefTrim.T)], heads := [(0, { slots := [(0, .keep), (1, .keep), (5, .sc (.int .i64))], own := [.keep, .keep] })], meets := [] }
theorem ok45 : EnvOk Go.Proofs.Try.prog E45 := .of (by kernel_rfl) (cons_cons s17 (freshCon_ok (fspec_ok _)) cons_nil) (by kernel_rfl)
theorem eq45 (a b : List Int) (K : TV → Prop) : awpBody E45 Go.Proofs.Try.f45.ntmps (List.map ResultVar.tmp [4]) (Go.Proofs.Try.f45.body.getD .skip) [.d (.ints .u32 a), .d (.ints .u32 b)] [] (dataK [.sc (.int .i64)] K) = Nt.vc_nrefCmp a b K := by kernel_rfl
theorem s45 : SoundCon Go.Proofs.Try.prog 45 (dataCon [.sc (.sints .u32), .sc (.sints .u32)] Nt.crefCmp.T) := by
  refine data_sound E45 ok45 (fn := Go.Proofs.Try.f45) (c := Go.Proofs.Try.f45.body.getD .skip) (by kernel_rfl) (by kernel_rfl) (by kernel_rfl) (rts := [4]) (by kernel_rfl) (ts := [.sc (.int .i64)]) (by kernel_rfl) (Nt.crefCmp_el (M := fun args K => awpBody E45 Go.Proofs.Try.f45.ntmps (List.map ResultVar.tmp [4]) (Go.Proofs.Try.f45.body.getD .skip) args [] (dataK [.sc (.int .i64)] K)) fun a b K hyp => ?_)
  show awpBody E45 _ _ _ _ _ _
  rw [eq45 a b K]
  exact Nt.p_nrefCmp a b K hyp
def E46 : Env := { tys := [(3, { ty := .sc (.int .i64) }), (4, { ty := .sc (.bool) }), (22, { ty := .sc (.sints .u32), elem := 35, bytes := 4, ecells := [.int .u32], lit := true }), (35, { ty := .sc (.int .u32) }), (58, { ty := .sc (.int .u64) }), (62, { ty := .sc (.int .u64) })], cons := [(17, freshCon [.sc (.sints .u32)] Nt.crefTrim.T)], heads := [(0, { slots := [(0, .keep), (1, .keep), (6, .keep), (7, .sc (.int .u64)), (8, .sc (.int .i64))], own := [.ints .u32] })], meets := [] }
theorem ok46 : EnvOk Go.Proofs.Try.prog E46 := .of (by kernel_rfl) (cons_cons s17 (freshCon_ok (fspec_ok _)) cons_nil) (by kernel_rfl)
theorem eq46 (a : List Int) (d : Int) (K : TV → Prop) : awpBody E46 Go.Proofs.Try.f46.ntmps (List.map ResultVar.tmp [4, 5]) (Go.Proofs.Try.f46.body.getD .skip) [.d (.ints .u32 a), .d (.int .u32 d)] [] (dataK [.sc (.sints .u32), .sc (.int .u32)] K) = Nt.vc_nrefshort a d K := by kernel_rfl
theorem s46 : SoundCon Go.Proofs.Try.prog 46 (dataCon [.sc (.sints .u32), .sc (.int .u32)] Nt.crefshort.T) := by
  refine data_sound E46 ok46 (fn := Go.Proofs.Try.f46) (c := Go.Proofs.Try.f46.body.getD .skip) (by kernel_rfl) (by kernel_rfl) (by kernel_rfl) (rts := [4, 5]) (by kernel_rfl) (ts := [.sc (.sints .u32), .sc (.int .u32)]) (by kernel_rfl) (Nt.crefshort_el (M := fun args K => awpBody E46 Go.Proofs.Try.f46.ntmps (List.map ResultVar.tmp [4, 5]) (Go.Proofs.Try.f46.body.getD .skip) args [] (dataK [.sc (.sints .u32), .sc (.int .u32)] K)) fun a d K hyp => ?_)
  show awpBody E46 _ _ _ _ _ _
  rw [eq46 a d K]
  exact Nt.p_nrefshort a d K hyp
def E34 : Env := { tys := [(3, { ty := .sc (.int .i64) }), (4, { ty := .sc (.bool) }), (22, { ty := .sc (.sints .u32), elem := 35, bytes := 4, ecells := [.int .u32], lit := true }), (35, { ty := .sc (.int .u32) }), (58, { ty := .sc (.int .u64) }), (62, { ty := .sc (.int .u64) })], cons := [(17, freshCon [.sc (.sints .u32)] Nt.crefTrim.T)], heads := [(0, { slots := [(0, .keep), (1, .keep), (5, .keep), (6, .sc (.int .u64)), (7, .sc (.int .i64))], own := [.ints .u32] })], meets := [(24, { slots := [(0, .keep), (1, .keep), (5, .keep), (6, .sc (.int .u64)), (7, .keep)], own := [.keep] }), (35, { slots := [(0, .keep), (1, .keep), (5, .keep), (6, .sc (.int .u64)), (7, .keep)], own := [.keep] })] }
theorem ok34 : EnvOk Go.Proofs.Try.prog E34 := .of (by kernel_rfl) (cons_cons s17 (freshCon_ok (fspec_ok _)) cons_nil) (by kernel_rfl)
theorem eq34 (a b : List Int) (K : TV → Prop) : awpBody E34 Go.Proofs.Try.f34.ntmps (List.map ResultVar.tmp [4]) (Go.Proofs.Try.f34.body.getD .skip) [.d (.ints .u32 a), .d (.ints .u32 b)] [] (dataK [.sc (.sints .u32)] K) = Nt.vc_nrefAdd a b K := by kernel_rfl
theorem s34 : SoundCon Go.Proofs.Try.prog 34 (dataCon [.sc (.sints .u32), .sc (.sints .u32)] Nt.crefAdd.T) := by
  refine data_sound E34 ok34 (fn := Go.Proofs.Try.f34) (c := Go.Proofs.Try.f34.body.getD .skip) (by kernel_rfl) (by kernel_rfl) (by kernel_rfl) (rts := [4]) (by kernel_rfl) (ts := [.sc (.sints .u32)]) (by kernel_rfl) (Nt.crefAdd_el (M := fun args K => awpBody E34 Go.Proofs.Try.f34.ntmps (List.map ResultVar.tmp [4]) (Go.Proofs.Try.f34.body.getD .skip) args [] (dataK [.sc (.sints .u32)] K)) fun a b K hyp => ?_)
  show awpBody E34 _ _ _ _ _ _
  rw [eq34 a b K]
  exact Nt.p_nrefAdd a b K hyp
def E30 : Env := { tys := [(3, { ty := .sc (.int .i64) }), (4, { ty := .sc (.bool) }), (22, { ty := .sc (.sints .u32), elem := 35, bytes := 4, ecells := [.int .u32], lit := true }), (35, { ty := .sc (.int .u32) }), (58, { ty := .sc (.int .u64) }), (62, { ty := .sc (.int .u64) })], cons := [(17, freshCon [.sc (.sints .u32)] Nt.crefTrim.T)], heads := [(0, { slots := [(0, .keep), (1, .keep), (5, .keep), (6, .sc (.int .i64))], own := [.ints .u32] }), (2, { slots := [(0, .keep), (1, .keep), (5, .keep), (6, .keep), (7, .sc (.int .u64)), (8, .sc (.int .i64))], own := [.ints .u32] }), (4, { slots := [(0, .keep), (1, .keep), (5, .keep), (6, .keep), (7, .sc (.int .u64)), (10, .sc (.int .i64))], own := [.ints .u32] })], meets := [] }
theorem ok30 : EnvOk Go.Proofs.Try.prog E30 := .of (by kernel_rfl) (cons_cons s17 (freshCon_ok (fspec_ok _)) cons_nil) (by kernel_rfl)
theorem eq30 (a b : List Int) (K : TV → Prop) : awpBody E30 Go.Proofs.Try.f30.ntmps (List.map ResultVar.tmp [4]) (Go.Proofs.Try.f30.body.getD .skip) [.d (.ints .u32 a), .d (.ints .u32 b)] [] (dataK [.sc (.sints .u32)] K) = Nt.vc_nrefMul a b K := by kernel_rfl
theorem s30 : SoundCon Go.Proofs.Try.prog 30 (dataCon [.sc (.sints .u32), .sc (.sints .u32)] Nt.crefMul.T) := by
  refine data_sound E30 ok30 (fn := Go.Proofs.Try.f30) (c := Go.Proofs.Try.f30.body.getD .skip) (by kernel_rfl) (by kernel_rfl) (by kernel_rfl) (rts := [4]) (by kernel_rfl) (ts := [.sc (.sints .u32)]) (by kernel_rfl) (Nt.crefMul_el (M := fun args K => awpBody E30 Go.Proofs.Try.f30.ntmps (List.map ResultVar.tmp [4]) (Go.Proofs.Try.f30.body.getD .skip) args [] (dataK [.sc (.sints .u32)] K)) fun a b K hyp => ?_)
  show awpBody E30 _ _ _ _ _ _
  rw [eq30 a b K]
  exact Nt.p_nrefMul a b K hyp
def E54 : Env := { tys := [(3, { ty := .sc (.int .i64) }), (4, { ty := .sc (.bool) }), (22, { ty := .sc (.sints .u32), elem := 35, bytes := 4, ecells := [.int .u32], lit := true }), (24, { ty := .sc (.int .i64) }), (35, { ty := .sc (.int .u32) }), (58, { ty := .sc (.int .u64) })], cons := [(17, freshCon [.sc (.sints .u32)] Nt.crefTrim.T), (45, dataCon [.sc (.sints .u32), .sc (.sints .u32)] Nt.crefCmp.T)], heads := [(0, { slots := [(1, .keep), (6, .keep), (7, .sc (.int .u64)), (8, .sc (.int .i64))], own := [.ints .u32, .ints .u32] })], meets := [(29, { slots := [(1, .keep), (6, .keep), (8, .keep), (9, .sc (.int .u64))], own := [.keep, .keep] })] }
theorem ok54 : EnvOk Go.Proofs.Try.prog E54 := .of (by kernel_rfl) (cons_cons s17 (freshCon_ok (fspec_ok _)) (cons_cons s45 (dataCon_ok (spec_ok _)) cons_nil)) (by kernel_rfl)
theorem eq54 (a b : List Int) (K : TV → Prop) : awpBody E54 Go.Proofs.Try.f54.ntmps (List.map ResultVar.tmp [4, 5]) (Go.Proofs.Try.f54.body.getD .skip) [.d (.ints .u32 a), .d (.ints .u32 b)] [] (dataK [.sc (.sints .u32), .sc (.int .i64)] K) = Nt.vc_nrefSub a b K := by kernel_rfl
theorem s54 : SoundCon Go.Proofs.Try.prog 54 (dataCon [.sc (.sints .u32), .sc (.sints .u32)] Nt.crefSub.T) := by
  refine data_sound E54 ok54 (fn := Go.Proofs.Try.f54) (c := Go.Proofs.Try.f54.body.getD .skip) (by kernel_rfl) (by kernel_rfl) (by kernel_rfl) (rts := [4, 5]) (by kernel_rfl) (ts := [.sc (.sints .u32), .sc (.int .i64)]) (by kernel_rfl) (Nt.crefSub_el (M := fun args K => awpBody E54 Go.Proofs.Try.f54.ntmps (List.map ResultVar.tmp [4, 5]) (Go.Proofs.Try.f54.body.getD .skip) args [] (dataK [.sc (.sints .u32), .sc (.int .i64)] K)) fun a b K hyp => ?_)
  show awpBody E54 _ _ _ _ _ _
  rw [eq54 a b K]
  exact Nt.p_nrefSub a b K hyp
def E47 : Env := { tys := [(3, { ty := .sc (.int .i64) }), (4, { ty := .sc (.bool) }), (22, { ty := .sc (.sints .u32), elem := 35, bytes := 4, ecells := [.int .u32], lit := true }), (35, { ty := .sc (.int .u32) }), (58, { ty := .sc (.int .u64) }), (62, { ty := .sc (.int .u64) })], cons := [], heads := [(0, { slots := [(0, .keep), (1, .keep), (5, .keep), (6, .sc (.int .u64)), (7, .sc (.int .i64))], own := [.ints .u32] })], meets := [] }
theorem ok47 : EnvOk Go.Proofs.Try.prog E47 := .of (by kernel_rfl) cons_nil (by kernel_rfl)
theorem eq47 (a : List Int) (k : Int) (K : OB → Prop) : awpBody E47 Go.Proofs.Try.f47.ntmps (List.map ResultVar.tmp [4]) (Go.Proofs.Try.f47.body.getD .skip) [.d (.ints .u32 a), .d (.int .i64 k)] [] (freshK (.sc (.sints .u32)) K) = Nt.vc_nrefshift a k K := by kernel_rfl
theorem s47 : SoundCon Go.Proofs.Try.prog 47 (freshCon [.sc (.sints .u32), .sc (.int .i64)] Nt.crefshift.T) := by
  refine fresh_sound E47 ok47 (fn := Go.Proofs.Try.f47) (c := Go.Proofs.Try.f47.body.getD .skip) (by kernel_rfl) (by kernel_rfl) (by kernel_rfl) (r := 4) (by kernel_rfl) (t := .sc (.sints .u32)) (Nt.crefshift_el (M := fun args K => awpBody E47 Go.Proofs.Try.f47.ntmps (List.map ResultVar.tmp [4]) (Go.Proofs.Try.f47.body.getD .skip) args [] (freshK (.sc (.sints .u32)) K)) fun a k K hyp => ?_)
  show awpBody E47 _ _ _ _ _ _
  rw [eq47 a k K]
  exact Nt.p_nrefshift a k K hyp
def E49 : Env := { tys := [(3, { ty := .sc (.int .i64) }), (4, { ty := .sc (.bool) }), (22, { ty := .sc (.sints .u32), elem := 35, bytes := 4, ecells := [.int .u32], lit := true }), (35, { ty := .sc (.int .u32) }), (58, { ty := .sc (.int .u64) }), (62, { ty := .sc (.int .u64) })], cons := [(17, freshCon [.sc (.sints .u32)] Nt.crefTrim.T)], heads := [(0, { slots := [(0, .keep), (1, .keep), (5, .keep), (6, .sc (.int .i64))], own := [.ints .u32] })], meets := [(26, { slots := [(0, .keep), (1, .keep), (5, .keep), (6, .keep), (7, .sc (.int .u64))], own := [.keep] })] }
theorem ok49 : EnvOk Go.Proofs.Try.prog E49 := .of (by kernel_rfl) (cons_cons s17 (freshCon_ok (fspec_ok _)) cons_nil) (by kernel_rfl)
theorem eq49 (a : List Int) (k : Int) (K : TV → Prop) : awpBody E49 Go.Proofs.Try.f49.ntmps (List.map ResultVar.tmp [4]) (Go.Proofs.Try.f49.body.getD .skip) [.d (.ints .u32 a), .d (.int .i64 k)] [] (dataK [.sc (.sints .u32)] K) = Nt.vc_nrefunshift a k K := by kernel_rfl
theorem s49 : SoundCon Go.Proofs.Try.prog 49 (dataCon [.sc (.sints .u32), .sc (.int .i64)] Nt.crefunshift.T) := by
  refine data_sound E49 ok49 (fn := Go.Proofs.Try.f49) (c := Go.Proofs.Try.f49.body.getD .skip) (by kernel_rfl) (by kernel_rfl) (by kernel_rfl) (rts := [4]) (by kernel_rfl) (ts := [.sc (.sints .u32)]) (by kernel_rfl) (Nt.crefunshift_el (M := fun args K => awpBody E49 Go.Proofs.Try.f49.ntmps (List.map ResultVar.tmp [4]) (Go.Proofs.Try.f49.body.getD .skip) args [] (dataK [.sc (.sints .u32)] K)) fun a k K hyp => ?_)
  show awpBody E49 _ _ _ _ _ _
  rw [eq49 a k K]
  exact Nt.p_nrefunshift a k K hyp
def E35 : Env := { tys := [(2, { ty := .sc (.int .i64) }), (3, { ty := .sc (.int .i64) }), (4, { ty := .sc (.bool) }), (22, { ty := .sc (.sints .u32), elem := 35, bytes := 4, ecells := [.int .u32], lit := true }), (24, { ty := .sc (.int .i64) }), (35, { ty := .sc (.int .u32) }), (62, { ty := .sc (.int .u64) })], cons := [(17, freshCon [.sc (.sints .u32)] Nt.crefTrim.T)], heads := [], meets := [] }
theorem ok35 : EnvOk Go.Proofs.Try.prog E35 := .of (by kernel_rfl) (cons_cons s17 (freshCon_ok (fspec_ok _)) cons_nil) (by kernel_rfl)
theorem eq35 (n : Int) (K : TV → Prop) : awpBody E35 Go.Proofs.Try.f35.ntmps (List.map ResultVar.tmp [2, 3]) (Go.Proofs.Try.f35.body.getD .skip) [.d (.int .i64 n)] [] (dataK [.sc (.sints .u32), .sc (.int .i64)] K) = Nt.vc_nrefFromInt n K := by kernel_rfl
theorem s35 : SoundCon Go.Proofs.Try.prog 35 (dataCon [.sc (.int .i64)] Nt.crefFromInt.T) := by
  refine data_sound E35 ok35 (fn := Go.Proofs.Try.f35) (c := Go.Proofs.Try.f35.body.getD .skip) (by kernel_rfl) (by kernel_rfl) (by kernel_rfl) (rts := [2, 3]) (by kernel_rfl) (ts := [.sc (.sints .u32), .sc (.int .i64)]) (by kernel_rfl) (Nt.crefFromInt_el (M := fun args K => awpBody E35 Go.Proofs.Try.f35.ntmps (List.map ResultVar.tmp [2, 3]) (Go.Proofs.Try.f35.body.getD .skip) args [] (dataK [.sc (.sints .u32), .sc (.int .i64)] K)) fun n K hyp => ?_)
  show awpBody E35 _ _ _ _ _ _
  rw [eq35 n K]
  exact Nt.p_nrefFromInt n K hyp
def E55 : Env := { tys := [(3, { ty := .sc (.int .i64) }), (4, { ty := .sc (.bool) }), (22, { ty := .sc (.sints .u32), elem := 35, bytes := 4, ecells := [.int .u32], lit := true }), (24, { ty := .sc (.int .i64) }), (35, { ty := .sc (.int .u32) }), (62, { ty := .sc (.int .u64) })], cons := [(17, freshCon [.sc (.sints .u32)] Nt.crefTrim.T)], heads := [(0, { slots := [(0, .keep), (4, .sc (.int .i64)), (5, .sc (.int .i64))], own := [.keep] })], meets := [] }
theorem ok55 : EnvOk Go.Proofs.Try.prog E55 := .of (by kernel_rfl) (cons_cons s17 (freshCon_ok (fspec_ok _)) cons_nil) (by kernel_rfl)
theorem eq55 (a : List Int) (K : TV → Prop) : awpBody E55 Go.Proofs.Try.f55.ntmps (List.map ResultVar.tmp [2, 3]) (Go.Proofs.Try.f55.body.getD .skip) [.d (.ints .u32 a)] [] (dataK [.sc (.int .i64), .sc (.int .i64)] K) = Nt.vc_nrefInt a K := by kernel_rfl
theorem s55 : SoundCon Go.Proofs.Try.prog 55 (dataCon [.sc (.sints .u32)] Nt.crefInt.T) := by
  refine data_sound E55 ok55 (fn := Go.Proofs.Try.f55) (c := Go.Proofs.Try.f55.body.getD .skip) (by kernel_rfl) (by kernel_rfl) (by kernel_rfl) (rts := [2, 3]) (by kernel_rfl) (ts := [.sc (.int .i64), .sc (.int .i64)]) (by kernel_rfl) (Nt.crefInt_el (M := fun args K => awpBody E55 Go.Proofs.Try.f55.ntmps (List.map ResultVar.tmp [2, 3]) (Go.Proofs.Try.f55.body.getD .skip) args [] (dataK [.sc (.int .i64), .sc (.int .i64)] K)) fun a K hyp => ?_)
  show awpBody E55 _ _ _ _ _ _
  rw [eq55 a K]
  exact Nt.p_nrefInt a K hyp
def E36 : Env := { tys := [(1, { ty := .sc (.other) }), (3, { ty := .sc (.int .i64) }), (4, { ty := .sc (.bool) }), (5, { ty := .sc (.int .u8) }), (9, { ty := .sc (.str) }), (22, { ty := .sc (.sints .u32), elem := 35, bytes := 4, ecells := [.int .u32], lit := true }), (24, { ty := .sc (.int .i64) }), (35, { ty := .sc (.int .u32) })], cons := [(30, dataCon [.sc (.sints .u32), .sc (.sints .u32)] Nt.crefMul.T), (34, dataCon [.sc (.sints .u32), .sc (.sints .u32)] Nt.crefAdd.T)], heads := [(0, { slots := [(0, .keep), (4, .sc (.int .i64))] }), (2, { slots := [(0, .keep), (5, .sc (.sints .u32)), (6, .sc (.int .i64))] })], meets := [] }
theorem ok36 : EnvOk Go.Proofs.Try.prog E36 := .of (by kernel_rfl) (cons_cons s30 (dataCon_ok (spec_ok _)) (cons_cons s34 (dataCon_ok (spec_ok _)) cons_nil)) (by kernel_rfl)
theorem eq36 (s : List Int) (K : TV → Prop) : awpBody E36 Go.Proofs.Try.f36.ntmps (List.map ResultVar.tmp [2, 3]) (Go.Proofs.Try.f36.body.getD .skip) [.d (.str s)] [] (dataK [.sc (.sints .u32), .sc (.int .i64)] K) = Nt.vc_nrefParse s K := by kernel_rfl
theorem s36 : SoundCon Go.Proofs.Try.prog 36 (dataCon [.sc .str] Nt.crefParse.T) := by
  refine data_sound E36 ok36 (fn := Go.Proofs.Try.f36) (c := Go.Proofs.Try.f36.body.getD .skip) (by kernel_rfl) (by kernel_rfl) (by kernel_rfl) (rts := [2, 3]) (by kernel_rfl) (ts := [.sc (.sints .u32), .sc (.int .i64)]) (by kernel_rfl) (Nt.crefParse_el (M := fun args K => awpBody E36 Go.Proofs.Try.f36.ntmps (List.map ResultVar.tmp [2, 3]) (Go.Proofs.Try.f36.body.getD .skip) args [] (dataK [.sc (.sints .u32), .sc (.int .i64)] K)) fun s K hyp => ?_)
  show awpBody E36 _ _ _ _ _ _
  rw [eq36 s K]
  exact Nt.p_nrefParse s K hyp
def E32 : Env := { tys := [(1, { ty := .sc (.other) }), (3, { ty := .sc (.int .i64) }), (4, { ty := .sc (.bool) }), (22, { ty := .sc (.sints .u32), elem := 35, bytes := 4, ecells := [.int .u32], lit := true }), (24, { ty := .sc (.int .i64) })], cons := [(30, dataCon [.sc (.sints .u32), .sc (.sints .u32)] Nt.crefMul.T)], heads := [(0, { slots := [(0, .keep), (1, .keep), (6, .sc (.sints .u32)), (7, .sc (.int .i64))] })], meets := [] }
theorem ok32 : EnvOk Go.Proofs.Try.prog E32 := .of (by kernel_rfl) (cons_cons s30 (dataCon_ok (spec_ok _)) cons_nil) (by kernel_rfl)
theorem eq32 (a : List Int) (n : Int) (K : TV → Prop) : awpBody E32 Go.Proofs.Try.f32.ntmps (List.map ResultVar.tmp [4, 5]) (Go.Proofs.Try.f32.body.getD .skip) [.d (.ints .u32 a), .d (.int .i64 n)] [] (dataK [.sc (.sints .u32), .sc (.int .i64)] K) = Nt.vc_nrefPow a n K := by kernel_rfl
theorem s32 : SoundCon Go.Proofs.Try.prog 32 (dataCon [.sc (.sints .u32), .sc (.int .i64)] Nt.crefPow.T) := by
  refine data_sound E32 ok32 (fn := Go.Proofs.Try.f32) (c := Go.Proofs.Try.f32.body.getD .skip) (by kernel_rfl) (by kernel_rfl) (by kernel_rfl) (rts := [4, 5]) (by kernel_rfl) (ts := [.sc (.sints .u32), .sc (.int .i64)]) (by kernel_rfl) (Nt.crefPow_el (M := fun args K => awpBody E32 Go.Proofs.Try.f32.ntmps (List.map ResultVar.tmp [4, 5]) (Go.Proofs.Try.f32.body.getD .skip) args [] (dataK [.sc (.sints .u32), .sc (.int .i64)] K)) fun a n K hyp => ?_)
  show awpBody E32 _ _ _ _ _ _
  rw [eq32 a n K]
  exact Nt.p_nrefPow a n K hyp
def E57 : Env := { tys := [(1, { ty := .sc (.other) }), (3, { ty := .sc (.int .i64) }), (4, { ty := .sc (.bool) }), (5, { ty := .sc (.int .u8) }), (9, { ty := .sc (.str) }), (22, { ty := .sc (.sints .u32), elem := 35, bytes := 4, ecells := [.int .u32], lit := true }), (35, { ty := .sc (.int .u32) }), (65, { ty := .sc (.sints .u8), elem := 5, bytes := 1, ecells := [.int .u8], lit := true })], cons := [(17, freshCon [.sc (.sints .u32)] Nt.crefTrim.T), (46, dataCon [.sc (.sints .u32), .sc (.int .u32)] Nt.crefshort.T)], heads := [(0, { slots := [(0, .sc (.sints .u32)), (3, .keep)], own := [.keep, .ints .u8], conv := [(0, .other), (3, .sints .u8)] }), (2, { slots := [(3, .keep), (6, .sc (.int .i64)), (7, .sc (.int .i64))], own := [.keep, .ints .u8] })], meets := [] }
theorem ok57 : EnvOk Go.Proofs.Try.prog E57 := .of (by kernel_rfl) (cons_cons s17 (freshCon_ok (fspec_ok _)) (cons_cons s46 (dataCon_ok (spec_ok _)) cons_nil)) (by kernel_rfl)
theorem eq57 (a : List Int) (K : TV → Prop) : awpBody E57 Go.Proofs.Try.f57.ntmps (List.map ResultVar.tmp [2]) (Go.Proofs.Try.f57.body.getD .skip) [.d (.ints .u32 a)] [] (dataK [.sc .str] K) = Nt.vc_nrefFormat a K := by kernel_rfl
theorem s57 : SoundCon Go.Proofs.Try.prog 57 (dataCon [.sc (.sints .u32)] Nt.crefFormat.T) := by
  refine data_sound E57 ok57 (fn := Go.Proofs.Try.f57) (c := Go.Proofs.Try.f57.body.getD .skip) (by kernel_rfl) (by kernel_rfl) (by kernel_rfl) (rts := [2]) (by kernel_rfl) (ts := [.sc .str]) (by kernel_rfl) (Nt.crefFormat_el (M := fun args K => awpBody E57 Go.Proofs.Try.f57.ntmps (List.map ResultVar.tmp [2]) (Go.Proofs.Try.f57.body.getD .skip) args [] (dataK [.sc .str] K)) fun a K hyp => ?_)
  show awpBody E57 _ _ _ _ _ _
  rw [eq57 a K]
  exact Nt.p_nrefFormat a K hyp
def E48 : Env := { tys := [(3, { ty := .sc (.int .i64) }), (4, { ty := .sc (.bool) }), (22, { ty := .sc (.sints .u32), elem := 35, bytes := 4, ecells := [.int .u32], lit := true }), (35, { ty := .sc (.int .u32) }), (58, { ty := .sc (.int .u64) }), (62, { ty := .sc (.int .u64) })], cons := [], heads := [(0, { slots := [(0, .keep), (1, .keep), (2, .keep), (7, .keep), (9, .sc (.int .u64)), (10, .sc (.int .u64))], own := [.keep] }), (2, { slots := [(0, .keep), (1, .keep), (2, .keep), (7, .keep), (9, .keep), (11, .sc (.int .u64)), (12, .sc (.int .u64)), (13, .sc (.int .i64))], own := [.ints .u32] }), (4, { slots := [(0, .keep), (1, .keep), (2, .keep), (7, .keep), (9, .keep), (12, .sc (.int .u64)), (17, .sc (.int .i64))], own := [.ints .u32] })], meets := [(100000, { slots := [(0, .keep), (1, .keep), (2, .keep), (7, .keep), (9, .sc (.int .u64))], own := [.keep] }), (102, { slots := [(0, .keep), (1, .keep), (2, .keep), (7, .keep), (9, .keep), (11, .keep), (13, .keep), (14, .sc (.int .u64))], own := [.keep] }), (127, { slots := [(0, .keep), (1, .keep), (2, .keep), (7, .keep), (9, .keep), (11, .sc (.int .u64)), (12, .keep), (13, .keep), (15, .keep), (16, .sc (.int .u64))], own := [.keep] }), (159, { slots := [(0, .keep), (1, .keep), (2, .keep), (7, .keep), (9, .keep), (17, .keep), (18, .sc (.int .u64))], own := [.keep] })] }
theorem ok48 : EnvOk Go.Proofs.Try.prog E48 := .of (by kernel_rfl) cons_nil (by kernel_rfl)
theorem eq48 (u v : List Int) (j : Int) (K : OB → TV → Prop) : awpLend E48 Go.Proofs.Try.f48.ntmps (List.map ResultVar.tmp [6]) (Go.Proofs.Try.f48.body.getD .skip) (.vec 0) (.ints .u32 u) [.d (.ints .u32 v), .d (.int .i64 j)] [.sc (.int .u32)] K = Nt.vc_nrefdigit u v j K := by kernel_rfl
theorem s48 : SoundCon Go.Proofs.Try.prog 48 (lendCon [.sc (.sints .u32), .sc (.int .i64)] Nt.crefdigit.T) := by
  refine lend_sound E48 ok48 (fn := Go.Proofs.Try.f48) (c := Go.Proofs.Try.f48.body.getD .skip) (by kernel_rfl) (by kernel_rfl) (by kernel_rfl) (rts := [6]) (by kernel_rfl) (by kernel_rfl) (ts := [.sc (.int .u32)]) (by kernel_rfl) (Nt.crefdigit_el (M := fun a0 ob args K => awpLend E48 Go.Proofs.Try.f48.ntmps (List.map ResultVar.tmp [6]) (Go.Proofs.Try.f48.body.getD .skip) a0 ob args [.sc (.int .u32)] K) fun u v j K hyp => ?_)
  show awpLend E48 _ _ _ _ _ _ _ _
  rw [eq48 u v j K]
  exact Nt.p_nrefdigit u v j K hyp
def E22 : Env := { tys := [(1, { ty := .sc (.other) }), (3, { ty := .sc (.int .i64) }), (4, { ty := .sc (.bool) }), (22, { ty := .sc (.sints .u32), elem := 35, bytes := 4, ecells := [.int .u32], lit := true }), (24, { ty := .sc (.int .i64) }), (35, { ty := .sc (.int .u32) }), (62, { ty := .sc (.int .u64) })], cons := [(17, freshCon [.sc (.sints .u32)] (fnamed Nt.crefTrim.T)), (45, dataCon [.sc (.sints .u32), .sc (.sints .u32)] (named Nt.crefCmp.T)), (46, dataCon [.sc (.sints .u32), .sc (.int .u32)] (named Nt.crefshort.T)), (47, freshCon [.sc (.sints .u32), .sc (.int .i64)] (fnamed Nt.crefshift.T)), (48, lendCon [.sc (.sints .u32), .sc (.int .i64)] Nt.crefdigit.T), (49, dataCon [.sc (.sints .u32), .sc (.int .i64)] (named Nt.crefunshift.T))], heads := [(0, { slots := [(0, .keep), (1, .keep), (9, .sc (.int .i64))], own := [.keep, .keep] }), (2, { slots := [(9, .keep), (10, .keep), (11, .sc (.sints .u32)), (12, .keep), (13, .sc (.int .i64))], own := [.keep, .keep, .ints .u32, .keep, .keep, .ints .u32], conv := [(11, .other)] })], meets := [] }
theorem ok22 : EnvOk Go.Proofs.Try.prog E22 := .of (by kernel_rfl) (cons_cons (fnamed_con s17) (freshCon_ok (fnamed_ok (fspec_ok _))) (cons_cons (named_con s45) (dataCon_ok (named_ok (spec_ok _))) (cons_cons (named_con s46) (dataCon_ok (named_ok (spec_ok _))) (cons_cons (fnamed_con s47) (freshCon_ok (fnamed_ok (fspec_ok _))) (cons_cons s48 (lendCon_ok (lspec_ok _)) (cons_cons (named_con s49) (dataCon_ok (named_ok (spec_ok _))) cons_nil)))))) (by kernel_rfl)
theorem eq22 (a b : List Int) (K : TV → Prop) : awpBody E22 Go.Proofs.Try.f22.ntmps (List.map ResultVar.tmp [4, 5, 6]) (Go.Proofs.Try.f22.body.getD .skip) [.d (.ints .u32 a), .d (.ints .u32 b)] [] (dataK [.sc (.sints .u32), .sc (.sints .u32), .sc (.int .i64)] K) = Nt.vc_nrefDivModW a b K := by kernel_rfl
theorem s22 : SoundCon Go.Proofs.Try.prog 22 (dataCon [.sc (.sints .u32), .sc (.sints .u32)] Nt.crefDivMod.T) := by
  refine data_sound E22 ok22 (fn := Go.Proofs.Try.f22) (c := Go.Proofs.Try.f22.body.getD .skip) (by kernel_rfl) (by kernel_rfl) (by kernel_rfl) (rts := [4, 5, 6]) (by kernel_rfl) (ts := [.sc (.sints .u32), .sc (.sints .u32), .sc (.int .i64)]) (by kernel_rfl) (Nt.crefDivMod_el (M := fun args K => awpBody E22 Go.Proofs.Try.f22.ntmps (List.map ResultVar.tmp [4, 5, 6]) (Go.Proofs.Try.f22.body.getD .skip) args [] (dataK [.sc (.sints .u32), .sc (.sints .u32), .sc (.int .i64)] K)) fun a b K hyp => ?_)
  show awpBody E22 _ _ _ _ _ _
  rw [eq22 a b K]
  exact Nt.p_nrefDivModW a b K hyp
def E56 : Env := { tys := [(1, { ty := .sc (.other) }), (2, { ty := .sc (.int .i64) }), (3, { ty := .sc (.int .i64) }), (4, { ty := .sc (.bool) }), (22, { ty := .sc (.sints .u32), elem := 35, bytes := 4, ecells := [.int .u32], lit := true }), (24, { ty := .sc (.int .i64) })], cons := [(17, freshCon [.sc (.sints .u32)] (fnamed Nt.crefTrim.T)), (22, dataCon [.sc (.sints .u32), .sc (.sints .u32)] (named Nt.crefDivMod.T))], heads := [(0, { slots := [(0, .sc (.sints .u32)), (1, .sc (.sints .u32))], own := [.keep, .keep], conv := [(0, .other), (1, .other)] })], meets := [] }
theorem ok56 : EnvOk Go.Proofs.Try.prog E56 := .of (by kernel_rfl) (cons_cons (fnamed_con s17) (freshCon_ok (fnamed_ok (fspec_ok _))) (cons_cons (named_con s22) (dataCon_ok (named_ok (spec_ok _))) cons_nil)) (by kernel_rfl)
theorem eq56 (a b : List Int) (K : TV → Prop) : awpBody E56 Go.Proofs.Try.f56.ntmps (List.map ResultVar.tmp [4]) (Go.Proofs.Try.f56.body.getD .skip) [.d (.ints .u32 a), .d (.ints .u32 b)] [] (dataK [.sc (.sints .u32)] K) = Nt.vc_nrefGCDW a b K := by kernel_rfl
theorem s56 : SoundCon Go.Proofs.Try.prog 56 (dataCon [.sc (.sints .u32), .sc (.sints .u32)] Nt.crefGCD.T) := by
  refine data_sound E56 ok56 (fn := Go.Proofs.Try.f56) (c := Go.Proofs.Try.f56.body.getD .skip) (by kernel_rfl) (by kernel_rfl) (by kernel_rfl) (rts := [4]) (by kernel_rfl) (ts := [.sc (.sints .u32)]) (by kernel_rfl) (Nt.crefGCD_el (M := fun args K => awpBody E56 Go.Proofs.Try.f56.ntmps (List.map ResultVar.tmp [4]) (Go.Proofs.Try.f56.body.getD .skip) args [] (dataK [.sc (.sints .u32)] K)) fun a b K hyp => ?_)
  show awpBody E56 _ _ _ _ _ _
  rw [eq56 a b K]
  exact Nt.p_nrefGCDW a b K hyp
def E11 : Env := { tys := [(1, { ty := .sc (.other) }), (2, { ty := .sc (.int .i64) }), (4, { ty := .sc (.bool) }), (9, { ty := .sc (.str) }), (22, { ty := .sc (.sints .u32), elem := 35, bytes := 4, ecells := [.int .u32], lit := true }), (24, { ty := .sc (.int .i64) })], cons := [(16, dataCon [.sc (.sints .u32), .sc (.sints .u32)] Nt.cDivMod.T), (25, dataCon [.sc (.sints .u32)] Nt.cFormat.T)], heads := [], meets := [] }
theorem ok11 : EnvOk Go.Proofs.Try.prog E11 := .of (by kernel_rfl) (cons_cons s16 (dataCon_ok (spec_ok _)) (cons_cons s25 (dataCon_ok (spec_ok _)) cons_nil)) (by kernel_rfl)
theorem eq11  (K : TV → Prop) : awpBody E11 Go.Proofs.Try.f11.ntmps (List.map ResultVar.tmp [0]) (Go.Proofs.Try.f11.body.getD .skip) [] [] (dataK [.sc .bool] K) = Nt.vc_nlawawake  K := by kernel_rfl
theorem s11 : SoundCon Go.Proofs.Try.prog 11 (dataCon [] Nt.cawake.T) := by
  refine data_sound E11 ok11 (fn := Go.Proofs.Try.f11) (c := Go.Proofs.Try.f11.body.getD .skip) (by kernel_rfl) (by kernel_rfl) (by kernel_rfl) (rts := [0]) (by kernel_rfl) (ts := [.sc .bool]) (by kernel_rfl) (Nt.cawake_el (M := fun args K => awpBody E11 Go.Proofs.Try.f11.ntmps (List.map ResultVar.tmp [0]) (Go.Proofs.Try.f11.body.getD .skip) args [] (dataK [.sc .bool] K)) fun  K hyp => ?_)
  show awpBody E11 _ _ _ _ _ _
  rw [eq11  K]
  exact Nt.p_nlawawake  K hyp
def E15 : Env := { tys := [(3, { ty := .sc (.int .i64) }), (4, { ty := .sc (.bool) }), (22, { ty := .sc (.sints .u32), elem := 35, bytes := 4, ecells := [.int .u32], lit := true })], cons := [], heads := [], meets := [] }
theorem ok15 : EnvOk Go.Proofs.Try.prog E15 := .of (by kernel_rfl) cons_nil (by kernel_rfl)
theorem eq15 (a : List Int) (K : TV → Prop) : awpBody E15 Go.Proofs.Try.f15.ntmps (List.map ResultVar.tmp [2]) (Go.Proofs.Try.f15.body.getD .skip) [.d (.ints .u32 a)] [] (dataK [.sc .bool] K) = Nt.vc_nlawshort a K := by kernel_rfl
theorem s15 : SoundCon Go.Proofs.Try.prog 15 (dataCon [.sc (.sints .u32)] Nt.clawshort.T) := by
  refine data_sound E15 ok15 (fn := Go.Proofs.Try.f15) (c := Go.Proofs.Try.f15.body.getD .skip) (by kernel_rfl) (by kernel_rfl) (by kernel_rfl) (rts := [2]) (by kernel_rfl) (ts := [.sc .bool]) (by kernel_rfl) (Nt.clawshort_el (M := fun args K => awpBody E15 Go.Proofs.Try.f15.ntmps (List.map ResultVar.tmp [2]) (Go.Proofs.Try.f15.body.getD .skip) args [] (dataK [.sc .bool] K)) fun a K hyp => ?_)
  show awpBody E15 _ _ _ _ _ _
  rw [eq15 a K]
  exact Nt.p_nlawshort a K hyp
def E33 : Env := { tys := [(1, { ty := .sc (.other) }), (2, { ty := .sc (.int .i64) }), (3, { ty := .sc (.int .i64) }), (4, { ty := .sc (.bool) }), (9, { ty := .sc (.str) }), (22, { ty := .sc (.sints .u32), elem := 35, bytes := 4, ecells := [.int .u32], lit := true }), (24, { ty := .sc (.int .i64) })], cons := [(13, dataCon [.sc (.sints .u32), .sc (.sints .u32)] (named Nt.cSame.T)), (14, dataCon [.sc (.sints .u32), .sc (.sints .u32)] (named Nt.cMul.T)), (16, dataCon [.sc (.sints .u32), .sc (.sints .u32)] (named Nt.cDivMod.T)), (17, freshCon [.sc (.sints .u32)] (fnamed Nt.crefTrim.T)), (18, dataCon [.sc (.sints .u32), .sc (.sints .u32)] (named Nt.cAdd.T)), (19, dataCon [.sc (.sints .u32), .sc (.sints .u32)] (named Nt.cCmp.T)), (20, dataCon [.sc (.sints .u32)] (named Nt.cTrim.T)), (21, dataCon [.sc (.sints .u32), .sc (.sints .u32)] (named Nt.cGCD.T)), (22, dataCon [.sc (.sints .u32), .sc (.sints .u32)] (named Nt.crefDivMod.T)), (24, dataCon [.sc (.sints .u32)] (named Nt.cInt.T)), (25, dataCon [.sc (.sints .u32)] (named Nt.cFormat.T)), (27, dataCon [.sc (.sints .u32), .sc (.sints .u32)] (named Nt.cSub.T)), (30, dataCon [.sc (.sints .u32), .sc (.sints .u32)] (named Nt.crefMul.T)), (34, dataCon [.sc (.sints .u32), .sc (.sints .u32)] (named Nt.crefAdd.T)), (45, dataCon [.sc (.sints .u32), .sc (.sints .u32)] (named Nt.crefCmp.T)), (54, dataCon [.sc (.sints .u32), .sc (.sints .u32)] (named Nt.crefSub.T)), (55, dataCon [.sc (.sints .u32)] (named Nt.crefInt.T)), (56, dataCon [.sc (.sints .u32), .sc (.sints .u32)] (named Nt.crefGCD.T)), (57, dataCon [.sc (.sints .u32)] (named Nt.crefFormat.T))], heads := [], meets := [] }
theorem ok33 : EnvOk Go.Proofs.Try.prog E33 := .of (by kernel_rfl) (cons_cons (named_con s13) (dataCon_ok (named_ok (spec_ok _))) (cons_cons (named_con s14) (dataCon_ok (named_ok (spec_ok _))) (cons_cons (named_con s16) (dataCon_ok (named_ok (spec_ok _))) (cons_cons (fnamed_con s17) (freshCon_ok (fnamed_ok (fspec_ok _))) (cons_cons (named_con s18) (dataCon_ok (named_ok (spec_ok _))) (cons_cons (named_con s19) (dataCon_ok (named_ok (spec_ok _))) (cons_cons (named_con s20) (dataCon_ok (named_ok (spec_ok _))) (cons_cons (named_con s21) (dataCon_ok (named_ok (spec_ok _))) (cons_cons (named_con s22) (dataCon_ok (named_ok (spec_ok _))) (cons_cons (named_con s24) (dataCon_ok (named_ok (spec_ok _))) (cons_cons (named_con s25) (dataCon_ok (named_ok (spec_ok _))) (cons_cons (named_con s27) (dataCon_ok (named_ok (spec_ok _))) (cons_cons (named_con s30) (dataCon_ok (named_ok (spec_ok _))) (cons_cons (named_con s34) (dataCon_ok (named_ok (spec_ok _))) (cons_cons (named_con s45) (dataCon_ok (named_ok (spec_ok _))) (cons_cons (named_con s54) (dataCon_ok (named_ok (spec_ok _))) (cons_cons (named_con s55) (dataCon_ok (named_ok (spec_ok _))) (cons_cons (named_con s56) (dataCon_ok (named_ok (spec_ok _))) (cons_cons (named_con s57) (dataCon_ok (named_ok (spec_ok _))) cons_nil))))))))))))))))))) (by kernel_rfl)
theorem eq33 (a b : List Int) (K : TV → Prop) : awpBody E33 Go.Proofs.Try.f33.ntmps (List.map ResultVar.tmp [4]) (Go.Proofs.Try.f33.body.getD .skip) [.d (.ints .u32 a), .d (.ints .u32 b)] [] (dataK [.sc .bool] K) = Nt.vc_nlawagrees a b K := by kernel_rfl
theorem s33 : SoundCon Go.Proofs.Try.prog 33 (dataCon [.sc (.sints .u32), .sc (.sints .u32)] Nt.clawagrees.T) := by
  refine data_sound E33 ok33 (fn := Go.Proofs.Try.f33) (c := Go.Proofs.Try.f33.body.getD .skip) (by kernel_rfl) (by kernel_rfl) (by kernel_rfl) (rts := [4]) (by kernel_rfl) (ts := [.sc .bool]) (by kernel_rfl) (Nt.clawagrees_el (M := fun args K => awpBody E33 Go.Proofs.Try.f33.ntmps (List.map ResultVar.tmp [4]) (Go.Proofs.Try.f33.body.getD .skip) args [] (dataK [.sc .bool] K)) fun a b K hyp => ?_)
  show awpBody E33 _ _ _ _ _ _
  rw [eq33 a b K]
  exact Nt.p_nlawagrees a b K hyp
def E28 : Env := { tys := [(3, { ty := .sc (.int .i64) }), (4, { ty := .sc (.bool) }), (45, { ty := .sc (.sints .i64), elem := 3, bytes := 8, ecells := [.int .i64], lit := true }), (46, { ty := .sc (.other) }), (68, { ty := .struct [(0, 1, .sc (.sints .i64)), (1, 1, .sc (.int .i64)), (2, 1, .sc (.int .i64))] [.sints .i64, .int .i64, .int .i64] })], cons := [], heads := [], meets := [] }
theorem ok28 : EnvOk Go.Proofs.Try.prog E28 := .of (by kernel_rfl) cons_nil (by kernel_rfl)
theorem eq28 (l : List Int) (K : OB → Prop) : awpBody E28 Go.Proofs.Try.f28.ntmps (List.map ResultVar.tmp [2]) (Go.Proofs.Try.f28.body.getD .skip) [.d (.ints .i64 l)] [] (ptrK K) = Nt.vc_nmkNew l K := by kernel_rfl
theorem s28 : SoundCon Go.Proofs.Try.prog 28 (ptrCon [.sc (.sints .i64)] Nt.cmkNew.T) := by
  refine ptr_sound E28 ok28 (fn := Go.Proofs.Try.f28) (c := Go.Proofs.Try.f28.body.getD .skip) (by kernel_rfl) (by kernel_rfl) (by kernel_rfl) (r := 2) (by kernel_rfl) (Nt.cmkNew_el (M := fun args K => awpBody E28 Go.Proofs.Try.f28.ntmps (List.map ResultVar.tmp [2]) (Go.Proofs.Try.f28.body.getD .skip) args [] (ptrK K)) fun l K hyp => ?_)
  show awpBody E28 _ _ _ _ _ _
  rw [eq28 l K]
  exact Nt.p_nmkNew l K hyp
def E53 : Env := { tys := [(1, { ty := .sc (.other) }), (3, { ty := .sc (.int .i64) }), (4, { ty := .sc (.bool) }), (45, { ty := .sc (.sints .i64), elem := 3, bytes := 8, ecells := [.int .i64], lit := true }), (46, { ty := .sc (.other) }), (68, { ty := .struct [(0, 1, .sc (.sints .i64)), (1, 1, .sc (.int .i64)), (2, 1, .sc (.int .i64))] [.sints .i64, .int .i64, .int .i64] })], cons := [], heads := [], meets := [] }
theorem ok53 : EnvOk Go.Proofs.Try.prog E53 := .of (by kernel_rfl) cons_nil (by kernel_rfl)
theorem eq53 (l : List Int) (a s : Int) (K : OB → TV → Prop) : awpLend E53 Go.Proofs.Try.f53.ntmps (List.map ResultVar.tmp [2]) (Go.Proofs.Try.f53.body.getD .skip) (.ptr 0 0) (.cells [.d (.ints .i64 l), .d (.int .i64 a), .d (.int .i64 s)]) [] [.sc (.int .i64)] K = Nt.vc_n__mkSrc__Raw l a s K := by kernel_rfl
theorem s53 : SoundCon Go.Proofs.Try.prog 53 (lendCon [] Nt.cmkRaw.T) := by
  refine lend_sound E53 ok53 (fn := Go.Proofs.Try.f53) (c := Go.Proofs.Try.f53.body.getD .skip) (by kernel_rfl) (by kernel_rfl) (by kernel_rfl) (rts := [2]) (by kernel_rfl) (by kernel_rfl) (ts := [.sc (.int .i64)]) (by kernel_rfl) (Nt.cmkRaw_el (M := fun a0 ob args K => awpLend E53 Go.Proofs.Try.f53.ntmps (List.map ResultVar.tmp [2]) (Go.Proofs.Try.f53.body.getD .skip) a0 ob args [.sc (.int .i64)] K) fun l a s K hyp => ?_)
  show awpLend E53 _ _ _ _ _ _ _ _
  rw [eq53 l a s K]
  exact Nt.p_n__mkSrc__Raw l a s K hyp
def E31 : Env := { tys := [(3, { ty := .sc (.int .i64) }), (4, { ty := .sc (.bool) }), (46, { ty := .sc (.other) })], cons := [(53, lendCon [] Nt.cmkRaw.T)], heads := [], meets := [] }
theorem ok31 : EnvOk Go.Proofs.Try.prog E31 := .of (by kernel_rfl) (cons_cons s53 (lendCon_ok (lspec_ok _)) cons_nil) (by kernel_rfl)
theorem eq31 (l : List Int) (a s n : Int) (K : OB → TV → Prop) : awpLend E31 Go.Proofs.Try.f31.ntmps (List.map ResultVar.tmp [4]) (Go.Proofs.Try.f31.body.getD .skip) (.ptr 0 0) (.cells [.d (.ints .i64 l), .d (.int .i64 a), .d (.int .i64 s)]) [.d (.int .i64 n)] [.sc (.int .i64)] K = Nt.vc_n__mkSrc__N l a s n K := by kernel_rfl
theorem s31 : SoundCon Go.Proofs.Try.prog 31 (lendCon [.sc (.int .i64)] Nt.cmkN.T) := by
  refine lend_sound E31 ok31 (fn := Go.Proofs.Try.f31) (c := Go.Proofs.Try.f31.body.getD .skip) (by kernel_rfl) (by kernel_rfl) (by kernel_rfl) (rts := [4]) (by kernel_rfl) (by kernel_rfl) (ts := [.sc (.int .i64)]) (by kernel_rfl) (Nt.cmkN_el (M := fun a0 ob args K => awpLend E31 Go.Proofs.Try.f31.ntmps (List.map ResultVar.tmp [4]) (Go.Proofs.Try.f31.body.getD .skip) a0 ob args [.sc (.int .i64)] K) fun l a s n K hyp => ?_)
  show awpLend E31 _ _ _ _ _ _ _ _
  rw [eq31 l a s n K]
  exact Nt.p_n__mkSrc__N l a s n K hyp
def E52 : Env := { tys := [(3, { ty := .sc (.int .i64) }), (45, { ty := .sc (.sints .i64), elem := 3, bytes := 8, ecells := [.int .i64], lit := true }), (46, { ty := .sc (.other) })], cons := [(31, lendCon [.sc (.int .i64)] Nt.cmkN.T)], heads := [], meets := [] }
theorem ok52 : EnvOk Go.Proofs.Try.prog E52 := .of (by kernel_rfl) (cons_cons s31 (lendCon_ok (lspec_ok _)) cons_nil) (by kernel_rfl)
theorem eq52 (l : List Int) (a s : Int) (m : List Int) (K : OB → TV → Prop) : awpLend E52 Go.Proofs.Try.f52.ntmps (List.map ResultVar.tmp [4]) (Go.Proofs.Try.f52.body.getD .skip) (.ptr 0 0) (.cells [.d (.ints .i64 l), .d (.int .i64 a), .d (.int .i64 s)]) [.d (.ints .i64 m)] [.sc (.int .i64)] K = Nt.vc_n__mkSrc__Pick l a s m K := by kernel_rfl
theorem s52 : SoundCon Go.Proofs.Try.prog 52 (lendCon [.sc (.sints .i64)] Nt.cmkPick.T) := by
  refine lend_sound E52 ok52 (fn := Go.Proofs.Try.f52) (c := Go.Proofs.Try.f52.body.getD .skip) (by kernel_rfl) (by kernel_rfl) (by kernel_rfl) (rts := [4]) (by kernel_rfl) (by kernel_rfl) (ts := [.sc (.int .i64)]) (by kernel_rfl) (Nt.cmkPick_el (M := fun a0 ob args K => awpLend E52 Go.Proofs.Try.f52.ntmps (List.map ResultVar.tmp [4]) (Go.Proofs.Try.f52.body.getD .skip) a0 ob args [.sc (.int .i64)] K) fun l a s m K hyp => ?_)
  show awpLend E52 _ _ _ _ _ _ _ _
  rw [eq52 l a s m K]
  exact Nt.p_n__mkSrc__Pick l a s m K hyp
def E29 : Env := { tys := [(1, { ty := .sc (.other) }), (3, { ty := .sc (.int .i64) }), (4, { ty := .sc (.bool) }), (12, { ty := .sc (.int .u64) }), (22, { ty := .sc (.sints .u32), elem := 35, bytes := 4, ecells := [.int .u32], lit := true }), (35, { ty := .sc (.int .u32) }), (45, { ty := .sc (.sints .i64), elem := 3, bytes := 8, ecells := [.int .i64], lit := true }), (46, { ty := .sc (.other) })], cons := [(31, lendCon [.sc (.int .i64)] Nt.cmkN.T), (52, lendCon [.sc (.sints .i64)] Nt.cmkPick.T)], heads := [(0, { slots := [(0, .keep), (3, .keep), (4, .sc (.int .i64))], own := [.cells [.sints .i64, .int .i64, .int .i64], .ints .u32], conv := [(3, .sints .u32)] })], meets := [] }
theorem ok29 : EnvOk Go.Proofs.Try.prog E29 := .of (by kernel_rfl) (cons_cons s31 (lendCon_ok (lspec_ok _)) (cons_cons s52 (lendCon_ok (lspec_ok _)) cons_nil)) (by kernel_rfl)
theorem eq29 (l : List Int) (a s : Int) (K : OB → TV → Prop) : awpLend E29 Go.Proofs.Try.f29.ntmps (List.map ResultVar.tmp [2]) (Go.Proofs.Try.f29.body.getD .skip) (.ptr 0 0) (.cells [.d (.ints .i64 l), .d (.int .i64 a), .d (.int .i64 s)]) [] [.sc (.sints .u32)] K = Nt.vc_n__mkSrc__Limbs l a s K := by kernel_rfl
theorem s29 : SoundCon Go.Proofs.Try.prog 29 (lendCon [] Nt.cmkLimbs.T) := by
  refine lend_sound E29 ok29 (fn := Go.Proofs.Try.f29) (c := Go.Proofs.Try.f29.body.getD .skip) (by kernel_rfl) (by kernel_rfl) (by kernel_rfl) (rts := [2]) (by kernel_rfl) (by kernel_rfl) (ts := [.sc (.sints .u32)]) (by kernel_rfl) (Nt.cmkLimbs_el (M := fun a0 ob args K => awpLend E29 Go.Proofs.Try.f29.ntmps (List.map ResultVar.tmp [2]) (Go.Proofs.Try.f29.body.getD .skip) a0 ob args [.sc (.sints .u32)] K) fun l a s K hyp => ?_)
  show awpLend E29 _ _ _ _ _ _ _ _
  rw [eq29 l a s K]
  exact Nt.p_n__mkSrc__Limbs l a s K hyp
end Go.Proofs.Ytcnaceleinmbcaa.S
end
