/- Helpers for the statements: conditions under which code does what is wanted, and proofs that they suffice. Condition: none. -/
import Derived.Test.YtabajebkmipogaaA0
section
/- VcM: each operation of the generator against the model: slice literals, append, conversions; all of them together. -/
namespace Go.Vc

section
variable {P : Program} {N : Nat → Prop} {ρ : List Loc} {own : Own} {w : World}

theorem parts_mem {tm : List TV} {a : Act} (ht : TRel (Zone N ρ own) w ρ own tm a.tmps) (parts : Array (Nat × Operand)) :
    ∀ (m : Nat) (p : Nat × TV) (q : Nat × Value), (lmap (fun p => (p.1, ev tm p.2)) parts.toList)[m]? = some p → ((parts.map fun (i, x) => (i, a.eval x)).toList)[m]? = some q →
      p.1 = q.1 ∧ TReads (Zone N ρ own) w ρ own p.2 q.2 := by
  intro m p q h1 h2
  rw [lmap_eq] at h1
  simp only [List.getElem?_map, Array.toList_map] at h1 h2
  cases hpm : parts.toList[m]? with
  | none => simp [hpm] at h1
  | some x =>
    simp [hpm] at h1 h2
    subst h1 h2
    exact ⟨rfl, ev_reads ht _⟩

theorem run_buildSlice_fill {t e : TypeId} {g : TypeInfo} {z : Value} (q1 : P.underlying t = some (.slice e)) (q2 : P.info? e = some g) (q5 : g.zero = some z) (n : Nat) (parts : Array (Nat × Value)) (cells' : Array Value)
    (hbig : ¬ n * g.size > 2 ^ 24) (hf : Instr.fill (fun i => some (i * g.size, g.size)) (madeCells (if n * g.size = 0 then #[] else z.cells) (n * g.size)) parts.toList = some cells') :
    (Instr.buildSlice t n parts).run P w = .ok (.slice (some ⟨w.heap.size, 0, none⟩) n n) (w.alloc (.cells cells' e)) := by
  unfold Instr.buildSlice
  by_cases h0 : n * g.size = 0
  · rw [if_pos h0] at hf
    have hf' : Instr.fill (fun i => some (i * g.size, g.size)) ((Array.range (n * g.size)).map ((#[] : Array Value)[· % (#[] : Array Value).size]!)) parts.toList = some cells' := hf
    simp only [Sem.run_bind, run_underlying q1, Result.andThen_ok, run_sizeOf' q2, Sem.run_ite, if_neg hbig, if_pos h0, Sem.run_pure, hf']
    simp [newRow]
  · rw [if_neg h0] at hf
    have hf' : Instr.fill (fun i => some (i * g.size, g.size)) ((Array.range (n * g.size)).map (z.cells[· % z.cells.size]!)) parts.toList = some cells' := hf
    have hzr : (zeroValue e).run P w = .ok z w := by simp [zeroValue, typeInfo, q2, q5]
    simp only [Sem.run_bind, run_underlying q1, Result.andThen_ok, run_sizeOf' q2, Sem.run_ite, if_neg hbig, if_neg h0, hzr, Sem.run_pure, hf']
    simp [newRow]

theorem ints_lit_run {t : TypeId} {i : TyI} (hi : tyChk P t i = true) (hrel : ORel N ρ own w) {tm : List TV} {a : Act} (ht : TRel (Zone N ρ own) w ρ own tm a.tmps) (parts : Array (Nat × Operand)) (n : Nat)
    {k : IntKind} (hty : i.ty = .sc (.sints k)) {l : List Int} (hl : litInts k n (lmap (fun p => (p.1, ev tm p.2)) parts.toList) = some l) (hn : n ≤ 65536) :
    ∃ u w' ρ', (Instr.buildSlice t n (parts.map fun (i, x) => (i, a.eval x))).run P w = .ok u w' ∧ Step N ρ own w ρ' (own ++ [(false, .ints k l)]) w' ∧
      TReads (Zone N ρ' (own ++ [(false, .ints k l)])) w' ρ' (own ++ [(false, .ints k l)]) (.vec own.length) u := by
  obtain ⟨e, g, q1, q2, q3, q4, q5⟩ := sints_info hi hty
  obtain ⟨cells', f1, f2, f3, f4, _⟩ := litInts_fill (w := w) (ρ := ρ) (own := own) (Z := Zone N ρ own) _ _ 0 n l (madeCells (if n * g.size = 0 then #[] else (Value.int k 0).cells) (n * g.size)) hl (zipped (tm := tm) (a := a) parts) (parts_mem ht parts) (by rw [size_madeCells, q3]; omega)
  have hrun : (Instr.buildSlice t n (parts.map fun (i, x) => (i, a.eval x))).run P w = .ok (.slice (some ⟨w.heap.size, 0, none⟩) n n) (w.alloc (.cells cells' e)) := by
    have hbig : ¬ n * g.size > 2 ^ 24 := by rw [q3]; omega
    exact run_buildSlice_fill q1 q2 q5 n _ cells' hbig (by rw [q3] at f1 ⊢; exact f1)
  refine ⟨_, _, _, hrun, Step.alloc hrel false (.ints k l) _ n (.inr ⟨w.heap.size, cells', e, rfl, rfl, alloc_heap w _, by simp [f3], by rw [f2, size_madeCells, q3]; simp, fun q hq => ?_⟩), .of0 ⟨_, fits_loc hrel _, ?_⟩⟩
  · have := f4 q (by omega)
    simpa using this
  · rw [at_app, if_pos rfl]; simp [OB.len, f3]

theorem rows_lit_run {t : TypeId} {i : TyI} (hi : tyChk P t i = true) (hrel : ORel N ρ own w) {tm : List TV} {a : Act} (ht : TRel (Zone N ρ own) w ρ own tm a.tmps) (parts : Array (Nat × Operand)) (n : Nat)
    {sz : Nat} (hty : i.ty = .sc (.srows sz)) {l : List (List AV)} (hl : litRows own sz i.ecells n (lmap (fun p => (p.1, ev tm p.2)) parts.toList) = some l) (hn : n * sz ≤ 65536) :
    ∃ u w' ρ', (Instr.buildSlice t n (parts.map fun (i, x) => (i, a.eval x))).run P w = .ok u w' ∧ Step N ρ own w ρ' (own ++ [(false, .rows sz l)]) w' ∧
      TReads (Zone N ρ' (own ++ [(false, .rows sz l)])) w' ρ' (own ++ [(false, .rows sz l)]) (.vec own.length) u := by
  obtain ⟨e, g, z, q1, q2, q3, q4, q5, q6, q7, q8⟩ := srows_info hi hty
  obtain ⟨cells', f1, f2, f3, f4, _⟩ := litRows_fill (w := w) (ρ := ρ) (own := own) (N := N) _ _ 0 n l (madeCells (if n * g.size = 0 then #[] else z.cells) (n * g.size)) hl (zipped (tm := tm) (a := a) parts) (parts_mem ht parts) (by rw [size_madeCells, q3]; simp)
  have hrun : (Instr.buildSlice t n (parts.map fun (i, x) => (i, a.eval x))).run P w = .ok (.slice (some ⟨w.heap.size, 0, none⟩) n n) (w.alloc (.cells cells' e)) := by
    have hbig : ¬ n * g.size > 2 ^ 24 := by rw [q3]; omega
    exact run_buildSlice_fill q1 q2 q7 n _ cells' hbig (by rw [q3] at f1 ⊢; exact f1)
  refine ⟨_, _, _, hrun, Step.alloc hrel false (.rows sz l) _ n (.inr ⟨w.heap.size, cells', e, rfl, rfl, alloc_heap w _, by simp [f3], by rw [f2, size_madeCells, q3]; simp, q5, fun q r hq hr => ?_⟩), .of0 ⟨_, fits_loc hrel _, ?_⟩⟩
  · obtain ⟨v, hv1, hv2⟩ := f4 q r (by omega) hr
    exact ⟨v, by simpa using hv1, alloc_reads hrel _ (.inl rfl) _ _ _ _ hv2⟩
  · rw [at_app, if_pos rfl]; simp [OB.len, f3]

/-! ### append -/
/-- What is appended, cell by cell. -/
theorem data_src {tx e' : TypeId} (hk : P.underlying tx = some (.slice e')) {t : Ty} {x : AV} {u : Value} (hf : sliceFits t x = true) (h : Reads (Zone N ρ own) w x u) :
    ∃ news : List Value, Src P x.esz tx u x.len news w ∧ (∀ i j, i < x.len → j < x.esz → ∃ v, news[i * x.esz + j]? = some v ∧ Reads (Zone N ρ own) w (x.cell i j) v) := by
  cases h with
  | ints0 a cap k =>
    refine ⟨[], ?_, fun i j hi => by simp [AV.len] at hi⟩
    cases a with
    | none => exact Src.ofNil w hk cap
    | some a => exact Src.ofSlice w hk a 0 cap [] (by simp) (fun j u h => by simp at h) (fun u h => by cases h)
  | ints k l n b off cap hn hz hc hcell =>
    refine ⟨l.map (Value.int k), ?_, fun i j hi hj => ?_⟩
    · have := Src.ofSlice (P := P) (size := 1) w hk ⟨b, off, none⟩ n cap (l.map (Value.int k)) (by simp [hn]) (fun j u h => by
        rw [List.getElem?_map] at h
        have hj : j < l.length := by
          cases hlj : l[j]? with
          | none => simp [hlj] at h
          | some z => exact (List.getElem?_eq_some_iff.1 hlj).1
        rw [add_none, hcell j (by omega)]
        simp [List.getElem?_eq_getElem hj] at h
        simp [List.getD_eq_getElem?_getD, hj, h]) (fun u h => by obtain ⟨z, _, rfl⟩ := List.mem_map.1 h; rfl)
      simpa [AV.len, AV.esz, hn] using this
    · simp only [AV.len, AV.esz, AV.cell] at hi hj ⊢
      have : j = 0 := by omega
      subst this
      exact ⟨.int k (l.getD i 0), by simp [List.getD_eq_getElem?_getD, hi], .int _ _⟩
  | rows0 a cap sz =>
    refine ⟨[], ?_, fun i j hi => by simp [AV.len] at hi⟩
    cases a with
    | none => exact Src.ofNil w hk cap
    | some a => exact Src.ofSlice w hk a 0 cap [] (by simp) (fun j u h => by simp at h) (fun u h => by cases h)
  | rows sz l n b off cap uu hn hsz hz hc hcell hr =>
    simp only [AV.len, AV.esz, AV.cell]
    have hpos : 0 < sz := hsz
    refine ⟨(List.range (n * sz)).map fun m => uu (m / sz) (m % sz), ?_, fun i j hi hj => ?_⟩
    · rw [hn]
      refine Src.ofSlice (P := P) w hk ⟨b, off, none⟩ n cap _ (by simp) (fun j v h => ?_) (fun v h => ?_)
      · rw [List.getElem?_map] at h
        have hj : j < n * sz := by
          cases hlj : (List.range (n * sz))[j]? with
          | none => simp [hlj] at h
          | some z => have := (List.getElem?_eq_some_iff.1 hlj).1; simpa using this
        simp [hj] at h
        subst h
        have h1 : j / sz < n := Nat.div_lt_of_lt_mul (by rw [Nat.mul_comm]; exact hj)
        have := hcell (j / sz) (j % sz) h1 (Nat.mod_lt _ hpos)
        rw [add_none]
        rwa [show off + j / sz * sz + j % sz = off + j by rw [Nat.add_assoc, Nat.mul_comm, Nat.div_add_mod]] at this
      · obtain ⟨m, hm, rfl⟩ := List.mem_map.1 h
        have hm : m < n * sz := by simpa using hm
        exact (hr (m / sz) (m % sz) (Nat.div_lt_of_lt_mul (by rw [Nat.mul_comm]; exact hm)) (Nat.mod_lt _ hpos)).one
    · rw [hn] at hi
      have hlt : i * sz + j < n * sz := by
        have : (i + 1) * sz ≤ n * sz := Nat.mul_le_mul_right _ (by omega)
        rw [Nat.add_mul] at this; omega
      have h1 : (i * sz + j) / sz = i := by rw [Nat.mul_comm, Nat.mul_add_div hpos, Nat.div_eq_of_lt hj, Nat.add_zero]
      have h2 : (i * sz + j) % sz = j := by rw [Nat.mul_comm, Nat.mul_add_mod, Nat.mod_eq_of_lt hj]
      refine ⟨uu i j, by simp [hlt, h1, h2], hr i j hi hj⟩
  | _ => cases t <;> simp [sliceFits] at hf

theorem append_nothing {t tx ty e : TypeId} {g : TypeInfo} (ht : P.underlying t = some (.slice e)) (hg : P.info? e = some g) (base : Option Addr) (sLen sCap : Nat) (hle : sLen ≤ sCap) {x : Value} (hs : Src P g.size tx x 0 [] w) :
    (Builtin.append_ #[t, tx] ty #[.slice base sLen sCap, x]).run P w = .ok (.slice base sLen sCap) w := by
  have hc := hs.cells
  have hst : ∀ q : Addr, (storeCells q []).run P w = .ok () w := fun q => rfl
  rcases hs.kind with ⟨e', hk⟩ | hk <;> cases base <;> simp [Builtin.append_, run_underlying ht, run_underlying hk, sizeOf, typeInfo, hg, hs.len, hle, hc, hst]

theorem append_fits {t tx ty e e2 : TypeId} {g : TypeInfo} (ht : P.underlying t = some (.slice e)) (hg : P.info? e = some g) (b sLen sCap n : Nat) {x : Value} {news : List Value} (hs : Src P g.size tx x n news w)
    (cur : Array Value) (hb : w.heap[b]? = some (.cells cur e2 (0, 0))) (hroom : sLen + n ≤ sCap) (hfit : sLen * g.size + news.length ≤ cur.size) :
    (Builtin.append_ #[t, tx] ty #[.slice (some ⟨b, 0, none⟩) sLen sCap, x]).run P w =
      .ok (.slice (some ⟨b, 0, none⟩) (sLen + n) sCap) (w.setRow b (cur.toList.take (sLen * g.size) ++ news ++ cur.toList.drop (sLen * g.size + news.length)).toArray) := by
  have hst := run_storeCells_at P b (sLen * g.size) e2 news 0 cur w hb (by simpa using hfit) hs.one
  simp only [Nat.add_zero] at hst
  rcases hs.kind with ⟨e', hk⟩ | hk <;> simp [Builtin.append_, run_underlying ht, run_underlying hk, sizeOf, typeInfo, hg, hs.len, hroom, hs.cells, Addr.add_lit, hst]

theorem firstCells_none' (size : Nat) (a : Option Addr) (c : Nat) (w : World) : (Builtin.firstCells size 0 (.slice a 0 c)).run P w = .ok #[] w := by
  cases a with
  | none => rfl
  | some a => simp only [Builtin.firstCells, Nat.zero_mul]; rfl

theorem Step.nil (h : ORel N ρ own w) (f : Bool) (ob : OB) (a : Option Addr) (ho : ob = .gone ∨ (∃ k, ob = .ints k []) ∨ ∃ sz, ob = .rows sz []) :
    Step N ρ own w (ρ ++ [⟨a, 0, none⟩]) (own ++ [(f, ob)]) w := by
  have halive : ∀ b, Alive (ρ ++ [⟨a, 0, none⟩]) (own ++ [(f, ob)]) b → Alive ρ own b := fun b ⟨i, loc, h1, h2, h3⟩ => by
    rw [List.getElem?_append] at h1
    by_cases hi : i < ρ.length
    · rw [if_pos hi] at h1
      rw [fz_app, if_neg (by rw [← h.len]; omega)] at h3
      exact ⟨i, loc, h1, h2, h3⟩
    · rw [if_neg hi] at h1
      cases hd : i - ρ.length with
      | zero => simp [hd] at h1; subst h1; cases h2
      | succ n => simp [hd] at h1
  have hfr : Fr ρ own w (ρ ++ [⟨a, 0, none⟩]) (own ++ [(f, ob)]) w := ⟨rfl, rfl, rfl, Nat.le_refl _, fun _ _ _ => rfl, fun b hb => .inl (halive b hb)⟩
  have hsame := alloc_same h ⟨a, 0, none⟩ (f, ob)
  refine { hfr with rel := h.upd hfr (by simp [h.len]) (fun _ _ _ _ id _ _ => hsame id) (fun i loc hl => ?_), same := hsame }
  rw [List.getElem?_append] at hl
  by_cases hi : i < ρ.length
  · rw [if_pos hi] at hl
    exact .inl ⟨hl, by rw [at_app, if_neg (by rw [← h.len]; omega)], fun hx => by rwa [fz_app, if_neg (by rw [← h.len]; omega)] at hx, fun _ _ => rfl⟩
  · rw [if_neg hi] at hl
    cases hd : i - ρ.length with
    | succ n => simp [hd] at hl
    | zero =>
      simp [hd] at hl
      subst hl
      have hi' : i = own.length := by rw [← h.len]; omega
      refine .inr ⟨fun b hb => (by cases hb), ?_⟩
      rw [hi', at_app, if_pos rfl]
      rcases ho with rfl | ⟨k, rfl⟩ | ⟨sz, rfl⟩
      · trivial
      · exact .inl ⟨rfl, rfl⟩
      · exact .inl ⟨rfl, rfl⟩

theorem grown_ge (w : World) (need old : Nat) (e : TypeId) : need ≤ grownCap w need old e := grownCap_ge w need old e

theorem zeroCells_size' (z : Array Value) (n : Nat) : (Builtin.zeroCells z n).size = n * z.size := by simp [Builtin.zeroCells]

theorem info_zero {e : TypeId} {g : TypeInfo} {i : TyI} {t : TypeId} (hi : tyChk P t i = true) (hs : isSliceTy i.ty = true) (he : P.underlying t = some (.slice e)) (hg : P.info? e = some g) :
    ∃ z, g.zero = some z ∧ z.cells.size = g.size ∧ 0 < g.size := by
  cases hty : i.ty with
  | sc s =>
    rw [hty] at hs
    cases s with
    | sints k =>
      obtain ⟨e', g', q1, q2, q3, q4, q5⟩ := sints_info hi hty
      rw [he] at q1; cases q1; rw [hg] at q2; cases q2
      exact ⟨_, q5, by rw [q3]; rfl, by omega⟩
    | srows sz =>
      obtain ⟨e', g', z, q1, q2, q3, q4, q5, q6, q7, q8⟩ := srows_info hi hty
      rw [he] at q1; cases q1; rw [hg] at q2; cases q2
      have := (zerosAV_reads (Z := fun _ => False) (w := default) q8).1
      exact ⟨z, q7, by rw [q3, ← q6, ← this]; simp, by omega⟩
    | _ => simp [isSliceTy] at hs
  | _ => rw [hty] at hs; simp [isSliceTy] at hs

theorem fits_slice {t : Ty} {x : AV} (h : sliceFits t x = true) : isSliceTy t = true := by
  cases t with
  | sc s => cases x <;> cases s <;> simp_all [sliceFits, isSliceTy]
  | _ => cases x <;> simp [sliceFits] at h

/-- Onto nothing: the appended elements in a row of the call's own. -/
theorem grown_get (olds news : List Value) (Z : Array Value) (k : Nat) (v : Value) (h : (olds ++ news)[k]? = some v) : ((olds ++ news).toArray ++ Z)[k]? = some v := by
  have hk := (List.getElem?_eq_some_iff.1 h).1
  rw [Array.getElem?_append_left (by simpa using hk)]; simpa using h

theorem bytes_nat {a b : Nat} (h : (a : Int) * b ≤ 70368744177664) : a * b ≤ 70368744177664 := by
  have : ((a * b : Nat) : Int) ≤ ((70368744177664 : Nat) : Int) := by rw [Int.natCast_mul]; exact h
  exact Int.ofNat_le.1 this

theorem append_emp_run {t tx ty : TypeId} {i : TyI} (hi : tyChk P t i = true) (hrel : ORel N ρ own w) {e' : TypeId} (hk : P.underlying tx = some (.slice e')) {x : AV} {vx vy : Value} (hx : ∃ a, vx = .slice a 0 0)
    (hy : Reads (Zone N ρ own) w x vy) (hf : sliceFits i.ty x = true) (ob : OB) (hob : (∃ k l, x = .ints k l ∧ ob = .ints k l) ∨ ∃ sz l, x = .rows sz l ∧ ob = .rows sz l)
    (hpb : 0 < i.bytes) (hb : (x.len : Int) * i.bytes ≤ 70368744177664) :
    ∃ u w' ρ', (Builtin.append_ #[t, tx] ty #[vx, vy]).run P w = .ok u w' ∧ Step N ρ own w ρ' (own ++ [(false, ob)]) w' ∧ TReads (Zone N ρ' (own ++ [(false, ob)])) w' ρ' (own ++ [(false, ob)]) (.vec own.length) u := by
  obtain ⟨a, rfl⟩ := hx
  obtain ⟨e, g, he, hg, hsz, hpos, hby⟩ := slice_elem hi hf
  obtain ⟨z, hz, hzs, _⟩ := info_zero hi (fits_slice hf) he hg
  obtain ⟨news, hsrc, hnews⟩ := data_src (ρ := ρ) (own := own) (N := N) hk hf hy
  have hlen : ob.len = x.len := by rcases hob with ⟨k, l, rfl, rfl⟩ | ⟨sz, l, rfl, rfl⟩ <;> rfl
  rw [← hsz] at hsrc hnews
  by_cases hn : x.len = 0
  · have hnl : news = [] := by have := hsrc.newsLen; rw [hn] at this; exact List.length_eq_zero_iff.1 (by simpa using this)
    rw [hn, hnl] at hsrc
    refine ⟨_, w, _, append_nothing he hg a 0 0 (Nat.le_refl _) hsrc, Step.nil hrel false ob a ?_, .of0 ⟨_, fits_loc hrel _, ?_⟩⟩
    · rcases hob with ⟨k, l, rfl, rfl⟩ | ⟨sz, l, rfl, rfl⟩
      · exact .inr (.inl ⟨k, by rw [List.length_eq_zero_iff.1 hn]⟩)
      · exact .inr (.inr ⟨sz, by rw [List.length_eq_zero_iff.1 hn]⟩)
    · rw [at_app, if_pos rfl, hlen, hn]; exact ⟨rfl, fun _ => rfl⟩
  · have hbn : x.len * g.bytes ≤ 70368744177664 := by rw [hby]; exact bytes_nat hb
    have h63 : ((0 + x.len : Nat) : Int) ≤ 9223372036854775807 := by
      have h1 : x.len * 1 ≤ x.len * g.bytes := Nat.mul_le_mul_left _ (by omega)
      omega
    have hrun := run_append_grow_src (P := P) w t tx ty e g z he hg hz a 0 0 [] (firstCells_none' g.size a 0 w.drew) vy x.len news hsrc (by omega) h63 (growslice_fits (by omega) (by rw [Nat.zero_add]; omega))
    have hge := grown_ge w (0 + x.len) 0 e
    generalize grownCap w (0 + x.len) 0 e = cap at hrun hge
    have hd := Step.drew hrel (w' := w.drew) rfl rfl rfl rfl
    have hsize : w.drew.heap.size = w.heap.size := rfl
    have hst := Step.alloc hd.rel false ob (.cells (([] ++ news).toArray ++ Builtin.zeroCells z.cells (cap - (0 + x.len))) e) cap (by
      rcases hob with ⟨k, l, rfl, rfl⟩ | ⟨sz, l, rfl, rfl⟩
      · refine .inr ⟨_, _, e, rfl, rfl, alloc_heap _ _, by simp only [AV.len] at hge ⊢; omega, ?_, fun q hq => ?_⟩
        · simp only [AV.len, AV.esz] at hsz hge hsrc ⊢
          simp [zeroCells_size', hzs, hsz, hsrc.newsLen]; omega
        · obtain ⟨v, hv, hr⟩ := hnews q 0 (by simpa [AV.len] using hq) (by omega)
          simp only [AV.esz] at hsz
          rw [hsz, Nat.mul_one, Nat.add_zero] at hv
          simp only [AV.cell] at hr
          have : v = .int k (l.getD q 0) := by cases hr; rfl
          subst this
          have hql : q < news.length := (List.getElem?_eq_some_iff.1 hv).1
          exact grown_get [] news _ q _ (by simpa using hv)
      · refine .inr ⟨_, _, e, rfl, rfl, alloc_heap _ _, by simp only [AV.len] at hge ⊢; omega, ?_, by simpa [AV.esz] using hpos, fun q r hq hr => ?_⟩
        · simp only [AV.len, AV.esz] at hsz hge hsrc ⊢
          have e1 : (cap - (0 + l.length)) * sz = cap * sz - l.length * sz := by rw [Nat.zero_add, Nat.sub_mul]
          have e2 : l.length * sz ≤ cap * sz := Nat.mul_le_mul_right _ (by omega)
          simp [zeroCells_size', hzs, hsz, hsrc.newsLen]; rw [Nat.sub_mul]; omega
        · simp only [AV.esz] at hsz hr
          obtain ⟨v, hv, hrr⟩ := hnews q r (by simpa [AV.len] using hq) (by omega)
          rw [hsz] at hv
          simp only [AV.cell] at hrr
          have hql : q * sz + r < news.length := (List.getElem?_eq_some_iff.1 hv).1
          refine ⟨v, grown_get [] news _ _ _ (by simpa using hv), ?_⟩
          exact alloc_reads hd.rel _ (.inl rfl) _ _ _ _ (hd.toFr.reads hrr))
    refine ⟨_, _, _, hrun, hd.trans hst, .of0 ⟨_, fits_loc hd.rel _, ?_⟩⟩
    rw [at_app, if_pos rfl, hlen, Nat.zero_add]; exact ⟨rfl, fun h => by cases h⟩

end
end Go.Vc
end

section
/- VcN: each operation of the generator against the model: append onto a handle; conversions. -/
namespace Go.Vc

section
variable {P : Program} {N : Nat → Prop} {ρ : List Loc} {own : Own} {w : World}

/-- What reads as data still does in a world whose blocks outside the zone stay. -/
theorem keep_reads {Z Z' : Nat → Prop} {w w' : World} (hk : ∀ b, b < w.heap.size → ¬ Z b → w'.heap[b]? = w.heap[b]?) (hz : ∀ b, b < w.heap.size → ¬ Z b → ¬ Z' b) :
    ∀ x u, Reads Z w x u → Reads Z' w' x u := fun _ _ h => h.mono fun b hb hn => ⟨hk b hb hn, hz b hb hn⟩

theorem append_vec_run {t tx ty : TypeId} {i : TyI} (hi : tyChk P t i = true) (hrel : ORel N ρ own w) {e' : TypeId} (htx : P.underlying tx = some (.slice e')) {x : AV} {id : Nat} {vx vy : Value}
    (hx : TReads (Zone N ρ own) w ρ own (.vec id) vx) (hy : Reads (Zone N ρ own) w x vy) (hf : sliceFits i.ty x = true) (hfz : frozenAt own id = false) (ob : OB)
    (hob : (∃ k l m, x = .ints k l ∧ OB.at own id = .ints k m ∧ ob = .ints k (m ++ l)) ∨ ∃ sz l m, x = .rows sz l ∧ OB.at own id = .rows sz m ∧ ob = .rows sz (m ++ l))
    (hpb : 0 < i.bytes) (hb : (((OB.at own id).len : Int) + x.len) * i.bytes ≤ 70368744177664) :
    ∃ u w' ρ', (Builtin.append_ #[t, tx] ty #[vx, vy]).run P w = .ok u w' ∧
      (let own' := killOwn id (own.set id (false, ob))
       ORel N ρ' own' w' ∧ Fr ρ own w ρ' own' w' ∧ (∀ i, i ≠ id → SameAt ρ own ρ' own' i) ∧ TReads (Zone N ρ' own') w' ρ' own' (.vec id) u) := by
  obtain ⟨loc, hl, hu, hpn⟩ := hx
  have hid := hrel.idlt hl
  obtain ⟨e, g, he, hg, hsz, hpos, hby⟩ := slice_elem hi hf
  obtain ⟨z, hz, hzs, hgpos⟩ := info_zero hi (fits_slice hf) he hg
  obtain ⟨news, hsrc, hnews⟩ := data_src (ρ := ρ) (own := own) (N := N) htx hf hy
  rw [← hsz] at hsrc hnews
  have hoblen : ob.len = (OB.at own id).len + x.len := by
    rcases hob with ⟨k, l, m, rfl, h2, rfl⟩ | ⟨sz, l, m, rfl, h2, rfl⟩ <;> rw [h2] <;> simp [OB.len, AV.len]
  have hkob : ob.kill id = ob := by rcases hob with ⟨k, l, m, rfl, h2, rfl⟩ | ⟨sz, l, m, rfl, h2, rfl⟩ <;> rfl
  -- the own row, opened
  have hown : ((OB.at own id).len = 0 ∧ loc.cap = 0) ∨ ∃ b vs e2, loc.a = some ⟨b, 0, none⟩ ∧ loc.blk = some b ∧ w.heap[b]? = some (.cells vs e2 (0, 0)) ∧ (OB.at own id).len ≤ loc.cap ∧ loc.cap * g.size ≤ vs.size ∧
      ∀ q r, q < (OB.at own id).len → r < g.size → ∃ v, vs[q * g.size + r]? = some v ∧ Reads (Zone N ρ own) w ((OB.at own id).data.cell q r) v := by
    have hh := hrel.ob id loc hl
    rcases hob with ⟨k, l, m, rfl, h2, rfl⟩ | ⟨sz, l, m, rfl, h2, rfl⟩
    · rw [h2] at hh ⊢
      simp only [AV.esz] at hsz
      rcases hh with ⟨rfl, hc⟩ | ⟨b, vs, e2, k1, k2, k3, k4, k5, k6⟩
      · exact .inl ⟨rfl, hc⟩
      · refine .inr ⟨b, vs, e2, k1, k2, k3, k4, by rw [hsz, Nat.mul_one]; exact k5, fun q r hq hr => ⟨.int k (m.getD q 0), ?_, .int _ _⟩⟩
        have : r = 0 := by omega
        subst this
        rw [hsz, Nat.mul_one, Nat.add_zero]; exact k6 q hq
    · rw [h2] at hh ⊢
      simp only [AV.esz] at hsz
      rcases hh with ⟨rfl, hc⟩ | ⟨b, vs, e2, k1, k2, k3, k4, k5, k7, k6⟩
      · exact .inl ⟨rfl, hc⟩
      · exact .inr ⟨b, vs, e2, k1, k2, k3, k4, by rw [hsz]; exact k5, fun q r hq hr => by rw [hsz] at hr ⊢; exact k6 q r hq hr⟩
  -- the new row, shut
  have hnew : ∀ (Z : Nat → Prop) (w' : World) (ρ'' : List Loc) (own'' : Own) (loc' : Loc) (b : Nat) (vs' : Array Value) (e2 : TypeId), (∀ x u, Reads (Zone N ρ own) w x u → Reads Z w' x u) →
      loc'.a = some ⟨b, 0, none⟩ → loc'.blk = some b → w'.heap[b]? = some (.cells vs' e2 (0, 0)) → (OB.at own id).len + x.len ≤ loc'.cap → loc'.cap * g.size ≤ vs'.size →
      (∀ q r, q < (OB.at own id).len → r < g.size → ∃ v, vs'[q * g.size + r]? = some v ∧ Reads (Zone N ρ own) w ((OB.at own id).data.cell q r) v) →
      (∀ q r, q < x.len → r < g.size → ∃ v, vs'[((OB.at own id).len + q) * g.size + r]? = some v ∧ Reads (Zone N ρ own) w (x.cell q r) v) → OReads Z w' ρ'' own'' loc' ob := by
    intro Z w' ρ'' own'' loc' b vs' e2 hr a1 a2 a3 a4 a5 a6 a7
    rcases hob with ⟨k, l, m, rfl, h2, rfl⟩ | ⟨sz, l, m, rfl, h2, rfl⟩
    · rw [h2] at a4 a6 a7
      simp only [AV.esz, OB.len, AV.len, OB.data, AV.cell] at hsz a4 a6 a7
      refine .inr ⟨b, vs', e2, a1, a2, a3, by simpa using a4, by rw [hsz, Nat.mul_one] at a5; exact a5, fun q hq => ?_⟩
      simp only [List.length_append] at hq
      by_cases hqm : q < m.length
      · obtain ⟨v, hv, hrv⟩ := a6 q 0 hqm (by omega)
        rw [hsz, Nat.mul_one, Nat.add_zero] at hv
        have : v = .int k (m.getD q 0) := by cases hrv; rfl
        rw [hv, this]; simp [List.getD_eq_getElem?_getD, List.getElem?_append, hqm]
      · obtain ⟨v, hv, hrv⟩ := a7 (q - m.length) 0 (by omega) (by omega)
        rw [hsz, Nat.mul_one, Nat.add_zero, show m.length + (q - m.length) = q by omega] at hv
        have : v = .int k (l.getD (q - m.length) 0) := by cases hrv; rfl
        rw [hv, this]; simp [List.getD_eq_getElem?_getD, List.getElem?_append, hqm]
    · rw [h2] at a4 a6 a7
      simp only [AV.esz, OB.len, AV.len, OB.data, AV.cell] at hsz a4 a6 a7
      refine .inr ⟨b, vs', e2, a1, a2, a3, by simpa using a4, by rw [hsz] at a5; exact a5, by omega, fun q r hq hrr => ?_⟩
      simp only [List.length_append] at hq
      by_cases hqm : q < m.length
      · obtain ⟨v, hv, hrv⟩ := a6 q r hqm (by omega)
        rw [hsz] at hv
        refine ⟨v, hv, hr _ _ ?_⟩
        have : (m ++ l).getD q [] = m.getD q [] := by simp [List.getD_eq_getElem?_getD, List.getElem?_append, hqm]
        rw [this]; exact hrv
      · obtain ⟨v, hv, hrv⟩ := a7 (q - m.length) r (by omega) (by omega)
        rw [hsz, show m.length + (q - m.length) = q by omega] at hv
        refine ⟨v, hv, hr _ _ ?_⟩
        have : (m ++ l).getD q [] = l.getD (q - m.length) [] := by simp [List.getD_eq_getElem?_getD, List.getElem?_append, hqm]
        rw [this]; exact hrv
  have hres : ∀ (ρ' : List Loc) (own' : Own), own' = killOwn id (own.set id (false, ob)) → OB.at own' id = ob := by
    rintro ρ' own' rfl
    rw [at_kill, at_set, if_pos ⟨rfl, hid⟩]; exact hkob
  by_cases hroom : (OB.at own id).len + x.len ≤ loc.cap
  · rcases hown with ⟨h0, hc⟩ | ⟨b, vs, e2, a1, a2, a3, a4, a5, a6⟩
    · -- nothing onto nothing
      have hxn : x.len = 0 := by omega
      have hnl : news = [] := by have := hsrc.newsLen; rw [hxn] at this; exact List.length_eq_zero_iff.1 (by simpa using this)
      rw [hxn, hnl] at hsrc
      have hrun := append_nothing (P := P) (w := w) (ty := ty) he hg loc.a (OB.at own id).len loc.cap (by omega) hsrc
      have hset : ρ.set id loc = ρ := by
        apply List.ext_getElem?
        intro j
        rw [List.getElem?_set]
        split
        · rename_i hj; subst hj; rw [if_pos (by rw [hrel.len]; exact hid), hl]
        · rfl
      obtain ⟨r1, r2, r3⟩ := grow_rel hrel id loc hid ob hkob hfz (w' := w) rfl rfl rfl (Nat.le_refl _) (fun _ _ _ => rfl)
        (fun b hb => ⟨hrel.lt id loc b hl hb, hrel.nb id loc b hl hb, .inr ⟨loc, hl, hb⟩⟩)
        (fun Z ρ'' own'' _ => by
          have : ob.len = 0 := by omega
          rcases hob with ⟨k, l, m, rfl, h2, rfl⟩ | ⟨sz, l, m, rfl, h2, rfl⟩
          · exact .inl ⟨List.length_eq_zero_iff.1 this, hc⟩
          · exact .inl ⟨List.length_eq_zero_iff.1 this, hc⟩)
      refine ⟨_, w, ρ.set id loc, by rw [hu]; exact hrun, r1, r2, r3, .of0 ⟨loc, by rw [hset]; exact hl, ?_⟩⟩
      rw [hres (ρ.set id loc) _ rfl, hoblen, hxn]; exact ⟨rfl, hpn⟩
    · -- there is room
      have hfit : (OB.at own id).len * g.size + news.length ≤ vs.size := by
        rw [hsrc.newsLen, ← Nat.add_mul]
        exact Nat.le_trans (Nat.mul_le_mul_right _ hroom) a5
      have hrun := append_fits (P := P) (w := w) (ty := ty) he hg b (OB.at own id).len loc.cap x.len hsrc vs a3 hroom hfit
      have hset : ρ.set id loc = ρ := by
        apply List.ext_getElem?
        intro j
        rw [List.getElem?_set]
        split
        · rename_i hj; subst hj; rw [if_pos (by rw [hrel.len]; exact hid), hl]
        · rfl
      have hother : ∀ b', b' ≠ b → (w.setRow b (vs.toList.take ((OB.at own id).len * g.size) ++ news ++ vs.toList.drop ((OB.at own id).len * g.size + news.length)).toArray).heap[b']? = w.heap[b']? :=
        fun b' hb' => setRow_other w b b' _ hb'
      obtain ⟨r1, r2, r3⟩ := grow_rel hrel id loc hid ob hkob hfz
        (w' := w.setRow b (vs.toList.take ((OB.at own id).len * g.size) ++ news ++ vs.toList.drop ((OB.at own id).len * g.size + news.length)).toArray) rfl rfl rfl (by simp)
        (fun b' _ hne => hother b' fun h => hne loc hl (h ▸ a2))
        (fun b' hb' => ⟨by simpa using hrel.lt id loc b' hl hb', hrel.nb id loc b' hl hb', .inr ⟨loc, hl, hb'⟩⟩)
        (fun Z ρ'' own'' hzz => by
          refine hnew Z _ ρ'' own'' loc b _ e2 (keep_reads (fun b' hb' hn => hother b' fun h => hn (.inr ⟨id, loc, hl, h ▸ a2, hfz⟩)) hzz) a1 a2 (setRow_heap w b vs _ e2 (0, 0) a3) hroom (by rw [spliced_size _ _ _ hfit]; exact a5) (fun q r hq hr => ?_) (fun q r hq hr => ?_)
          · rw [spliced_get _ _ _ hfit]
            have : (q + 1) * g.size ≤ (OB.at own id).len * g.size := Nat.mul_le_mul_right _ (by omega)
            rw [Nat.add_mul] at this
            rw [if_neg (by omega)]
            exact a6 q r hq hr
          · rw [spliced_get _ _ _ hfit]
            obtain ⟨v, hv, hrv⟩ := hnews q r hq hr
            have hlt := (List.getElem?_eq_some_iff.1 hv).1
            rw [if_pos (by rw [Nat.add_mul]; omega)]
            refine ⟨v, ?_, hrv⟩
            rw [show ((OB.at own id).len + q) * g.size + r - (OB.at own id).len * g.size = q * g.size + r by rw [Nat.add_mul]; omega]
            exact hv)
      refine ⟨_, _, ρ.set id loc, by rw [hu, a1]; exact hrun, r1, r2, r3, .of0 ⟨loc, by rw [hset]; exact hl, ?_⟩⟩
      rw [hres (ρ.set id loc) _ rfl, hoblen, a1]; exact ⟨rfl, fun h => by cases h⟩
  · -- a new row
    have hbn : ((OB.at own id).len + x.len) * g.bytes ≤ 70368744177664 := by rw [hby]; exact bytes_nat (by rw [Int.natCast_add]; exact hb)
    have h63 : (((OB.at own id).len + x.len : Nat) : Int) ≤ 9223372036854775807 := by
      have h1 : ((OB.at own id).len + x.len) * 1 ≤ ((OB.at own id).len + x.len) * g.bytes := Nat.mul_le_mul_left _ (by omega)
      omega
    have hold : ∃ olds : List Value, (Builtin.firstCells g.size (OB.at own id).len (.slice loc.a (OB.at own id).len loc.cap)).run P w.drew = .ok olds.toArray w.drew ∧ olds.length = (OB.at own id).len * g.size ∧
        ∀ q r, q < (OB.at own id).len → r < g.size → ∃ v, olds[q * g.size + r]? = some v ∧ Reads (Zone N ρ own) w ((OB.at own id).data.cell q r) v := by
      rcases hown with ⟨h0, hc⟩ | ⟨b, vs, e2, a1, a2, a3, a4, a5, a6⟩
      · exact ⟨[], by rw [h0]; exact firstCells_none' _ _ _ _, by simp [h0], fun q r hq => by omega⟩
      · have hle : (OB.at own id).len * g.size ≤ vs.size := Nat.le_trans (Nat.mul_le_mul_right _ a4) a5
        refine ⟨vs.toList.take ((OB.at own id).len * g.size), ?_, by simp; omega, fun q r hq hr => ?_⟩
        · rw [a1]
          exact run_firstCells_some w.drew g.size _ ⟨b, 0, none⟩ _ _ _ (by simp; omega) (fun j v hj => by
            rw [add_none, Nat.zero_add]
            have hjl : j < (OB.at own id).len * g.size := by
              have := (List.getElem?_eq_some_iff.1 hj).1
              simp at this; omega
            rw [List.getElem?_take, if_pos hjl] at hj
            have a3' : w.drew.heap[b]? = some (.cells vs e2 (0, 0)) := a3
            simp only [World.cell?, a3']
            simpa using hj)
        · obtain ⟨v, hv, hrv⟩ := a6 q r hq hr
          have hlt : q * g.size + r < (OB.at own id).len * g.size := by
            have : (q + 1) * g.size ≤ (OB.at own id).len * g.size := Nat.mul_le_mul_right _ (by omega)
            rw [Nat.add_mul] at this; omega
          exact ⟨v, by rw [List.getElem?_take, if_pos hlt]; simpa using hv, hrv⟩
    obtain ⟨olds, ho1, ho2, ho3⟩ := hold
    have hrun := run_append_grow_src (P := P) w t tx ty e g z he hg hz loc.a (OB.at own id).len loc.cap olds ho1 vy x.len news hsrc (by omega) h63 (growslice_fits (by omega) (by omega))
    have hge := grown_ge w ((OB.at own id).len + x.len) loc.cap e
    generalize grownCap w ((OB.at own id).len + x.len) loc.cap e = cap at hrun hge
    have hother : ∀ b', b' < w.heap.size → (w.drew.alloc (.cells ((olds ++ news).toArray ++ Builtin.zeroCells z.cells (cap - ((OB.at own id).len + x.len))) e)).heap[b']? = w.heap[b']? :=
      fun b' hb' => heap_alloc_old w.drew _ b' hb'
    obtain ⟨r1, r2, r3⟩ := grow_rel hrel id ⟨some ⟨w.heap.size, 0, none⟩, cap, some w.heap.size⟩ hid ob hkob hfz
      (w' := w.drew.alloc (.cells ((olds ++ news).toArray ++ Builtin.zeroCells z.cells (cap - ((OB.at own id).len + x.len))) e)) rfl rfl rfl (by simp)
      (fun b' hb' _ => hother b' hb')
      (fun b' hb' => by
        simp at hb'; subst hb'
        exact ⟨by simp, fun hn => absurd (hrel.nlt _ hn) (by omega), .inl (Nat.le_refl _)⟩)
      (fun Z ρ'' own'' hzz => by
        refine hnew Z _ ρ'' own'' _ w.heap.size _ e (keep_reads (fun b' hb' _ => hother b' hb') hzz) rfl rfl (alloc_heap w.drew _) hge ?_ (fun q r hq hr => ?_) (fun q r hq hr => ?_)
        · have e1 : ((OB.at own id).len + x.len) * g.size ≤ cap * g.size := Nat.mul_le_mul_right _ hge
          simp only [Array.size_append, List.size_toArray, List.length_append, zeroCells_size', hzs, ho2, hsrc.newsLen, Nat.sub_mul]
          rw [Nat.add_mul] at e1 ⊢; omega
        · obtain ⟨v, hv, hrv⟩ := ho3 q r hq hr
          have hlt := (List.getElem?_eq_some_iff.1 hv).1
          exact ⟨v, grown_get olds news _ _ _ (by rw [List.getElem?_append_left hlt]; exact hv), hrv⟩
        · obtain ⟨v, hv, hrv⟩ := hnews q r hq hr
          refine ⟨v, grown_get olds news _ _ _ ?_, hrv⟩
          rw [List.getElem?_append_right (by rw [ho2, Nat.add_mul]; omega), ho2, show ((OB.at own id).len + q) * g.size + r - (OB.at own id).len * g.size = q * g.size + r by rw [Nat.add_mul]; omega]
          exact hv)
    refine ⟨_, _, ρ.set id ⟨some ⟨w.heap.size, 0, none⟩, cap, some w.heap.size⟩, by rw [hu]; exact hrun, r1, r2, r3, .of0 ⟨_, by rw [List.getElem?_set, if_pos rfl, if_pos (by rw [hrel.len]; exact hid)], ?_⟩⟩
    rw [hres (ρ.set id loc) _ rfl, hoblen]; exact ⟨rfl, fun h => by cases h⟩

/-! ### conversions -/
theorem bytes_reads {Z : Nat → Prop} {l : List Int} {u : Value} (h : Reads Z w (.ints .u8 l) u) (hr : ∀ x ∈ l, 0 ≤ x ∧ x < 256) :
    ∃ s : ByteArray, (Conv.bytesToString u).run P w = .ok (.string s) w ∧ l = s.data.toList.map fun b => (b.toNat : Int) := by
  have hmap : ∀ (s : ByteArray), s.data.toList = (l.map fun n => UInt8.ofNat n.toNat) → l = s.data.toList.map fun b => (b.toNat : Int) := by
    intro s hs
    rw [hs, List.map_map]
    have : ∀ x ∈ l, ((fun b : UInt8 => (b.toNat : Int)) ∘ fun n : Int => UInt8.ofNat n.toNat) x = x := by
      intro x hx
      obtain ⟨h0, h1⟩ := hr x hx
      simp only [Function.comp, UInt8.toNat_ofNat']
      omega
    rw [List.map_congr_left this, List.map_id']
  cases h with
  | ints0 a cap =>
    refine ⟨ByteArray.empty, ?_, rfl⟩
    cases a with
    | none => rfl
    | some a =>
      have := run_bytesToString (P := P) w a 0 cap [] rfl
      simpa using this
  | ints _ _ n b off cap hn hz hc hcell =>
    have hload : (loadCells ⟨b, off, none⟩ n).run P w = .ok (l.map (Value.int .u8)).toArray w := by
      have := run_loadCells_list (P := P) w ⟨b, off, none⟩ (l.map (Value.int .u8)) (fun j v hj => by
        rw [List.getElem?_map] at hj
        have hjl : j < l.length := by
          cases hlj : l[j]? with
          | none => simp [hlj] at hj
          | some z => exact (List.getElem?_eq_some_iff.1 hlj).1
        rw [add_none, hcell j (by omega)]
        simp [List.getElem?_eq_getElem hjl] at hj
        simp [List.getD_eq_getElem?_getD, hjl, hj])
      simpa [hn] using this
    exact ⟨_, run_bytesToString (P := P) w _ n cap l hload, hmap _ (by rw [foldl_push]; rfl)⟩

end
end Go.Vc
end

section
/- VcO: every operation of the generator against the model. -/
namespace Go.Vc

section
variable {P : Program} {N : Nat → Prop} {ρ : List Loc} {own : Own} {w : World}

theorem good_of_run (h : ORel N ρ own w) {s : Sem Value} {u : Value} {v : TV} (hs : s.run P w = .ok u w) (hv : TReads (Zone N ρ own) w ρ own v u) {nx : Sem Next} (hn : nx = do pure (.value (← s))) :
    Good P N ρ own w nx v own := by subst hn; exact .of_run h hs hv
theorem good_of_step {s : Sem Value} {u : Value} {v : TV} {w' : World} {ρ' : List Loc} {own' : Own} (hs : s.run P w = .ok u w') (hst : Step N ρ own w ρ' own' w')
    (hv : TReads (Zone N ρ' own') w' ρ' own' v u) {nx : Sem Next} (hn : nx = do pure (.value (← s))) : Good P N ρ own w nx v own' := by
  subst hn
  exact ⟨.value u, w', ρ', u, by simp [hs], .inl rfl, hst, hv⟩

theorem own_bytes (hrel : ORel N ρ own w) {id : Nat} {loc : Loc} (hl : ρ[id]? = some loc) {k : IntKind} {l : List Int} (ho : OB.at own id = .ints k l) :
    Reads (fun _ => False) w (.ints k l) (.slice loc.a l.length loc.cap) := by
  have h := hrel.ob id loc hl
  rw [ho] at h
  rcases h with ⟨rfl, h2⟩ | ⟨b, vs, e, h1, h2, h3, h4, h5, h6⟩
  · exact .ints0 _ _ _
  · rw [h1]; exact .ints k l _ b 0 _ rfl (fun h => h) h4 fun i hi => by simp [World.cell?, h3, h6 i hi]

theorem maxInts_run {Z : Nat → Prop} (f : Int → Int → Int) (m2 : Value → Value → Sem Value) (hm : ∀ (k k' : IntKind) x y, m2 (.int k x) (.int k' y) = pure (.int k (f x y))) (k : IntKind) :
    ∀ (l : List TV) (us : List Value) (a m : Int), maxInts f a l = some m → l.length = us.length → (∀ i, i < l.length → TReads Z w ρ own (l.getD i .un) (us.getD i undef)) →
      (us.foldlM m2 (Value.int k a)).run P w = .ok (.int k m) w
  | [], [], a, m, h, _, _ => by simp [maxInts] at h; subst h; rfl
  | [], _ :: _, _, _, _, h, _ => by simp at h
  | _ :: _, [], _, _, _, h, _ => by simp at h
  | t :: r, u :: us, a, m, h, hl, hr => by
    have h0 := hr 0 (by simp)
    simp only [List.getD_cons_zero] at h0
    have ht : ∃ k' b, t = .d (.int k' b) := by
      cases t with
      | d x => cases x with
        | int k' b => exact ⟨k', b, rfl⟩
        | _ => simp [maxInts] at h
      | _ => simp [maxInts] at h
    obtain ⟨k', b, rfl⟩ := ht
    have := reads_int h0
    subst this
    simp only [maxInts] at h
    rw [List.foldlM_cons, hm, pure_bind]
    exact maxInts_run f m2 hm k r us (f a b) m h (by simpa using hl) (fun i hi => by have := hr (i + 1) (by simpa using hi); simpa using this)

theorem argsRel {tm : List TV} {a : Act} (ht : TRel (Zone N ρ own) w ρ own tm a.tmps) (args : Array Operand) :
    (lmap (ev tm) args.toList).length = ((args.map a.eval).toList).length ∧ ∀ i, i < (lmap (ev tm) args.toList).length → TReads (Zone N ρ own) w ρ own ((lmap (ev tm) args.toList).getD i .un) ((args.map a.eval).toList.getD i undef) := by
  rw [lmap_eq]
  refine ⟨by simp, fun i hi => ?_⟩
  simp only [List.length_map, Array.length_toList] at hi
  have := ev_reads ht args[i]
  simpa [List.getD_eq_getElem?_getD, hi] using this

theorem conv_run {src dst : TypeId} {i j : TyI} (hi : tyChk P src i = true) (hj : tyChk P dst j = true) (hrel : ORel N ρ own w) {ox : Operand} {tm : List TV} {a : Act} (ht : TRel (Zone N ρ own) w ρ own tm a.tmps)
    {safe : List Prop} {v : TV} {own' : Own} (h : convRes i.ty j.ty (ev tm ox) own = .det safe v own') (hs : ∀ p ∈ safe, p) :
    ∃ u, own' = own ∧ (convert src dst (a.eval ox)).run P w = .ok u w ∧ TReads (Zone N ρ own) w ρ own v u := by
  have hx := ev_reads ht ox
  generalize ev tm ox = x at *
  generalize a.eval ox = vx at *
  have hint : ∀ {t : TypeId} {i : TyI} {k : IntKind}, tyChk P t i = true → i.ty = .sc (.int k) → P.underlying t = some (.int k) := by
    intro t i k hi h
    unfold tyChk at hi
    rw [h] at hi
    split at hi <;> simp_all
    exact (kindEq_iff.1 hi.1.1).symm
  have hbytes : i.ty = .sc (.sints .u8) → ∃ e, P.underlying src = some (.slice e) ∧ P.underlying e = some (.int .u8) := by
    intro h
    unfold tyChk at hi
    rw [h] at hi
    split at hi <;> simp_all
    split at hi <;> simp_all
    exact (kindEq_iff.1 hi.2.1.1.1).symm
  unfold convRes at h
  split at h
  · rename_i k k' n hdst
    split at h
    · rename_i ks hsrc
      simp only [OpRes.det.injEq] at h
      obtain ⟨rfl, rfl, rfl⟩ := h
      have := reads_int hx; subst this
      have h1 := hint hi hsrc
      have h2 := hint hj hdst
      exact ⟨_, rfl, by simp [convert, run_underlying h1, run_underlying h2, Conv.intToInt], int_reads _ _⟩
    · cases h
  · rename_i l hdst
    split at h
    · rename_i hsrc
      simp only [OpRes.det.injEq] at h
      obtain ⟨rfl, rfl, rfl⟩ := h
      obtain ⟨s, rfl, hl⟩ := reads_str hx
      have h1 := str_under hi hsrc
      have h2 := str_under hj hdst
      exact ⟨.string s, rfl, by simp [convert, run_underlying h1, run_underlying h2], hx⟩
    · cases h
  · rename_i l hdst
    split at h
    · rename_i hsrc
      simp only [OpRes.det.injEq] at h
      obtain ⟨rfl, rfl, rfl⟩ := h
      obtain ⟨e, h1, h3⟩ := hbytes hsrc
      have h2 := str_under hj hdst
      obtain ⟨aa, cap, hu, _⟩ := reads_ints hx
      obtain ⟨s, hs1, hs2⟩ := bytes_reads (P := P) (w := w) hx (hs _ (by simp))
      refine ⟨.string s, rfl, ?_, .of0 (Reads.str s _ hs2)⟩
      rw [hu] at hs1 ⊢
      simp [convert, run_underlying h1, run_underlying h2, run_underlying h3, hs1]
    · cases h
  · rename_i id hdst
    split at h
    · rename_i l ho hsrc
      simp only [OpRes.det.injEq] at h
      obtain ⟨rfl, rfl, rfl⟩ := h
      obtain ⟨e, h1, h3⟩ := hbytes hsrc
      have h2 := str_under hj hdst
      obtain ⟨loc, hl, hu⟩ := vec_cells hx ho
      obtain ⟨s, hs1, hs2⟩ := bytes_reads (P := P) (w := w) (own_bytes hrel hl ho) (hs _ (by simp))
      refine ⟨.string s, rfl, ?_, .of0 (Reads.str s _ hs2)⟩
      rw [hu]
      simp [convert, run_underlying h1, run_underlying h2, run_underlying h3, hs1]
    · cases h
  · rename_i hdst
    split at h
    · rename_i hsrc
      simp only [OpRes.det.injEq] at h
      obtain ⟨rfl, rfl, rfl⟩ := h
      obtain ⟨e, h1, h3⟩ := hbytes hsrc
      have h2 := str_under hj hdst
      obtain ⟨aa, rfl⟩ := hx
      obtain ⟨s, hs1, hs2⟩ := bytes_reads (P := P) (w := w) (Z := fun _ => False) (l := []) (.ints0 aa 0 .u8) (fun x hx => by cases hx)
      refine ⟨.string s, rfl, ?_, .of0 (Reads.str s _ hs2)⟩
      simp [convert, run_underlying h1, run_underlying h2, run_underlying h3, hs1]
    · cases h
  · cases h

/-- A builtin's call, resolved. -/
theorem exec_builtin {a : Act} {o : Oper} {c : Call} {b : Builtin} (ho : o.op = .call c) (hc : c.callee = .builtin b) :
    ∃ consts, execOp a.eval o = builtin b c.argTypes o.type consts (c.args.map a.eval) := by
  unfold execOp
  rw [ho]
  simp only [resolve, hc, pure_bind, invoke]
  exact ⟨_, rfl⟩

theorem arr_of_list {α : Type} (x : Array α) (l : List α) (h : x.toList = l) : x = l.toArray := by subst h; simp

theorem len2 {α : Type} : ∀ {l : List α}, l.length = 2 → ∃ a b, l = [a, b]
  | [a, b], _ => ⟨a, b, rfl⟩
theorem two_args {tm : List TV} {args : Array Operand} {x y : TV} (h : lmap (ev tm) args.toList = [x, y]) : ∃ p q, args = #[p, q] ∧ ev tm p = x ∧ ev tm q = y := by
  rw [lmap_eq] at h
  have hl : args.toList.length = 2 := by have := congrArg List.length h; simpa using this
  obtain ⟨p, q, hpq⟩ := len2 hl
  rw [hpq] at h
  simp at h
  exact ⟨p, q, arr_of_list _ _ hpq, h.1, h.2⟩
theorem one_arg {tm : List TV} {args : Array Operand} {x : TV} (h : lmap (ev tm) args.toList = [x]) : ∃ p, args = #[p] ∧ ev tm p = x := by
  rw [lmap_eq] at h
  have hl : args.toList.length = 1 := by have := congrArg List.length h; simpa using this
  obtain ⟨p, hpq⟩ := List.length_eq_one_iff.1 hl
  rw [hpq] at h
  simp at h
  exact ⟨p, arr_of_list _ _ hpq, h⟩
theorem head_arg {tm : List TV} {args : Array Operand} {x : TV} {r : List TV} (h : lmap (ev tm) args.toList = x :: r) : ∃ p ps, args = (p :: ps).toArray ∧ ev tm p = x ∧ lmap (ev tm) ps = r := by
  cases hl : args.toList with
  | nil => rw [hl] at h; simp [lmap] at h
  | cons p ps =>
    rw [hl] at h
    simp only [lmap, List.cons.injEq] at h
    exact ⟨p, ps, arr_of_list _ _ hl, h.1, h.2⟩

theorem append_types {tys : Array TypeId} (h : llen tys.toList = 2) : tys = #[lget 0 tys.toList 0, lget 0 tys.toList 1] := by
  rw [llen_eq] at h
  obtain ⟨p, q, hpq⟩ := len2 h
  rw [hpq]
  exact arr_of_list _ _ hpq

theorem openV_ok {y : TV} {u : Value} (hrel : ORel N ρ own w) (hy : TReads (Zone N ρ own) w ρ own y u) :
    Step N ρ own w ρ (freeze0 own y) w ∧ TReads (Zone N ρ (freeze0 own y)) w ρ (freeze0 own y) (openV own y) u := by
  cases y with
  | vec id =>
    have hst := Step.shut hrel id
    have hown : own.set id (true, OB.at own id) = freezeId own id := by rw [freezeId, lset_eq]
    rw [hown] at hst
    refine ⟨hst, ?_⟩
    unfold openV freeze0
    simp only
    obtain ⟨loc, hl, hu, _⟩ := hy
    have hfz : frozenAt (freezeId own id) id = true := by rw [← hown, fz_set, if_pos ⟨rfl, hrel.idlt hl⟩]
    have hat : OB.at (freezeId own id) id = OB.at own id := by rw [← hown, at_set]; split <;> simp
    cases ho : OB.at own id with
    | ints k l =>
      have hr := shut_reads hst.rel hl hfz (t := .sc (.sints k)) (by rw [hat, ho]; exact kindEq_iff.2 rfl)
      rw [hat, ho] at hr
      rw [hu, ho]
      exact .of0 hr
    | rows sz l =>
      have hr := shut_reads hst.rel hl hfz (t := .sc (.srows sz)) (by rw [hat, ho]; exact Nat.beq_refl sz)
      rw [hat, ho] at hr
      rw [hu, ho]
      exact .of0 hr
    | _ => trivial
  | _ => exact ⟨Step.refl hrel, hy⟩
theorem names_own {Z : Nat → Prop} {w : World} {ρ : List Loc} {own : Own} {t : TV} {v : Value} (h : TReads0 Z w ρ own t v) {id : Nat} (hn : t.names0 id) : id < ρ.length := by
  have key : ∀ {loc : Loc}, ρ[id]? = some loc → id < ρ.length := fun h => (List.getElem?_eq_some_iff.1 h).1
  cases t <;> simp only [TV.names0] at hn
  case vec i => subst hn; obtain ⟨loc, h1, _⟩ := h; exact key h1
  case ptr i o => subst hn; obtain ⟨loc, b, h1, _⟩ := h; exact key h1
  case optr i x j => subst hn; obtain ⟨loc, b, h1, _⟩ := h; exact key h1
/-- A new own slice that nobody will write is data, and its name may go. -/
theorem forget {ρ' : List Loc} {w' : World} {ob : OB} {u : Value} (hrel : ORel N ρ own w) (hst : Step N ρ own w ρ' (own ++ [(false, ob)]) w')
    (hv : TReads (Zone N ρ' (own ++ [(false, ob)])) w' ρ' (own ++ [(false, ob)]) (.vec own.length) u) (hob : (∃ k l, ob = .ints k l) ∨ ∃ sz l, ob = .rows sz l) :
    Step N ρ own w ρ own w' ∧ Reads (Zone N ρ own) w' ob.data u := by
  have hlen : ρ'.length = own.length + 1 := by rw [hst.rel.len]; simp
  have hold : ∀ (i : Nat) (loc : Loc), ρ[i]? = some loc → ρ'[i]? = some loc := fun i loc h => (hst.same i loc h).1
  have hlt : ∀ (i : Nat) (loc : Loc), ρ[i]? = some loc → i < own.length := fun i loc h => by
    have := (List.getElem?_eq_some_iff.1 h).1
    rw [hrel.len] at this; exact this
  have hat : ∀ i, i < own.length → OB.at (own ++ [(false, ob)]) i = OB.at own i := fun i hi => by
    rw [at_app, if_neg (by omega)]
  have hfz : ∀ i, i < own.length → frozenAt (own ++ [(false, ob)]) i = frozenAt own i := fun i hi => by
    unfold frozenAt
    rw [lget_eq, lget_eq]
    simp only [List.getD_eq_getElem?_getD]
    rw [List.getElem?_append_left hi]
  have hzone : ∀ b, Zone N ρ own b → Zone N ρ' (own ++ [(false, ob)]) b := fun b hb => by
    rcases hb with hb | ⟨i, loc, h1, h2, h3⟩
    · exact .inl hb
    · exact .inr ⟨i, loc, hold i loc h1, h2, by rw [hfz i (hlt i loc h1)]; exact h3⟩
  have hreads : ∀ x u, Reads (Zone N ρ' (own ++ [(false, ob)])) w' x u → Reads (Zone N ρ own) w' x u := fun x u hx => hx.mono fun b _ hz => ⟨rfl, fun hb => hz (hzone b hb)⟩
  have hrel' : ORel N ρ own w' :=
    { len := hrel.len
      nlt := hst.rel.nlt
      lt := fun i loc b h1 h2 => hst.rel.lt i loc b (hold i loc h1) h2
      inj := fun i j li lj b h1 h2 h3 h4 => hst.rel.inj i j li lj b (hold i li h1) (hold j lj h2) h3 h4
      nb := fun i loc b h1 h2 => hst.rel.nb i loc b (hold i loc h1) h2
      ob := fun i loc h1 => by
        have h2 := hst.rel.ob i loc (hold i loc h1)
        have h3 := hrel.ob i loc h1
        rw [hat i (hlt i loc h1)] at h2
        refine h2.mono (fun b _ => rfl) hreads fun l hl k id hk hn => ?_
        rw [hl] at h3
        obtain ⟨_, vs, _, _, _, _, _, h4⟩ := h3
        have hid := names_own (h4 k hk) hn
        intro loc' hl'
        have e1 : ρ[id]? = some ρ[id] := by simp [hid]
        have e2 := hold id _ e1
        rw [e2] at hl'
        obtain rfl := Option.some.inj hl'
        rw [hat id (by rw [← hrel.len]; exact hid)]
        exact ⟨e1, rfl, rfl⟩ }
  refine ⟨{ hst.toFr with alive := fun b h => .inl h, rel := hrel', same := SameAt.refl ρ own }, ?_⟩
  obtain ⟨hs2, hv2⟩ := openV_ok hst.rel hv
  have hd : openV (own ++ [(false, ob)]) (.vec own.length) = .d ob.data := by
    have ha : OB.at (own ++ [(false, ob)]) own.length = ob := by rw [at_app, if_pos rfl]
    unfold openV
    simp only [ha]
    rcases hob with ⟨k, l, rfl⟩ | ⟨sz, l, rfl⟩ <;> rfl
  rw [hd] at hv2
  have hv3 : Reads (Zone N ρ' (freeze0 (own ++ [(false, ob)]) (.vec own.length))) w' ob.data u := hv2
  refine hv3.mono fun b _ hz => ⟨rfl, fun hb => hz ?_⟩
  rcases hb with hb | ⟨i, loc, h1, h2, h3⟩
  · exact .inl hb
  · refine .inr ⟨i, loc, hold i loc h1, h2, ?_⟩
    have hi := hlt i loc h1
    show frozenAt (freezeId (own ++ [(false, ob)]) own.length) i = false
    rw [freezeId, lset_eq, fz_set, if_neg (by omega), hfz i hi]; exact h3
theorem good_shut {P : Program} {N : Nat → Prop} {ρ : List Loc} {own own1 : Own} {w : World} {s : Sem Next} {v : TV} {own' : Own} (h : Step N ρ own w ρ own1 w) (k : Good P N ρ own1 w s v own') : Good P N ρ own w s v own' := by
  obtain ⟨nx, w', ρ', u, h1, h2, h3, h4⟩ := k
  exact ⟨nx, w', ρ', u, h1, h2, h.trans h3, h4⟩

theorem builtin_sound {tb : TypeId → TyI} (hT : ∀ t, tyChk P t (tb t) = true) {b : Builtin} {tys : Array TypeId} {args : Array Operand} {tm : List TV} {a : Act} (hrel : ORel N ρ own w) (ht : TRel (Zone N ρ own) w ρ own tm a.tmps)
    {safe : List Prop} {v : TV} {own' : Own} (h : builtinRes tb b tys.toList (lmap (ev tm) args.toList) own = .det safe v own') (hs : ∀ p ∈ safe, p) (ty : TypeId) (consts : Array Bool) :
    Good P N ρ own w (builtin b tys ty consts (args.map a.eval)) v own' := by
  unfold builtinRes at h
  split at h
  · rename_i x hargs
    obtain ⟨p, rfl, hp⟩ := one_arg hargs
    have hx := ev_reads ht p
    rw [hp] at hx
    split at h
    · cases h
    rename_i t r htl
    have htys := arr_of_list _ _ htl
    subst htys
    split at h
    · rename_i n hn
      simp only [OpRes.det.injEq] at h
      obtain ⟨rfl, rfl, rfl⟩ := h
      have := lenTV_run (w := w) (ρ := ρ) (own := own) (N := N) (hT t) hx hn r ty
      exact good_of_run hrel this (int_reads _ _) (by simp [builtin])
    · cases h
  · rename_i x y hargs
    obtain ⟨p, q, rfl, hp, hq⟩ := two_args hargs
    have hx := ev_reads ht p
    have hy := ev_reads ht q
    rw [hp] at hx
    rw [hq] at hy
    clear hargs hp hq
    obtain ⟨hst, hy⟩ := openV_ok hrel hy
    replace hx := hst.treads hx
    refine good_shut hst ?_
    replace hrel := hst.rel
    clear hst ht
    generalize freeze0 own y = own1 at *
    generalize openV own y = y1 at *
    split at h
    · rename_i n hsl hb
      split at h
      · rename_i hn2
        have hn2 := Nat.eq_of_beq_eq_true hn2
        have htys := append_types (tys := tys) (by omega)
        obtain ⟨e', hk⟩ := isSliceTy_under (hT _) hsl
        have hpb : 0 < (tb (lget 0 tys.toList 0)).bytes := by
          have : 1 ≤ (tb (lget 0 tys.toList 0)).bytes := by simpa [Nat.blt] using hb
          omega
        have hcall : ∀ (u : Value) (w' : World), (Builtin.append_ #[lget 0 tys.toList 0, lget 0 tys.toList 1] ty #[a.eval p, a.eval q]).run P w = .ok u w' →
            (Builtin.append_ tys ty (#[p, q].map a.eval)).run P w = .ok u w' := by
          intro u w' hr; rw [htys]; simpa using hr
        unfold appendRes at h
        split at h
        · split at h
          · rename_i hsl0
            simp only [OpRes.det.injEq] at h
            obtain ⟨rfl, rfl, rfl⟩ := h
            have hx0 := hx
            obtain ⟨a1, ha1⟩ := hx
            obtain ⟨a2, ha2⟩ := hy
            obtain ⟨e, he⟩ := isSliceTy_under (hT _) hsl0
            obtain ⟨g, hg⟩ := slice_info (hT _) hsl0 he
            have hsrc : Src P g.size (lget 0 tys.toList 1) (a.eval q) 0 [] w := by
              rw [ha2]
              cases a2 with
              | none => exact Src.ofNil w hk 0
              | some a2 => exact Src.ofSlice w hk a2 0 0 [] (by simp) (fun j u h => by simp at h) (fun u h => by cases h)
            have hr := append_nothing (P := P) (w := w) (ty := ty) he hg a1 0 0 (Nat.le_refl _) hsrc
            rw [← ha1] at hr
            exact good_of_run hrel (hcall _ _ hr) hx0 rfl
          · cases h
        · rename_i x
          split at h
          · rename_i hf
            split at h
            · rename_i k l
              simp only [OpRes.det.injEq] at h
              obtain ⟨rfl, rfl, rfl⟩ := h
              obtain ⟨u, w', ρ', h1, h2, h3⟩ := append_emp_run (P := P) (N := N) (ρ := ρ) (own := own1) (w := w) (ty := ty) (hT _) hrel hk hx hy hf (.ints k l) (.inl ⟨k, l, rfl, rfl⟩) hpb (by have := hs _ (List.mem_singleton.2 rfl); exact this)
              rw [lapp_eq, llen_eq]
              exact good_of_step (hcall _ _ h1) h2 h3 rfl
            · rename_i sz l
              simp only [OpRes.det.injEq] at h
              obtain ⟨rfl, rfl, rfl⟩ := h
              obtain ⟨u, w', ρ', h1, h2, h3⟩ := append_emp_run (P := P) (N := N) (ρ := ρ) (own := own1) (w := w) (ty := ty) (hT _) hrel hk hx hy hf (.rows sz l) (.inr ⟨sz, l, rfl, rfl⟩) hpb (by have := hs _ (List.mem_singleton.2 rfl); exact this)
              rw [lapp_eq, llen_eq]
              exact good_of_step (hcall _ _ h1) h2 h3 rfl
            · cases h
          · cases h
        · rename_i id
          split at h
          · rename_i hf
            simp only [OpRes.det.injEq] at h
            obtain ⟨rfl, rfl, rfl⟩ := h
            have hx' := hx
            obtain ⟨loc, hl, hu, _⟩ := hx'
            obtain ⟨a2, ha2⟩ := hy
            obtain ⟨hf', _, _⟩ := obFits_data hf
            obtain ⟨e, g, he, hg, hsz, _⟩ := slice_elem (hT _) hf'
            have hsrc : Src P g.size (lget 0 tys.toList 1) (a.eval q) 0 [] w := by
              rw [ha2]
              cases a2 with
              | none => exact Src.ofNil w hk 0
              | some a2 => exact Src.ofSlice w hk a2 0 0 [] (by simp) (fun j u h => by simp at h) (fun u h => by cases h)
            have hle : (OB.at own1 id).len ≤ loc.cap := by
              have hob := hrel.ob id loc hl
              cases ho : OB.at own1 id with
              | ints k l =>
                rw [ho] at hob
                rcases hob with ⟨rfl, _⟩ | ⟨b, vs, e, _, _, _, h4, _⟩
                · simp [OB.len]
                · exact h4
              | rows sz l =>
                rw [ho] at hob
                rcases hob with ⟨rfl, _⟩ | ⟨b, vs, e, _, _, _, h4, _⟩
                · simp [OB.len]
                · exact h4
              | _ => rw [ho] at hf; cases hty : (tb (lget 0 tys.toList 0)).ty <;> simp [hty, obFits] at hf
            have hr := append_nothing (P := P) (w := w) (ty := ty) he hg loc.a _ loc.cap hle hsrc
            rw [← hu] at hr
            exact good_of_run hrel (hcall _ _ hr) hx rfl
          · cases h
        · split at h
          · split at h
            · split at h <;> cases h
            · split at h <;> cases h
            · cases h
          · cases h
        · cases h
      · cases h
    · cases h
  · rename_i k m r hargs
    obtain ⟨p, ps, rfl, hp, hps⟩ := head_arg hargs
    split at h
    · rename_i mm hm
      simp only [OpRes.det.injEq] at h
      obtain ⟨rfl, rfl, rfl⟩ := h
      have hx := ev_reads ht p
      rw [hp] at hx
      have := reads_int hx
      have hrest := maxInts_run (P := P) (w := w) (ρ := ρ) (own := own) (Z := Zone N ρ own) (fun x y => if y > x then y else x) Builtin.max2 (fun k k' x y => rfl) k r (ps.map a.eval) m mm hm (by rw [← hps, lmap_eq]; simp)
        (fun i hi => by
          rw [← hps, lmap_eq] at hi ⊢
          simp only [List.length_map] at hi
          have := ev_reads ht ps[i]
          simpa [List.getD_eq_getElem?_getD, hi] using this)
      refine good_of_run hrel (s := Builtin.max_ tys ty ((p :: ps).toArray.map a.eval)) ?_ (int_reads _ _) rfl
      simp only [Builtin.max_, List.map_toArray, List.map_cons, this]
      exact hrest
    · cases h
  · rename_i k m r hargs
    obtain ⟨p, ps, rfl, hp, hps⟩ := head_arg hargs
    split at h
    · rename_i mm hm
      simp only [OpRes.det.injEq] at h
      obtain ⟨rfl, rfl, rfl⟩ := h
      have hx := ev_reads ht p
      rw [hp] at hx
      have := reads_int hx
      have hrest := maxInts_run (P := P) (w := w) (ρ := ρ) (own := own) (Z := Zone N ρ own) (fun x y => if y < x then y else x) Builtin.min2 (fun k k' x y => rfl) k r (ps.map a.eval) m mm hm (by rw [← hps, lmap_eq]; simp)
        (fun i hi => by
          rw [← hps, lmap_eq] at hi ⊢
          simp only [List.length_map] at hi
          have := ev_reads ht ps[i]
          simpa [List.getD_eq_getElem?_getD, hi] using this)
      refine good_of_run hrel (s := Builtin.min_ tys ty ((p :: ps).toArray.map a.eval)) ?_ (int_reads _ _) rfl
      simp only [Builtin.min_, List.map_toArray, List.map_cons, this]
      exact hrest
    · cases h
  · cases h

end
end Go.Vc
end

section
/- VcP: one operation of any kind; the operations of a region in any order that is given. -/
namespace Go.Vc

section
variable {P : Program} {N : Nat → Prop} {ρ : List Loc} {own : Own} {w : World}

theorem det_sound {tb : TypeId → TyI} (hT : ∀ t, tyChk P t (tb t) = true) {o : Oper} {tm : List TV} {a : Act} (hrel : ORel N ρ own w) (ht : TRel (Zone N ρ own) w ρ own tm a.tmps)
    {safe : List Prop} {v : TV} {own' : Own} (h : opRes tb o tm own = .det safe v own') (hs : ∀ p ∈ safe, p) : Good P N ρ own w (execOp a.eval o) v own' := by
  unfold opRes at h
  unfold execOp
  cases hop : o.op with
  | move x =>
    simp only [hop] at h ⊢
    simp only [OpRes.det.injEq] at h
    obtain ⟨rfl, rfl, rfl⟩ := h
    exact .of_val hrel (ev_reads ht x)
  | assign x =>
    simp only [hop] at h ⊢
    simp only [OpRes.det.injEq] at h
    obtain ⟨rfl, rfl, rfl⟩ := h
    exact .of_val hrel (ev_reads ht x)
  | pick c x y =>
    simp only [hop] at h ⊢
    obtain ⟨b, rfl, hb, hv⟩ := pickRes_run ht h
    refine ⟨.value (if b then a.eval x else a.eval y), w, ρ, _, ?_, .inl rfl, Step.refl hrel, hv⟩
    rw [hb]; cases b <;> rfl
  | alloc t =>
    simp only [hop] at h ⊢
    split at h
    · cases h
    · rename_i hn
      simp only [OpRes.det.injEq] at h
      obtain ⟨rfl, rfl, rfl⟩ := h
      obtain ⟨u, w', ρ', h1, h2, h3⟩ := alloc_run (hT t) (by intro hno; exact hn hno) hrel
      rw [lapp_eq, llen_eq]
      exact good_of_step h1 h2 h3 rfl
  | box t x =>
    simp only [hop] at h ⊢
    split at h
    · rename_i hst
      simp only [OpRes.det.injEq] at h
      obtain ⟨rfl, rfl, rfl⟩ := h
      obtain ⟨u, w', ρ', h1, h2, h3⟩ := box_run (P := P) t hrel ht hst
      rw [lapp_eq, llen_eq]
      exact good_of_step h1 h2 h3 rfl
    · cases h
  | build t parts =>
    simp only [hop] at h ⊢
    split at h
    · rename_i hp hagg
      simp only [OpRes.det.injEq] at h
      obtain ⟨rfl, rfl, rfl⟩ := h
      have hn : ∃ cs, (∃ fs, (tb t).ty = .struct fs cs) ∨ ∃ n e, (tb t).ty = .arr n e cs := by
        cases hty : (tb t).ty with
        | struct fs cs => exact ⟨cs, .inl ⟨fs, rfl⟩⟩
        | arr n e cs => exact ⟨cs, .inr ⟨n, e, rfl⟩⟩
        | _ => rw [hty] at hagg; simp [Ty.isAggTy] at hagg
      obtain ⟨u, h1, h2⟩ := build_run (hT t) ht parts hp hn
      exact good_of_run hrel h1 h2 rfl
    · cases h
  | buildSlice t n parts =>
    simp only [hop] at h ⊢
    split at h
    · rename_i k hty
      split at h
      · rename_i l hl hn
        obtain ⟨u, w', ρ', h1, h2, h3⟩ := ints_lit_run (hT t) hrel ht parts n hty hl (Nat.le_of_ble_eq_true hn)
        unfold litOut at h
        split at h
        · simp only [OpRes.det.injEq] at h
          obtain ⟨rfl, rfl, rfl⟩ := h
          obtain ⟨k1, k2⟩ := forget hrel h2 h3 (.inl ⟨k, l, rfl⟩)
          exact good_of_step h1 k1 (v := .d _) k2 rfl
        · simp only [OpRes.det.injEq] at h
          obtain ⟨rfl, rfl, rfl⟩ := h
          rw [lapp_eq, llen_eq]
          exact good_of_step h1 h2 h3 rfl
      · cases h
    · rename_i sz hty
      split at h
      · rename_i l hl hn
        obtain ⟨u, w', ρ', h1, h2, h3⟩ := rows_lit_run (hT t) hrel ht parts n hty hl (Nat.le_of_ble_eq_true hn)
        unfold litOut at h
        split at h
        · simp only [OpRes.det.injEq] at h
          obtain ⟨rfl, rfl, rfl⟩ := h
          obtain ⟨k1, k2⟩ := forget hrel h2 h3 (.inr ⟨sz, l, rfl⟩)
          exact good_of_step h1 k1 (v := .d _) k2 rfl
        · simp only [OpRes.det.injEq] at h
          obtain ⟨rfl, rfl, rfl⟩ := h
          rw [lapp_eq, llen_eq]
          exact good_of_step h1 h2 h3 rfl
      · cases h
    · cases h
  | load t p =>
    simp only [hop] at h ⊢
    obtain ⟨u, rfl, h1, h2⟩ := loadRes_run (hT t) hrel ht h hs
    exact good_of_run hrel h1 h2 rfl
  | store t p x =>
    simp only [hop] at h ⊢
    obtain ⟨w', rfl, h1, h2⟩ := storeRes_run (hT t) hrel ht h
    exact ⟨.skip, w', ρ, undef, by simp [h1], .inr ⟨rfl, rfl⟩, h2, TReads.un⟩
  | nilCheck x =>
    simp only [hop] at h ⊢
    have hx := ev_reads ht x
    split at h
    · rename_i id j he
      simp only [OpRes.det.injEq] at h
      obtain ⟨rfl, rfl, rfl⟩ := h
      rw [he] at hx
      have hx0 := hx
      obtain ⟨loc, b, h1, h2, h3, h4⟩ := hx
      rw [h4] at hx0 ⊢
      exact .of_val hrel hx0
    · rename_i id n j he
      simp only [OpRes.det.injEq] at h
      obtain ⟨rfl, rfl, rfl⟩ := h
      rw [he] at hx
      have hx0 := hx
      obtain ⟨loc, b, h1, h2, h3, h4, h5⟩ := hx
      rw [h4] at hx0 ⊢
      exact .of_val hrel hx0
    · rename_i y n j he
      simp only [OpRes.det.injEq] at h
      obtain ⟨rfl, rfl, rfl⟩ := h
      rw [he] at hx
      have hx0 := hx
      obtain ⟨b, off, cap, h1, h2, h3, h4⟩ := hx
      rw [h4] at hx0 ⊢
      exact .of_val hrel hx0
    · cases h
  | binOp op t x y ty =>
    simp only [hop] at h ⊢
    obtain ⟨u, rfl, h1, h2⟩ := binRes_det (P := P) (hT t) ht h hs
    exact good_of_run hrel h1 h2 rfl
  | unOp op t x =>
    simp only [hop] at h ⊢
    obtain ⟨u, rfl, h1, h2⟩ := unRes_run (P := P) ht h
    exact good_of_run hrel h1 h2 rfl
  | convert src dst x =>
    simp only [hop] at h ⊢
    obtain ⟨u, rfl, h1, h2⟩ := conv_run (hT src) (hT dst) hrel ht h hs
    exact good_of_run hrel h1 h2 rfl
  | extract x i =>
    simp only [hop] at h ⊢
    split at h
    · rename_i l he
      split at h
      · rename_i hlt
        simp only [OpRes.det.injEq] at h
        obtain ⟨rfl, rfl, rfl⟩ := h
        have hlt : i + 1 ≤ llen l := by simpa [Nat.blt] using hlt
        rw [llen_eq] at hlt
        obtain ⟨u, h1, h2⟩ := extract_run (P := P) ht he hlt
        exact good_of_run hrel h1 h2 rfl
      · cases h
    · cases h
  | fieldAddr s x f =>
    simp only [hop] at h ⊢
    split at h
    · cases h
    · rename_i hin
      have hx := ev_reads ht x
      obtain ⟨fs, cs, hty, hf⟩ : ∃ fs cs, (tb s).ty = .struct fs cs ∧ f < fs.length := by
        cases hty : (tb s).ty with
        | struct fs cs =>
          rw [hty] at hin
          have : f + 1 ≤ llen fs := by simpa [fieldIn, Nat.blt] using hin
          rw [llen_eq] at this
          exact ⟨fs, cs, rfl, by omega⟩
        | _ => rw [hty] at hin; simp [fieldIn] at hin
      have hrun := fun b o => fieldAt_run (w := w) (hT s) hty f hf b o
      split at h
      · rename_i id off he
        simp only [OpRes.det.injEq] at h
        obtain ⟨rfl, rfl, rfl⟩ := h
        rw [he] at hx
        obtain ⟨loc, b, h1, h2, h3, h4⟩ := hx
        refine good_of_run hrel (by rw [h4]; exact hrun b off) ?_ rfl
        exact .of0 ⟨loc, b, h1, h2, h3, rfl⟩
      · rename_i id n j he
        simp only [OpRes.det.injEq] at h
        obtain ⟨rfl, rfl, rfl⟩ := h
        rw [he] at hx
        obtain ⟨loc, b, h1, h2, h3, h4, h5⟩ := hx
        refine good_of_run hrel (by rw [h4]; exact hrun b _) ?_ rfl
        exact .of0 ⟨loc, b, h1, h2, h3, by rw [Nat.add_assoc]; rfl, h5⟩
      · rename_i y n j he
        simp only [OpRes.det.injEq] at h
        obtain ⟨rfl, rfl, rfl⟩ := h
        rw [he] at hx
        obtain ⟨b, off, cap, h1, h2, h3, h4⟩ := hx
        refine good_of_run hrel (by rw [h4]; exact hrun b _) ?_ rfl
        exact .of0 ⟨b, off, cap, h1, h2, h3, by rw [Nat.add_assoc]; rfl⟩
      · cases h
  | field s x f =>
    simp only [hop] at h ⊢
    split at h
    · cases h
    · rename_i hin
      have hx := ev_reads ht x
      obtain ⟨fs, cs, hty, hf⟩ : ∃ fs cs, (tb s).ty = .struct fs cs ∧ f < fs.length := by
        cases hty : (tb s).ty with
        | struct fs cs =>
          rw [hty] at hin
          have : f + 1 ≤ llen fs := by simpa [fieldIn, Nat.blt] using hin
          rw [llen_eq] at this
          exact ⟨fs, cs, rfl, by omega⟩
        | _ => rw [hty] at hin; simp [fieldIn] at hin
      split at h
      · rename_i l he
        split at h
        · rename_i hle
          simp only [OpRes.det.injEq] at h
          obtain ⟨rfl, rfl, rfl⟩ := h
          rw [he] at hx
          have hle := Nat.le_of_ble_eq_true hle
          rw [llen_eq] at hle
          obtain ⟨u, h1, h2⟩ := field_run (w := w) (hT s) hty f hf l hx hle
          exact good_of_run hrel h1 h2 rfl
        · cases h
      · cases h
  | indexAddr t x i =>
    simp only [hop] at h ⊢
    obtain ⟨u, rfl, h1, h2⟩ := indexAddr_run (hT t) hrel ht h hs
    exact good_of_run hrel h1 h2 rfl
  | index t x i =>
    simp only [hop] at h ⊢
    have hx := ev_reads ht x
    have hi := ev_reads ht i
    generalize ev tm x = xx at *
    generalize ev tm i = ii at *
    unfold indexRes at h
    split at h
    · rename_i k n
      split at h
      · rename_i l hty
        simp only [OpRes.det.injEq] at h
        obtain ⟨rfl, rfl, rfl⟩ := h
        have h0 : 0 ≤ n := hs _ (by simp)
        have h1 : n < (l.length : Int) := hs _ (by simp)
        obtain ⟨s, hu, hl⟩ := reads_str hx
        have e1 := reads_int hi
        have hund := str_under (hT t) hty
        have hlt : n.toNat < s.data.size := by rw [hl, List.length_map, Array.length_toList] at h1; omega
        refine good_of_run hrel (u := .int .u8 (s.data[n.toNat]).toNat) ?_ ?_ rfl
        · rw [hu, e1]
          have hg : (if 0 ≤ n then s[n.toNat]? else none) = some (s.data[n.toNat]) := by
            rw [if_pos h0]
            have : n.toNat < s.size := hlt
            rw [getElem?_pos s n.toNat this]; rfl
          simp only [Instr.index, asIntOf, Sem.run_bind, Sem.run_pure, Result.andThen_ok, run_underlying hund, hg]
        · rw [hl]
          have : ((s.data.toList.map fun b => (b.toNat : Int)).getD n.toNat 0) = ((s.data[n.toNat]).toNat : Int) := by
            rw [List.getD_eq_getElem?_getD, List.getElem?_map, Array.getElem?_toList, Array.getElem?_eq_getElem hlt]; rfl
          rw [this]; exact int_reads _ _
      · cases h
    · cases h
  | makeSlice t n c =>
    simp only [hop] at h ⊢
    obtain ⟨u, w', ρ', h1, h2, h3⟩ := makeRes_run (hT t) hrel ht h hs
    exact good_of_step h1 h2 h3 rfl
  | slice t x lo hi mx =>
    simp only [hop] at h ⊢
    obtain ⟨u, h1, h2, h3⟩ := sliceRes_run (hT t) hrel ht h hs
    exact good_of_step h1 h2 h3 rfl
  | call c =>
    simp only [hop] at h
    split at h
    · rename_i b hc
      obtain ⟨consts, he⟩ := exec_builtin (a := a) hop hc
      have := builtin_sound (P := P) (N := N) (ρ := ρ) (w := w) hT hrel ht h hs o.type consts
      rw [← he] at this
      unfold execOp at this
      rw [hop] at this
      exact this
    · cases h
    · cases h
  | panic x =>
    simp only [hop] at h
    simp only [OpRes.det.injEq] at h
    obtain ⟨rfl, _⟩ := h
    exact (hs False (by simp)).elim
  | _ => simp only [hop] at h; cases h

end
end Go.Vc
end

section
/- VcQ: the operations of a region, in an order that is given, against the model. -/
namespace Go.Vc

/-- A contract holds of a function. -/
def SoundCon (P : Program) (f : FuncId) (T : Con) : Prop :=
  (∃ fn, P.funcs[f]? = some fn ∧ fn.body.isNone = false ∧ (fn.name == "runtime.NumGoroutine") = false) ∧
  ∀ (N : Nat → Prop) (ρ : List Loc) (own : Own) (w : World) (args : List TV) (vals : Array Value) (K : TV → Own → Prop), T args own K → ORel N ρ own w →
    args.length = vals.size → (∀ i, i < args.length → TReads (Zone N ρ own) w ρ own (args.getD i .un) (vals.getD i undef)) →
    Calls P f vals w fun e w' => ∃ r own' ρ' v, e = .returned v ∧ K r own' ∧ Step N ρ own w ρ' own' w' ∧ TReads (Zone N ρ' own') w' ρ' own' r v

/-- The same of a function without a body. -/
def SoundExt (P : Program) (f : FuncId) (T : Con) : Prop :=
  ∀ (N : Nat → Prop) (ρ : List Loc) (own : Own) (w : World) (args : List TV) (vals : Array Value) (K : TV → Own → Prop), T args own K → ORel N ρ own w →
    args.length = vals.size → (∀ i, i < args.length → TReads (Zone N ρ own) w ρ own (args.getD i .un) (vals.getD i undef)) →
    ∃ v w' r own' ρ', (callFunc f vals).run P w = .ok (.value v) w' ∧ K r own' ∧ Step N ρ own w ρ' own' w' ∧ TReads (Zone N ρ' own') w' ρ' own' r v
def SoundAny (P : Program) (f : FuncId) (T : Con) : Prop := SoundCon P f T ∨ SoundExt P f T

section
variable {P : Program} {N : Nat → Prop} {ρ : List Loc} {own : Own} {w : World}

theorem grow_shut {N : Nat → Prop} {ρ : List Loc} {own own1 : Own} {w : World} {A : Value → World → Prop} {v : TV} {own' : Own} {id : Nat} (h : Step N ρ own w ρ own1 w)
    (k : ∃ u w' ρ', A u w' ∧ ORel N ρ' own' w' ∧ Fr ρ own1 w ρ' own' w' ∧ (∀ i, i ≠ id → SameAt ρ own1 ρ' own' i) ∧ TReads (Zone N ρ' own') w' ρ' own' v u) :
    ∃ u w' ρ', A u w' ∧ ORel N ρ' own' w' ∧ Fr ρ own w ρ' own' w' ∧ (∀ i, i ≠ id → SameAt ρ own ρ' own' i) ∧ TReads (Zone N ρ' own') w' ρ' own' v u := by
  obtain ⟨u, w', ρ', h1, h2, h3, h4, h5⟩ := k
  refine ⟨u, w', ρ', h1, h2, h.toFr.trans h3, fun i hi => ?_, h5⟩
  intro loc hl
  obtain ⟨a1, a2, a3⟩ := h.same i loc hl
  obtain ⟨b1, b2, b3⟩ := h4 i hi loc a1
  exact ⟨b1, b2.trans a2, b3.trans a3⟩

theorem grow_call {tb : TypeId → TyI} {o : Oper} {tm : List TV} {safe : List Prop} {v : TV} {own' : Own} {id : Nat} (h : opRes tb o tm own = .grow safe v own' id) :
    ∃ c b, o.op = .call c ∧ c.callee = .builtin b ∧ builtinRes tb b c.argTypes.toList (lmap (ev tm) c.args.toList) own = .grow safe v own' id := by
  unfold opRes at h
  cases hop : o.op with
  | call c =>
    simp only [hop] at h
    split at h
    · rename_i b hc
      exact ⟨c, b, rfl, hc, h⟩
    · cases h
    · cases h
  | pick c x y => simp only [hop] at h; unfold pickRes at h; split at h <;> (try split at h) <;> (try split at h) <;> cases h
  | binOp op t x y ty =>
    simp only [hop] at h
    unfold binRes at h
    split at h
    · split at h
      · cases h
      · cases h
      · split at h
        · cases op <;> simp [intRes] at h
        · cases h
    · split at h <;> cases h
    · split at h <;> cases h
    · split at h <;> cases h
    all_goals first | cases h | (unfold boolRes at h; split at h <;> cases h)
  | unOp op t x => simp only [hop] at h; unfold unRes at h; split at h <;> cases h
  | convert s d x =>
    simp only [hop] at h; unfold convRes at h
    split at h <;> (try split at h) <;> cases h
  | load t p =>
    simp only [hop] at h; unfold loadRes at h
    split at h
    · split at h
      · split at h <;> cases h
      · cases h
    · unfold loadData at h
      split at h
      · split at h
        · split at h <;> cases h
        · cases h
      · split at h
        · split at h <;> cases h
        · cases h
      · cases h
    · unfold loadData at h
      split at h
      · split at h
        · split at h <;> cases h
        · cases h
      · split at h
        · split at h <;> cases h
        · cases h
      · cases h
    · cases h
  | store t p x =>
    simp only [hop] at h; unfold storeRes at h
    split at h
    · split at h
      · split at h <;> cases h
      · cases h
    · split at h
      · split at h
        · split at h <;> cases h
        · cases h
      · split at h <;> cases h
      · cases h
    · cases h
  | indexAddr t x i =>
    simp only [hop] at h; unfold indexAddrRes at h
    split at h
    · split at h
      · split at h <;> cases h
      · split at h <;> cases h
      · cases h
      · cases h
    · cases h
  | index t x i => simp only [hop] at h; unfold indexRes at h; split at h <;> (try split at h) <;> cases h
  | makeSlice t n c => simp only [hop] at h; unfold makeRes at h; split at h <;> (try split at h) <;> cases h
  | slice t x lo hi mx =>
    simp only [hop] at h; unfold sliceRes at h
    split at h
    · split at h
      · split at h
        · split at h <;> cases h
        · split at h <;> cases h
        · split at h <;> cases h
        · split at h <;> (try split at h) <;> cases h
        · split at h <;> cases h
        · cases h
      · cases h
    · split at h <;> (try split at h) <;> cases h
    · cases h
  | fieldAddr s x f => simp only [hop] at h; split at h <;> (try split at h) <;> cases h
  | field s x f => simp only [hop] at h; split at h <;> (try split at h) <;> (try split at h) <;> cases h
  | extract x i => simp only [hop] at h; split at h <;> (try split at h) <;> cases h
  | nilCheck x => simp only [hop] at h; split at h <;> cases h
  | alloc t => simp only [hop] at h; split at h <;> cases h
  | box t x => simp only [hop] at h; split at h <;> cases h
  | build t parts => simp only [hop] at h; split at h <;> cases h
  | buildSlice t n parts =>
    simp only [hop] at h
    split at h
    · split at h <;> first | cases h | (unfold litOut at h; split at h <;> cases h)
    · split at h <;> first | cases h | (unfold litOut at h; split at h <;> cases h)
    · cases h
  | _ => simp only [hop] at h; cases h

theorem grow_sound {tb : TypeId → TyI} (hT : ∀ t, tyChk P t (tb t) = true) {o : Oper} {tm : List TV} {a : Act} (hrel : ORel N ρ own w) (ht : TRel (Zone N ρ own) w ρ own tm a.tmps)
    {safe : List Prop} {v : TV} {own' : Own} {id : Nat} (h : opRes tb o tm own = .grow safe v own' id) (hs : ∀ p ∈ safe, p) :
    ∃ u w' ρ', (execOp a.eval o).run P w = .ok (.value u) w' ∧ ORel N ρ' (killOwn id own') w' ∧ Fr ρ own w ρ' (killOwn id own') w' ∧ (∀ i, i ≠ id → SameAt ρ own ρ' (killOwn id own') i) ∧
      TReads (Zone N ρ' (killOwn id own')) w' ρ' (killOwn id own') v u := by
  obtain ⟨c, b, hop, hc, h⟩ := grow_call h
  obtain ⟨consts, he⟩ := exec_builtin (a := a) hop hc
  rw [he]
  unfold builtinRes at h
  split at h
  · split at h
    · cases h
    · split at h <;> cases h
  · rename_i x y hargs
    obtain ⟨p, q, hargs', hp, hq⟩ := two_args hargs
    have hx := ev_reads ht p
    have hy := ev_reads ht q
    rw [hp] at hx
    rw [hq] at hy
    rw [hargs']
    clear hargs hp hq hargs'
    obtain ⟨hst, hy⟩ := openV_ok hrel hy
    replace hx := hst.treads hx
    refine grow_shut hst ?_
    replace hrel := hst.rel
    clear hst ht
    generalize freeze0 own y = own1 at *
    generalize openV own y = y1 at *
    split at h
    · rename_i n hsl hb
      split at h
      · rename_i hn2
        have hn2 := Nat.eq_of_beq_eq_true hn2
        have htys := append_types (tys := c.argTypes) (by omega)
        obtain ⟨e', hk⟩ := isSliceTy_under (hT _) hsl
        have hpb : 0 < (tb (lget 0 c.argTypes.toList 0)).bytes := by
          have : 1 ≤ (tb (lget 0 c.argTypes.toList 0)).bytes := by simpa [Nat.blt] using hb
          omega
        have hcall : ∀ (u : Value) (w' : World), (Builtin.append_ #[lget 0 c.argTypes.toList 0, lget 0 c.argTypes.toList 1] o.type #[a.eval p, a.eval q]).run P w = .ok u w' →
            (builtin .append c.argTypes o.type consts (#[p, q].map a.eval)).run P w = .ok (.value u) w' := by
          intro u w' hr
          rw [htys]
          simp only [builtin, Sem.run_bind, List.map_toArray, List.map_cons, List.map_nil, hr, Result.andThen_ok, Sem.run_pure]
        unfold appendRes at h
        split at h
        · split at h <;> cases h
        · split at h
          · split at h <;> cases h
          · cases h
        · split at h <;> cases h
        · rename_i id' x
          split at h
          · rename_i hf hfz
            split at h
            · rename_i k l k' m ho
              split at h
              · rename_i hkk
                simp only [OpRes.grow.injEq] at h
                obtain ⟨rfl, rfl, rfl, rfl⟩ := h
                obtain rfl := kindEq_iff.1 hkk
                obtain ⟨u, w', ρ', h1, h2, h3, h4, h5⟩ := append_vec_run (P := P) (N := N) (ρ := ρ) (own := own1) (w := w) (ty := o.type) (hT _) hrel hk hx hy hf hfz (.ints k (m ++ l)) (.inl ⟨k, l, m, rfl, ho, rfl⟩) hpb
                  (by rw [ho]; have := hs _ (List.mem_singleton.2 rfl); exact this)
                rw [lset_eq]
                exact ⟨u, w', ρ', hcall _ _ h1, h2, h3, h4, h5⟩
              · cases h
            · rename_i sz l sz' m ho
              split at h
              · rename_i hkk
                simp only [OpRes.grow.injEq] at h
                obtain ⟨rfl, rfl, rfl, rfl⟩ := h
                obtain rfl := Nat.eq_of_beq_eq_true hkk
                obtain ⟨u, w', ρ', h1, h2, h3, h4, h5⟩ := append_vec_run (P := P) (N := N) (ρ := ρ) (own := own1) (w := w) (ty := o.type) (hT _) hrel hk hx hy hf hfz (.rows sz (m ++ l)) (.inr ⟨sz, l, m, rfl, ho, rfl⟩) hpb
                  (by rw [ho]; have := hs _ (List.mem_singleton.2 rfl); exact this)
                rw [lset_eq]
                exact ⟨u, w', ρ', hcall _ _ h1, h2, h3, h4, h5⟩
              · cases h
            · cases h
          · cases h
        · cases h
      · cases h
    · cases h
  · split at h <;> cases h
  · split at h <;> cases h
  · cases h

theorem anyB_op {tb : TypeId → TyI} {o : Oper} {tm : List TV} {p : Bool → Prop} (h : opRes tb o tm own = .anyB p) : (∃ op t x y ty, o.op = .binOp op t x y ty ∧ binRes op (tb t).ty y (ev tm x) (ev tm y) own = .anyB p) := by
  unfold opRes at h
  cases hop : o.op with
  | binOp op t x y ty => simp only [hop] at h; exact ⟨op, t, x, y, ty, rfl, h⟩
  | call c =>
    simp only [hop] at h
    split at h
    · unfold builtinRes at h
      split at h
      · split at h
        · cases h
        · split at h <;> cases h
      · split at h
        · split at h
          · unfold appendRes at h
            split at h
            · split at h <;> cases h
            · split at h
              · split at h <;> cases h
              · cases h
            · split at h <;> cases h
            · split at h
              · split at h
                · split at h <;> cases h
                · split at h <;> cases h
                · cases h
              · cases h
            · cases h
          · cases h
        · cases h
      · split at h <;> cases h
      · split at h <;> cases h
      · cases h
    · cases h
    · cases h
  | pick c x y => simp only [hop] at h; unfold pickRes at h; split at h <;> (try split at h) <;> (try split at h) <;> cases h
  | unOp op t x => simp only [hop] at h; unfold unRes at h; split at h <;> cases h
  | convert s d x =>
    simp only [hop] at h; unfold convRes at h
    split at h <;> (try split at h) <;> cases h
  | load t p =>
    simp only [hop] at h; unfold loadRes at h
    split at h
    · split at h
      · split at h <;> cases h
      · cases h
    · unfold loadData at h
      split at h
      · split at h
        · split at h <;> cases h
        · cases h
      · split at h
        · split at h <;> cases h
        · cases h
      · cases h
    · unfold loadData at h
      split at h
      · split at h
        · split at h <;> cases h
        · cases h
      · split at h
        · split at h <;> cases h
        · cases h
      · cases h
    · cases h
  | store t p x =>
    simp only [hop] at h; unfold storeRes at h
    split at h
    · split at h
      · split at h <;> cases h
      · cases h
    · split at h
      · split at h
        · split at h <;> cases h
        · cases h
      · split at h <;> cases h
      · cases h
    · cases h
  | indexAddr t x i =>
    simp only [hop] at h; unfold indexAddrRes at h
    split at h
    · split at h
      · split at h <;> cases h
      · split at h <;> cases h
      · cases h
      · cases h
    · cases h
  | index t x i => simp only [hop] at h; unfold indexRes at h; split at h <;> (try split at h) <;> cases h
  | makeSlice t n c => simp only [hop] at h; unfold makeRes at h; split at h <;> (try split at h) <;> cases h
  | slice t x lo hi mx =>
    simp only [hop] at h; unfold sliceRes at h
    split at h
    · split at h
      · split at h
        · split at h <;> cases h
        · split at h <;> cases h
        · split at h <;> cases h
        · split at h <;> (try split at h) <;> cases h
        · split at h <;> cases h
        · cases h
      · cases h
    · split at h <;> (try split at h) <;> cases h
    · cases h
  | fieldAddr s x f => simp only [hop] at h; split at h <;> (try split at h) <;> cases h
  | field s x f => simp only [hop] at h; split at h <;> (try split at h) <;> (try split at h) <;> cases h
  | extract x i => simp only [hop] at h; split at h <;> (try split at h) <;> cases h
  | nilCheck x => simp only [hop] at h; split at h <;> cases h
  | alloc t => simp only [hop] at h; split at h <;> cases h
  | box t x => simp only [hop] at h; split at h <;> cases h
  | build t parts => simp only [hop] at h; split at h <;> cases h
  | buildSlice t n parts =>
    simp only [hop] at h
    split at h
    · split at h <;> first | cases h | (unfold litOut at h; split at h <;> cases h)
    · split at h <;> first | cases h | (unfold litOut at h; split at h <;> cases h)
    · cases h
  | _ => simp only [hop] at h; cases h

theorem anyB_sound {tb : TypeId → TyI} (hT : ∀ t, tyChk P t (tb t) = true) {o : Oper} {tm : List TV} {a : Act} (ht : TRel (Zone N ρ own) w ρ own tm a.tmps)
    {p : Bool → Prop} (h : opRes tb o tm own = .anyB p) : ∃ b, p b ∧ (execOp a.eval o).run P w = .ok (.value (.bool b)) w := by
  obtain ⟨op, t, x, y, ty, ho, hb⟩ := anyB_op h
  obtain ⟨b, h1, h2⟩ := anyB_run (P := P) (hT t) ht hb
  refine ⟨b, h1, ?_⟩
  unfold execOp
  rw [ho]
  simp only [Sem.run_bind] at h2 ⊢
  cases hg : (eqGuard op t x y (a.eval x) (a.eval y)).run P w with
  | ok q w1 =>
    rw [hg] at h2
    simp only [Result.andThen_ok] at h2 ⊢
    rw [h2]; rfl
  | halt q w1 => rw [hg] at h2; cases h2

theorem call_op {tb : TypeId → TyI} {o : Oper} {tm : List TV} {f : FuncId} {args : List TV} {tys : List TypeId} (h : opRes tb o tm own = .call f args tys) :
    ∃ c, o.op = .call c ∧ c.callee = .value (.func f) ∧ args = lmap (ev tm) c.args.toList := by
  unfold opRes at h
  cases hop : o.op with
  | call c =>
    simp only [hop] at h
    split at h
    · exfalso
      unfold builtinRes at h
      split at h
      · split at h
        · cases h
        · split at h <;> cases h
      · split at h
        · split at h
          · unfold appendRes at h
            split at h
            · split at h <;> cases h
            · split at h
              · split at h <;> cases h
              · cases h
            · split at h <;> cases h
            · split at h
              · split at h
                · split at h <;> cases h
                · split at h <;> cases h
                · cases h
              · cases h
            · cases h
          · cases h
        · cases h
      · split at h <;> cases h
      · split at h <;> cases h
      · cases h
    · rename_i g hc
      simp only [OpRes.call.injEq] at h
      obtain ⟨rfl, rfl, rfl⟩ := h
      exact ⟨c, rfl, hc, rfl⟩
    · cases h
  | pick c x y => simp only [hop] at h; unfold pickRes at h; split at h <;> (try split at h) <;> (try split at h) <;> cases h
  | binOp op t x y ty =>
    simp only [hop] at h
    unfold binRes at h
    split at h
    · split at h
      · cases h
      · cases h
      · split at h
        · cases op <;> simp [intRes] at h
        · cases h
    · split at h <;> cases h
    · split at h <;> cases h
    · split at h <;> cases h
    all_goals first | cases h | (unfold boolRes at h; split at h <;> cases h)
  | unOp op t x => simp only [hop] at h; unfold unRes at h; split at h <;> cases h
  | convert s d x =>
    simp only [hop] at h; unfold convRes at h
    split at h <;> (try split at h) <;> cases h
  | load t p =>
    simp only [hop] at h; unfold loadRes at h
    split at h
    · split at h
      · split at h <;> cases h
      · cases h
    · unfold loadData at h
      split at h
      · split at h
        · split at h <;> cases h
        · cases h
      · split at h
        · split at h <;> cases h
        · cases h
      · cases h
    · unfold loadData at h
      split at h
      · split at h
        · split at h <;> cases h
        · cases h
      · split at h
        · split at h <;> cases h
        · cases h
      · cases h
    · cases h
  | store t p x =>
    simp only [hop] at h; unfold storeRes at h
    split at h
    · split at h
      · split at h <;> cases h
      · cases h
    · split at h
      · split at h
        · split at h <;> cases h
        · cases h
      · split at h <;> cases h
      · cases h
    · cases h
  | indexAddr t x i =>
    simp only [hop] at h; unfold indexAddrRes at h
    split at h
    · split at h
      · split at h <;> cases h
      · split at h <;> cases h
      · cases h
      · cases h
    · cases h
  | index t x i => simp only [hop] at h; unfold indexRes at h; split at h <;> (try split at h) <;> cases h
  | makeSlice t n c => simp only [hop] at h; unfold makeRes at h; split at h <;> (try split at h) <;> cases h
  | slice t x lo hi mx =>
    simp only [hop] at h; unfold sliceRes at h
    split at h
    · split at h
      · split at h
        · split at h <;> cases h
        · split at h <;> cases h
        · split at h <;> cases h
        · split at h <;> (try split at h) <;> cases h
        · split at h <;> cases h
        · cases h
      · cases h
    · split at h <;> (try split at h) <;> cases h
    · cases h
  | fieldAddr s x f => simp only [hop] at h; split at h <;> (try split at h) <;> cases h
  | field s x f => simp only [hop] at h; split at h <;> (try split at h) <;> (try split at h) <;> cases h
  | extract x i => simp only [hop] at h; split at h <;> (try split at h) <;> cases h
  | nilCheck x => simp only [hop] at h; split at h <;> cases h
  | alloc t => simp only [hop] at h; split at h <;> cases h
  | box t x => simp only [hop] at h; split at h <;> cases h
  | build t parts => simp only [hop] at h; split at h <;> cases h
  | buildSlice t n parts =>
    simp only [hop] at h
    split at h
    · split at h <;> first | cases h | (unfold litOut at h; split at h <;> cases h)
    · split at h <;> first | cases h | (unfold litOut at h; split at h <;> cases h)
    · cases h
  | _ => simp only [hop] at h; cases h

end
end Go.Vc
end

section
/- VcRa: a block that is kept for an allocation of a region whose order is open. -/
namespace Go.Vc

/-- Where nothing lies yet. -/
def pendLoc : Loc := ⟨none, 1, none⟩

section
variable {P : Program} {N : Nat → Prop} {ρ : List Loc} {own : Own} {w : World}

theorem pend_names {Z : Nat → Prop} {t : TV} {v : Value} {id : Nat} (hp : ρ[id]? = some pendLoc) (h : TReads0 Z w ρ own t v) (hn : t.names0 id) : False := by
  cases t <;> try exact hn
  case vec i =>
    obtain rfl : i = id := hn
    obtain ⟨loc, h1, _, h3⟩ := h
    rw [hp] at h1
    obtain rfl := Option.some.inj h1
    have := h3 rfl
    cases this
  case ptr i off =>
    obtain rfl : i = id := hn
    obtain ⟨loc, b, h1, h2, _⟩ := h
    rw [hp] at h1
    obtain rfl := Option.some.inj h1
    cases h2
  case optr i x y =>
    obtain rfl : i = id := hn
    obtain ⟨loc, b, h1, h2, _⟩ := h
    rw [hp] at h1
    obtain rfl := Option.some.inj h1
    cases h2

theorem treads1_0 {Z : Nat → Prop} {w : World} {ρ : List Loc} {own : Own} {t : TV} {v : Value} (hn : ∀ l, t ≠ .agg l) (h : TReads1 Z w ρ own t v) : TReads0 Z w ρ own t v := by
  cases t <;> first | exact h | exact absurd rfl (hn _)
theorem treads_1 {Z : Nat → Prop} {w : World} {ρ : List Loc} {own : Own} {t : TV} {v : Value} (hn : ∀ l, t ≠ .tup l) (h : TReads Z w ρ own t v) : TReads1 Z w ρ own t v := by
  cases t <;> first | exact h | exact absurd rfl (hn _)

/-- The variable comes into being at its place. -/
theorem fill_run {t : TypeId} {i : TyI} (hi : tyChk P t i = true) (hn : i.ty ≠ .no) (h : ORel N ρ own w) {id : Nat} (hp : ρ[id]? = some pendLoc) :
    ∃ u w' ρ', (Instr.alloc t true (.tuple #[])).run P w = .ok u w' ∧ ORel N ρ' (own.set id (false, .cells i.ty.zero)) w' ∧ Fr ρ own w ρ' (own.set id (false, .cells i.ty.zero)) w' ∧
      (∀ j, j ≠ id → SameAt ρ own ρ' (own.set id (false, .cells i.ty.zero)) j) ∧ (∀ tv v, TReads (Zone N ρ own) w ρ own tv v → TReads (Zone N ρ' (own.set id (false, .cells i.ty.zero))) w' ρ' (own.set id (false, .cells i.ty.zero)) tv v) ∧
      TReads (Zone N ρ' (own.set id (false, .cells i.ty.zero))) w' ρ' (own.set id (false, .cells i.ty.zero)) (.ptr id 0) u := by
  obtain ⟨g, z, h1, h2, h3, h4⟩ := zero_info (w := w) (ρ := ρ) (own := own) hi hn
  have hlt := h.idlt hp
  have hltρ : id < ρ.length := by rw [h.len]; exact hlt
  generalize hl : i.ty.zero = l at *
  have hother : ∀ b, b < w.heap.size → (w.alloc (.cells z.cells t)).heap[b]? = w.heap[b]? := fun b hb => heap_alloc_old w _ b hb
  have halive : ∀ b, Alive (ρ.set id ⟨some ⟨w.heap.size, 0, none⟩, 0, some w.heap.size⟩) (own.set id (false, .cells l)) b → Alive ρ own b ∨ b = w.heap.size := fun b ⟨j, loc, k1, k2, k3⟩ => by
    rw [List.getElem?_set] at k1
    by_cases e : id = j
    · subst e
      rw [if_pos rfl, if_pos hltρ] at k1
      obtain rfl := Option.some.inj k1
      exact .inr (Option.some.inj k2).symm
    · rw [if_neg e] at k1
      rw [fz_set, if_neg (by simp [e])] at k3
      exact .inl ⟨j, loc, k1, k2, k3⟩
  have hfr : Fr ρ own w (ρ.set id ⟨some ⟨w.heap.size, 0, none⟩, 0, some w.heap.size⟩) (own.set id (false, .cells l)) (w.alloc (.cells z.cells t)) := by
    refine ⟨rfl, rfl, rfl, by simp, fun b hb _ => hother b hb, fun b hb => ?_⟩
    rcases halive b hb with hb | rfl
    · exact .inl hb
    · exact .inr (Nat.le_refl _)
  have hsame : ∀ j, j ≠ id → SameAt ρ own (ρ.set id ⟨some ⟨w.heap.size, 0, none⟩, 0, some w.heap.size⟩) (own.set id (false, .cells l)) j := fun j hj loc hloc => by
    refine ⟨by rw [List.getElem?_set, if_neg (Ne.symm hj)]; exact hloc, ?_⟩
    rw [at_set, if_neg (by simp [Ne.symm hj])]; exact ⟨rfl, rfl⟩
  have hreads : ∀ x u, Reads (Zone N ρ own) w x u → Reads (Zone N (ρ.set id ⟨some ⟨w.heap.size, 0, none⟩, 0, some w.heap.size⟩) (own.set id (false, .cells l))) (w.alloc (.cells z.cells t)) x u := fun x u hx =>
    hx.mono fun b hb hz => ⟨hother b hb, fun hz' => by
      rcases hz' with hz' | hz'
      · exact hz (.inl hz')
      · rcases halive b hz' with hz' | rfl
        · exact hz (.inr hz')
        · omega⟩
  have h0 : ∀ tv v, TReads0 (Zone N ρ own) w ρ own tv v → TReads0 (Zone N (ρ.set id ⟨some ⟨w.heap.size, 0, none⟩, 0, some w.heap.size⟩) (own.set id (false, .cells l))) (w.alloc (.cells z.cells t)) (ρ.set id ⟨some ⟨w.heap.size, 0, none⟩, 0, some w.heap.size⟩) (own.set id (false, .cells l)) tv v :=
    fun tv v ht => ht.mono hreads fun j hj => hsame j fun e => pend_names hp ht (e ▸ hj)
  have h1' : ∀ tv v, TReads1 (Zone N ρ own) w ρ own tv v → TReads1 (Zone N (ρ.set id ⟨some ⟨w.heap.size, 0, none⟩, 0, some w.heap.size⟩) (own.set id (false, .cells l))) (w.alloc (.cells z.cells t)) (ρ.set id ⟨some ⟨w.heap.size, 0, none⟩, 0, some w.heap.size⟩) (own.set id (false, .cells l)) tv v := fun tv v ht => by
    cases tv with
    | agg x =>
      obtain ⟨a, e1, e2, e3⟩ := ht
      exact ⟨a, e1, e2, fun j hj => h0 _ _ (e3 j hj)⟩
    | _ => exact .of0 (h0 _ _ (treads1_0 (by intro l e; cases e) ht))
  have hrel : ORel N (ρ.set id ⟨some ⟨w.heap.size, 0, none⟩, 0, some w.heap.size⟩) (own.set id (false, .cells l)) (w.alloc (.cells z.cells t)) := by
    refine h.upd hfr (by simp [h.len]) (fun j lj hj k idx hk hnm => ?_) (fun j loc hloc => ?_)
    · refine hsame idx fun e => ?_
      have hjlt : j < ρ.length := by
        rcases Nat.lt_or_ge j ρ.length with hx | hx
        · exact hx
        · rw [h.len] at hx
          have : OB.at own j = .gone := by simp [OB.at, lget_eq, List.getD_eq_getElem?_getD, List.getElem?_eq_none hx]
          rw [this] at hj; cases hj
      have hob := h.ob j ρ[j] (by simp [hjlt])
      rw [hj] at hob
      obtain ⟨b, vs, e', _, _, _, _, k5⟩ := hob
      exact pend_names hp (k5 k hk) (e ▸ hnm)
    · rw [List.getElem?_set] at hloc
      by_cases e : id = j
      · subst e
        rw [if_pos rfl, if_pos hltρ] at hloc
        obtain rfl := Option.some.inj hloc
        refine .inr ⟨fun b hb => ?_, ?_⟩
        · simp only [Option.some.injEq] at hb
          subst hb
          refine ⟨by simp, fun hn => absurd (h.nlt _ hn) (by omega), fun q lq hq hqb => ?_⟩
          rw [List.getElem?_set] at hq
          by_cases e2 : id = q
          · exact e2.symm
          · rw [if_neg e2] at hq
            have := h.lt q lq _ hq hqb
            omega
        · rw [at_set, if_pos ⟨rfl, hlt⟩]
          exact ⟨w.heap.size, z.cells, t, rfl, rfl, alloc_heap w _, h3, fun k hk => h0 _ _ (h4 _ k hk)⟩
      · rw [if_neg e] at hloc
        exact .inl ⟨hloc, by rw [at_set, if_neg (by simp [e])], fun hx => by rwa [fz_set, if_neg (by simp [e])] at hx, fun b hb => hother b (h.lt j loc b hloc hb)⟩
  refine ⟨_, _, _, by simp [Instr.alloc, zeroValue, typeInfo, h1, h2, newVar, newRow], hrel, hfr, hsame, fun tv v ht => ?_, .of0 ⟨_, w.heap.size, by rw [List.getElem?_set, if_pos rfl, if_pos hltρ], rfl, rfl, rfl⟩⟩
  cases tv with
  | tup x =>
    obtain ⟨a, e1, e2, e3⟩ := ht
    exact ⟨a, e1, e2, fun j hj => h1' _ _ (e3 j hj)⟩
  | _ => exact .of1 (h1' _ _ (treads_1 (by intro l e; cases e) ht))

theorem names_get {Z : Nat → Prop} {t : TV} {v : Value} {id : Nat} (h : TReads0 Z w ρ own t v) (hn : t.names0 id) : ∃ loc, ρ[id]? = some loc := by
  cases t <;> try exact hn.elim
  case vec i => obtain rfl : i = id := hn; obtain ⟨loc, h1, _⟩ := h; exact ⟨loc, h1⟩
  case ptr i off => obtain rfl : i = id := hn; obtain ⟨loc, b, h1, _⟩ := h; exact ⟨loc, h1⟩
  case optr i x y => obtain rfl : i = id := hn; obtain ⟨loc, b, h1, _⟩ := h; exact ⟨loc, h1⟩

/-- A block that came into being behind the others is put into its place. -/
theorem reloc (h : ORel N ρ own w) {id : Nat} (hp : ρ[id]? = some pendLoc) {ρ1 : List Loc} {ob : OB} {w' : World} (hs : Step N ρ own w ρ1 (own ++ [(false, ob)]) w') (hob : ∀ l, ob ≠ .cells l) {u : Value}
    (hu : TReads (Zone N ρ1 (own ++ [(false, ob)])) w' ρ1 (own ++ [(false, ob)]) (.vec own.length) u) :
    ∃ ρ2, ORel N ρ2 (own.set id (false, ob)) w' ∧ Fr ρ own w ρ2 (own.set id (false, ob)) w' ∧ (∀ j, j ≠ id → SameAt ρ own ρ2 (own.set id (false, ob)) j) ∧
      (∀ tv v, TReads (Zone N ρ own) w ρ own tv v → TReads (Zone N ρ2 (own.set id (false, ob))) w' ρ2 (own.set id (false, ob)) tv v) ∧
      TReads (Zone N ρ2 (own.set id (false, ob))) w' ρ2 (own.set id (false, ob)) (.vec id) u := by
  obtain ⟨loc, e1, e2, e3⟩ : ∃ loc, ρ1[own.length]? = some loc ∧ u = .slice loc.a (OB.at (own ++ [(false, ob)]) own.length).len loc.cap ∧ (loc.a = none → loc.cap = 0) := hu
  have hlt := h.idlt hp
  have hltρ : id < ρ.length := by rw [h.len]; exact hlt
  have old : ∀ j lj, ρ[j]? = some lj → ρ1[j]? = some lj := fun j lj hj => (hs.same j lj hj).1
  have hne : id ≠ own.length := by omega
  have get2 : ∀ j lj, (ρ.set id loc)[j]? = some lj → (j = id ∧ lj = loc) ∨ (j ≠ id ∧ ρ[j]? = some lj) := fun j lj hj => by
    rw [List.getElem?_set] at hj
    by_cases e : id = j
    · subst e
      rw [if_pos rfl, if_pos hltρ] at hj
      exact .inl ⟨rfl, (Option.some.inj hj).symm⟩
    · rw [if_neg e] at hj
      exact .inr ⟨fun h => e h.symm, hj⟩
  have ltj : ∀ j lj, ρ[j]? = some lj → j < own.length := fun j lj hj => h.idlt hj
  have halive : ∀ b, Alive (ρ.set id loc) (own.set id (false, ob)) b → Alive ρ1 (own ++ [(false, ob)]) b := fun b ⟨j, lj, k1, k2, k3⟩ => by
    rcases get2 j lj k1 with ⟨rfl, rfl⟩ | ⟨hj, k1⟩
    · exact ⟨own.length, lj, e1, k2, by rw [fz_app, if_pos rfl]⟩
    · rw [fz_set, if_neg (by simp [Ne.symm hj])] at k3
      exact ⟨j, lj, old j lj k1, k2, by rw [fz_app, if_neg (by have := ltj j lj k1; omega)]; exact k3⟩
  have hfr : Fr ρ own w (ρ.set id loc) (own.set id (false, ob)) w' := ⟨hs.os, hs.tape, hs.output, hs.size, hs.keep, fun b hb => hs.alive b (halive b hb)⟩
  have hsame : ∀ j, j ≠ id → SameAt ρ own (ρ.set id loc) (own.set id (false, ob)) j := fun j hj lj hloc => by
    refine ⟨by rw [List.getElem?_set, if_neg (Ne.symm hj)]; exact hloc, ?_⟩
    rw [at_set, if_neg (by simp [Ne.symm hj])]; exact ⟨rfl, rfl⟩
  have hreads1 : ∀ x v, Reads (Zone N ρ1 (own ++ [(false, ob)])) w' x v → Reads (Zone N (ρ.set id loc) (own.set id (false, ob))) w' x v := fun x v hx =>
    hx.mono fun b _ hz => ⟨rfl, fun hz' => by
      rcases hz' with hz' | hz'
      · exact hz (.inl hz')
      · exact hz (.inr (halive b hz'))⟩
  have hsame1 : ∀ j, j ≠ id → j < own.length → SameAt ρ1 (own ++ [(false, ob)]) (ρ.set id loc) (own.set id (false, ob)) j := fun j hj hjl lj hloc => by
    have hjl2 : j < ρ.length := by rw [h.len]; exact hjl
    have hg : ρ[j]? = some ρ[j] := List.getElem?_eq_getElem hjl2
    have := old j _ hg
    rw [hloc] at this
    obtain rfl := Option.some.inj this
    refine ⟨by rw [List.getElem?_set, if_neg (Ne.symm hj)]; exact hg, ?_⟩
    rw [at_set, if_neg (by simp [Ne.symm hj]), at_app, if_neg (by omega)]; exact ⟨rfl, rfl⟩
  have names : ∀ j l, OB.at own j = .cells l → ∀ k idx, k < l.length → (l.getD k .un).names0 idx → idx ≠ id ∧ idx < own.length := fun j l hj k idx hk hnm => by
    have hjlt : j < ρ.length := by
      rcases Nat.lt_or_ge j ρ.length with hx | hx
      · exact hx
      · rw [h.len] at hx
        have : OB.at own j = .gone := by simp [OB.at, lget_eq, List.getD_eq_getElem?_getD, List.getElem?_eq_none hx]
        rw [this] at hj; cases hj
    have hob := h.ob j ρ[j] (by simp [hjlt])
    rw [hj] at hob
    obtain ⟨b, vs, e', _, _, _, _, k5⟩ := hob
    refine ⟨fun e => pend_names hp (k5 k hk) (e ▸ hnm), ?_⟩
    obtain ⟨lx, hx⟩ := names_get (k5 k hk) hnm
    exact h.idlt hx
  have hrel : ORel N (ρ.set id loc) (own.set id (false, ob)) w' := by
    refine h.upd hfr (by simp [h.len]) (fun j l hj k idx hk hnm => hsame idx (names j l hj k idx hk hnm).1) (fun j lj hj => .inr ⟨fun b hb => ?_, ?_⟩)
    · have uniq : ∀ q lq, (ρ.set id loc)[q]? = some lq → lq.blk = some b → q = j := fun q lq hq hqb => by
        rcases get2 j lj hj with ⟨rfl, rfl⟩ | ⟨hj', k1⟩ <;> rcases get2 q lq hq with ⟨rfl, rfl⟩ | ⟨hq', k2⟩
        · rfl
        · have := hs.rel.inj q own.length lq lj b (old q lq k2) e1 hqb hb
          have := ltj q lq k2
          omega
        · have := hs.rel.inj j own.length lj lq b (old j lj k1) e1 hb hqb
          have := ltj j lj k1
          omega
        · exact hs.rel.inj q j lq lj b (old q lq k2) (old j lj k1) hqb hb
      rcases get2 j lj hj with ⟨rfl, rfl⟩ | ⟨hj', k1⟩
      · exact ⟨hs.rel.lt _ _ _ e1 hb, hs.rel.nb _ _ _ e1 hb, uniq⟩
      · exact ⟨hs.rel.lt _ _ _ (old j lj k1) hb, hs.rel.nb _ _ _ (old j lj k1) hb, uniq⟩
    · rcases get2 j lj hj with ⟨rfl, rfl⟩ | ⟨hj', k1⟩
      · rw [at_set, if_pos ⟨rfl, hlt⟩]
        have := hs.rel.ob own.length lj e1
        rw [at_app, if_pos rfl] at this
        exact this.mono (fun _ _ => rfl) hreads1 fun l hl => absurd hl (hob l)
      · rw [at_set, if_neg (by simp [Ne.symm hj'])]
        have := hs.rel.ob j lj (old j lj k1)
        rw [at_app, if_neg (by have := ltj j lj k1; omega)] at this
        exact this.mono (fun _ _ => rfl) hreads1 fun l hl k idx hk hnm => hsame1 idx (names j l hl k idx hk hnm).1 (names j l hl k idx hk hnm).2
  have hreads : ∀ x v, Reads (Zone N ρ own) w x v → Reads (Zone N (ρ.set id loc) (own.set id (false, ob))) w' x v := fun x v hx => hreads1 x v (hs.toFr.reads hx)
  have h0 : ∀ tv v, TReads0 (Zone N ρ own) w ρ own tv v → TReads0 (Zone N (ρ.set id loc) (own.set id (false, ob))) w' (ρ.set id loc) (own.set id (false, ob)) tv v :=
    fun tv v ht => ht.mono hreads fun j hj => hsame j fun e => pend_names hp ht (e ▸ hj)
  have h1' : ∀ tv v, TReads1 (Zone N ρ own) w ρ own tv v → TReads1 (Zone N (ρ.set id loc) (own.set id (false, ob))) w' (ρ.set id loc) (own.set id (false, ob)) tv v := fun tv v ht => by
    cases tv with
    | agg x =>
      obtain ⟨a, e1, e2, e3⟩ := ht
      exact ⟨a, e1, e2, fun j hj => h0 _ _ (e3 j hj)⟩
    | _ => exact .of0 (h0 _ _ (treads1_0 (by intro l e; cases e) ht))
  refine ⟨ρ.set id loc, hrel, hfr, hsame, fun tv v ht => ?_, .of0 ⟨loc, by rw [List.getElem?_set, if_pos rfl, if_pos hltρ], ?_, e3⟩⟩
  · cases tv with
    | tup x =>
      obtain ⟨a, e1, e2, e3⟩ := ht
      exact ⟨a, e1, e2, fun j hj => h1' _ _ (e3 j hj)⟩
    | _ => exact .of1 (h1' _ _ (treads_1 (by intro l e; cases e) ht))
  · rw [e2, at_app, if_pos rfl, at_set, if_pos ⟨rfl, hlt⟩]

/-- A place more that is kept. -/
theorem keep_run (h : ORel N ρ own w) : Step N ρ own w (ρ ++ [pendLoc]) (own ++ [(false, .gone)]) w := by
  have hfr : Fr ρ own w (ρ ++ [pendLoc]) (own ++ [(false, .gone)]) w := by
    refine ⟨rfl, rfl, rfl, Nat.le_refl _, fun b hb _ => rfl, fun b ⟨i, loc, h1, h2, h3⟩ => ?_⟩
    rw [List.getElem?_append] at h1
    by_cases hi : i < ρ.length
    · rw [if_pos hi] at h1
      rw [fz_app, if_neg (by rw [← h.len]; omega)] at h3
      exact .inl ⟨i, loc, h1, h2, h3⟩
    · rw [if_neg hi] at h1
      cases hd : i - ρ.length with
      | zero => simp [hd] at h1; subst h1; cases h2
      | succ n => simp [hd] at h1
  have hsame : ∀ id, SameAt ρ own (ρ ++ [pendLoc]) (own ++ [(false, .gone)]) id := fun id => alloc_same h _ _ id
  refine { hfr with rel := h.upd hfr (by simp [h.len]) (fun _ _ _ _ id _ _ => hsame id) (fun i loc hl => ?_), same := hsame }
  rw [List.getElem?_append] at hl
  by_cases hi : i < ρ.length
  · rw [if_pos hi] at hl
    exact .inl ⟨hl, by rw [at_app, if_neg (by rw [← h.len]; omega)], fun hx => by rwa [fz_app, if_neg (by rw [← h.len]; omega)] at hx, fun b hb => rfl⟩
  · rw [if_neg hi] at hl
    cases hd : i - ρ.length with
    | succ n => simp [hd] at hl
    | zero =>
      simp [hd] at hl
      subst hl
      have hi' : i = own.length := by rw [← h.len]; omega
      refine .inr ⟨fun b hb => (by cases hb), ?_⟩
      rw [hi', at_app, if_pos rfl]; trivial

theorem keeps_run : ∀ (n : Nat) (ρ : List Loc) (own : Own), ORel N ρ own w → Step N ρ own w (ρ ++ List.replicate n pendLoc) (own ++ List.replicate n (false, .gone)) w
  | 0, ρ, own, h => by simpa using Step.refl h
  | n + 1, ρ, own, h => by
    have h1 := keep_run h
    have h2 := keeps_run n _ _ h1.rel
    have := h1.trans h2
    simpa [List.replicate_succ] using this
end
end Go.Vc
end

section
/- VcR: the operations of a region, in an order that is given: what the generator says of the list is what the machine does. -/
namespace Go.Vc

structure SRel (N : Nat → Prop) (ρ : List Loc) (tm : List TV) (own : Own) (a : Act) (w : World) : Prop where
  orel : ORel N ρ own w
  trel : TRel (Zone N ρ own) w ρ own tm a.tmps
  df : a.defers = []

/-- Behind a piece: nothing but what it may write has turned. -/
structure Post (N : Nat → Prop) (ρ : List Loc) (own : Own) (a : Act) (w : World) (wr : Tmp → Bool) (K : List TV → Own → Prop) (a' : Act) (w' : World) : Prop where
  ex : ∃ tm' own' ρ', K tm' own' ∧ SRel N ρ' tm' own' a' w' ∧ Fr ρ own w ρ' own' w'
  same : ∀ t, wr t = false → a'.tmps.getD t undef = a.tmps.getD t undef
  sz : a'.tmps.size = a.tmps.size

section
variable {P : Program} {N : Nat → Prop}

def wrOps (ops : Array Oper) (t : Tmp) : Bool := ops.toList.any fun o => match o.dst with | some d => Nat.beq d t | none => false

theorem yieldTmp_eq : ∀ (l : List Oper) (j : Nat), yieldTmp l j = (l[j]?).bind (·.dst)
  | [], j => by simp [yieldTmp]
  | o :: r, 0 => by simp [yieldTmp]
  | o :: r, n + 1 => by simp [yieldTmp, yieldTmp_eq r n]

theorem put_same (a : Act) (dst : Option Tmp) (v : Value) (t : Tmp) (h : dst ≠ some t) : (a.put dst v).tmps.getD t undef = a.tmps.getD t undef := by
  cases dst with
  | none => rfl
  | some d =>
    simp only [Act.put]
    rw [getD_setIfInBounds, if_neg]
    rintro ⟨rfl, _⟩; exact h rfl

theorem wrOps_dst {ops : Array Oper} {i : Nat} {o : Oper} (ho : ops[i]? = some o) {t : Tmp} (h : wrOps ops t = false) : o.dst ≠ some t := by
  intro hd
  have hm : o ∈ ops.toList := by
    obtain ⟨hi, rfl⟩ := Array.getElem?_eq_some_iff.1 ho
    simp
  unfold wrOps at h
  rw [List.any_eq_false] at h
  have := h o hm
  rw [hd] at this
  simp at this

theorem setBit {N : Nat → Prop} {ρ : List Loc} {tm : List TV} {own : Own} {a : Act} {w : World} (h : SRel N ρ tm own a w) (g : Tmp) {b : Bool} (hb : a.tmps.getD g undef = .bool b) :
    SRel N ρ (lset tm g (if b then .bt else .bf)) own a w := by
  refine ⟨h.orel, ⟨by rw [lset_eq]; simpa using h.trel.size, fun t => ?_⟩, h.df⟩
  rw [lset_eq, getD_set]
  split
  · rename_i e
    rw [← e.1, hb]
    cases b <;> exact .of0 rfl
  · exact h.trel.at_ t

theorem upon_mono {o : Oper} {a : Act} {next next' : Act → World → Prop} {Q Q' : Exit → Act → World → Prop} (hn : ∀ a w, next a w → next' a w) (hq : ∀ e a w, Q e a w → Q' e a w) {r : Result Next}
    (h : o.upon P a next Q r) : o.upon P a next' Q' r := by
  unfold Oper.upon at h ⊢
  split at h
  · exact hn _ _ h
  · exact hn _ _ h
  · exact hn _ _ h
  · refine h.mono fun e w hr => ?_
    cases e with
    | returned v => exact hn _ _ hr
    | panicked c => exact hq _ _ _ hr
    | outgrown => obtain ⟨x, y, hh⟩ := hr; exact ⟨x, y, hq _ _ _ hh⟩
  · exact h.mono fun v w hr => hn _ _ hr
  · exact hq _ _ _ h
  · exact h.elim
theorem wpOps_mono {ops : Array Oper} {Q Q' : Exit → Act → World → Prop} (hq : ∀ e a w, Q e a w → Q' e a w) : ∀ (l : List Nat) (a : Act) (w : World), wpOps P ops Q l a w → wpOps P ops Q' l a w
  | [], a, w, h => hq _ _ _ h
  | i :: rest, a, w, h => by
    simp only [wpOps] at h ⊢
    split
    · rename_i ho
      rw [ho] at h
      exact wpOps_mono hq rest a w h
    · rename_i o ho
      rw [ho] at h
      simp only at h
      split
      · rename_i hw
        rw [if_pos hw] at h
        rcases h with h | ⟨h1, x, y, h2⟩
        · exact .inl (upon_mono (fun a w => wpOps_mono hq rest a w) hq h)
        · exact .inr ⟨h1, x, y, hq _ _ _ h2⟩
      · rename_i hw
        rw [if_neg hw] at h
        exact wpOps_mono hq rest _ w h

theorem opResX_cases (tb : TypeId → TyI) (ids : List (Tmp × Nat)) (o : Oper) (tm : List TV) (own : Own) : opResX tb ids o tm own = opRes tb o tm own ∨
    (∃ t d id, o.op = .alloc t ∧ o.dst = some d ∧ lassoc d ids = some id ∧ (opResX tb ids o tm own = .bad ∨ ((tb t).ty ≠ .no ∧ opResX tb ids o tm own = .det [] (.ptr id 0) (lset own id (false, .cells (tb t).ty.zero))))) ∨
    ∃ t n parts d id, o.op = .buildSlice t n parts ∧ o.dst = some d ∧ lassoc d ids = some id ∧ (opResX tb ids o tm own = .bad ∨ ∃ ob, litOB (tb t) n (lmap (fun p => (p.1, ev tm p.2)) parts.toList) own = some ob ∧ opResX tb ids o tm own = .det [] (.vec id) (lset own id (false, ob))) := by
  unfold opResX
  split
  · rename_i t d ho hd
    split
    · rename_i id hid
      refine .inr (.inl ⟨t, d, id, ho, hd, hid, ?_⟩)
      split
      · exact .inl rfl
      · exact .inl rfl
      · rename_i hn; exact .inr ⟨fun h => hn h, rfl⟩
    · exact .inl rfl
  · rename_i t n parts d ho hd
    split
    · rename_i id hl hid
      refine .inr (.inr ⟨t, n, parts, d, id, ho, hd, hid, ?_⟩)
      split
      · rename_i ob hob _; exact .inr ⟨ob, hob, rfl⟩
      · exact .inl rfl
    · exact .inl rfl
  · exact .inl rfl
/-- A literal comes into being at its place. -/
theorem lit_fill {ρ : List Loc} {own : Own} {w : World} {tb : TypeId → TyI} {t : TypeId} (hT : tyChk P t (tb t) = true) (h : ORel N ρ own w) {tm : List TV} {a : Act} (ht : TRel (Zone N ρ own) w ρ own tm a.tmps) {id : Nat} (hp : ρ[id]? = some pendLoc)
    (n : Nat) (parts : Array (Nat × Operand)) {ob : OB} (hob : litOB (tb t) n (lmap (fun p => (p.1, ev tm p.2)) parts.toList) own = some ob) :
    ∃ u w' ρ2, (Instr.buildSlice t n (parts.map fun (i, x) => (i, a.eval x))).run P w = .ok u w' ∧ ORel N ρ2 (own.set id (false, ob)) w' ∧ Fr ρ own w ρ2 (own.set id (false, ob)) w' ∧ (∀ j, j ≠ id → SameAt ρ own ρ2 (own.set id (false, ob)) j) ∧
      (∀ tv v, TReads (Zone N ρ own) w ρ own tv v → TReads (Zone N ρ2 (own.set id (false, ob))) w' ρ2 (own.set id (false, ob)) tv v) ∧
      TReads (Zone N ρ2 (own.set id (false, ob))) w' ρ2 (own.set id (false, ob)) (.vec id) u := by
  unfold litOB at hob
  split at hob
  · rename_i k hty
    split at hob
    · rename_i l hl hn
      obtain rfl := Option.some.inj hob
      obtain ⟨u, w', ρ1, h1, h2, h3⟩ := ints_lit_run (P := P) hT h ht parts n hty hl (Nat.le_of_ble_eq_true hn)
      obtain ⟨ρ2, k1⟩ := reloc h hp h2 (fun l e => by cases e) h3
      exact ⟨u, w', ρ2, h1, k1⟩
    · cases hob
  · rename_i sz hty
    split at hob
    · rename_i l hl hn
      obtain rfl := Option.some.inj hob
      obtain ⟨u, w', ρ1, h1, h2, h3⟩ := rows_lit_run (P := P) hT h ht parts n hty hl (Nat.le_of_ble_eq_true hn)
      obtain ⟨ρ2, k1⟩ := reloc h hp h2 (fun l e => by cases e) h3
      exact ⟨u, w', ρ2, h1, k1⟩
    · cases hob
  · cases hob

theorem append_vec {t : TyI} {x y : TV} {own own' : Own} {s : List Prop} {v : TV} {id : Nat} (h : appendRes t x y own = .grow s v own' id) : x = .vec id := by
  unfold appendRes at h
  split at h
  · split at h <;> cases h
  · split at h
    · split at h <;> cases h
    · cases h
  · split at h <;> cases h
  · rename_i i a
    split at h
    · split at h
      · split at h
        · simp only [OpRes.grow.injEq] at h; rw [h.2.2.2]
        · cases h
      · split at h
        · simp only [OpRes.grow.injEq] at h; rw [h.2.2.2]
        · cases h
      · cases h
    · cases h
  · cases h
theorem grow_vec {tb : TypeId → TyI} {o : Oper} {tm : List TV} {own own' : Own} {s : List Prop} {v : TV} {id : Nat} (h : opRes tb o tm own = .grow s v own' id) : ∃ x : Operand, ev tm x = .vec id := by
  obtain ⟨c, b, _, _, h⟩ := grow_call h
  generalize hargs : lmap (ev tm) c.args.toList = args at h
  unfold builtinRes at h
  split at h
  · split at h
    · cases h
    · split at h <;> cases h
  · obtain ⟨p, q, _, hp, _⟩ := two_args hargs
    split at h
    · split at h
      · exact ⟨p, by rw [hp]; exact append_vec h⟩
      · cases h
    · cases h
  · split at h <;> cases h
  · split at h <;> cases h
  · cases h

def Pend (ids : List (Tmp × Nat)) (ops : Array Oper) (is : List Nat) (ρ : List Loc) : Prop := ∀ i ∈ is, ∀ o d id, ops[i]? = some o → o.dst = some d → lassoc d ids = some id → ρ[id]? = some pendLoc
def AllocInj (ids : List (Tmp × Nat)) (ops : Array Oper) : Prop := ∀ (i j : Nat) (o p : Oper) (d e : Tmp) (id : Nat), ops[i]? = some o → ops[j]? = some p → o.dst = some d → p.dst = some e → lassoc d ids = some id → lassoc e ids = some id → i = j

theorem ops_sound {tb : TypeId → TyI} {Γ : FuncId → Con} (hT : ∀ t, tyChk P t (tb t) = true) (hΓ : ∀ f args own K, Γ f args own K → SoundAny P f (Γ f)) (ids : List (Tmp × Nat)) (ops : Array Oper) (hinj : AllocInj ids ops) (K : List TV → Own → Prop) :
    ∀ (is : List Nat), (∀ i ∈ is, i < ops.size) → is.Nodup → ∀ (tm : List TV) (own : Own) (a : Act) (w : World) (ρ : List Loc), Pend ids ops is ρ →
      awpOps tb Γ ids ops.toList (is.map fun i => ops.toList.getD i default) tm own K → SRel N ρ tm own a w →
      wpOps P ops (fun e a' w' => e = .normal ∧ Post N ρ own a w (wrOps ops) K a' w') is a w := by
  intro is
  induction is with
  | nil =>
    intro _ _ tm own a w ρ _ h hs
    exact ⟨rfl, ⟨tm, own, ρ, h, hs, Fr.refl _ _ _⟩, fun _ _ => rfl, rfl⟩
  | cons i rest ih =>
    intro hlt hnd tm own a w ρ hpd h hs
    have hi : i < ops.size := hlt i (by simp)
    have ho : ops[i]? = some ops[i] := by simp [hi]
    have hget : ops.toList.getD i default = ops[i] := by simp [List.getD_eq_getElem?_getD, hi]
    simp only [List.map_cons, hget] at h
    simp only [wpOps, ho]
    have ih' := ih (fun j hj => hlt j (by simp [hj])) (List.nodup_cons.1 hnd).2
    -- what follows, once the slot is put
    have next : ∀ (tm1 : List TV) (own1 : Own) (w1 : World) (ρ1 : List Loc) (u : Value), awpOps tb Γ ids ops.toList (rest.map fun i => ops.toList.getD i default) tm1 own1 K →
        SRel N ρ1 tm1 own1 (a.put ops[i].dst u) w1 → Fr ρ own w ρ1 own1 w1 → Pend ids ops rest ρ1 →
        wpOps P ops (fun e a' w' => e = .normal ∧ Post N ρ own a w (wrOps ops) K a' w') rest (a.put ops[i].dst u) w1 := by
      intro tm1 own1 w1 ρ1 u hk hs1 hf hp1
      have := ih' tm1 own1 (a.put ops[i].dst u) w1 ρ1 hp1 hk hs1
      refine wpOps_mono ?_ _ _ _ this
      rintro e a' w' ⟨he, ⟨tm', own', ρ', k1, k2, k3⟩, hsame, hsz⟩
      refine ⟨he, ⟨tm', own', ρ', k1, k2, hf.trans k3⟩, fun t ht => ?_, hsz.trans (by cases ops[i].dst <;> simp [Act.put])⟩
      rw [hsame t ht, put_same _ _ _ _ (wrOps_dst ho ht)]
    have hpr : Pend ids ops rest ρ := fun j hj => hpd j (by simp [hj])
    have hps : ∀ {ρ1 own1}, (∀ id, SameAt ρ own ρ1 own1 id) → Pend ids ops rest ρ1 := fun hsm j hj o d id e1 e3 e4 => (hsm id _ (hpr j hj o d id e1 e3 e4)).1
    -- the operation is run
    have run : ∀ (tm0 : List TV), SRel N ρ tm0 own a w →
        (match opResX tb ids ops[i] tm0 own with
          | .bad => False
          | .det safe v own' => conj safe (awpOps tb Γ ids ops.toList (rest.map fun i => ops.toList.getD i default) (put tm0 ops[i].dst v) own' K)
          | .grow safe v own' id => conj safe (awpOps tb Γ ids ops.toList (rest.map fun i => ops.toList.getD i default) (put (lmap (kill1 id) tm0) ops[i].dst v) (killOwn id own') K)
          | .anyB p => ∀ b : Bool, p b → awpOps tb Γ ids ops.toList (rest.map fun i => ops.toList.getD i default) (put tm0 ops[i].dst (.d (.bool b))) own K
          | .call f args _ => Γ f args own fun v own' => awpOps tb Γ ids ops.toList (rest.map fun i => ops.toList.getD i default) (put tm0 ops[i].dst v) own' K) →
        ops[i].wp P a w (wpOps P ops (fun e a' w' => e = .normal ∧ Post N ρ own a w (wrOps ops) K a' w') rest) (fun e a' w' => e = .normal ∧ Post N ρ own a w (wrOps ops) K a' w') := by
      intro tm0 hs0 hr
      unfold Oper.wp
      rcases opResX_cases tb ids ops[i] tm0 own with hx | ⟨t, d, id, x1, x2, x3, hx⟩ | ⟨t, n, parts, d, id, x1, x2, x3, hx⟩
      rotate_left
      · rcases hx with hx | ⟨hn, hx⟩
        · rw [hx] at hr; exact hr.elim
        rw [hx] at hr
        have hr : awpOps tb Γ ids ops.toList (rest.map fun i => ops.toList.getD i default) (put tm0 ops[i].dst (.ptr id 0)) (lset own id (false, .cells (tb t).ty.zero)) K := hr
        obtain ⟨u, w', ρ', h1, h2, h3, h4, h5, h6⟩ := fill_run (P := P) (hT t) hn hs0.orel (hpd i (by simp) _ d id ho x2 x3)
        have hex : (execOp a.eval ops[i]).run P w = .ok (.value u) w' := by
          unfold execOp
          rw [x1]
          simp only [Sem.run_bind, h1, Result.andThen_ok, Sem.run_pure]
        rw [hex]
        rw [lset_eq] at hr
        have hs1 : SRel N ρ' (put tm0 ops[i].dst (.ptr id 0)) (own.set id (false, .cells (tb t).ty.zero)) (a.put ops[i].dst u) w' :=
          ⟨h2, TRel.put ⟨hs0.trel.size, fun t => h5 _ _ (hs0.trel.at_ t)⟩ _ h6, by cases ops[i].dst <;> exact hs0.df⟩
        refine next _ _ _ _ u hr hs1 h3 fun j hj o d' id' e1 e3 e4 => ?_
        have hne : id' ≠ id := fun e => (List.nodup_cons.1 hnd).1 (hinj j i o ops[i] d' d id e1 ho e3 x2 (e ▸ e4) x3 ▸ hj)
        exact (h4 id' hne _ (hpr j hj o d' id' e1 e3 e4)).1
      · rcases hx with hx | ⟨ob, hob, hx⟩
        · rw [hx] at hr; exact hr.elim
        rw [hx] at hr
        have hr : awpOps tb Γ ids ops.toList (rest.map fun i => ops.toList.getD i default) (put tm0 ops[i].dst (.vec id)) (lset own id (false, ob)) K := hr
        obtain ⟨u, w', ρ', h1, h2, h3, h4, h5, h6⟩ := lit_fill (P := P) (hT t) hs0.orel hs0.trel (hpd i (by simp) _ d id ho x2 x3) n parts hob
        have hex : (execOp a.eval ops[i]).run P w = .ok (.value u) w' := by
          unfold execOp
          rw [x1]
          simp only [Sem.run_bind, h1, Result.andThen_ok, Sem.run_pure]
        rw [hex]
        rw [lset_eq] at hr
        have hs1 : SRel N ρ' (put tm0 ops[i].dst (.vec id)) (own.set id (false, ob)) (a.put ops[i].dst u) w' :=
          ⟨h2, TRel.put ⟨hs0.trel.size, fun t => h5 _ _ (hs0.trel.at_ t)⟩ _ h6, by cases ops[i].dst <;> exact hs0.df⟩
        refine next _ _ _ _ u hr hs1 h3 fun j hj o d' id' e1 e3 e4 => ?_
        have hne : id' ≠ id := fun e => (List.nodup_cons.1 hnd).1 (hinj j i o ops[i] d' d id e1 ho e3 x2 (e ▸ e4) x3 ▸ hj)
        exact (h4 id' hne _ (hpr j hj o d' id' e1 e3 e4)).1
      rw [hx] at hr
      split at hr
      · exact hr.elim
      · rename_i safe v own' he
        rw [conj_iff] at hr
        obtain ⟨hsafe, hr⟩ := hr
        obtain ⟨nx, w', ρ', u, h1, h2, h3, h4⟩ := det_sound (P := P) hT hs0.orel hs0.trel he hsafe
        rw [h1]
        have hs1 : SRel N ρ' (put tm0 ops[i].dst v) own' (a.put ops[i].dst u) w' :=
          ⟨h3.rel, TRel.put (hs0.trel.step h3) _ h4, by cases ops[i].dst <;> exact hs0.df⟩
        have hn := next _ _ _ _ u hr hs1 h3.toFr (hps h3.same)
        rcases h2 with rfl | ⟨rfl, rfl⟩
        · exact hn
        · exact hn
      · rename_i safe v own' id he
        rw [conj_iff] at hr
        obtain ⟨hsafe, hr⟩ := hr
        obtain ⟨u, w', ρ', h1, h2, h3, h4, h5⟩ := grow_sound (P := P) hT hs0.orel hs0.trel he hsafe
        rw [h1]
        have htr : TRel (Zone N ρ' (killOwn id own')) w' ρ' (killOwn id own') (lmap (kill1 id) tm0) a.tmps := by
          refine ⟨by rw [lmap_eq]; simpa using hs0.trel.size, fun t => ?_⟩
          have := (hs0.trel.at_ t).kill id (fun _ _ => h3.reads) h4
          rw [lmap_eq]
          by_cases hlt : t < tm0.length
          · simpa [List.getD_eq_getElem?_getD, hlt] using this
          · have e1 : (tm0.map (kill1 id)).getD t .un = .un := by rw [List.getD_eq_getElem?_getD, List.getElem?_eq_none (by simpa using hlt)]; rfl
            have e2 : tm0.getD t .un = .un := by rw [List.getD_eq_getElem?_getD, List.getElem?_eq_none (by omega)]; rfl
            rw [e2] at this
            rw [e1]; exact this
        have hs1 : SRel N ρ' (put (lmap (kill1 id) tm0) ops[i].dst v) (killOwn id own') (a.put ops[i].dst u) w' :=
          ⟨h2, TRel.put htr _ h5, by cases ops[i].dst <;> exact hs0.df⟩
        refine next _ _ _ _ u hr hs1 h3 fun j hj o d id' e1 e3 e4 => ?_
        have hne : id' ≠ id := fun e => by
          obtain ⟨x, hxv⟩ := grow_vec he
          have hxr := ev_reads hs0.trel x
          rw [hxv] at hxr
          exact pend_names (Z := Zone N ρ own) (w := w) (own := own) (hpr j hj o d id' e1 e3 e4) (show TReads0 _ _ _ _ (.vec id) _ from hxr) e.symm
        exact (h4 id' hne _ (hpr j hj o d id' e1 e3 e4)).1
      · rename_i p he
        obtain ⟨b, hb, h1⟩ := anyB_sound (P := P) (w := w) hT hs0.trel he
        rw [h1]
        have hs1 : SRel N ρ (put tm0 ops[i].dst (.d (.bool b))) own (a.put ops[i].dst (.bool b)) w :=
          ⟨hs0.orel, TRel.put hs0.trel _ (bool_reads b), by cases ops[i].dst <;> exact hs0.df⟩
        exact next _ _ _ _ _ (hr b hb) hs1 (Fr.refl _ _ _) hpr
      · rename_i f args tys he
        obtain ⟨c, hop, hc, rfl⟩ := call_op he
        obtain ⟨hlen, hargs⟩ := argsRel hs0.trel c.args
        have hargs' : ∀ j, j < (lmap (ev tm0) c.args.toList).length → TReads (Zone N ρ own) w ρ own ((lmap (ev tm0) c.args.toList).getD j .un) ((c.args.map a.eval).getD j undef) := fun j hj => by have := hargs j hj; simpa [Array.getD_eq_getD_getElem?, List.getD_eq_getElem?_getD] using this
        have hcf : execOp a.eval ops[i] = callFunc f (c.args.map a.eval) := by
          unfold execOp
          rw [hop]
          simp only [resolve, hc, Deferred.ofValue, Act.eval, pure_bind, invoke]
          simp
        rcases hΓ _ _ _ _ hr with ⟨⟨fn, hf1, hf2, hf3⟩, hcon⟩ | hcon
        · have hex : (execOp a.eval ops[i]).run P w = .ok (.enter f (c.args.map a.eval)) w := by
            rw [hcf]
            simp only [callFunc, Sem.run_bind, run_program, Result.andThen_ok, hf1, hf2, hf3]
            simp
          rw [hex]
          refine (hcon N ρ own w _ _ _ hr hs0.orel (by simpa using hlen) hargs').mono ?_
          rintro e w' ⟨r, own', ρ', v, rfl, h1, h2, h3⟩
          have hs1 : SRel N ρ' (put tm0 ops[i].dst r) own' (a.put ops[i].dst v) w' :=
            ⟨h2.rel, TRel.put (hs0.trel.step h2) _ h3, by cases ops[i].dst <;> exact hs0.df⟩
          exact next _ _ _ _ v h1 hs1 h2.toFr (hps h2.same)
        · obtain ⟨v, w', r, own', ρ', hrun, h1, h2, h3⟩ := hcon N ρ own w _ _ _ hr hs0.orel (by simpa using hlen) hargs'
          rw [hcf, hrun]
          have hs1 : SRel N ρ' (put tm0 ops[i].dst r) own' (a.put ops[i].dst v) w' :=
            ⟨h2.rel, TRel.put (hs0.trel.step h2) _ h3, by cases ops[i].dst <;> exact hs0.df⟩
          exact next _ _ _ _ v h1 hs1 h2.toFr (hps h2.same)
    -- the operation is passed by
    have skip : ∀ (tm0 : List TV), SRel N ρ tm0 own a w → awpOps tb Γ ids ops.toList (rest.map fun i => ops.toList.getD i default) (put tm0 ops[i].dst .un) own K →
        wpOps P ops (fun e a' w' => e = .normal ∧ Post N ρ own a w (wrOps ops) K a' w') rest (a.put ops[i].dst undef) w := fun tm0 hs0 hr =>
      next _ _ _ _ undef hr ⟨hs0.orel, TRel.put hs0.trel _ TReads.un, by cases ops[i].dst <;> exact hs0.df⟩ (Fr.refl _ _ _) hpr
    unfold awpOps at h
    cases hg : ops[i].guard with
    | none =>
      rw [hg] at h
      simp only [Region.wanted, hg, if_true]
      exact .inl (run tm hs h)
    | some jw =>
      obtain ⟨j, want⟩ := jw
      rw [hg] at h
      simp only [Region.wanted, hg]
      have hyl : yieldTmp ops.toList j = (ops[j]?).bind (·.dst) := by rw [yieldTmp_eq]; simp
      simp only at h
      cases hy : yieldTmp ops.toList j with
      | none =>
        rw [hy] at h
        have : yielded ops a.tmps j = none := by unfold yielded; rw [← hyl, hy]; rfl
        rw [this]
        exact skip tm hs h
      | some g =>
        rw [hy] at h
        simp only at h
        have hyd : ∀ b, a.tmps.getD g undef = .bool b → yielded ops a.tmps j = some b := by
          intro b hb
          unfold yielded
          rw [← hyl, hy]
          simp only [Option.bind_some]
          have : a.tmps[g]? = some (.bool b) := by
            rw [Array.getD_eq_getD_getElem?] at hb
            cases hq : a.tmps[g]? with
            | none => rw [hq] at hb; cases hb
            | some q => rw [hq] at hb; simp at hb; rw [hb]
          rw [this]
        have hat := hs.trel.at_ g
        rw [← lget_eq] at hat
        split at h
        · rename_i he
          rw [he] at hat
          have hb : a.tmps.getD g undef = .bool true := hat
          rw [hyd true hb]
          cases want with
          | true => simp only [beq_self_eq_true, if_true]; exact .inl (run tm hs h)
          | false => simp only [show (some true == some false) = false from rfl]; exact skip tm hs h
        · rename_i he
          rw [he] at hat
          have hb : a.tmps.getD g undef = .bool false := hat
          rw [hyd false hb]
          cases want with
          | false => simp only [beq_self_eq_true, if_true]; exact .inl (run tm hs h)
          | true => simp only [show (some false == some true) = false from rfl]; exact skip tm hs h
        · rename_i he
          rw [he] at hat
          have hb : a.tmps.getD g undef = undef := hat
          have : yielded ops a.tmps j = none := by
            unfold yielded
            rw [← hyl, hy]
            simp only [Option.bind_some]
            rw [Array.getD_eq_getD_getElem?] at hb
            cases hq : a.tmps[g]? with
            | none => rfl
            | some q => rw [hq] at hb; simp at hb; rw [hb]; rfl
          rw [this]
          exact skip tm hs h
        · rename_i b he
          rw [he] at hat
          have hb := reads_bool hat
          rw [hyd b hb]
          obtain ⟨ht, hf⟩ := h
          have hset := setBit hs g hb
          cases b with
          | true =>
            have ht := ht rfl
            cases want with
            | true => simp only [beq_self_eq_true, if_true]; exact .inl (run _ hset ht)
            | false => simp only [show (some true == some false) = false from rfl]; exact skip _ hset ht
          | false =>
            have hf := hf rfl
            cases want with
            | false => simp only [beq_self_eq_true, if_true]; exact .inl (run _ hset hf)
            | true => simp only [show (some false == some true) = false from rfl]; exact skip _ hset hf
        · exact h.elim

end
end Go.Vc
end

section
/- VcS: regions whose order is open: every order that the model may draw does what the written order does. -/
namespace Go.Vc

/-- What a contract owes to be moved past other operations. -/
def ConOk (T : Con) : Prop :=
  (∀ args own (K K' : TV → Own → Prop), (∀ r o, K r o → K' r o) → T args own K → T args own K') ∧ ∀ args own K, T args own K → ∃ r o, K r o

section
variable {tb : TypeId → TyI} {Γ : FuncId → Con}

/-- One operation, then what is wanted. -/
def stepK (Γ : FuncId → Con) (own : Own) (k : TV → Own → Prop) : OpRes → Prop
  | .bad => False
  | .det safe v own' => conj safe (k v own')
  | .grow _ _ _ _ => False
  | .anyB _ => False
  | .call f args _ => Γ f args own k


theorem usesTmp_iff {t : Tmp} {l : List Operand} : usesTmp t l = true ↔ Operand.tmp t ∈ l := by
  induction l with
  | nil => simp [usesTmp]
  | cons x r ih =>
    cases x with
    | tmp u =>
      simp only [usesTmp]
      by_cases h : u = t
      · subst h; simp
      · have : Nat.beq u t = false := by
          cases hb : Nat.beq u t with
          | false => rfl
          | true => exact absurd (Nat.eq_of_beq_eq_true hb) h
        rw [this]; simp [ih, Ne.symm h]
    | _ => simp [usesTmp, ih]

theorem ev_put {tm : List TV} {dst : Option Tmp} {v : TV} {x : Operand} (h : ∀ t, dst = some t → x ≠ .tmp t) : ev (put tm dst v) x = ev tm x := by
  cases dst with
  | none => rfl
  | some d =>
    cases x with
    | tmp t =>
      simp only [put, ev, lset_eq, lget_eq, getD_set]
      rw [if_neg]
      rintro ⟨rfl, _⟩
      exact h d rfl rfl
    | _ => rfl

theorem ev_put_of {o : Oper} {tm : List TV} {dst : Option Tmp} {v : TV} (h : readsDst o dst = false) {x : Operand} (hx : x ∈ o.op.operands.toList) : ev (put tm dst v) x = ev tm x := by
  refine ev_put fun t ht hxt => ?_
  subst ht hxt
  simp only [readsDst] at h
  rw [usesTmp_iff.2 hx] at h
  cases h

theorem lmap_congr {α β : Type} {f g : α → β} {l : List α} (h : ∀ x ∈ l, f x = g x) : lmap f l = lmap g l := by
  rw [lmap_eq, lmap_eq]; exact List.map_congr_left h

theorem opRes_congr {o : Oper} {tm tm' : List TV} {own : Own} (h : ∀ x ∈ o.op.operands.toList, ev tm' x = ev tm x) : opRes tb o tm' own = opRes tb o tm own := by
  unfold opRes
  cases hop : o.op with
  | move x => simp only [hop] at h ⊢; rw [h x (by simp [Op.operands])]
  | assign x => simp only [hop] at h ⊢; rw [h x (by simp [Op.operands])]
  | pick c x y => simp only [hop] at h ⊢; rw [h c (by simp [Op.operands]), h x (by simp [Op.operands]), h y (by simp [Op.operands])]
  | box t x => simp only [hop] at h ⊢; rw [h x (by simp [Op.operands])]
  | build t parts =>
    simp only [hop] at h ⊢
    have : lmap (fun p => (p.1, ev tm' p.2)) parts.toList = lmap (fun p => (p.1, ev tm p.2)) parts.toList := lmap_congr fun p hp => by rw [h p.2 (by simp [Op.operands]; exact ⟨p.1, by simpa using hp⟩)]
    rw [this]
  | buildSlice t n parts =>
    simp only [hop] at h ⊢
    have : lmap (fun p => (p.1, ev tm' p.2)) parts.toList = lmap (fun p => (p.1, ev tm p.2)) parts.toList := lmap_congr fun p hp => by rw [h p.2 (by simp [Op.operands]; exact ⟨p.1, by simpa using hp⟩)]
    rw [this]
  | load t x => simp only [hop] at h ⊢; rw [h x (by simp [Op.operands])]
  | store t x y => simp only [hop] at h ⊢; rw [h x (by simp [Op.operands]), h y (by simp [Op.operands])]
  | nilCheck x => simp only [hop] at h ⊢; rw [h x (by simp [Op.operands])]
  | binOp op t x y ty => simp only [hop] at h ⊢; rw [h x (by simp [Op.operands]), h y (by simp [Op.operands])]
  | unOp op t x => simp only [hop] at h ⊢; rw [h x (by simp [Op.operands])]
  | convert s d x => simp only [hop] at h ⊢; rw [h x (by simp [Op.operands])]
  | extract x i => simp only [hop] at h ⊢; rw [h x (by simp [Op.operands])]
  | fieldAddr s x f => simp only [hop] at h ⊢; rw [h x (by simp [Op.operands])]
  | field s x f => simp only [hop] at h ⊢; rw [h x (by simp [Op.operands])]
  | indexAddr t x i => simp only [hop] at h ⊢; rw [h x (by simp [Op.operands]), h i (by simp [Op.operands])]
  | index t x i => simp only [hop] at h ⊢; rw [h x (by simp [Op.operands]), h i (by simp [Op.operands])]
  | makeSlice t x y => simp only [hop] at h ⊢; rw [h x (by simp [Op.operands]), h y (by simp [Op.operands])]
  | slice t x lo hi mx =>
    simp only [hop] at h ⊢
    have ho : ∀ q : Option Operand, (∀ y, q = some y → ev tm' y = ev tm y) → omap (ev tm') q = omap (ev tm) q := by
      intro q hq
      cases q with
      | none => rfl
      | some y => simp only [omap, hq y rfl]
    rw [h x (by simp [Op.operands]), ho lo (fun y hy => h y (by subst hy; simp [Op.operands])), ho hi (fun y hy => h y (by subst hy; simp [Op.operands])), ho mx (fun y hy => h y (by subst hy; simp [Op.operands]))]
  | call c =>
    simp only [hop] at h ⊢
    have : lmap (ev tm') c.args.toList = lmap (ev tm) c.args.toList := lmap_congr fun x hx => h x (by simp [Op.operands, Call.operands]; exact .inr (by simpa using hx))
    rw [this]
  | _ => rfl

theorem loadData_own (t : Ty) (x : AV) (i : Int) (j : Nat) (own : Own) : loadData t x i j own = .bad ∨ ∃ s v, loadData t x i j own = .det s v own := by
  unfold loadData
  split
  · split
    · split
      · exact .inr ⟨_, _, rfl⟩
      · exact .inl rfl
    · exact .inl rfl
  · split
    · split <;> first | exact .inl rfl | exact .inr ⟨_, _, rfl⟩
    · exact .inl rfl
  · exact .inl rfl

theorem norm0_own (own own' : Own) (s : STy) {v : TV} (h : TV.data0 v = true) : TV.toAV own (s.norm own v) = TV.toAV own' (s.norm own' v) := by
  cases v <;> simp [TV.data0] at h <;> cases s <;> rfl
theorem av_own (own own' : Own) {v : TV} (h : TV.data0 v = true) : TV.toAV own v = TV.toAV own' v := by
  cases v <;> simp [TV.data0] at h <;> rfl
theorem row_own (own own' : Own) : ∀ (cs : List STy) (vs : List TV), allB TV.data0 vs = true → lmap (TV.toAV own) (norms own cs vs) = lmap (TV.toAV own') (norms own' cs vs)
  | [], vs, h => by
    rw [allB_eq, List.all_eq_true] at h
    exact lmap_congr fun x hx => av_own own own' (h x hx)
  | s :: cs, [], _ => rfl
  | s :: cs, v :: vs, h => by
    have h1 : TV.data0 v = true ∧ allB TV.data0 vs = true := by
      rw [allB_eq, List.all_cons, Bool.and_eq_true] at h
      rw [allB_eq]; exact h
    show TV.toAV own (s.norm own v) :: lmap (TV.toAV own) (norms own cs vs) = TV.toAV own' (s.norm own' v) :: lmap (TV.toAV own') (norms own' cs vs)
    rw [norm0_own own own' s h1.1, row_own own own' cs vs h1.2]
theorem litRows_own (own own' : Own) (sz : Nat) (cs : List STy) : ∀ (parts : List (Nat × TV)) (i n : Nat), litRows.go own sz cs i n parts = litRows.go own' sz cs i n parts
  | [], i, 0 => rfl
  | [], i, n + 1 => rfl
  | _ :: _, i, 0 => rfl
  | (j, v) :: r, i, n + 1 => by
    simp only [litRows.go]
    rw [litRows_own own own' sz cs r]
    split
    · rename_i h1 h2 h3
      have : toRow own cs v = toRow own' cs v := row_own own own' cs _ h3
      rw [this]
    · rfl

theorem conv_int (k : IntKind) (dst : Ty) (x : TV) : (∀ own, convRes (.sc (.int k)) dst x own = .bad) ∨ ∃ s v, ∀ own, convRes (.sc (.int k)) dst x own = .det s v own := by
  unfold convRes
  cases dst with
  | sc s =>
    cases s with
    | int k' =>
      cases x with
      | d a => cases a <;> first | exact .inr ⟨_, _, fun _ => rfl⟩ | exact .inl fun _ => rfl
      | _ => exact .inl fun _ => rfl
    | str =>
      cases x with
      | d a =>
        cases a with
        | ints k' l => cases k' <;> exact .inl fun _ => rfl
        | _ => exact .inl fun _ => rfl
      | vec id =>
        refine .inl fun own => ?_
        simp only
        cases OB.at own id with
        | ints k' l => cases k' <;> rfl
        | _ => rfl
      | _ => exact .inl fun _ => rfl
    | _ => exact .inl fun _ => rfl
  | _ => exact .inl fun _ => rfl

/-- Operations that read no own memory. -/
theorem cls0 {o : Oper} (hc : opCls tb o.op = 0) (hm : mayAny o.op = false) (tm : List TV) (own own' : Own) :
    (opRes tb o tm own = .bad ∧ opRes tb o tm own' = .bad) ∨ ∃ s v, opRes tb o tm own = .det s v own ∧ opRes tb o tm own' = .det s v own' := by
  have bad : ∀ {x y : OpRes}, x = .bad → y = .bad → (x = .bad ∧ y = .bad) ∨ ∃ s v, x = .det s v own ∧ y = .det s v own' := fun h1 h2 => .inl ⟨h1, h2⟩
  unfold opRes
  cases hop : o.op <;> simp only [hop, opCls] at hc hm ⊢ <;> try (exact absurd hc (by decide))
  case move x => exact .inr ⟨_, _, rfl, rfl⟩
  case buildSlice t n parts =>
    have hl : (tb t).lit = true := by
      cases hb : (tb t).lit with
      | true => rfl
      | false => rw [hb] at hc; cases hc
    rw [hl]
    split
    · split
      · exact .inr ⟨_, _, rfl, rfl⟩
      · exact .inl ⟨rfl, rfl⟩
    · rw [show ∀ q, litRows own q (tb t).ecells n (lmap (fun p => (p.1, ev tm p.2)) parts.toList) = litRows own' q (tb t).ecells n (lmap (fun p => (p.1, ev tm p.2)) parts.toList) from fun q => litRows_own own own' q _ _ 0 n]
      split
      · exact .inr ⟨_, _, rfl, rfl⟩
      · exact .inl ⟨rfl, rfl⟩
    · exact .inl ⟨rfl, rfl⟩
  case build t parts => split <;> first | exact .inr ⟨_, _, rfl, rfl⟩ | exact .inl ⟨rfl, rfl⟩
  case assign x => exact .inr ⟨_, _, rfl, rfl⟩
  case pick c x y =>
    unfold pickRes
    split
    · exact .inr ⟨_, _, rfl, rfl⟩
    · exact .inr ⟨_, _, rfl, rfl⟩
    · split
      · exact .inr ⟨_, _, rfl, rfl⟩
      · exact .inr ⟨_, _, rfl, rfl⟩
      · exact .inr ⟨_, _, rfl, rfl⟩
      · exact .inr ⟨_, _, rfl, rfl⟩
      · split
        · exact .inr ⟨_, _, rfl, rfl⟩
        · exact .inl ⟨rfl, rfl⟩
      · exact .inl ⟨rfl, rfl⟩
    · exact .inl ⟨rfl, rfl⟩
  case nilCheck x => split <;> first | exact .inr ⟨_, _, rfl, rfl⟩ | exact .inl ⟨rfl, rfl⟩
  case binOp op t x y ty =>
    have hnc : ∀ v, y = .const v → (∀ a l c, v ≠ .slice a l c) := by
      rintro v rfl a l c rfl
      simp [mayAny, isSliceConst] at hm
    have hb : ∀ (op : BinOp) (oy : Operand) (k : IntKind) (a b : Int), (intRes op oy k a b own = .bad ∧ intRes op oy k a b own' = .bad) ∨ ∃ s v, intRes op oy k a b own = .det s v own ∧ intRes op oy k a b own' = .det s v own' := by
      intro op oy k a b
      cases op <;> first | exact .inr ⟨_, _, rfl, rfl⟩ | exact .inl ⟨rfl, rfl⟩
    have hbool : ∀ (op : BinOp) (t : Ty) (a b : Bool), (boolRes op t a b own = .bad ∧ boolRes op t a b own' = .bad) ∨ ∃ s v, boolRes op t a b own = .det s v own ∧ boolRes op t a b own' = .det s v own' := by
      intro op t a b
      unfold boolRes
      split <;> first | exact .inr ⟨_, _, rfl, rfl⟩ | exact .inl ⟨rfl, rfl⟩
    generalize hex : ev tm x = xx
    generalize hey : ev tm y = yy
    have hemp : yy = .emp → isSliceConst y = false → ∀ v, y ≠ .const v := by
      intro h1 h2 v hv
      subst hv
      rw [h1] at hey
      have := cv_emp hey
      subst this
      simp [isSliceConst] at h2
    unfold binRes
    split
    · split
      · exact .inr ⟨_, _, rfl, rfl⟩
      · exact .inr ⟨_, _, rfl, rfl⟩
      · split
        · exact hb _ _ _ _ _
        · exact .inl ⟨rfl, rfl⟩
    · split <;> first | exact .inr ⟨_, _, rfl, rfl⟩ | exact .inl ⟨rfl, rfl⟩
    · split
      · exact absurd rfl (hemp rfl hm _)
      · exact absurd rfl (hemp rfl hm _)
      · exact .inl ⟨rfl, rfl⟩
    · split
      · exact absurd rfl (hemp rfl hm _)
      · exact absurd rfl (hemp rfl hm _)
      · exact .inl ⟨rfl, rfl⟩
    all_goals first | exact hbool _ _ _ _ | exact .inl ⟨rfl, rfl⟩
  case unOp op t x => unfold unRes; split <;> first | exact .inr ⟨_, _, rfl, rfl⟩ | exact .inl ⟨rfl, rfl⟩
  case convert s d x =>
    split at hc
    · rename_i k hk
      rw [hk]
      rcases conv_int k (tb d).ty (ev tm x) with h | ⟨s, v, h⟩
      · exact .inl ⟨h own, h own'⟩
      · exact .inr ⟨s, v, h own, h own'⟩
    · cases hc
  case extract x i =>
    split
    · split
      · exact .inr ⟨_, _, rfl, rfl⟩
      · exact .inl ⟨rfl, rfl⟩
    · exact .inl ⟨rfl, rfl⟩
  case fieldAddr s x f =>
    split
    · exact .inl ⟨rfl, rfl⟩
    · split <;> first | exact .inr ⟨_, _, rfl, rfl⟩ | exact .inl ⟨rfl, rfl⟩
  case field s x f =>
    split
    · exact .inl ⟨rfl, rfl⟩
    · split
      · split
        · exact .inr ⟨_, _, rfl, rfl⟩
        · exact .inl ⟨rfl, rfl⟩
      · exact .inl ⟨rfl, rfl⟩
  case index t x i =>
    unfold indexRes
    split
    · split
      · exact .inr ⟨_, _, rfl, rfl⟩
      · exact .inl ⟨rfl, rfl⟩
    · exact .inl ⟨rfl, rfl⟩
  case call c =>
    exfalso
    revert hc
    split <;> simp

/-- Operations that leave own memory. -/
theorem cls1 {o : Oper} (hc : opCls tb o.op ≤ 1) (hm : mayAny o.op = false) (tm : List TV) (own : Own) : opRes tb o tm own = .bad ∨ ∃ s v, opRes tb o tm own = .det s v own := by
  by_cases h0 : opCls tb o.op = 0
  · rcases cls0 (tb := tb) h0 hm tm own own with ⟨h, _⟩ | ⟨s, v, h, _⟩
    · exact .inl h
    · exact .inr ⟨s, v, h⟩
  · have h1 : opCls tb o.op = 1 := by omega
    clear h0 hc
    unfold opRes
    cases hop : o.op <;> simp only [hop, opCls] at h1 ⊢ <;> try (exact absurd h1 (by decide))
    case buildSlice t n parts => exfalso; revert h1; cases (tb t).lit <;> simp
    case load t x =>
      unfold loadRes
      split
      · split
        · split <;> first | exact .inr ⟨_, _, rfl⟩ | exact .inl rfl
        · exact .inl rfl
      · exact loadData_own _ _ _ _ _
      · exact loadData_own _ _ _ _ _
      · exact .inl rfl
    case convert s d x =>
      unfold convRes
      split <;> (try split) <;> first | exact .inr ⟨_, _, rfl⟩ | exact .inl rfl
    case indexAddr t x i =>
      unfold indexAddrRes
      split
      · split
        · split <;> first | exact .inr ⟨_, _, rfl⟩ | exact .inl rfl
        · split <;> first | exact .inr ⟨_, _, rfl⟩ | exact .inl rfl
        · exact .inr ⟨_, _, rfl⟩
        · exact .inl rfl
      · exact .inl rfl
    case call c =>
      split
      · rename_i b hcb
        rw [hcb] at h1
        unfold builtinRes
        split
        · split
          · exact .inl rfl
          · split <;> first | exact .inr ⟨_, _, rfl⟩ | exact .inl rfl
        · exact absurd h1 (by decide)
        · split <;> first | exact .inr ⟨_, _, rfl⟩ | exact .inl rfl
        · split <;> first | exact .inr ⟨_, _, rfl⟩ | exact .inl rfl
        · exact .inl rfl
      · rename_i f hcf
        rw [hcf] at h1
        simp at h1
      · exact .inl rfl

/-- Operations that turn own memory. -/
theorem cls2 {o : Oper} (hc : opCls tb o.op = 2) (tm : List TV) (own : Own) : opRes tb o tm own = .bad ∨ (∃ s v own', opRes tb o tm own = .det s v own') ∨ ∃ f args tys, opRes tb o tm own = .call f args tys := by
  unfold opRes
  cases hop : o.op <;> simp only [hop, opCls] at hc ⊢ <;> try (exact absurd hc (by decide))
  case alloc t => split <;> first | exact .inl rfl | exact .inr (.inl ⟨_, _, _, rfl⟩)
  case box t x => split <;> first | exact .inl rfl | exact .inr (.inl ⟨_, _, _, rfl⟩)
  case convert s d x => exfalso; revert hc; split <;> simp
  case buildSlice t n parts =>
    have hl : (tb t).lit = false := by
      cases hb : (tb t).lit with
      | true => rw [hb] at hc; cases hc
      | false => rfl
    rw [hl]
    split
    · split <;> first | exact .inl rfl | exact .inr (.inl ⟨_, _, _, rfl⟩)
    · split <;> first | exact .inl rfl | exact .inr (.inl ⟨_, _, _, rfl⟩)
    · exact .inl rfl
  case store t x y =>
    unfold storeRes
    split
    · split
      · split <;> first | exact .inl rfl | exact .inr (.inl ⟨_, _, _, rfl⟩)
      · exact .inl rfl
    · split
      · split
        · split <;> first | exact .inl rfl | exact .inr (.inl ⟨_, _, _, rfl⟩)
        · exact .inl rfl
      · split <;> first | exact .inl rfl | exact .inr (.inl ⟨_, _, _, rfl⟩)
      · exact .inl rfl
    · exact .inl rfl
  case makeSlice t x y =>
    unfold makeRes
    split
    · split <;> first | exact .inl rfl | exact .inr (.inl ⟨_, _, _, rfl⟩)
    · exact .inl rfl
  case slice t x lo hi mx =>
    unfold sliceRes
    split
    · split
      · split
        · split <;> first | exact .inl rfl | exact .inr (.inl ⟨_, _, _, rfl⟩)
        · split <;> first | exact .inl rfl | exact .inr (.inl ⟨_, _, _, rfl⟩)
        · split <;> first | exact .inl rfl | exact .inr (.inl ⟨_, _, _, rfl⟩)
        · split
          · split <;> first | exact .inl rfl | exact .inr (.inl ⟨_, _, _, rfl⟩)
          · split <;> first | exact .inl rfl | exact .inr (.inl ⟨_, _, _, rfl⟩)
          · exact .inl rfl
        · split <;> first | exact .inl rfl | exact .inr (.inl ⟨_, _, _, rfl⟩)
        · exact .inl rfl
      · exact .inl rfl
    · split
      · split <;> first | exact .inl rfl | exact .inr (.inl ⟨_, _, _, rfl⟩)
      · split <;> first | exact .inl rfl | exact .inr (.inl ⟨_, _, _, rfl⟩)
      · exact .inl rfl
    · exact .inl rfl
  case call c =>
    split
    · rename_i b hcb
      rw [hcb] at hc
      exfalso
      revert hc
      cases b <;> simp
    · exact .inr (.inr ⟨_, _, _, rfl⟩)
    · exact .inl rfl

theorem put_comm {tm : List TV} {d e : Option Tmp} {u v : TV} (h : sameTmp d e = false) : put (put tm d u) e v = put (put tm e v) d u := by
  cases d with
  | none => cases e <;> rfl
  | some d =>
    cases e with
    | none => rfl
    | some e =>
      have hne : d ≠ e := by
        rintro rfl
        simp [sameTmp] at h
      simp only [put, lset_eq]
      exact List.set_comm _ _ hne

theorem conj_swap {s t : List Prop} {q : Prop} (h : conj s (conj t q)) : conj t (conj s q) := by
  rw [conj_iff, conj_iff] at h ⊢
  exact ⟨h.2.1, h.1, h.2.2⟩

end
end Go.Vc
end

section
/- VcSa: two operations of a region whose order is open change places. -/
namespace Go.Vc

/-- A contract over data. -/
def dataCon (ps : List Ty) (T : List TV → (TV → Prop) → Prop) : Con := fun args own K =>
  match Nat.beq (llen ps) (llen args), allB TV.plain (Ty.normR own ps args) with
  | true, true => T (Ty.normR own ps args) fun v => K v (freezeAll own args)
  | _, _ => False
/-- What a contract over data owes to be moved. -/
def TOk (T : List TV → (TV → Prop) → Prop) : Prop :=
  (∀ args (K K' : TV → Prop), (∀ r, K r → K' r) → T args K → T args K') ∧ ∀ args K, T args K → ∃ r, K r

def OB.plain : OB → Bool
  | .cells l => allB TV.plain0 l
  | .ints .. => true
  | .rows .. => true
  | .gone => false
def OB.alike : OB → OB → Bool
  | .cells l, .cells l' => Nat.beq (llen l) (llen l')
  | .ints k _, .ints k' _ => kindEq k k'
  | .rows s _, .rows s' _ => Nat.beq s s'
  | _, _ => false
def lendOk : TV → OB → Bool
  | .vec _, .ints .. => true
  | .vec _, .rows .. => true
  | .ptr .., .cells l => allB TV.plain0 l
  | _, _ => false
/-- A slice that is lent has elements. -/
def lendLen : TV → OB → Prop → Prop
  | .vec _, ob, q => 0 < ob.len ∧ q
  | _, _, q => q
def lendId : TV → Option Nat
  | .vec id => some id
  | .ptr id _ => some id
  | _ => none
def lend0 : TV → TV
  | .vec _ => .vec 0
  | .ptr _ off => .ptr 0 off
  | v => v
/-- A contract of a function whose first argument is lent. -/
def lendCon (ps : List Ty) (T : TV → OB → List TV → (OB → TV → Prop) → Prop) : Con := fun args own K =>
  match args with
  | [] => False
  | a0 :: rest =>
    match lendId a0 with
    | none => False
    | some id =>
      match frozenAt (freezeAll own rest) id, lendOk a0 (OB.at own id), Nat.beq (llen ps) (llen rest), allB TV.plain (Ty.normR own ps rest) with
      | false, true, true, true => lendLen a0 (OB.at own id) (T (lend0 a0) (OB.at own id) (Ty.normR own ps rest) fun ob r =>
        (match OB.alike (OB.at own id) ob with | true => K r (lset (freezeAll own rest) id (false, ob)) | false => False))
      | _, _, _, _ => False
def LOk (T : TV → OB → List TV → (OB → TV → Prop) → Prop) : Prop :=
  (∀ a o args (K K' : OB → TV → Prop), (∀ o r, K o r → K' o r) → T a o args K → T a o args K') ∧ ∀ a o args K, T a o args K → ∃ o r, K o r

theorem lendLen_iff (a : TV) (ob : OB) (q : Prop) : lendLen a ob q ↔ (∀ id, a = .vec id → 0 < ob.len) ∧ q := by
  cases a with
  | vec i => simp [lendLen]
  | _ => simp [lendLen]
/-- A contract of a function whose result is a new slice. -/
def freshCon (ps : List Ty) (T : List TV → (OB → Prop) → Prop) : Con := fun args own K =>
  match Nat.beq (llen ps) (llen args), allB TV.plain (Ty.normR own ps args) with
  | true, true => T (Ty.normR own ps args) fun ob => K (.vec (llen (freezeAll own args))) (lapp (freezeAll own args) [(false, ob)])
  | _, _ => False
def FOk (T : List TV → (OB → Prop) → Prop) : Prop :=
  (∀ args (K K' : OB → Prop), (∀ r, K r → K' r) → T args K → T args K') ∧ ∀ args K, T args K → ∃ r, K r
/-- The contract is one over data, or over a block that is lent. -/
def Tame (T : Con) : Prop := (∃ ps T0, TOk T0 ∧ T = dataCon ps T0) ∨ ∃ ps T0, LOk T0 ∧ T = lendCon ps T0
/-- The result is a new slice. -/
def Fresh (T : Con) : Prop := ∃ ps T0, FOk T0 ∧ T = freshCon ps T0
/-- What is told of the callees' contracts. -/
def DataOk (data : FuncId → Nat) (Γ : FuncId → Con) : Prop := ∀ f, (data f = 1 → Tame (Γ f)) ∧ (data f = 2 → Fresh (Γ f))

section
variable {tb : TypeId → TyI} {Γ : FuncId → Con} {ids : List (Tmp × Nat)}

theorem opResX_eq {o : Oper} (h : allocs tb o.op = false) (tm : List TV) (own : Own) : opResX tb ids o tm own = opRes tb o tm own := by
  unfold opResX
  split
  · rename_i t d ho _; rw [ho] at h; cases h
  · rename_i t n parts d ho _
    rw [ho] at h
    have hl : (tb t).lit = true := by simpa [allocs] using h
    rw [hl]
  · rfl
theorem opResX_congr {o : Oper} {tm tm' : List TV} {own : Own} (h : ∀ x ∈ o.op.operands.toList, ev tm' x = ev tm x) : opResX tb ids o tm' own = opResX tb ids o tm own := by
  unfold opResX
  split
  · split
    · rfl
    · exact opRes_congr h
  · rename_i t n parts d ho _
    split
    · have e : lmap (fun p : Nat × Operand => (p.1, ev tm' p.2)) parts.toList = lmap (fun p : Nat × Operand => (p.1, ev tm p.2)) parts.toList := by
        rw [lmap_eq, lmap_eq]
        refine List.map_congr_left fun p hp => ?_
        rw [h p.2 (by rw [ho]; simp [Op.operands]; exact ⟨p.1, by simpa using hp⟩)]
      rw [e]
    · exact opRes_congr h
  · exact opRes_congr h
theorem cls_alloc {o : Oper} (hc : opCls tb o.op ≤ 1) : allocs tb o.op = false := by
  cases hop : o.op <;> try rfl
  · rw [hop] at hc; exact absurd (show (2 : Nat) ≤ 1 from hc) (by decide)
  · rename_i t n parts
    rw [hop] at hc
    unfold allocs
    simp only [opCls] at hc
    cases hb : (tb t).lit with
    | true => simp [hb]
    | false => rw [hb] at hc; exact absurd hc (by decide)
theorem cls0X {o : Oper} (hc : opCls tb o.op = 0) (hm : mayAny o.op = false) (tm : List TV) (own own' : Own) :
    (opResX tb ids o tm own = .bad ∧ opResX tb ids o tm own' = .bad) ∨ ∃ s v, opResX tb ids o tm own = .det s v own ∧ opResX tb ids o tm own' = .det s v own' := by
  have h1 : opCls tb o.op ≤ 1 := by omega
  rw [opResX_eq (cls_alloc h1), opResX_eq (cls_alloc h1)]
  exact cls0 hc hm tm own own'
theorem cls1X {o : Oper} (hc : opCls tb o.op ≤ 1) (hm : mayAny o.op = false) (tm : List TV) (own : Own) : opResX tb ids o tm own = .bad ∨ ∃ s v, opResX tb ids o tm own = .det s v own := by
  rw [opResX_eq (cls_alloc hc)]
  exact cls1 hc hm tm own
theorem cls2X {o : Oper} (hc : opCls tb o.op = 2) (tm : List TV) (own : Own) : opResX tb ids o tm own = .bad ∨ (∃ s v own', opResX tb ids o tm own = .det s v own') ∨ ∃ f args tys, opResX tb ids o tm own = .call f args tys := by
  rcases opResX_cases tb ids o tm own with h | ⟨t, d, id, _, _, _, h | ⟨_, h⟩⟩ | ⟨t, n, parts, d, id, _, _, _, h | ⟨ob, _, h⟩⟩
  · rw [h]; exact cls2 hc tm own
  · exact .inl h
  · exact .inr (.inl ⟨_, _, _, h⟩)
  · exact .inl h
  · exact .inr (.inl ⟨_, _, _, h⟩)

/-- Two operations that ask nothing of each other change places. -/
theorem swapRun {a i : Oper} (hi : indep0 tb a i = true) (hΓ : ∀ f args own K, Γ f args own K → ConOk (Γ f)) {t : List TV} {own : Own} {k : TV → TV → Own → Prop}
    (h : stepK Γ own (fun v own' => stepK Γ own' (fun v' own'' => k v v' own'') (opResX tb ids i t own')) (opResX tb ids a t own)) :
    stepK Γ own (fun v' own' => stepK Γ own' (fun v own'' => k v v' own'') (opResX tb ids a t own')) (opResX tb ids i t own) := by
  simp only [indep0, Bool.and_eq_true, Bool.not_eq_true'] at hi
  obtain ⟨⟨⟨⟨⟨hf, hma⟩, hmi⟩, hst⟩, hr1⟩, hr2⟩ := hi
  have hclass : (opCls tb a.op ≤ 1 ∧ opCls tb i.op ≤ 1) ∨ (opCls tb a.op = 0 ∧ opCls tb i.op = 2) ∨ (opCls tb a.op = 2 ∧ opCls tb i.op = 0) := by
    unfold free2 at hf
    split at hf
    · rename_i h1 h2; exact .inl ⟨Nat.le_of_ble_eq_true h1, Nat.le_of_ble_eq_true h2⟩
    · simp only [Bool.and_eq_true] at hf; exact .inr (.inl ⟨Nat.eq_of_beq_eq_true hf.1, Nat.eq_of_beq_eq_true hf.2⟩)
    · simp only [Bool.and_eq_true] at hf; exact .inr (.inr ⟨Nat.eq_of_beq_eq_true hf.1, Nat.eq_of_beq_eq_true hf.2⟩)
    · cases hf
  rcases hclass with ⟨h1, h2⟩ | ⟨h1, h2⟩ | ⟨h1, h2⟩
  · -- neither turns own memory
    rcases cls1X (tb := tb) (ids := ids) h1 hma t own with hb | ⟨sa, va, hd⟩
    · rw [hb] at h; exact h.elim
    · rw [hd] at h
      simp only [stepK] at h
      rcases cls1X (tb := tb) (ids := ids) h2 hmi t own with hb | ⟨si, vi, hd'⟩
      · rw [hb] at h
        exact ((conj_iff _ _).1 h).2.elim
      · rw [hd'] at h ⊢
        simp only [stepK, hd] at h ⊢
        exact conj_swap h
  · -- the second turns it
    rcases cls0X (tb := tb) (ids := ids) h1 hma t own own with ⟨hb, _⟩ | ⟨sa, va, hd, _⟩
    · rw [hb] at h; exact h.elim
    · rw [hd] at h
      simp only [stepK] at h
      have hd2 : ∀ o', opResX tb ids a t o' = .det sa va o' := fun o' => by
        rcases cls0X (tb := tb) (ids := ids) h1 hma t own o' with ⟨hb, _⟩ | ⟨s, v, k1, k2⟩
        · rw [hd] at hb; cases hb
        · rw [hd] at k1; cases k1; exact k2
      rcases cls2X (tb := tb) (ids := ids) h2 t own with hb | ⟨si, vi, o', hd'⟩ | ⟨f, args, tys, hd'⟩
      · rw [hb] at h
        exact ((conj_iff _ _).1 h).2.elim
      · rw [hd'] at h ⊢
        simp only [stepK, hd2] at h ⊢
        exact conj_swap h
      · rw [hd'] at h ⊢
        simp only [stepK, hd2] at h ⊢
        rw [conj_iff] at h
        obtain ⟨hsafe, hcall⟩ := h
        refine (hΓ _ _ _ _ hcall).1 _ _ _ _ (fun r o hr => ?_) hcall
        rw [conj_iff]
        exact ⟨hsafe, hr⟩
  · -- the first turns it
    rcases cls0X (tb := tb) (ids := ids) h2 hmi t own own with ⟨hb, hb'⟩ | ⟨si, vi, hd, _⟩
    · -- the second is refused wherever it stands
      exfalso
      have hb2 : ∀ o', opResX tb ids i t o' = .bad := fun o' => by
        rcases cls0X (tb := tb) (ids := ids) h2 hmi t own o' with ⟨_, k⟩ | ⟨s, v, k1, _⟩
        · exact k
        · rw [hb] at k1; cases k1
      rcases cls2X (tb := tb) (ids := ids) h1 t own with hb | ⟨sa, va, o', hd'⟩ | ⟨f, args, tys, hd'⟩
      · rw [hb] at h; exact h
      · rw [hd'] at h
        simp only [stepK, hb2] at h
        exact ((conj_iff _ _).1 h).2
      · rw [hd'] at h
        simp only [stepK, hb2] at h
        obtain ⟨r, o, hr⟩ := (hΓ _ _ _ _ h).2 _ _ _ h
        exact hr
    · have hd2 : ∀ o', opResX tb ids i t o' = .det si vi o' := fun o' => by
        rcases cls0X (tb := tb) (ids := ids) h2 hmi t own o' with ⟨hb, _⟩ | ⟨s, v, k1, k2⟩
        · rw [hd] at hb; cases hb
        · rw [hd] at k1; cases k1; exact k2
      rw [hd]
      simp only [stepK]
      rcases cls2X (tb := tb) (ids := ids) h1 t own with hb | ⟨sa, va, o', hd'⟩ | ⟨f, args, tys, hd'⟩
      · rw [hb] at h; exact h.elim
      · rw [hd'] at h ⊢
        simp only [stepK, hd2] at h ⊢
        exact conj_swap h
      · rw [hd'] at h ⊢
        simp only [stepK, hd2] at h ⊢
        have hok := hΓ _ _ _ _ h
        rw [conj_iff]
        refine ⟨?_, hok.1 _ _ _ _ (fun r o hr => ?_) h⟩
        · obtain ⟨r, o, hr⟩ := hok.2 _ _ _ h
          exact ((conj_iff _ _).1 hr).1
        · exact ((conj_iff _ _).1 hr).2

/-! ### guards -/
/-- Does it run, and what is known then? -/
def res (all : List Oper) (o : Oper) (tm : List TV) : Option (Bool × List TV) :=
  match o.guard with
  | none => some (true, tm)
  | some (j, want) =>
    match yieldTmp all j with
    | none => some (false, tm)
    | some g =>
      match lget .un tm g with
      | .bt => some (want, tm)
      | .bf => some (!want, tm)
      | .un => some (false, tm)
      | .d (.bool true) => some (want, lset tm g .bt)
      | .d (.bool false) => some (!want, lset tm g .bf)
      | _ => none
def stepM (m : Bool) (Γ : FuncId → Con) (own : Own) (k : TV → Own → Prop) (r : OpRes) : Prop :=
  match m with
  | true => stepK Γ own k r
  | false => k .un own

theorem awpOps_res {all rest : List Oper} {o : Oper} {tm : List TV} {own : Own} {K : List TV → Own → Prop}
    (h1 : ∀ tm own s v o' id, opResX tb ids o tm own ≠ .grow s v o' id) (h2 : ∀ tm own p, opResX tb ids o tm own ≠ .anyB p) :
    awpOps tb Γ ids all (o :: rest) tm own K ↔ match res all o tm with
      | none => False
      | some (m, tm') => stepM m Γ own (fun v own' => awpOps tb Γ ids all rest (put tm' o.dst v) own' K) (opResX tb ids o tm' own) := by
  have run : ∀ tm0 : List TV, (match opResX tb ids o tm0 own with
      | .bad => False
      | .det safe v own' => conj safe (awpOps tb Γ ids all rest (put tm0 o.dst v) own' K)
      | .grow safe v own' id => conj safe (awpOps tb Γ ids all rest (put (lmap (kill1 id) tm0) o.dst v) (killOwn id own') K)
      | .anyB p => ∀ b : Bool, p b → awpOps tb Γ ids all rest (put tm0 o.dst (.d (.bool b))) own K
      | .call f args _ => Γ f args own fun v own' => awpOps tb Γ ids all rest (put tm0 o.dst v) own' K) ↔
      stepM true Γ own (fun v own' => awpOps tb Γ ids all rest (put tm0 o.dst v) own' K) (opResX tb ids o tm0 own) := by
    intro tm0
    cases h : opResX tb ids o tm0 own with
    | grow s v o' id => exact absurd h (h1 tm0 own s v o' id)
    | anyB p => exact absurd h (h2 tm0 own p)
    | _ => rfl
  rw [awpOps]
  simp only
  unfold res
  cases hg : o.guard with
  | none => exact run tm
  | some p =>
    obtain ⟨j, want⟩ := p
    simp only
    cases hy : yieldTmp all j with
    | none => exact Iff.rfl
    | some g =>
      simp only
      generalize hl : lget TV.un tm g = x
      cases x with
      | bt =>
        cases want
        · exact Iff.rfl
        · exact run tm
      | bf =>
        cases want
        · exact run tm
        · exact Iff.rfl
      | un => exact Iff.rfl
      | d a =>
        cases a with
        | bool b =>
          cases b
          · simp only [Bool.false_eq_true, false_implies, true_and, true_implies]
            cases want
            · exact run _
            · exact Iff.rfl
          · simp only [Bool.true_eq_false, false_implies, and_true, true_implies]
            cases want
            · exact Iff.rfl
            · exact run _
        | _ => exact Iff.rfl
      | _ => exact Iff.rfl

theorem lget_lset_ne {α : Type} {d : α} {l : List α} {g h : Nat} {x : α} (hn : g ≠ h) : lget d (lset l g x) h = lget d l h := by
  rw [lget_eq, lget_eq, lset_eq, List.getD_eq_getElem?_getD, List.getD_eq_getElem?_getD, List.getElem?_set_ne hn]
theorem lget_lset_self {α : Type} {d : α} {l : List α} {g : Nat} {x : α} (h : g < l.length) : lget d (lset l g x) g = x := by
  rw [lget_eq, lset_eq, List.getD_eq_getElem?_getD, List.getElem?_set_self h]; rfl
theorem in_range {tm : List TV} {g : Nat} (h : lget .un tm g ≠ .un) : g < tm.length := by
  refine Nat.lt_of_not_le fun hx => h ?_
  rw [lget_eq, List.getD_eq_getElem?_getD, List.getElem?_eq_none hx]; rfl
theorem sameTmp_iff {a b : Option Tmp} : sameTmp a b = true ↔ ∃ g, a = some g ∧ b = some g := by
  cases a with
  | none => simp [sameTmp]
  | some x =>
    cases b with
    | none => simp [sameTmp]
    | some y =>
      simp only [sameTmp]
      constructor
      · intro h
        obtain rfl := Nat.eq_of_beq_eq_true h
        exact ⟨x, rfl, rfl⟩
      · rintro ⟨g, h1, h2⟩
        cases h1; cases h2
        exact Nat.beq_refl _

/-- What is known once the guard is looked at is one slot more. -/
theorem res_form {all : List Oper} {o : Oper} {tm t : List TV} {m : Bool} (h : res all o tm = some (m, t)) : ∃ r x, t = put tm r x ∧ (r = none ∨ r = guardSlot all o) := by
  unfold res at h
  unfold guardSlot
  cases hg : o.guard with
  | none => rw [hg] at h; simp only [Option.some.injEq, Prod.mk.injEq] at h; exact ⟨none, .un, h.2.symm, .inl rfl⟩
  | some p =>
    obtain ⟨j, want⟩ := p
    rw [hg] at h
    simp only at h ⊢
    cases hy : yieldTmp all j with
    | none => rw [hy] at h; simp only [Option.some.injEq, Prod.mk.injEq] at h; exact ⟨none, .un, h.2.symm, .inl rfl⟩
    | some g =>
      rw [hy] at h
      simp only at h
      split at h
      · simp only [Option.some.injEq, Prod.mk.injEq] at h; exact ⟨none, .un, h.2.symm, .inl rfl⟩
      · simp only [Option.some.injEq, Prod.mk.injEq] at h; exact ⟨none, .un, h.2.symm, .inl rfl⟩
      · simp only [Option.some.injEq, Prod.mk.injEq] at h; exact ⟨none, .un, h.2.symm, .inl rfl⟩
      · simp only [Option.some.injEq, Prod.mk.injEq] at h; exact ⟨some g, .bt, h.2.symm, .inr rfl⟩
      · simp only [Option.some.injEq, Prod.mk.injEq] at h; exact ⟨some g, .bf, h.2.symm, .inr rfl⟩
      · cases h

/-- Another slot does not matter to the guard. -/
theorem res_put {all : List Oper} {o : Oper} {tm : List TV} {d : Option Tmp} {v : TV} (hd : sameTmp (guardSlot all o) d = false) : res all o (put tm d v) = (res all o tm).map fun p => (p.1, put p.2 d v) := by
  cases d with
  | none =>
    have : ∀ t : List TV, put t none v = t := fun t => rfl
    simp only [this]
    cases res all o tm <;> rfl
  | some d =>
    unfold guardSlot at hd
    unfold res
    cases hg : o.guard with
    | none => rfl
    | some p =>
      obtain ⟨j, want⟩ := p
      rw [hg] at hd
      simp only at hd ⊢
      cases hy : yieldTmp all j with
      | none => rfl
      | some g =>
        rw [hy] at hd
        simp only
        have hne : d ≠ g := by
          rintro rfl
          simp [sameTmp] at hd
        have e : lget TV.un (put tm (some d) v) g = lget TV.un tm g := lget_lset_ne hne
        have c : ∀ x, lset (put tm (some d) v) g x = put (lset tm g x) (some d) v := fun x => by
          simp only [put, lset_eq]
          exact (List.set_comm _ _ (Ne.symm hne)).symm ▸ rfl
        rw [e]
        generalize lget TV.un tm g = x
        cases x with
        | d a =>
          cases a with
          | bool b => cases b <;> simp [c]
          | _ => rfl
        | _ => rfl

/-- Two that hang on the same guard. -/
theorem res_same {all : List Oper} {a i : Oper} {g : Tmp} (ha : guardSlot all a = some g) (hi : guardSlot all i = some g) {tm ta tia : List TV} {ma mi : Bool} (h1 : res all a tm = some (ma, ta)) (h2 : res all i ta = some (mi, tia)) :
    tia = ta ∧ res all i tm = some (mi, ta) ∧ res all a ta = some (ma, ta) := by
  unfold guardSlot at ha hi
  cases hga : a.guard with
  | none => rw [hga] at ha; cases ha
  | some pa =>
    cases hgi : i.guard with
    | none => rw [hgi] at hi; cases hi
    | some pi =>
      obtain ⟨ja, wa⟩ := pa
      obtain ⟨ji, wi⟩ := pi
      rw [hga] at ha
      rw [hgi] at hi
      simp only at ha hi
      unfold res at h1 h2 ⊢
      simp only [hga, hgi, ha, hi] at h1 h2 ⊢
      generalize hx : lget TV.un tm g = x at h1 ⊢
      cases x with
      | bt => simp only [Option.some.injEq, Prod.mk.injEq] at h1; obtain ⟨rfl, rfl⟩ := h1; simp only [hx, Option.some.injEq, Prod.mk.injEq] at h2 ⊢; obtain ⟨rfl, rfl⟩ := h2; simp
      | bf => simp only [Option.some.injEq, Prod.mk.injEq] at h1; obtain ⟨rfl, rfl⟩ := h1; simp only [hx, Option.some.injEq, Prod.mk.injEq] at h2 ⊢; obtain ⟨rfl, rfl⟩ := h2; simp
      | un => simp only [Option.some.injEq, Prod.mk.injEq] at h1; obtain ⟨rfl, rfl⟩ := h1; simp only [hx, Option.some.injEq, Prod.mk.injEq] at h2 ⊢; obtain ⟨rfl, rfl⟩ := h2; simp
      | d y =>
        have hr : g < tm.length := in_range (by rw [hx]; intro h; cases h)
        cases y with
        | bool b =>
          cases b
          · simp only [Option.some.injEq, Prod.mk.injEq] at h1
            obtain ⟨rfl, rfl⟩ := h1
            rw [lget_lset_self hr] at h2 ⊢
            simp only [Option.some.injEq, Prod.mk.injEq] at h2 ⊢
            obtain ⟨rfl, rfl⟩ := h2
            simp
          · simp only [Option.some.injEq, Prod.mk.injEq] at h1
            obtain ⟨rfl, rfl⟩ := h1
            rw [lget_lset_self hr] at h2 ⊢
            simp only [Option.some.injEq, Prod.mk.injEq] at h2 ⊢
            obtain ⟨rfl, rfl⟩ := h2
            simp
        | _ => cases h1
      | _ => cases h1

theorem congr_put {o : Oper} {tm : List TV} {r : Option Tmp} {x : TV} (h : ∀ g, r = some g → usesTmp g o.op.operands.toList = false) (own : Own) : opResX tb ids o (put tm r x) own = opResX tb ids o tm own := by
  cases r with
  | none => rfl
  | some g => exact opResX_congr fun y hy => ev_put_of (dst := some g) (show readsDst o (some g) = false from h g rfl) hy

/-- The guards of two that ask nothing of each other. -/
theorem res_comm {all : List Oper} {a i : Oper} (h1 : guardFree all a i = true) (h2 : guardFree all i a = true) {tm ta tia : List TV} {ma mi : Bool} (ra : res all a tm = some (ma, ta)) (ri : res all i ta = some (mi, tia)) :
    ∃ ti, res all i tm = some (mi, ti) ∧ res all a ti = some (ma, tia) ∧ (∀ own, opResX tb ids a tia own = opResX tb ids a ta own) ∧ ∀ own, opResX tb ids i tia own = opResX tb ids i ti own := by
  by_cases hs : sameTmp (guardSlot all a) (guardSlot all i) = true
  · obtain ⟨g, ga, gi⟩ := sameTmp_iff.1 hs
    obtain ⟨rfl, e1, e2⟩ := res_same ga gi ra ri
    exact ⟨tia, e1, e2, fun _ => rfl, fun _ => rfl⟩
  · have hs1 : sameTmp (guardSlot all a) (guardSlot all i) = false := by simpa using hs
    have hs2 : sameTmp (guardSlot all i) (guardSlot all a) = false := by
      cases hx : sameTmp (guardSlot all i) (guardSlot all a) with
      | false => rfl
      | true =>
        obtain ⟨g, e1, e2⟩ := sameTmp_iff.1 hx
        exact absurd (sameTmp_iff.2 ⟨g, e2, e1⟩) hs
    obtain ⟨r, x, rfl, hr⟩ := res_form ra
    have hr1 : sameTmp (guardSlot all i) r = false := by
      rcases hr with rfl | rfl
      · cases guardSlot all i <;> rfl
      · exact hs2
    rw [res_put hr1] at ri
    cases hti : res all i tm with
    | none => rw [hti] at ri; cases ri
    | some p =>
      obtain ⟨m', ti⟩ := p
      rw [hti] at ri
      simp only [Option.map_some, Option.some.injEq, Prod.mk.injEq] at ri
      obtain ⟨rfl, rfl⟩ := ri
      obtain ⟨q, y, rfl, hq⟩ := res_form hti
      have hq1 : sameTmp (guardSlot all a) q = false := by
        rcases hq with rfl | rfl
        · cases guardSlot all a <;> rfl
        · exact hs1
      have hqr : sameTmp q r = false := by
        rcases hq with rfl | rfl
        · rfl
        · exact hr1
      refine ⟨_, rfl, ?_, fun own => ?_, fun own => ?_⟩
      · rw [res_put hq1, ra]
        simp only [Option.map_some]
        rw [put_comm hqr]
      · rw [put_comm hqr]
        refine congr_put (fun g hg => ?_) own
        subst hg
        rcases hq with hq | hq
        · cases hq
        · unfold guardFree at h2
          rw [← hq] at h2
          simp only [Bool.and_eq_true, Bool.or_eq_true, Bool.not_eq_true'] at h2
          rcases h2.2 with h3 | h3
          · exact h3
          · rw [hq, hs1] at h3; cases h3
      · refine congr_put (fun g hg => ?_) own
        subst hg
        rcases hr with hr | hr
        · cases hr
        · unfold guardFree at h1
          rw [← hr] at h1
          simp only [Bool.and_eq_true, Bool.or_eq_true, Bool.not_eq_true'] at h1
          rcases h1.2 with h3 | h3
          · exact h3
          · rw [hr, hs2] at h3; cases h3

theorem guardFree_dst {all : List Oper} {a i : Oper} (h : guardFree all a i = true) : sameTmp (guardSlot all a) i.dst = false := by
  unfold guardFree at h
  split at h
  · rename_i hg; rw [hg]; rfl
  · rename_i g hg
    rw [hg]
    simp only [Bool.and_eq_true, Bool.not_eq_true'] at h
    exact h.1

end
end Go.Vc
end

section
/- VcSb: what an operation reads and writes of own memory; two that ask nothing of each other change places. -/
namespace Go.Vc

abbrev gone : Bool × OB := (true, .gone)
def Same (r : List Nat) (own own' : Own) : Prop := ∀ x ∈ r, lget gone own x = lget gone own' x
/-- What is not shut lies there. -/
theorem in_own {own : Own} {x : Nat} (h : frozenAt own x = false) : x < own.length := by
  refine Nat.lt_of_not_le fun hx => ?_
  unfold frozenAt at h
  rw [lget_eq, List.getD_eq_getElem?_getD, List.getElem?_eq_none hx] at h
  cases h
theorem Same.at_ {r : List Nat} {own own' : Own} (h : Same r own own') {x : Nat} (hx : x ∈ r) : OB.at own x = OB.at own' x ∧ frozenAt own x = frozenAt own' x := by
  have := h x hx
  unfold OB.at frozenAt
  exact ⟨congrArg Prod.snd this, congrArg Prod.fst this⟩
theorem lget_set (own : Own) (id : Nat) (p : Bool × OB) (x : Nat) : lget gone (lset own id p) x = if id = x ∧ id < own.length then p else lget gone own x := by
  rw [lget_eq, lset_eq, getD_set, lget_eq]
theorem lset_len (own : Own) (id : Nat) (p : Bool × OB) : (lset own id p).length = own.length := by rw [lset_eq]; simp

/-- Own memory behind an operation. -/
def effOf (own : Own) : OpRes → Own
  | .det _ _ o => o
  | .call _ args _ => freezeAll own args
  | _ => own

theorem loadData_all (t : Ty) (x : AV) (i : Int) (j : Nat) : (∀ own, loadData t x i j own = .bad) ∨ ∃ s v, ∀ own, loadData t x i j own = .det s v own := by
  unfold loadData
  split
  · split
    · split
      · exact .inr ⟨_, _, fun _ => rfl⟩
      · exact .inl fun _ => rfl
    · exact .inl fun _ => rfl
  · split
    · split
      · exact .inr ⟨_, _, fun _ => rfl⟩
      · exact .inr ⟨_, _, fun _ => rfl⟩
      · exact .inr ⟨_, _, fun _ => rfl⟩
      · exact .inl fun _ => rfl
    · exact .inl fun _ => rfl
  · exact .inl fun _ => rfl

/-- Both refused, or the same answer with own memory as it was. -/
def Pure2 (own own' : Own) (a b : OpRes) : Prop := (a = .bad ∧ b = .bad) ∨ ∃ s v, a = .det s v own ∧ b = .det s v own'

theorem loadRes_same (t : Ty) (p : TV) {own own' : Own} (h : Same p.ids own own') : Pure2 own own' (loadRes t p own) (loadRes t p own') := by
  cases p with
  | ptr id off =>
    have h1 := (h.at_ (x := id) (by simp [TV.ids, TV.ids0])).1
    unfold loadRes
    simp only
    rw [h1]
    split
    · split
      · exact .inr ⟨_, _, rfl, rfl⟩
      · exact .inr ⟨_, _, rfl, rfl⟩
      · exact .inr ⟨_, _, rfl, rfl⟩
      · exact .inl ⟨rfl, rfl⟩
    · exact .inl ⟨rfl, rfl⟩
  | optr id i j =>
    have h1 := (h.at_ (x := id) (by simp [TV.ids, TV.ids0])).1
    unfold loadRes
    simp only
    rw [h1]
    rcases loadData_all t (OB.at own' id).data i j with h2 | ⟨s, v, h2⟩
    · exact .inl ⟨h2 _, h2 _⟩
    · exact .inr ⟨s, v, h2 _, h2 _⟩
  | rptr x i j =>
    unfold loadRes
    simp only
    rcases loadData_all t x i j with h2 | ⟨s, v, h2⟩
    · exact .inl ⟨h2 _, h2 _⟩
    · exact .inr ⟨s, v, h2 _, h2 _⟩
  | _ => exact .inl ⟨rfl, rfl⟩

theorem indexAddr_same (t : Ty) (x i : TV) {own own' : Own} (h : Same x.ids own own') : Pure2 own own' (indexAddrRes t x i own) (indexAddrRes t x i own') := by
  unfold indexAddrRes
  split
  · cases x with
    | vec id =>
      have h1 := (h.at_ (x := id) (by simp [TV.ids, TV.ids0])).1
      simp only
      rw [h1]
      split
      · exact .inr ⟨_, _, rfl, rfl⟩
      · exact .inl ⟨rfl, rfl⟩
    | d a =>
      simp only
      split
      · exact .inr ⟨_, _, rfl, rfl⟩
      · exact .inl ⟨rfl, rfl⟩
    | emp => exact .inr ⟨_, _, rfl, rfl⟩
    | _ => exact .inl ⟨rfl, rfl⟩
  · exact .inl ⟨rfl, rfl⟩

theorem lenTV_same (t : Ty) (x : TV) {own own' : Own} (h : Same x.ids own own') : lenTV t x own = lenTV t x own' := by
  cases x with
  | vec id =>
    have h1 := (h.at_ (x := id) (by simp [TV.ids, TV.ids0])).1
    unfold lenTV
    simp only
    rw [h1]
  | d a => cases a <;> rfl
  | _ => rfl

theorem av_norm (own own' : Own) (t : Ty) (v : TV) (h : allB TV.data0 v.cellsOf = true) : lmap (TV.toAV own) (t.norm own v).cellsOf = lmap (TV.toAV own') (t.norm own' v).cellsOf := by
  cases v with
  | agg l =>
    have h : allB TV.data0 l = true := h
    cases t with
    | sc s => have e : ∀ o : Own, Ty.norm o (.sc s) (.agg l) = .agg l := fun o => by cases s <;> rfl
              rw [e, e]
              exact lmap_congr fun x hx => by
                rw [allB_eq, List.all_eq_true] at h
                exact av_own own own' (h x hx)
    | struct fs cs => exact row_own own own' cs l h
    | arr n e cs => exact row_own own own' cs l h
    | no =>
      exact lmap_congr fun x hx => by
        rw [allB_eq, List.all_eq_true] at h
        exact av_own own own' (h x hx)
  | d a => cases t with
    | sc s => cases s <;> rfl
    | _ => rfl
  | bt => cases t with
    | sc s => cases s <;> rfl
    | _ => rfl
  | bf => cases t with
    | sc s => cases s <;> rfl
    | _ => rfl
  | emp => cases t with
    | sc s => cases s <;> rfl
    | _ => rfl
  | _ => exact absurd h (by simp [TV.cellsOf, allB_eq, TV.data0])

/-- Both refused, or the same new content of the same block. -/
def Set2 (w : List Nat) (own own' : Own) (a b : OpRes) : Prop := (a = .bad ∧ b = .bad) ∨ ∃ s v id X, a = .det s v (lset own id X) ∧ b = .det s v (lset own' id X) ∧ w = [id] ∧ id < own.length ∧ id < own'.length

theorem storeRes_same (t : Ty) (p v : TV) {own own' : Own} (h : Same p.ids own own') : Set2 p.ids own own' (storeRes t p v own) (storeRes t p v own') := by
  have bad : Set2 p.ids own own' .bad .bad := .inl ⟨rfl, rfl⟩
  cases p with
  | ptr id off =>
    have hm : id ∈ TV.ids (.ptr id off) := by simp [TV.ids, TV.ids0]
    obtain ⟨h1, h2⟩ := h.at_ hm
    unfold storeRes
    simp only
    rw [h1, h2]
    cases hz : frozenAt own' id with
    | true => exact bad
    | false =>
    have r1 := in_own hz
    have r2 := in_own (h2.trans hz)
    split
    · split
      · exact .inr ⟨_, _, _, _, rfl, rfl, rfl, r2, r1⟩
      · exact bad
    · exact bad
  | optr id i j =>
    have hm : id ∈ TV.ids (.optr id i j) := by simp [TV.ids, TV.ids0]
    obtain ⟨h1, h2⟩ := h.at_ hm
    unfold storeRes
    simp only
    rw [h1, h2]
    cases hz : frozenAt own' id with
    | true => exact bad
    | false =>
    have r1 := in_own hz
    have r2 := in_own (h2.trans hz)
    split
    · split
      · split
        · exact .inr ⟨_, _, _, _, rfl, rfl, rfl, r2, r1⟩
        · exact bad
      · exact bad
    · split
      · rename_i hd
        rw [av_norm own own' t v hd]
        exact .inr ⟨_, _, _, _, rfl, rfl, rfl, r2, r1⟩
      · exact bad
    · exact bad
  | _ => exact bad

theorem snorm_same (s : STy) (v : TV) {own own' : Own} (h : Same v.ids0 own own') : s.norm own v = s.norm own' v := by
  cases v with
  | vec id =>
    have h1 := (h.at_ (x := id) (by simp [TV.ids0])).1
    cases s <;> first | rfl | (show TV.d _ = TV.d _; rw [h1])
  | _ => cases s <;> rfl
theorem Same.mono {r r' : List Nat} {own own' : Own} (h : Same r own own') (hr : ∀ x ∈ r', x ∈ r) : Same r' own own' := fun x hx => h x (hr x hx)
theorem norms_same : ∀ (cs : List STy) (vs : List TV) {own own' : Own}, Same (idsL vs) own own' → norms own cs vs = norms own' cs vs
  | [], vs, _, _, _ => by cases vs <;> rfl
  | s :: cs, [], _, _, _ => rfl
  | s :: cs, v :: vs, own, own', h => by
    have e : idsL (v :: vs) = v.ids0 ++ idsL vs := by show lapp _ _ = _; rw [lapp_eq]
    rw [e] at h
    show s.norm own v :: norms own cs vs = s.norm own' v :: norms own' cs vs
    rw [snorm_same s v (h.mono fun x hx => by simp [hx]), norms_same cs vs (h.mono fun x hx => by simp [hx])]
theorem norm_same (t : Ty) (v : TV) {own own' : Own} (h : Same v.ids own own') : t.norm own v = t.norm own' v := by
  cases t with
  | sc s =>
    cases v with
    | agg l => cases s <;> rfl
    | _ => exact snorm_same s _ h
  | struct fs cs =>
    cases v with
    | agg l => exact congrArg TV.agg (norms_same cs l h)
    | _ => rfl
  | arr n e cs =>
    cases v with
    | agg l => exact congrArg TV.agg (norms_same cs l h)
    | _ => rfl
  | no => cases v <;> rfl
theorem idsA_cons (v : TV) (vs : List TV) : idsA (v :: vs) = v.ids ++ idsA vs := by show lapp _ _ = _; rw [lapp_eq]
theorem normR_same : ∀ (ts : List Ty) (vs : List TV) {own own' : Own}, Same (idsA vs) own own' → Ty.normR own ts vs = Ty.normR own' ts vs
  | [], vs, _, _, _ => by cases vs <;> rfl
  | t :: ts, [], _, _, _ => rfl
  | t :: ts, v :: vs, own, own', h => by
    rw [idsA_cons] at h
    show t.norm own v :: Ty.normR own ts vs = t.norm own' v :: Ty.normR own' ts vs
    rw [norm_same t v (h.mono fun x hx => by simp [hx]), normR_same ts vs (h.mono fun x hx => by simp [hx])]

theorem in_own2 {own : Own} {x : Nat} (h : OB.at own x ≠ .gone) : x < own.length := by
  refine Nat.lt_of_not_le fun hx => h ?_
  unfold OB.at
  rw [lget_eq, List.getD_eq_getElem?_getD, List.getElem?_eq_none hx]; rfl
/-- Shutting is local. -/
def LocalF (w : List Nat) (f : Own → Own) : Prop := (∀ own, (f own).length = own.length) ∧ (∀ own x, x ∉ w → lget gone (f own) x = lget gone own x) ∧
  ∀ own own' x, lget gone own x = lget gone own' x → lget gone (f own) x = lget gone (f own') x
theorem LocalF.comp {w w' : List Nat} {f g : Own → Own} (hf : LocalF w f) (hg : LocalF w' g) : LocalF (w ++ w') (fun own => g (f own)) := by
  refine ⟨fun own => by rw [hg.1, hf.1], fun own x hx => ?_, fun own own' x hx => hg.2.2 _ _ _ (hf.2.2 _ _ _ hx)⟩
  rw [List.mem_append, not_or] at hx
  rw [hg.2.1 _ _ hx.2, hf.2.1 _ _ hx.1]
theorem freezeId_get (own : Own) (id x : Nat) : lget gone (freezeId own id) x = if id = x then (true, OB.at own id) else lget gone own x := by
  unfold freezeId
  rw [lget_set]
  by_cases e : id = x
  · subst e
    by_cases hl : id < own.length
    · rw [if_pos ⟨rfl, hl⟩, if_pos rfl]
    · rw [if_neg (fun h => hl h.2), if_pos rfl]
      have : lget gone own id = gone := by rw [lget_eq, List.getD_eq_getElem?_getD, List.getElem?_eq_none (by omega)]; rfl
      unfold OB.at
      rw [show lget (true, OB.gone) own id = gone from this]
  · rw [if_neg (fun h => e h.1), if_neg e]
theorem freezeId_local (id : Nat) : LocalF [id] (fun own => freezeId own id) := by
  refine ⟨fun own => lset_len _ _ _, fun own x hx => ?_, fun own own' x hx => ?_⟩
  · rw [freezeId_get, if_neg]
    rintro rfl; simp at hx
  · rw [freezeId_get, freezeId_get]
    split
    · rename_i e
      rw [e]
      unfold OB.at
      rw [show lget (true, OB.gone) own x = lget (true, OB.gone) own' x from hx]
    · exact hx
theorem id_local : LocalF [] (fun own => own) := ⟨fun _ => rfl, fun _ _ _ => rfl, fun _ _ _ h => h⟩
theorem freeze0_local (v : TV) : LocalF v.ids0 (fun own => freeze0 own v) := by
  have idl : ∀ w, LocalF w (fun own => own) := fun w => ⟨fun _ => rfl, fun _ _ _ => rfl, fun _ _ _ h => h⟩
  cases v with
  | vec id => exact freezeId_local id
  | _ => exact idl _
theorem freezeL_local : ∀ l : List TV, LocalF (idsL l) (fun own => freezeL own l)
  | [] => id_local
  | v :: vs => by
    have e : idsL (v :: vs) = v.ids0 ++ idsL vs := by show lapp _ _ = _; rw [lapp_eq]
    rw [e]
    exact (freeze0_local v).comp (freezeL_local vs)
theorem freeze_local (v : TV) : LocalF v.ids (fun own => freeze own v) := by
  have idl : ∀ w, LocalF w (fun own => own) := fun w => ⟨fun _ => rfl, fun _ _ _ => rfl, fun _ _ _ h => h⟩
  cases v with
  | vec id => exact freezeId_local id
  | agg l => exact freezeL_local l
  | _ => exact idl _
theorem freezeAll_local : ∀ l : List TV, LocalF (idsA l) (fun own => freezeAll own l)
  | [] => id_local
  | v :: vs => by
    rw [idsA_cons]
    exact (freeze_local v).comp (freezeAll_local vs)

section
variable {tb : TypeId → TyI} {Γ : FuncId → Con} {data : FuncId → Nat} {ids : List (Tmp × Nat)} {n : Nat}

theorem step_mono (hΓ : ∀ f args own K, Γ f args own K → ConOk (Γ f)) {own : Own} {k k' : TV → Own → Prop} (hk : ∀ v o, k v o → k' v o) {r : OpRes} (h : stepK Γ own k r) : stepK Γ own k' r := by
  cases r with
  | det s v o => exact conj_mono (hk v o) h
  | call f args tys => exact (hΓ _ _ _ _ h).1 _ _ _ _ hk h
  | _ => exact h

/-- What the footprint of an operation says of it: `B`: what is asked, a value and perhaps a block handed on; `E`: own memory behind it. -/
structure FootOk (Γ : FuncId → Con) (n : Nat) (f : Foot) (R : Own → OpRes) (B : Own → (TV → OB → Prop) → Prop) (E : OB → Own → Own) : Prop where
  none : ∀ own s v o id, R own ≠ .grow s v o id
  noB : ∀ own p, R own ≠ .anyB p
  pull : ∀ own k, stepK Γ own k (R own) ↔ B own fun v x => k v (E x own)
  mono : ∀ own k k', (∀ v x, k v x → k' v x) → B own k → B own k'
  some : ∀ own k, B own k → ∃ v x, k v x
  same : ∀ own own', Same f.r own own' → (f.ext = true → own.length = n ∧ own'.length = n) → ∀ k, B own k ↔ B own' k
  len : ∀ x own, (E x own).length = own.length + f.ext.toNat
  out : ∀ x own y, (f.ext = true → own.length = n) → y ∉ f.w → lget gone (E x own) y = lget gone own y
  inn : ∀ own own', Same f.r own own' → (f.ext = true → own.length = n ∧ own'.length = n) → (∃ k, B own k) → (∃ k, B own' k) → ∀ x, ∀ y ∈ f.w, lget gone (E x own) y = lget gone (E x own') y
  calls : f.ext = true → f.call = true
  det : f.call = false → ∀ own, ∃ (S : Prop) (v : TV) (x : OB), ∀ k, B own k ↔ S ∧ k v x
def FootEx (Γ : FuncId → Con) (n : Nat) (f : Foot) (R : Own → OpRes) : Prop := ∃ B E, FootOk Γ n f R B E

theorem foot_pure {f : Foot} {R : Own → OpRes} (hw : f.w = []) (hx : f.ext = false) (h : ∀ own own', Same f.r own own' → Pure2 own own' (R own) (R own')) : FootEx Γ n f R := by
  have h1 : ∀ own, R own = .bad ∨ ∃ s v, R own = .det s v own := fun own => by
    rcases h own own (fun _ _ => rfl) with ⟨h, _⟩ | ⟨s, v, h, _⟩
    · exact .inl h
    · exact .inr ⟨s, v, h⟩
  refine ⟨fun own k => stepK Γ own (fun v _ => k v .gone) (R own), fun _ own => own, ?_⟩
  refine ⟨fun own s v o id => ?_, fun own p => ?_, fun own k => ?_, fun own k k' hk hb => ?_, fun own k hb => ?_, fun own own' hs _ k => ?_, fun _ own => by rw [hx]; rfl, fun _ own y _ _ => rfl, fun own own' _ _ _ _ x y hy => absurd (hw ▸ hy) List.not_mem_nil, fun he => absurd (hx.symm.trans he) Bool.false_ne_true, fun _ own => ?_⟩
  · rcases h1 own with h | ⟨s, v, h⟩ <;> rw [h] <;> simp
  · rcases h1 own with h | ⟨s, v, h⟩ <;> rw [h] <;> simp
  · rcases h1 own with h | ⟨s, v, h⟩ <;> rw [h] <;> exact Iff.rfl
  · rcases h1 own with h | ⟨s, v, h⟩ <;> rw [h] at hb ⊢
    · exact hb
    · exact conj_mono (hk _ _) hb
  · rcases h1 own with h | ⟨s, v, h⟩ <;> rw [h] at hb
    · exact hb.elim
    · exact ⟨_, _, ((conj_iff _ _).1 hb).2⟩
  · rcases h own own' hs with ⟨h1, h2⟩ | ⟨s, v, h1, h2⟩ <;> simp only [h1, h2] <;> exact Iff.rfl
  · rcases h1 own with h | ⟨s, v, h⟩ <;> simp only [h]
    · exact ⟨False, .un, .gone, fun k => by simp [stepK]⟩
    · exact ⟨∀ p ∈ s, p, v, .gone, fun k => conj_iff _ _⟩
theorem foot_set {f : Foot} {R : Own → OpRes} (hx : f.ext = false) (h : ∀ own own', Same f.r own own' → Set2 f.w own own' (R own) (R own')) : FootEx Γ n f R := by
  have h1 : ∀ own, R own = .bad ∨ ∃ s v id X, R own = .det s v (lset own id X) ∧ f.w = [id] ∧ id < own.length := fun own => by
    rcases h own own (fun _ _ => rfl) with ⟨h, _⟩ | ⟨s, v, id, X, h, _, hm, hl, _⟩
    · exact .inl h
    · exact .inr ⟨s, v, id, X, h, hm, hl⟩
  refine ⟨fun own k => stepK Γ own (fun v _ => k v .gone) (R own), fun _ own => effOf own (R own), ?_⟩
  refine ⟨fun own s v o id => ?_, fun own p => ?_, fun own k => ?_, fun own k k' hk hb => ?_, fun own k hb => ?_, fun own own' hs _ k => ?_, fun _ own => ?_, fun _ own x _ hx => ?_, fun own own' hs _ hnb _ _ x hx => ?_, fun he => absurd (hx.symm.trans he) Bool.false_ne_true, fun _ own => ?_⟩
  · rcases h1 own with h | ⟨s, v, id, X, h, _⟩ <;> rw [h] <;> simp
  · rcases h1 own with h | ⟨s, v, id, X, h, _⟩ <;> rw [h] <;> simp
  · rcases h1 own with h | ⟨s, v, id, X, h, _⟩ <;> rw [h] <;> exact Iff.rfl
  · rcases h1 own with h | ⟨s, v, id, X, h, _⟩ <;> rw [h] at hb ⊢
    · exact hb
    · exact conj_mono (hk _ _) hb
  · rcases h1 own with h | ⟨s, v, id, X, h, _⟩ <;> rw [h] at hb
    · exact hb.elim
    · exact ⟨_, _, ((conj_iff _ _).1 hb).2⟩
  · rcases h own own' hs with ⟨h1, h2⟩ | ⟨s, v, id, X, h1, h2, _⟩ <;> simp only [h1, h2] <;> exact Iff.rfl
  · rw [hx]
    rcases h1 own with h | ⟨s, v, id, X, h, _⟩ <;> rw [h]
    · rfl
    · exact lset_len _ _ _
  · rcases h1 own with h | ⟨s, v, id, X, h, hm, _⟩ <;> rw [h]
    · rfl
    · show lget gone (lset own id X) x = _
      rw [lget_set, if_neg]
      rintro ⟨rfl, _⟩; exact hx (by rw [hm]; simp)
  · rcases h own own' hs with ⟨h2, h3⟩ | ⟨s, v, id, X, h2, h3, hm, l1, l2⟩
    · obtain ⟨k, hb⟩ := hnb
      rw [h2] at hb
      exact hb.elim
    · rw [h2, h3]
      show lget gone (lset own id X) x = lget gone (lset own' id X) x
      rw [hm] at hx
      have hx : x = id := by simpa using hx
      subst hx
      rw [lget_set, lget_set, if_pos ⟨rfl, l1⟩, if_pos ⟨rfl, l2⟩]
  · rcases h1 own with h | ⟨s, v, id, X, h, _⟩ <;> simp only [h]
    · exact ⟨False, .un, .gone, fun k => by simp [stepK]⟩
    · exact ⟨∀ p ∈ s, p, v, .gone, fun k => conj_iff _ _⟩

theorem foot_data {ps : List Ty} {T0 : List TV → (TV → Prop) → Prop} (hT : TOk T0) {f : Foot} {R : Own → OpRes} {args : List TV} (hr : f.r = idsA args) (hw : f.w = idsA args) (hc : f.call = true) (hx : f.ext = false)
    (h1 : ∀ own s v o id, R own ≠ .grow s v o id) (h2 : ∀ own p, R own ≠ .anyB p) (st : ∀ own k, stepK Γ own k (R own) = dataCon ps T0 args own k) : FootEx Γ n f R := by
  have hloc := freezeAll_local args
  refine ⟨fun own k => dataCon ps T0 args own fun v _ => k v .gone, fun _ own => freezeAll own args, h1, h2, fun own k => ?_, fun own k k' hk hb => ?_, fun own k hb => ?_, fun own own' hs _ k => ?_, fun _ own => by rw [hx]; exact hloc.1 own,
    fun _ own x _ hy => hloc.2.1 _ _ (hw ▸ hy), fun own own' hs _ _ _ _ x hy => hloc.2.2 _ _ _ (hs x (by rw [hr, ← hw]; exact hy)), fun _ => hc, fun h => absurd (h.symm.trans hc) Bool.false_ne_true⟩
  · rw [st]; exact Iff.rfl
  · unfold dataCon at hb ⊢
    split
    · rename_i e1 e2
      rw [e1, e2] at hb
      exact hT.1 _ _ _ (fun r => hk r _) hb
    · rename_i hx
      split at hb
      · rename_i e1 e2; exact (hx e1 e2).elim
      · exact hb
  · unfold dataCon at hb
    split at hb
    · obtain ⟨r, hr⟩ := hT.2 _ _ hb
      exact ⟨r, _, hr⟩
    · exact hb.elim
  · unfold dataCon
    rw [normR_same ps args (hr ▸ hs)]
theorem foot_lend {ps : List Ty} {T0 : TV → OB → List TV → (OB → TV → Prop) → Prop} (hT : LOk T0) {f : Foot} {R : Own → OpRes} {args : List TV} (hr : f.r = idsA args) (hw : f.w = idsA args) (hc : f.call = true) (hx : f.ext = false)
    (h1 : ∀ own s v o id, R own ≠ .grow s v o id) (h2 : ∀ own p, R own ≠ .anyB p) (st : ∀ own k, stepK Γ own k (R own) = lendCon ps T0 args own k) : FootEx Γ n f R := by
  match args with
  | [] =>
    refine ⟨fun _ _ => False, fun _ own => own, h1, h2, fun own k => by rw [st]; exact Iff.rfl, fun _ _ _ _ h => h, fun _ _ h => h.elim, fun _ _ _ _ _ => Iff.rfl, fun _ _ => by rw [hx]; rfl, fun _ _ _ _ _ => rfl, fun _ _ _ _ ⟨_, h⟩ => h.elim, fun _ => hc, fun h => absurd (h.symm.trans hc) Bool.false_ne_true⟩
  | a0 :: rest =>
    have hloc := freezeAll_local rest
    cases hid : lendId a0 with
    | none =>
      refine ⟨fun _ _ => False, fun _ own => own, h1, h2, fun own k => by rw [st]; unfold lendCon; simp only [hid], fun _ _ _ _ h => h, fun _ _ h => h.elim, fun _ _ _ _ _ => Iff.rfl, fun _ _ => by rw [hx]; rfl, fun _ _ _ _ _ => rfl, fun _ _ _ _ ⟨_, h⟩ => h.elim, fun _ => hc, fun h => absurd (h.symm.trans hc) Bool.false_ne_true⟩
    | some id =>
      have hmem : id ∈ idsA (a0 :: rest) := by
        rw [idsA_cons]
        cases a0 <;> simp [lendId] at hid <;> subst hid <;> simp [TV.ids, TV.ids0]
      have hsub : ∀ x ∈ idsA rest, x ∈ idsA (a0 :: rest) := fun x hx => by rw [idsA_cons]; simp [hx]
      let B : Own → (TV → OB → Prop) → Prop := fun own k =>
        match frozenAt (freezeAll own rest) id, lendOk a0 (OB.at own id), Nat.beq (llen ps) (llen rest), allB TV.plain (Ty.normR own ps rest) with
        | false, true, true, true => lendLen a0 (OB.at own id) (T0 (lend0 a0) (OB.at own id) (Ty.normR own ps rest) fun ob r => (match OB.alike (OB.at own id) ob with | true => k r ob | false => False))
        | _, _, _, _ => False
      refine ⟨B, fun x own => lset (freezeAll own rest) id (false, x), h1, h2, fun own k => ?_, fun own k k' hk hb => ?_, fun own k hb => ?_, fun own own' hs _ k => ?_, fun x own => by rw [lset_len, hloc.1, hx]; rfl, fun x own y _ hy => ?_, fun own own' hs _ ⟨k, hk⟩ ⟨k', hk'⟩ x y hy => ?_, fun _ => hc, fun h => absurd (h.symm.trans hc) Bool.false_ne_true⟩
      · rw [st]
        unfold lendCon
        simp only [hid]
        exact Iff.rfl
      · show B own k'
        have hb : B own k := hb
        simp only [B] at hb ⊢
        split at hb
        · rw [lendLen_iff] at hb ⊢
          refine ⟨hb.1, hT.1 _ _ _ _ _ (fun o r ho => ?_) hb.2⟩
          split
          · rename_i ha; rw [ha] at ho; exact hk _ _ ho
          · rename_i ha; rw [ha] at ho; exact ho
        · exact hb.elim
      · have hb : B own k := hb
        simp only [B] at hb
        split at hb
        · rw [lendLen_iff] at hb
          obtain ⟨o, r, ho⟩ := hT.2 _ _ _ _ hb.2
          split at ho
          · exact ⟨r, o, ho⟩
          · exact ho.elim
        · exact hb.elim
      · rw [hr] at hs
        have e1 := (hs.at_ hmem).1
        have e2 : frozenAt (freezeAll own rest) id = frozenAt (freezeAll own' rest) id := congrArg Prod.fst (hloc.2.2 own own' id (hs id hmem))
        have e3 := normR_same ps rest (hs.mono hsub)
        show B own k ↔ B own' k
        simp only [B]
        rw [e1, e2, e3]
      · rw [hw] at hy
        rw [lget_set, if_neg]
        · exact hloc.2.1 _ _ fun h => hy (hsub _ h)
        · rintro ⟨rfl, _⟩; exact hy hmem
      · rw [hr] at hs
        rw [hw] at hy
        have rng : ∀ (own : Own) (k : TV → OB → Prop), B own k → id < (freezeAll own rest).length := fun own k hb => by
          simp only [B] at hb
          split at hb
          · rename_i hz _ _ _; exact in_own hz
          · exact hb.elim
        rw [lget_set, lget_set]
        by_cases e : id = y
        · rw [if_pos ⟨e, rng _ _ hk⟩, if_pos ⟨e, rng _ _ hk'⟩]
        · rw [if_neg (fun h => e h.1), if_neg (fun h => e h.1)]
          exact hloc.2.2 _ _ _ (hs y hy)
theorem foot_fresh {ps : List Ty} {T0 : List TV → (OB → Prop) → Prop} (hT : FOk T0) {f : Foot} {R : Own → OpRes} {args : List TV} (hr : f.r = idsA args) (hw : f.w = n :: idsA args) (hc : f.call = true) (hx : f.ext = true)
    (h1 : ∀ own s v o id, R own ≠ .grow s v o id) (h2 : ∀ own p, R own ≠ .anyB p) (st : ∀ own k, stepK Γ own k (R own) = freshCon ps T0 args own k) : FootEx Γ n f R := by
  have hloc := freezeAll_local args
  let B : Own → (TV → OB → Prop) → Prop := fun own k =>
    match Nat.beq (llen ps) (llen args), allB TV.plain (Ty.normR own ps args) with
    | true, true => T0 (Ty.normR own ps args) fun ob => k (.vec (llen (freezeAll own args))) ob
    | _, _ => False
  refine ⟨B, fun ob own => lapp (freezeAll own args) [(false, ob)], h1, h2, fun own k => ?_, fun own k k' hk hb => ?_, fun own k hb => ?_, fun own own' hs hl k => ?_, fun x own => ?_, fun x own y hl hy => ?_, fun own own' hs hl _ _ x y hy => ?_,
    fun _ => hc, fun h => absurd (h.symm.trans hc) Bool.false_ne_true⟩
  · rw [st]; unfold freshCon; exact Iff.rfl
  · show B own k'
    have hb : B own k := hb
    simp only [B] at hb ⊢
    split at hb
    · exact hT.1 _ _ _ (fun r => hk _ r) hb
    · exact hb.elim
  · have hb : B own k := hb
    simp only [B] at hb
    split at hb
    · obtain ⟨r, hr⟩ := hT.2 _ _ hb
      exact ⟨_, r, hr⟩
    · exact hb.elim
  · show B own k ↔ B own' k
    simp only [B]
    have e : llen (freezeAll own args) = llen (freezeAll own' args) := by rw [llen_eq, llen_eq, show (freezeAll own args).length = own.length from hloc.1 own, show (freezeAll own' args).length = own'.length from hloc.1 own', (hl hx).1, (hl hx).2]
    rw [normR_same ps args (hr ▸ hs), e]
  · rw [lapp_eq, List.length_append, hloc.1, hx]; rfl
  · rw [hw, List.mem_cons, not_or] at hy
    have e : (freezeAll own args).length = own.length := hloc.1 own
    have hl := hl hx
    rw [lapp_eq, lget_eq, List.getD_eq_getElem?_getD, List.getElem?_append]
    split
    · rw [← List.getD_eq_getElem?_getD, ← lget_eq]; exact hloc.2.1 _ _ hy.2
    · rename_i hn
      rw [lget_eq, List.getD_eq_getElem?_getD, List.getElem?_eq_none (l := own) (by omega), List.getElem?_eq_none (by simp; omega)]
  · obtain ⟨l1, l2⟩ := hl hx
    have e : (freezeAll own args).length = own.length := hloc.1 own
    have e' : (freezeAll own' args).length = own'.length := hloc.1 own'
    show lget gone (lapp (freezeAll own args) [(false, x)]) y = lget gone (lapp (freezeAll own' args) [(false, x)]) y
    rw [lapp_eq, lapp_eq, lget_eq, lget_eq, List.getD_eq_getElem?_getD, List.getD_eq_getElem?_getD, List.getElem?_append, List.getElem?_append, e, e', l1, l2]
    split
    · rename_i hlt
      rw [hw] at hy
      have hy : y ∈ idsA args := (List.mem_cons.1 hy).resolve_left (by omega)
      rw [← List.getD_eq_getElem?_getD, ← List.getD_eq_getElem?_getD, ← lget_eq, ← lget_eq]
      exact hloc.2.2 _ _ _ (hs y (by rw [hr]; exact hy))
    · rfl

theorem slice_vec (t : Ty) (id : Nat) (lo hi mx : Option TV) {own own' : Own} (h : Same [id] own own') : Set2 [id] own own' (sliceRes t (.vec id) lo hi mx own) (sliceRes t (.vec id) lo hi mx own') := by
  have h1 := (h.at_ (x := id) (by simp)).1
  have hz : freezeId own id = lset own id (true, OB.at own' id) := by unfold freezeId; rw [h1]
  unfold sliceRes
  cases mx with
  | none =>
    simp only
    split
    · rw [h1, hz]
      split
      · rename_i ho
        split
        · exact .inr ⟨_, _, _, _, rfl, rfl, rfl, in_own2 (by rw [h1, ho]; simp), in_own2 (by rw [ho]; simp)⟩
        · exact .inl ⟨rfl, rfl⟩
      · rename_i ho
        split
        · exact .inr ⟨_, _, _, _, rfl, rfl, rfl, in_own2 (by rw [h1, ho]; simp), in_own2 (by rw [ho]; simp)⟩
        · exact .inl ⟨rfl, rfl⟩
      · exact .inl ⟨rfl, rfl⟩
    · exact .inl ⟨rfl, rfl⟩
  | some m =>
    have key : ∀ o : Own, sliceRes t (.vec id) lo hi (some m) o = .bad := fun o => by
      unfold sliceRes
      generalize optInt lo = a
      generalize optInt hi = b
      split
      · rename_i h; cases h
      · rcases a with _ | _ | (_ | _) | _ <;> rcases b with _ | _ | (_ | _) | _ <;> rfl
      · rfl
    unfold sliceRes at key
    exact .inl ⟨key own, key own'⟩
theorem slice_pure (t : Ty) (x : TV) (lo hi mx : Option TV) (hx : ∀ id, x ≠ .vec id) (own own' : Own) : Pure2 own own' (sliceRes t x lo hi mx own) (sliceRes t x lo hi mx own') := by
  unfold sliceRes
  cases mx with
  | none =>
    simp only
    split
    · cases x with
      | vec id => exact absurd rfl (hx id)
      | d a =>
        cases a <;> simp only <;> first | exact .inl ⟨rfl, rfl⟩ | (split <;> first | exact .inr ⟨_, _, rfl, rfl⟩ | exact .inl ⟨rfl, rfl⟩)
      | emp => simp only; split <;> first | exact .inr ⟨_, _, rfl, rfl⟩ | exact .inl ⟨rfl, rfl⟩
      | _ => exact .inl ⟨rfl, rfl⟩
    · exact .inl ⟨rfl, rfl⟩
  | some m =>
    split
    · rename_i h; cases h
    · split
      · split <;> first | exact .inr ⟨_, _, rfl, rfl⟩ | exact .inl ⟨rfl, rfl⟩
      · split <;> first | exact .inr ⟨_, _, rfl, rfl⟩ | exact .inl ⟨rfl, rfl⟩
      · exact .inl ⟨rfl, rfl⟩
    · exact .inl ⟨rfl, rfl⟩
theorem conv_same (s d : Ty) (x : TV) {own own' : Own} (h : Same x.ids own own') : Pure2 own own' (convRes s d x own) (convRes s d x own') := by
  unfold convRes
  split
  · split <;> first | exact .inr ⟨_, _, rfl, rfl⟩ | exact .inl ⟨rfl, rfl⟩
  · split <;> first | exact .inr ⟨_, _, rfl, rfl⟩ | exact .inl ⟨rfl, rfl⟩
  · split <;> first | exact .inr ⟨_, _, rfl, rfl⟩ | exact .inl ⟨rfl, rfl⟩
  · rename_i id
    have h1 := (h.at_ (x := id) (by simp [TV.ids, TV.ids0])).1
    rw [h1]
    split <;> first | exact .inr ⟨_, _, rfl, rfl⟩ | exact .inl ⟨rfl, rfl⟩
  · split <;> first | exact .inr ⟨_, _, rfl, rfl⟩ | exact .inl ⟨rfl, rfl⟩
  · exact .inl ⟨rfl, rfl⟩
theorem len_same (tys : List TypeId) (args : List TV) {own own' : Own} (hs : Same (idsA args) own own') : Pure2 own own' (builtinRes tb .len tys args own) (builtinRes tb .len tys args own') := by
  match args with
  | [] => exact .inl ⟨rfl, rfl⟩
  | [x] =>
    have hx : Same x.ids own own' := hs.mono fun y hy => by rw [idsA_cons]; simp [hy]
    cases tys with
    | nil => exact .inl ⟨rfl, rfl⟩
    | cons t r =>
      have e : ∀ o, builtinRes tb .len (t :: r) [x] o = (match lenTV (tb t).ty x o with | some n => .det [] (.d (.int .i64 n)) o | none => .bad) := fun o => rfl
      rw [e, e, lenTV_same (tb t).ty x hx]
      split
      · exact .inr ⟨_, _, rfl, rfl⟩
      · exact .inl ⟨rfl, rfl⟩
  | x :: y :: r =>
    have e : ∀ o, builtinRes tb .len tys (x :: y :: r) o = .bad := fun o => by
      unfold builtinRes
      split
      · rename_i h; cases h
      · rename_i h _; exact absurd h (by decide)
      · rename_i h _; exact absurd h (by decide)
      · rename_i h _; exact absurd h (by decide)
      · rfl
    rw [e, e]
    exact .inl ⟨rfl, rfl⟩

/-- The footprint of each operation is right. -/
theorem foot_ok (hdata : DataOk data Γ) (o : Oper) (t : List TV) (hok : (footOf tb data ids n o t).ok = true) : FootEx Γ n (footOf tb data ids n o t) (opResX tb ids o t) := by
  have pureC : allocs tb o.op = false → opCls tb o.op = 0 → mayAny o.op = false → ∀ f : Foot, f.w = [] → f.ext = false → FootEx Γ n f (opResX tb ids o t) := fun _ h1 h2 f hw hx => foot_pure hw hx fun own own' _ => by
    rcases cls0X (tb := tb) (ids := ids) h1 h2 t own own' with h | ⟨s, v, h, h'⟩
    · exact .inl h
    · exact .inr ⟨s, v, h, h'⟩
  have dflt : footOf tb data ids n o t = ⟨Nat.beq (opCls tb o.op) 0 && !mayAny o.op, false, [], [], false, softOp tb o.op t, false⟩ → allocs tb o.op = false → FootEx Γ n (footOf tb data ids n o t) (opResX tb ids o t) := fun e ha => by
    rw [e] at hok ⊢
    simp only [Bool.and_eq_true, Bool.not_eq_true'] at hok
    exact pureC ha (Nat.eq_of_beq_eq_true hok.1) hok.2 _ rfl rfl
  cases hop : o.op with
  | load ty p =>
    have e : footOf tb data ids n o t = ⟨true, false, (ev t p).ids, [], false, softOp tb o.op t, false⟩ := by unfold footOf; rw [hop]
    rw [e]
    refine foot_pure rfl rfl fun own own' hs => ?_
    rw [opResX_eq (by rw [hop]; rfl), opResX_eq (by rw [hop]; rfl)]
    unfold opRes
    rw [hop]
    exact loadRes_same _ _ hs
  | store ty p v =>
    have e : footOf tb data ids n o t = ⟨true, false, (ev t p).ids, (ev t p).ids, false, false, false⟩ := by unfold footOf; rw [hop]
    rw [e]
    refine foot_set rfl fun own own' hs => ?_
    rw [opResX_eq (by rw [hop]; rfl), opResX_eq (by rw [hop]; rfl)]
    unfold opRes
    rw [hop]
    exact storeRes_same _ _ _ hs
  | indexAddr ty x i =>
    have e : footOf tb data ids n o t = ⟨true, false, (ev t x).ids, [], false, false, false⟩ := by unfold footOf; rw [hop]
    rw [e]
    refine foot_pure rfl rfl fun own own' hs => ?_
    rw [opResX_eq (by rw [hop]; rfl), opResX_eq (by rw [hop]; rfl)]
    unfold opRes
    rw [hop]
    exact indexAddr_same _ _ _ hs
  | slice ty x lo hi mx =>
    have e : footOf tb data ids n o t = ⟨true, false, (ev t x).ids, (ev t x).ids, false, false, false⟩ := by unfold footOf; rw [hop]
    rw [e]
    have eX : ∀ own, opResX tb ids o t own = sliceRes (tb ty).ty (ev t x) (omap (ev t) lo) (omap (ev t) hi) (omap (ev t) mx) own := fun own => by
      rw [opResX_eq (by rw [hop]; rfl)]
      unfold opRes
      rw [hop]
    generalize ev t x = v at eX
    by_cases hv : ∃ id, v = .vec id
    · obtain ⟨id, rfl⟩ := hv
      refine foot_set rfl fun own own' hs => ?_
      rw [eX, eX]
      exact slice_vec _ _ _ _ _ hs
    · have hv : ∀ id, v ≠ .vec id := fun id e => hv ⟨id, e⟩
      by_cases hw : v.ids = []
      · rw [hw]
        refine foot_pure rfl rfl fun own own' _ => ?_
        rw [eX, eX]
        exact slice_pure _ _ _ _ _ hv _ _
      · have hb : ∀ own, sliceRes (tb ty).ty v (omap (ev t) lo) (omap (ev t) hi) (omap (ev t) mx) own = .bad := fun own => by
          have : ∀ a, v ≠ .d a := fun a e => hw (by rw [e]; rfl)
          have h2 : v ≠ .emp := fun e => hw (by rw [e]; rfl)
          unfold sliceRes
          split
          · split
            · cases v <;> first | rfl | exact absurd rfl (hv _) | exact absurd rfl (this _) | exact absurd rfl h2
            · rfl
          · split <;> first | rfl | exact absurd rfl (this _)
          · rfl
        refine foot_set rfl fun own own' _ => ?_
        rw [eX, eX, hb, hb]
        exact .inl ⟨rfl, rfl⟩
  | convert sr ds x =>
    have e : footOf tb data ids n o t = ⟨true, false, (ev t x).ids, [], false, false, false⟩ := by unfold footOf; rw [hop]
    rw [e]
    refine foot_pure rfl rfl fun own own' hs => ?_
    rw [opResX_eq (by rw [hop]; rfl), opResX_eq (by rw [hop]; rfl)]
    unfold opRes
    rw [hop]
    exact conv_same _ _ _ hs
  | alloc ty =>
    have e : footOf tb data ids n o t = (match o.dst with | some d => (match lassoc d ids with | some id => ⟨true, false, [id], [id], false, false, false⟩ | none => noFoot) | none => noFoot) := by unfold footOf; rw [hop]; rfl
    cases hd : o.dst with
    | none => rw [e, hd] at hok; cases hok
    | some d =>
      cases hl : lassoc d ids with
      | none => rw [e, hd] at hok; simp only [hl] at hok; cases hok
      | some id =>
        rw [e, hd]
        simp only [hl]
        refine foot_set rfl fun own own' hs => ?_
        have e2 : ∀ own, opResX tb ids o t own = (match (tb ty).ty, frozenAt own id with | .no, _ => .bad | _, true => .bad | ty, false => .det [] (.ptr id 0) (lset own id (false, .cells ty.zero))) := fun own => by
          unfold opResX
          rw [hop, hd]
          simp only [hl]
          rfl
        have hz := (hs.at_ (x := id) (by simp)).2
        rw [e2, e2, hz]
        cases hz' : frozenAt own' id with
        | true => cases (tb ty).ty <;> exact .inl ⟨rfl, rfl⟩
        | false =>
          have r1 := in_own hz'
          have r2 := in_own (hz.trans hz')
          cases (tb ty).ty with
          | no => exact .inl ⟨rfl, rfl⟩
          | _ => exact .inr ⟨_, _, _, _, rfl, rfl, rfl, r2, r1⟩
  | buildSlice ty q parts =>
    have e : footOf tb data ids n o t = (match (tb ty).lit with | true => ⟨true, false, [], [], false, softOp tb o.op t, false⟩ | false => (match o.dst with | some d => (match lassoc d ids with | some id => ⟨true, false, [id], [id], false, false, false⟩ | none => noFoot) | none => noFoot)) := by unfold footOf; rw [hop]; rfl
    cases hlit : (tb ty).lit with
    | true =>
      rw [e, hlit]
      exact pureC (by rw [hop]; simp [allocs, hlit]) (by rw [hop]; simp [opCls, hlit]) (by rw [hop]; rfl) _ rfl rfl
    | false =>
      cases hd : o.dst with
      | none => rw [e, hlit, hd] at hok; cases hok
      | some d =>
        cases hl : lassoc d ids with
        | none => rw [e, hlit, hd] at hok; simp only [hl] at hok; cases hok
        | some id =>
          rw [e, hlit, hd]
          simp only [hl]
          refine foot_set rfl fun own own' hs => ?_
          have e2 : ∀ own, opResX tb ids o t own = (match litOB (tb ty) q (lmap (fun p => (p.1, ev t p.2)) parts.toList) own, frozenAt own id with | some ob, false => .det [] (.vec id) (lset own id (false, ob)) | _, _ => .bad) := fun own => by
            unfold opResX
            rw [hop, hd]
            simp only [hl, hlit]
            rfl
          have e3 : litOB (tb ty) q (lmap (fun p => (p.1, ev t p.2)) parts.toList) own = litOB (tb ty) q (lmap (fun p => (p.1, ev t p.2)) parts.toList) own' := by
            have hq : ∀ z, litRows own z (tb ty).ecells q (lmap (fun p => (p.1, ev t p.2)) parts.toList) = litRows own' z (tb ty).ecells q (lmap (fun p => (p.1, ev t p.2)) parts.toList) := fun z => litRows_own own own' z _ _ 0 q
            unfold litOB
            simp only [hq]
          have hz := (hs.at_ (x := id) (by simp)).2
          rw [e2, e2, e3, hz]
          split
          · rename_i hz'
            exact .inr ⟨_, _, _, _, rfl, rfl, rfl, in_own (hz.trans hz'), in_own hz'⟩
          · exact .inl ⟨rfl, rfl⟩
  | call c =>
    have e : footOf tb data ids n o t = (match c.callee with
      | .builtin .len => ⟨true, false, idsA (lmap (ev t) c.args.toList), [], false, false, false⟩
      | .builtin .append => ⟨false, false, [], [], false, false, growing (lmap (ev t) c.args.toList)⟩
      | .value (.func f) => (match data f with | 1 => ⟨true, true, idsA (lmap (ev t) c.args.toList), idsA (lmap (ev t) c.args.toList), false, false, false⟩ | 2 => ⟨true, true, idsA (lmap (ev t) c.args.toList), n :: idsA (lmap (ev t) c.args.toList), true, false, false⟩ | _ => noFoot)
      | _ => noFoot) := by unfold footOf; rw [hop]; rfl
    have eX : ∀ own, opResX tb ids o t own = (match c.callee with
      | .builtin b => builtinRes tb b c.argTypes.toList (lmap (ev t) c.args.toList) own
      | .value (.func f) => .call f (lmap (ev t) c.args.toList) c.argTypes.toList
      | _ => .bad) := fun own => by
      rw [opResX_eq (by rw [hop]; rfl)]
      unfold opRes
      rw [hop]
      rfl
    cases hc : c.callee with
    | builtin b =>
      cases b with
      | len =>
        rw [e, hc]
        refine foot_pure rfl rfl fun own own' hs => ?_
        rw [eX, eX, hc]
        simp only at hs ⊢
        exact len_same _ _ hs
      | _ => rw [e, hc] at hok; cases hok
    | value x =>
      cases x with
      | func f =>
        have eY : ∀ own, opResX tb ids o t own = .call f (lmap (ev t) c.args.toList) c.argTypes.toList := fun own => by rw [eX, hc]
        have h1 : ∀ own s v o' id, opResX tb ids o t own ≠ .grow s v o' id := fun own s v o' id => by rw [eY]; simp
        have h2 : ∀ own p, opResX tb ids o t own ≠ .anyB p := fun own p => by rw [eY]; simp
        generalize lmap (ev t) c.args.toList = args at eY e
        rw [hc] at e
        match hdf : data f with
        | 1 =>
          simp only [hdf] at e
          rw [e]
          rcases (hdata f).1 hdf with ⟨ps, T0, hT0, hG⟩ | ⟨ps, T0, hT0, hG⟩
          · exact foot_data hT0 (args := args) rfl rfl rfl rfl h1 h2 fun own k => by rw [eY]; show Γ f args own k = _; rw [hG]
          · exact foot_lend hT0 (args := args) rfl rfl rfl rfl h1 h2 fun own k => by rw [eY]; show Γ f args own k = _; rw [hG]
        | 2 =>
          simp only [hdf] at e
          rw [e]
          obtain ⟨ps, T0, hT0, hG⟩ := (hdata f).2 hdf
          exact foot_fresh hT0 (args := args) rfl rfl rfl rfl h1 h2 fun own k => by rw [eY]; show Γ f args own k = _; rw [hG]
        | 0 => simp only [hdf] at e; rw [e] at hok; cases hok
        | n + 3 => simp only [hdf] at e; rw [e] at hok; cases hok
      | _ => rw [e, hc] at hok; cases hok
    | _ => rw [e, hc] at hok; cases hok
  | _ =>
    refine dflt ?_ (by rw [hop]; rfl)
    unfold footOf
    rw [hop]

theorem memN_iff {x : Nat} : ∀ {l : List Nat}, memN x l = true ↔ x ∈ l
  | [] => by simp [memN]
  | y :: r => by
    unfold memN
    by_cases h : x = y
    · subst h; simp
    · have : Nat.beq x y = false := by
        cases hb : Nat.beq x y with
        | false => rfl
        | true => exact absurd (Nat.eq_of_beq_eq_true hb) h
      rw [this]
      simp [h, memN_iff (l := r)]
theorem disj_iff {m : List Nat} : ∀ {l : List Nat}, disj l m = true ↔ ∀ x ∈ l, x ∉ m
  | [] => by simp [disj]
  | y :: r => by
    unfold disj
    cases h : memN y m with
    | true => simp [memN_iff.1 h]
    | false =>
      have : y ∉ m := fun hm => by rw [memN_iff.2 hm] at h; cases h
      simp [this, disj_iff (l := r)]

/-- Two operations whose footprints leave each other alone change places. -/
theorem swapRunF (_ : ∀ f args own K, Γ f args own K → ConOk (Γ f)) {fa fi : Foot} {Ra Ri : Own → OpRes} (ha : FootEx Γ n fa Ra) (hi : FootEx Γ n fi Ri) (hc : (fa.call && fi.call) = false)
    (d1 : ∀ x ∈ fa.w, x ∉ fi.w) (d2 : ∀ x ∈ fa.w, x ∉ fi.r) (d3 : ∀ x ∈ fi.w, x ∉ fa.r) {own : Own} (hn : own.length = n) {k : TV → TV → Own → Prop}
    (h : stepK Γ own (fun v own' => stepK Γ own' (fun v' own'' => k v v' own'') (Ri own')) (Ra own)) :
    stepK Γ own (fun v' own' => stepK Γ own' (fun v own'' => k v v' own'') (Ra own')) (Ri own) := by
  obtain ⟨Ba, Ea, ha⟩ := ha
  obtain ⟨Bi, Ei, hi⟩ := hi
  -- not both make a block
  have la : fi.ext = true → ∀ x, (Ea x own).length = n := fun he x => by
    have h1 := hi.calls he
    have h2 : fa.ext = false := by
      cases hx : fa.ext with
      | false => rfl
      | true => have := ha.calls hx; rw [h1, this] at hc; cases hc
    rw [ha.len, h2]; exact hn
  have li : fa.ext = true → ∀ x, (Ei x own).length = n := fun he x => by
    have h1 := ha.calls he
    have h2 : fi.ext = false := by
      cases hx : fi.ext with
      | false => rfl
      | true => have := hi.calls hx; rw [h1, this] at hc; cases hc
    rw [hi.len, h2]; exact hn
  have sia : ∀ x, Same fi.r (Ea x own) own := fun x y hy => ha.out _ _ _ (fun _ => hn) fun hw => d2 y hw hy
  have sai : ∀ x, Same fa.r own (Ei x own) := fun x y hy => (hi.out _ _ _ (fun _ => hn) fun hw => d3 y hw hy).symm
  have h' : Ba own fun v x => Bi own fun v' x' => k v v' (Ei x' (Ea x own)) := by
    refine ha.mono _ _ _ (fun v x hv => ?_) ((ha.pull _ _).1 h)
    exact (hi.same _ _ (sia x) (fun he => ⟨la he x, hn⟩) _).1 ((hi.pull _ _).1 hv)
  have na : ∃ k, Ba own k := ⟨_, h'⟩
  have ni : ∃ k, Bi own k := by
    obtain ⟨v, x, hv⟩ := ha.some _ _ h'
    exact ⟨_, hv⟩
  have na' : ∀ x, ∃ k, Ba (Ei x own) k := fun x => ⟨_, (ha.same _ _ (sai x) (fun he => ⟨hn, li he x⟩) _).1 h'⟩
  have ni' : ∀ x, ∃ k, Bi (Ea x own) k := fun x => by
    obtain ⟨k, hk⟩ := ni
    exact ⟨k, (hi.same _ _ (sia x) (fun he => ⟨la he x, hn⟩) _).2 hk⟩
  have heq : ∀ x x', Ei x' (Ea x own) = Ea x (Ei x' own) := fun x x' => by
    have hl : (Ei x' (Ea x own)).length = (Ea x (Ei x' own)).length := by rw [hi.len, ha.len, ha.len, hi.len]; omega
    have hx : ∀ y, lget gone (Ei x' (Ea x own)) y = lget gone (Ea x (Ei x' own)) y := fun y => by
      by_cases h1 : y ∈ fa.w
      · rw [hi.out _ _ _ (fun he => la he x) (d1 y h1)]
        exact ha.inn _ _ (sai x') (fun he => ⟨hn, li he x'⟩) na (na' x') x y h1
      · rw [ha.out _ _ _ (fun he => li he x') h1]
        by_cases h2 : y ∈ fi.w
        · exact (hi.inn _ _ (fun z hz => (sia x z hz).symm) (fun he => ⟨hn, la he x⟩) ni (ni' x) x' y h2).symm
        · rw [hi.out _ _ _ (fun he => la he x) h2, ha.out _ _ _ (fun _ => hn) h1, hi.out _ _ _ (fun _ => hn) h2]
    apply List.ext_getElem?
    intro y
    have := hx y
    rw [lget_eq, lget_eq, List.getD_eq_getElem?_getD, List.getD_eq_getElem?_getD] at this
    by_cases hlt : y < (Ei x' (Ea x own)).length
    · rw [List.getElem?_eq_getElem hlt, List.getElem?_eq_getElem (by rw [← hl]; exact hlt)] at this ⊢
      simpa using this
    · rw [List.getElem?_eq_none (by omega), List.getElem?_eq_none (by omega)]
  have goal : Bi own fun v' x' => Ba own fun v x => k v v' (Ei x' (Ea x own)) := by
    cases hca : fa.call with
    | false =>
      obtain ⟨S, v, x, hS⟩ := ha.det hca own
      have h2 := (hS _).1 h'
      exact hi.mono _ _ _ (fun v' x' hv => (hS _).2 ⟨h2.1, hv⟩) h2.2
    | true =>
      have hci : fi.call = false := by rw [hca] at hc; simpa using hc
      obtain ⟨S, v', x', hS⟩ := hi.det hci own
      refine (hS _).2 ?_
      have h2 : Ba own fun v x => S ∧ k v v' (Ei x' (Ea x own)) := ha.mono _ _ _ (fun v x hv => (hS _).1 hv) h'
      obtain ⟨v, x, hv⟩ := ha.some _ _ h2
      exact ⟨hv.1, ha.mono _ _ _ (fun v x hv => hv.2) h2⟩
  refine (hi.pull _ _).2 (hi.mono _ _ _ (fun v' x' hv => ?_) goal)
  refine (ha.pull _ _).2 ((ha.same _ _ (sai x') (fun he => ⟨hn, li he x'⟩) _).1 (ha.mono _ _ _ (fun v x hv => ?_) hv))
  rw [← heq]; exact hv
end
end Go.Vc
end

section
/- VcSc: two operations of a region, guarded perhaps, change places. -/
namespace Go.Vc

section
variable {tb : TypeId → TyI} {Γ : FuncId → Con} {data : FuncId → Nat} {ids : List (Tmp × Nat)} {n : Nat}

/-- The same, but that a truth may be known. -/
def Like (v' v : TV) : Prop := v' = v ∨ ((v' = .bt ∨ v' = .bf) ∧ ∃ b, v = .d (.bool b))
theorem Like.ids_eq {v' v : TV} (h : Like v' v) : v'.ids = v.ids := by
  rcases h with rfl | ⟨rfl | rfl, b, rfl⟩ <;> rfl
theorem Like.ptr {v' v : TV} (h : Like v' v) : isPtrV v' = isPtrV v := by
  rcases h with rfl | ⟨rfl | rfl, b, rfl⟩ <;> rfl
theorem Like.int {v' v : TV} (h : Like v' v) : isIntV v' = isIntV v := by
  rcases h with rfl | ⟨rfl | rfl, b, rfl⟩ <;> rfl
theorem like_grow {f g : Operand → TV} : ∀ l : List Operand, (∀ x ∈ l, Like (f x) (g x)) → growing (lmap f l) = growing (lmap g l)
  | [], _ => rfl
  | [x], _ => by
    show growing [f x] = growing [g x]
    have : ∀ v : TV, growing [v] = false := fun v => by cases v <;> rfl
    rw [this, this]
  | [x, y], h => by
    show growing [f x, f y] = growing [g x, g y]
    have no : ∀ v b, growing [v, .d (.bool b)] = false := fun v b => by cases v <;> rfl
    have n1 : ∀ v, growing [v, .bt] = false := fun v => by cases v <;> rfl
    have n2 : ∀ v, growing [v, .bf] = false := fun v => by cases v <;> rfl
    rcases h y (by simp) with e | ⟨e, b, e'⟩
    · rw [e]
      rcases h x (by simp) with e | ⟨e | e, b, e'⟩
      · rw [e]
      · rw [e, e']; rfl
      · rw [e, e']; rfl
    · rw [e', no]
      rcases e with e | e <;> rw [e]
      · exact n1 _
      · exact n2 _
  | x :: y :: z :: r, _ => by
    show growing (f x :: f y :: f z :: lmap f r) = growing (g x :: g y :: g z :: lmap g r)
    have : ∀ (a b c : TV) (l : List TV), growing (a :: b :: c :: l) = false := fun a b c l => by unfold growing; split <;> first | rfl | (rename_i h; simp at h)
    rw [this, this]
theorem soft_congr {o : Op} {t t' : List TV} (h : ∀ x ∈ o.operands.toList, Like (ev t' x) (ev t x)) : softOp tb o t' = softOp tb o t := by
  cases o with
  | load ty p => exact (h p (by simp [Op.operands])).ptr
  | fieldAddr ty x f => exact (h x (by simp [Op.operands])).ptr
  | buildSlice ty q parts =>
    unfold softOp
    simp only
    have key : ∀ l : List (Nat × Operand), (∀ p ∈ l, isIntV (ev t' p.2) = isIntV (ev t p.2)) → allB (fun p : Nat × Operand => isIntV (ev t' p.2)) l = allB (fun p : Nat × Operand => isIntV (ev t p.2)) l := by
      intro l
      induction l with
      | nil => exact fun _ => rfl
      | cons x r ih =>
        intro hx
        rw [allB_eq, allB_eq, List.all_cons, List.all_cons, ← allB_eq, ← allB_eq, hx x (by simp), ih fun y hy => hx y (by simp [hy])]
    have this := key parts.toList fun p hp => (h p.2 (by simp [Op.operands]; exact ⟨p.1, by simpa using hp⟩)).int
    rw [this]
  | _ => rfl
theorem foot_congr {o : Oper} {t t' : List TV} (hk : ∀ x ∈ o.op.operands.toList, Like (ev t' x) (ev t x)) : footOf tb data ids n o t' = footOf tb data ids n o t := by
  have h := fun x hx => (hk x hx).ids_eq
  have hs := soft_congr (tb := tb) hk
  have hl : ∀ l : List Operand, (∀ x ∈ l, (ev t' x).ids = (ev t x).ids) → idsA (lmap (ev t') l) = idsA (lmap (ev t) l) := by
    intro l
    induction l with
    | nil => exact fun _ => rfl
    | cons x r ih =>
      intro hx
      show idsA (ev t' x :: lmap (ev t') r) = idsA (ev t x :: lmap (ev t) r)
      rw [idsA_cons, idsA_cons, hx x (by simp), ih fun y hy => hx y (by simp [hy])]
  unfold footOf
  cases hop : o.op with
  | load ty p => simp only [hop] at h hs ⊢; rw [h p (by simp [Op.operands]), hs]
  | store ty p v => simp only [hop] at h ⊢; rw [h p (by simp [Op.operands])]
  | indexAddr ty x i => simp only [hop] at h ⊢; rw [h x (by simp [Op.operands])]
  | slice ty x lo hi mx => simp only [hop] at h ⊢; rw [h x (by simp [Op.operands])]
  | convert sr ds x => simp only [hop] at h ⊢; rw [h x (by simp [Op.operands])]
  | call c =>
    simp only [hop] at h hk ⊢
    have hm : ∀ x ∈ c.args.toList, x ∈ (Op.call c).operands.toList := fun x hx => by simp [Op.operands, Call.operands]; exact .inr (by simpa using hx)
    rw [hl c.args.toList fun x hx => h x (hm x hx), like_grow c.args.toList fun x hx => hk x (hm x hx)]
  | alloc ty => rfl
  | _ => simp only [hop] at hs ⊢; rw [hs]
theorem foot_any {o : Oper} {t : List TV} (h : (footOf tb data ids n o t).ok = true) {n' : Nat} (t' : List TV) : (footOf tb data ids n' o t').ok = true := by
  have key : (footOf tb data ids n' o t').ok = (footOf tb data ids n o t).ok := by
    unfold footOf
    cases o.op with
    | call c =>
      simp only
      split <;> first | rfl | (split <;> rfl)
    | buildSlice ty q parts =>
      simp only
      cases (tb ty).lit <;> rfl
    | _ => rfl
  rw [key]; exact h

theorem bit_ids {tm : List TV} {g : Nat} {b : Bool} (hg : lget .un tm g = .d (.bool b)) {y : TV} (hy : y = .bt ∨ y = .bf) (x : Operand) : Like (ev (lset tm g y) x) (ev tm x) := by
  cases x with
  | tmp t =>
    show Like (lget .un (lset tm g y) t) (lget .un tm t)
    by_cases e : g = t
    · subst e
      rw [lget_lset_self (in_range (by rw [hg]; intro h; cases h)), hg]
      exact .inr ⟨hy, b, rfl⟩
    · rw [lget_lset_ne e]; exact .inl rfl
  | _ => exact .inl rfl
theorem res_ids {all : List Oper} {o : Oper} {tm t : List TV} {m : Bool} (h : res all o tm = some (m, t)) (x : Operand) : Like (ev t x) (ev tm x) := by
  unfold res at h
  cases hg : o.guard with
  | none => rw [hg] at h; simp only [Option.some.injEq, Prod.mk.injEq] at h; rw [h.2]; exact .inl rfl
  | some p =>
    obtain ⟨j, want⟩ := p
    rw [hg] at h
    simp only at h
    cases hy : yieldTmp all j with
    | none => rw [hy] at h; simp only [Option.some.injEq, Prod.mk.injEq] at h; rw [h.2]; exact .inl rfl
    | some g =>
      rw [hy] at h
      simp only at h
      split at h
      · simp only [Option.some.injEq, Prod.mk.injEq] at h; rw [h.2]; exact .inl rfl
      · simp only [Option.some.injEq, Prod.mk.injEq] at h; rw [h.2]; exact .inl rfl
      · simp only [Option.some.injEq, Prod.mk.injEq] at h; rw [h.2]; exact .inl rfl
      · rename_i hl; simp only [Option.some.injEq, Prod.mk.injEq] at h; rw [← h.2]; exact bit_ids hl (.inl rfl) x
      · rename_i hl; simp only [Option.some.injEq, Prod.mk.injEq] at h; rw [← h.2]; exact bit_ids hl (.inr rfl) x
      · cases h
theorem foot_res {all : List Oper} {o : Oper} {tm t : List TV} {m : Bool} (h : res all o tm = some (m, t)) (q : Oper) : footOf tb data ids n q t = footOf tb data ids n q tm := foot_congr fun x _ => res_ids h x
theorem foot_put {o : Oper} {tm : List TV} {d : Option Tmp} {v : TV} (h : readsDst o d = false) : footOf tb data ids n o (put tm d v) = footOf tb data ids n o tm := foot_congr fun _ hx => .inl (ev_put_of h hx)

/-- Two operations, guarded perhaps, change places if they do without their guards. -/
theorem swapG {all : List Oper} {a i : Oper} (hga : guardFree all a i = true) (hgi : guardFree all i a = true) (hst : sameTmp a.dst i.dst = false) (hr1 : readsDst i a.dst = false) (hr2 : readsDst a i.dst = false)
    (hΓ : ∀ f args own K, Γ f args own K → ConOk (Γ f))
    (la : (∀ tm own s v o' id, opResX tb ids a tm own ≠ .grow s v o' id) ∧ ∀ tm own p, opResX tb ids a tm own ≠ .anyB p)
    (li : (∀ tm own s v o' id, opResX tb ids i tm own ≠ .grow s v o' id) ∧ ∀ tm own p, opResX tb ids i tm own ≠ .anyB p)
    {tm : List TV} {own : Own} {K : List TV → Own → Prop}
    (core : ∀ t, (∀ q, footOf tb data ids n q t = footOf tb data ids n q tm) → ∀ (k : TV → TV → Own → Prop), stepK Γ own (fun v own' => stepK Γ own' (fun v' own'' => k v v' own'') (opResX tb ids i t own')) (opResX tb ids a t own) →
      stepK Γ own (fun v' own' => stepK Γ own' (fun v own'' => k v v' own'') (opResX tb ids a t own')) (opResX tb ids i t own))
    (h : awpOps tb Γ ids all [a, i] tm own K) : awpOps tb Γ ids all [i, a] tm own K := by
  have ci : ∀ (t : List TV) (v : TV) (o : Own), opResX tb ids i (put t a.dst v) o = opResX tb ids i t o := fun t v o => opResX_congr fun x hx => ev_put_of hr1 hx
  have ca : ∀ (t : List TV) (v : TV) (o : Own), opResX tb ids a (put t i.dst v) o = opResX tb ids a t o := fun t v o => opResX_congr fun x hx => ev_put_of hr2 hx
  rw [awpOps_res la.1 la.2] at h
  cases hra : res all a tm with
  | none => rw [hra] at h; exact h.elim
  | some p =>
    obtain ⟨ma, ta⟩ := p
    rw [hra] at h
    simp only at h
    have e1 : ∀ v own', awpOps tb Γ ids all [i] (put ta a.dst v) own' K ↔ _ := fun v own' => awpOps_res (tm := put ta a.dst v) (own := own') (rest := []) (all := all) (K := K) li.1 li.2
    have e2 : ∀ v, res all i (put ta a.dst v) = (res all i ta).map fun p => (p.1, put p.2 a.dst v) := fun v => res_put (guardFree_dst hgi)
    have h : stepM ma Γ own (fun v own' => match (res all i ta).map fun p => (p.1, put p.2 a.dst v) with
        | none => False
        | some (m, tm') => stepM m Γ own' (fun v own' => awpOps tb Γ ids all [] (put tm' i.dst v) own' K) (opResX tb ids i tm' own')) (opResX tb ids a ta own) := by
      have : (fun v own' => awpOps tb Γ ids all [i] (put ta a.dst v) own' K) = (fun v own' => match (res all i ta).map fun p => (p.1, put p.2 a.dst v) with
        | none => False
        | some (m, tm') => stepM m Γ own' (fun v own' => awpOps tb Γ ids all [] (put tm' i.dst v) own' K) (opResX tb ids i tm' own')) := by
        funext v own'
        rw [← e2 v]
        exact propext (e1 v own')
      rw [← this]; exact h
    have noF : ∀ (m : Bool) (r : OpRes), ¬ stepM m Γ own (fun _ _ => False) r := by
      intro m r hx
      cases m with
      | false => exact hx
      | true =>
        cases r with
        | det s v o => exact ((conj_iff _ _).1 hx).2
        | call f args tys =>
          obtain ⟨_, _, hr⟩ := (hΓ _ _ _ _ hx).2 _ _ _ hx
          exact hr
        | _ => exact hx
    cases hri : res all i ta with
    | none =>
      rw [hri] at h
      exact (noF _ _ h).elim
    | some q =>
      obtain ⟨mi, tia⟩ := q
      rw [hri] at h
      simp only [Option.map_some] at h
      obtain ⟨ti, k1, k2, k3, k4⟩ := res_comm (tb := tb) hga hgi hra hri
      rw [awpOps_res li.1 li.2, k1]
      simp only
      have e3 : ∀ v own', awpOps tb Γ ids all [a] (put ti i.dst v) own' K ↔ stepM ma Γ own' (fun v' own' => awpOps tb Γ ids all [] (put (put tia i.dst v) a.dst v') own' K) (opResX tb ids a (put tia i.dst v) own') := fun v own' => by
        rw [awpOps_res la.1 la.2, res_put (guardFree_dst hga), k2]
        rfl
      have e4 : (fun v own' => awpOps tb Γ ids all [a] (put ti i.dst v) own' K) = fun v own' => stepM ma Γ own' (fun v' own' => awpOps tb Γ ids all [] (put (put tia a.dst v') i.dst v) own' K) (opResX tb ids a tia own') := by
        funext v own'
        refine (propext (e3 v own')).trans ?_
        rw [ca]
        congr 1
        funext v' own''
        rw [put_comm hst]
      rw [e4, ← k4]
      rw [← k3] at h
      simp only [ci] at h
      cases ma with
      | false => exact h
      | true =>
        cases mi with
        | false => exact h
        | true =>
          have hf : ∀ q, footOf tb data ids n q tia = footOf tb data ids n q tm := fun q => (foot_res hri q).trans (foot_res hra q)
          exact core tia hf (fun v v' own'' => awpOps tb Γ ids all [] (put (put tia a.dst v) i.dst v') own'' K) h

theorem indX_get {all : List Oper} {a i : Oper} {fa fi : Foot} (h : indX tb all a fa i fi = true) : guardFree all a i = true ∧ guardFree all i a = true ∧ sameTmp a.dst i.dst = false ∧ readsDst i a.dst = false ∧ readsDst a i.dst = false ∧ (indep0 tb a i = true ∨ indF fa fi = true) := by
  simp only [indX, indStat, Bool.and_eq_true, Bool.or_eq_true, Bool.not_eq_true'] at h
  obtain ⟨⟨⟨h1, h2⟩, ⟨h3, h4⟩, h5⟩, h6⟩ := h
  exact ⟨h1, h2, h3, h4, h5, h6⟩

theorem swapX {all : List Oper} {a i : Oper} (hdata : DataOk data Γ) (hΓ : ∀ f args own K, Γ f args own K → ConOk (Γ f)) {tm : List TV} {own : Own} (hn : own.length = n) {K : List TV → Own → Prop}
    (hi : indX tb all a (footOf tb data ids n a tm) i (footOf tb data ids n i tm) = true)
    (h : awpOps tb Γ ids all [a, i] tm own K) : awpOps tb Γ ids all [i, a] tm own K := by
  obtain ⟨hga, hgi, hst, hr1, hr2, hc⟩ := indX_get hi
  rcases hc with h0 | h0
  · have h0' := h0
    simp only [indep0, Bool.and_eq_true, Bool.not_eq_true'] at h0'
    obtain ⟨⟨⟨⟨⟨hf, hma⟩, hmi⟩, _⟩, _⟩, _⟩ := h0'
    have hclass : (opCls tb a.op ≤ 1 ∨ opCls tb a.op = 2) ∧ (opCls tb i.op ≤ 1 ∨ opCls tb i.op = 2) := by
      unfold free2 at hf
      split at hf
      · rename_i h1 h2; exact ⟨.inl (Nat.le_of_ble_eq_true h1), .inl (Nat.le_of_ble_eq_true h2)⟩
      · simp only [Bool.and_eq_true] at hf; exact ⟨.inl (by rw [Nat.eq_of_beq_eq_true hf.1]; decide), .inr (Nat.eq_of_beq_eq_true hf.2)⟩
      · simp only [Bool.and_eq_true] at hf; exact ⟨.inr (Nat.eq_of_beq_eq_true hf.1), .inl (by rw [Nat.eq_of_beq_eq_true hf.2]; decide)⟩
      · cases hf
    have low : ∀ {o : Oper}, (opCls tb o.op ≤ 1 ∨ opCls tb o.op = 2) → mayAny o.op = false → (∀ tm own s v o' id, opResX tb ids o tm own ≠ .grow s v o' id) ∧ ∀ tm own p, opResX tb ids o tm own ≠ .anyB p := by
      intro o h1 h2
      refine ⟨fun tm own s v o' id => ?_, fun tm own p => ?_⟩
      · rcases h1 with h1 | h1
        · rcases cls1X (tb := tb) (ids := ids) h1 h2 tm own with h | ⟨s, v, h⟩ <;> rw [h] <;> simp
        · rcases cls2X (tb := tb) (ids := ids) h1 tm own with h | ⟨s, v, o', h⟩ | ⟨f, args, tys, h⟩ <;> rw [h] <;> simp
      · rcases h1 with h1 | h1
        · rcases cls1X (tb := tb) (ids := ids) h1 h2 tm own with h | ⟨s, v, h⟩ <;> rw [h] <;> simp
        · rcases cls2X (tb := tb) (ids := ids) h1 tm own with h | ⟨s, v, o', h⟩ | ⟨f, args, tys, h⟩ <;> rw [h] <;> simp
    exact swapG (data := data) (n := n) hga hgi hst hr1 hr2 hΓ (low hclass.1 hma) (low hclass.2 hmi) (fun t _ k hk => swapRun h0 hΓ hk) h
  · have h0' := h0
    simp only [indF, Bool.and_eq_true, Bool.not_eq_true'] at h0'
    obtain ⟨⟨⟨⟨⟨oa, oi⟩, hcc⟩, d1⟩, d2⟩, d3⟩ := h0'
    have low : ∀ {o : Oper}, (footOf tb data ids n o tm).ok = true → (∀ tm own s v o' id, opResX tb ids o tm own ≠ .grow s v o' id) ∧ ∀ tm own p, opResX tb ids o tm own ≠ .anyB p := fun ho =>
      ⟨fun t own s v o' id => (foot_ok (n := n) hdata _ t (foot_any ho t)).elim fun _ ⟨_, h⟩ => h.none own s v o' id, fun t own p => (foot_ok (n := n) hdata _ t (foot_any ho t)).elim fun _ ⟨_, h⟩ => h.noB own p⟩
    refine swapG (data := data) (n := n) hga hgi hst hr1 hr2 hΓ (low oa) (low oi) (fun t ht k hk => ?_) h
    have fa := foot_ok (tb := tb) (ids := ids) (n := n) hdata a t (foot_any oa t)
    have fi := foot_ok (tb := tb) (ids := ids) (n := n) hdata i t (foot_any oi t)
    rw [ht] at fa fi
    exact swapRunF hΓ fa fi hcc (disj_iff.1 d1) (disj_iff.1 d2) (disj_iff.1 d3) hn hk
end
end Go.Vc
end

section
/- VcSd: loads and addresses make way for an append to an own slice. -/
namespace Go.Vc

theorem lget_lmap {f : TV → TV} (hf : f .un = .un) (l : List TV) (n : Nat) : lget .un (lmap f l) n = f (lget .un l n) := by
  rw [lmap_eq, lget_eq, lget_eq, List.getD_eq_getElem?_getD, List.getD_eq_getElem?_getD, List.getElem?_map]
  cases l[n]? with
  | none => exact hf.symm
  | some x => rfl
theorem kill1_ptr {id : Nat} {x : TV} {j off : Nat} (h : kill1 id x = .ptr j off) : x = .ptr j off ∧ j ≠ id := by
  cases x with
  | ptr i o =>
    simp only [kill1, kill0] at h
    split at h
    · cases h
    · rename_i hb
      injection h with h1 h2
      subst h1 h2
      refine ⟨rfl, fun e => ?_⟩
      subst e
      simp at hb
  | vec i => simp only [kill1, kill0] at h; split at h <;> cases h
  | optr i a b => simp only [kill1, kill0] at h; split at h <;> cases h
  | _ => simp [kill1, kill0] at h
theorem kill1_ptr_ne {id j off : Nat} (h : j ≠ id) : kill1 id (.ptr j off) = .ptr j off := by
  simp only [kill1, kill0]
  split
  · rename_i hb; exact absurd (Nat.eq_of_beq_eq_true hb) h
  · rfl
theorem flat_kill (id : Nat) (v : TV) : flatV (kill0 id v) = kill1 id (flatV v) := by
  cases v with
  | ptr i o => simp only [flatV, kill1, kill0]; cases Nat.beq i id <;> rfl
  | vec i => simp only [flatV, kill1, kill0]; cases Nat.beq i id <;> rfl
  | optr i a b => simp only [flatV, kill1, kill0]; cases Nat.beq i id <;> rfl
  | _ => rfl
theorem cv_no_ptr (c : Value) (j off : Nat) : cv c ≠ .ptr j off := by
  intro h
  unfold cv at h
  split at h
  · cases h
  · unfold cv0 at h
    split at h <;> cases h

section
variable {tb : TypeId → TyI} {Γ : FuncId → Con} {data : FuncId → Nat} {ids : List (Tmp × Nat)} {n : Nat}

theorem ev_ptr_back {tm : List TV} {ad : Option Tmp} {v : TV} {id : Nat} {x : Operand} (hx : ∀ t, ad = some t → x ≠ .tmp t) {j off : Nat} (h : ev (put (lmap (kill1 id) tm) ad v) x = .ptr j off) : ev tm x = .ptr j off ∧ j ≠ id := by
  rw [ev_put hx] at h
  cases x with
  | tmp t =>
    have h : lget .un (lmap (kill1 id) tm) t = .ptr j off := h
    rw [lget_lmap rfl] at h
    exact kill1_ptr h
  | const c => exact absurd h (cv_no_ptr c j off)
  | global g => cases h
  | func f => cases h
theorem kill1_isInt {id : Nat} {x : TV} (h : isIntV (kill1 id x) = true) : kill1 id x = x := by
  cases x with
  | ptr i o => simp only [kill1, kill0] at h ⊢; cases hb : Nat.beq i id <;> rw [hb] at h <;> first | rfl | cases h
  | vec i => simp only [kill1, kill0] at h ⊢; cases hb : Nat.beq i id <;> rw [hb] at h <;> first | rfl | cases h
  | optr i a b => simp only [kill1, kill0] at h ⊢; cases hb : Nat.beq i id <;> rw [hb] at h <;> first | rfl | cases h
  | d a => rfl
  | _ => cases h
theorem ev_int_back {tm : List TV} {ad : Option Tmp} {v : TV} {id : Nat} {x : Operand} (hx : ∀ t, ad = some t → x ≠ .tmp t) (h : isIntV (ev (put (lmap (kill1 id) tm) ad v) x) = true) : ev (put (lmap (kill1 id) tm) ad v) x = ev tm x := by
  rw [ev_put hx] at h ⊢
  cases x with
  | tmp t =>
    have e : ev (lmap (kill1 id) tm) (.tmp t) = kill1 id (ev tm (.tmp t)) := lget_lmap rfl _ _
    rw [e] at h ⊢
    exact kill1_isInt h
  | _ => rfl

/-- What makes way says the same ahead of the append. -/
theorem soft_back {i : Oper} {tm : List TV} {own : Own} {ad : Option Tmp} {v : TV} {id : Nat} {ob : OB} (hr : readsDst i ad = false) (_ : ∀ l, OB.at own id ≠ .cells l)
    (hs : softOp tb i.op (put (lmap (kill1 id) tm) ad v) = true) :
    softOp tb i.op tm = true ∧ (opResX tb ids i (put (lmap (kill1 id) tm) ad v) (killOwn id (lset own id (false, ob))) = .bad ∨
      ∃ s w, opResX tb ids i (put (lmap (kill1 id) tm) ad v) (killOwn id (lset own id (false, ob))) = .det s (kill1 id w) (killOwn id (lset own id (false, ob))) ∧ opResX tb ids i tm own = .det s w own) := by
  have hx : ∀ x ∈ i.op.operands.toList, ∀ t, ad = some t → x ≠ .tmp t := fun x hx t ht hxt => by
    subst ht hxt
    simp only [readsDst] at hr
    rw [usesTmp_iff.2 hx] at hr
    cases hr
  cases hop : i.op with
  | load ty p =>
    rw [hop] at hs hx
    have hp := hx p (by simp [Op.operands])
    have e1 : ∀ (t : List TV) (o : Own), opResX tb ids i t o = loadRes (tb ty).ty (ev t p) o := fun t o => by
      rw [opResX_eq (by rw [hop]; rfl)]; unfold opRes; rw [hop]
    have hs : isPtrV (ev (put (lmap (kill1 id) tm) ad v) p) = true := hs
    rw [e1, e1]
    cases hv : ev (put (lmap (kill1 id) tm) ad v) p with
    | ptr j off =>
      obtain ⟨h1, h2⟩ := ev_ptr_back hp hv
      refine ⟨by show isPtrV (ev tm p) = true; rw [h1]; rfl, ?_⟩
      rw [h1]
      have hat : OB.at (killOwn id (lset own id (false, ob))) j = (OB.at own j).kill id := by rw [at_kill, lset_eq, at_set, if_neg (by rintro ⟨h, _⟩; exact h2 h.symm)]
      unfold loadRes
      simp only
      rw [hat]
      cases hj : OB.at own j with
      | cells l =>
        simp only [OB.kill]
        have hl : llen (lmap (kill0 id) l) = llen l := by rw [llen_eq, llen_eq, lmap_eq, List.length_map]
        rw [hl]
        cases hty : (tb ty).ty with
        | sc q =>
          cases Nat.ble (off.add (Ty.size (.sc q))) (llen l) with
          | false => exact .inl rfl
          | true =>
            refine .inr ⟨_, flatV (lget .un l off), ?_, rfl⟩
            simp only
            rw [← flat_kill, lget_lmap rfl]
        | struct fs cs =>
          cases Nat.ble (off.add (Ty.size (.struct fs cs))) (llen l) with
          | false => exact .inl rfl
          | true =>
            refine .inr ⟨_, .agg (ltake (ldrop l off) (llen cs)), ?_, rfl⟩
            simp only [kill1, lmap_eq, ltake_eq, ldrop_eq, List.map_take, List.map_drop]
        | arr m e cs =>
          cases Nat.ble (off.add (Ty.size (.arr m e cs))) (llen l) with
          | false => exact .inl rfl
          | true =>
            refine .inr ⟨_, .agg (ltake (ldrop l off) (llen cs)), ?_, rfl⟩
            simp only [kill1, lmap_eq, ltake_eq, ldrop_eq, List.map_take, List.map_drop]
        | no => exact .inl rfl
      | _ => exact .inl rfl
    | _ => rw [hv] at hs; cases hs
  | fieldAddr ty x f =>
    rw [hop] at hs hx
    have hp := hx x (by simp [Op.operands])
    have e1 : ∀ (t : List TV) (o : Own), opResX tb ids i t o = (match fieldIn (tb ty).ty f with
      | false => .bad
      | true => match ev t x with
        | .ptr id off => .det [] (.ptr id (Nat.add off (fieldOff (tb ty).ty f))) o
        | .optr id i j => .det [] (.optr id i (Nat.add j (fieldOff (tb ty).ty f))) o
        | .rptr a i j => .det [] (.rptr a i (Nat.add j (fieldOff (tb ty).ty f))) o
        | _ => .bad) := fun t o => by
      rw [opResX_eq (by rw [hop]; rfl)]; unfold opRes; rw [hop]; rfl
    have hs : isPtrV (ev (put (lmap (kill1 id) tm) ad v) x) = true := hs
    rw [e1, e1]
    cases hv : ev (put (lmap (kill1 id) tm) ad v) x with
    | ptr j off =>
      obtain ⟨h1, h2⟩ := ev_ptr_back hp hv
      refine ⟨by show isPtrV (ev tm x) = true; rw [h1]; rfl, ?_⟩
      rw [h1]
      cases fieldIn (tb ty).ty f with
      | false => exact .inl rfl
      | true => exact .inr ⟨_, .ptr j (off.add (fieldOff (tb ty).ty f)), by rw [kill1_ptr_ne h2], rfl⟩
    | _ => rw [hv] at hs; cases hs
  | buildSlice ty q parts =>
    rw [hop] at hs hx
    unfold softOp at hs
    simp only at hs
    cases hlit : (tb ty).lit with
    | false => rw [hlit] at hs; cases hs
    | true =>
      rw [hlit] at hs
      simp only at hs
      rw [allB_eq, List.all_eq_true] at hs
      have e0 : ∀ p ∈ parts.toList, ev (put (lmap (kill1 id) tm) ad v) p.2 = ev tm p.2 := fun p hp => ev_int_back (hx p.2 (by simp [Op.operands]; exact ⟨p.1, by simpa using hp⟩)) (hs p hp)
      have e2 : lmap (fun p : Nat × Operand => (p.1, ev (put (lmap (kill1 id) tm) ad v) p.2)) parts.toList = lmap (fun p : Nat × Operand => (p.1, ev tm p.2)) parts.toList := lmap_congr fun p hp => by rw [e0 p hp]
      refine ⟨?_, ?_⟩
      · unfold softOp
        simp only [hlit]
        rw [allB_eq, List.all_eq_true]
        exact fun p hp => by rw [← e0 p hp]; exact hs p hp
      · rw [opResX_eq (by rw [hop]; simp [allocs, hlit]), opResX_eq (by rw [hop]; simp [allocs, hlit])]
        unfold opRes
        rw [hop]
        simp only
        rw [e2]
        cases (tb ty).ty with
        | sc s =>
          cases s with
          | sints k =>
            simp only [hlit, litOut]
            split
            · exact .inr ⟨_, _, rfl, rfl⟩
            · exact .inl rfl
          | srows z =>
            simp only [hlit, litOut]
            have hq : litRows (killOwn id (lset own id (false, ob))) z (tb ty).ecells q (lmap (fun p => (p.1, ev tm p.2)) parts.toList) = litRows own z (tb ty).ecells q (lmap (fun p => (p.1, ev tm p.2)) parts.toList) := litRows_own _ _ z _ _ 0 q
            rw [hq]
            split
            · exact .inr ⟨_, _, rfl, rfl⟩
            · exact .inl rfl
          | _ => exact .inl rfl
        | _ => exact .inl rfl
  | _ => rw [hop] at hs; cases hs

/-- What is told of an operation that grows an own slice. -/
theorem grow_op {a : Oper} {tm : List TV} (hg : (footOf tb data ids n a tm).grows = true) : (footOf tb data ids n a tm).ok = false ∧ opCls tb a.op = 3 ∧
    ∃ id, ∀ own, opResX tb ids a tm own = .bad ∨ ∃ s ob, opResX tb ids a tm own = .grow s (.vec id) (lset own id (false, ob)) id ∧ ∀ l, OB.at own id ≠ .cells l := by
  unfold footOf at hg ⊢
  cases hop : a.op with
  | call c =>
    rw [hop] at hg
    simp only at hg ⊢
    have eX : ∀ own, opResX tb ids a tm own = (match c.callee with
      | .builtin b => builtinRes tb b c.argTypes.toList (lmap (ev tm) c.args.toList) own
      | .value (.func f) => .call f (lmap (ev tm) c.args.toList) c.argTypes.toList
      | _ => .bad) := fun own => by
      rw [opResX_eq (by rw [hop]; rfl)]
      unfold opRes
      rw [hop]
      rfl
    cases hc : c.callee with
    | builtin b =>
      rw [hc] at hg eX
      cases b with
      | append =>
        simp only at hg ⊢
        refine ⟨trivial, by simp only [opCls, hc], ?_⟩
        generalize lmap (ev tm) c.args.toList = args at hg eX
        have key : ∃ id x, args = [.vec id, .d x] := by
          unfold growing at hg
          split at hg
          · exact ⟨_, _, rfl⟩
          · exact ⟨_, _, rfl⟩
          · cases hg
        obtain ⟨id, x, rfl⟩ := key
        refine ⟨id, fun own => ?_⟩
        rw [eX]
        unfold builtinRes
        simp only
        split
        · split
          · unfold appendRes
            simp only [openV, freeze0]
            split
            · split
              · have ho : ∀ l, OB.at own id ≠ .cells l := fun l e => by simp_all
                split
                · exact .inr ⟨_, _, rfl, ho⟩
                · exact .inl rfl
              · have ho : ∀ l, OB.at own id ≠ .cells l := fun l e => by simp_all
                split
                · exact .inr ⟨_, _, rfl, ho⟩
                · exact .inl rfl
              · exact .inl rfl
            · exact .inl rfl
          · exact .inl rfl
        · exact .inl rfl
      | _ => cases hg
    | value x =>
      rw [hc] at hg
      cases x with
      | func f =>
        simp only at hg
        split at hg <;> cases hg
      | _ => cases hg
    | _ => rw [hc] at hg; cases hg
  | alloc ty =>
    rw [hop] at hg
    simp only at hg
    split at hg
    · split at hg <;> cases hg
    · cases hg
  | buildSlice ty q parts =>
    rw [hop] at hg
    simp only at hg
    split at hg
    · cases hg
    · split at hg
      · split at hg <;> cases hg
      · cases hg
  | _ => rw [hop] at hg; cases hg
end
end Go.Vc
end
