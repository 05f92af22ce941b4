/- Helpers for the statements: conditions under which code does what is wanted, and proofs that they suffice. Condition: none. -/
import Derived.Test.YtcnaceleinmbcaaA0
section
/- VcN: each operation of the generator against the model: append onto a handle; conversions. -/
namespace Go.Vc

section
variable {P : Program} {N : Nat → Prop} {ρ : List Loc} {own : Own} {w : World}

/-- What reads as data still does in a world whose blocks outside the zone stay. -/
theorem keep_reads {Z Z' : Nat → Prop} {w w' : World} (hk : ∀ b, b < w.heap.size → ¬ Z b → w'.heap[b]? = w.heap[b]?) (hz : ∀ b, b < w.heap.size → ¬ Z b → ¬ Z' b) :
    ∀ x u, Reads Z w x u → Reads Z' w' x u := fun _ _ h => h.mono fun b hb hn => ⟨hk b hb hn, hz b hb hn⟩

theorem append_vec_run {t tx ty : TypeId} {i : TyI} (hi : tyChk P t i = true) (hrel : ORel N ρ own w) {e' : TypeId} (htx : P.underlying tx = some (.slice e')) {x : AV} {id : Nat} {vx vy : Value}
    (hx : TReads (Zone N ρ own) w ρ own (.vec id) vx) (hy : Reads (Zone N ρ own) w x vy) (hf : sliceFits i.ty x = true) (hfz : frozenAt own id = false) (ob : OB)
    (hob : (∃ k l m, x = .ints k l ∧ OB.at own id = .ints k m ∧ ob = .ints k (m ++ l)) ∨ ∃ sz l m, x = .rows sz l ∧ OB.at own id = .rows sz m ∧ ob = .rows sz (m ++ l))
    (hpb : 0 < i.bytes) (hb : (((OB.at own id).len : Int) + x.len) * i.bytes ≤ 70368744177664) :
    ∃ u w' ρ', (Builtin.append_ #[t, tx] ty #[vx, vy]).run P w = .ok u w' ∧
      (let own' := killOwn id (own.set id (false, ob))
       ORel N ρ' own' w' ∧ Fr ρ own w ρ' own' w' ∧ (∀ i, i ≠ id → SameAt ρ own ρ' own' i) ∧ TReads (Zone N ρ' own') w' ρ' own' (.vec id) u) := by
  obtain ⟨loc, hl, hu⟩ := hx
  have hid := hrel.idlt hl
  obtain ⟨e, g, he, hg, hsz, hpos, hby⟩ := slice_elem hi hf
  obtain ⟨z, hz, hzs, hgpos⟩ := info_zero hi (fits_slice hf) he hg
  obtain ⟨news, hsrc, hnews⟩ := data_src (ρ := ρ) (own := own) (N := N) htx hf hy
  rw [← hsz] at hsrc hnews
  have hoblen : ob.len = (OB.at own id).len + x.len := by
    rcases hob with ⟨k, l, m, rfl, h2, rfl⟩ | ⟨sz, l, m, rfl, h2, rfl⟩ <;> rw [h2] <;> simp [OB.len, AV.len]
  have hkob : ob.kill id = ob := by rcases hob with ⟨k, l, m, rfl, h2, rfl⟩ | ⟨sz, l, m, rfl, h2, rfl⟩ <;> rfl
  -- the own row, opened
  have hown : ((OB.at own id).len = 0 ∧ loc.cap = 0) ∨ ∃ b vs e2, loc.a = some ⟨b, 0, none⟩ ∧ loc.blk = some b ∧ w.heap[b]? = some (.cells vs e2 (0, 0)) ∧ (OB.at own id).len ≤ loc.cap ∧ loc.cap * g.size ≤ vs.size ∧
      ∀ q r, q < (OB.at own id).len → r < g.size → ∃ v, vs[q * g.size + r]? = some v ∧ Reads (Zone N ρ own) w ((OB.at own id).data.cell q r) v := by
    have hh := hrel.ob id loc hl
    rcases hob with ⟨k, l, m, rfl, h2, rfl⟩ | ⟨sz, l, m, rfl, h2, rfl⟩
    · rw [h2] at hh ⊢
      simp only [AV.esz] at hsz
      rcases hh with ⟨rfl, hc⟩ | ⟨b, vs, e2, k1, k2, k3, k4, k5, k6⟩
      · exact .inl ⟨rfl, hc⟩
      · refine .inr ⟨b, vs, e2, k1, k2, k3, k4, by rw [hsz, Nat.mul_one]; exact k5, fun q r hq hr => ⟨.int k (m.getD q 0), ?_, .int _ _⟩⟩
        have : r = 0 := by omega
        subst this
        rw [hsz, Nat.mul_one, Nat.add_zero]; exact k6 q hq
    · rw [h2] at hh ⊢
      simp only [AV.esz] at hsz
      rcases hh with ⟨rfl, hc⟩ | ⟨b, vs, e2, k1, k2, k3, k4, k5, k7, k6⟩
      · exact .inl ⟨rfl, hc⟩
      · exact .inr ⟨b, vs, e2, k1, k2, k3, k4, by rw [hsz]; exact k5, fun q r hq hr => by rw [hsz] at hr ⊢; exact k6 q r hq hr⟩
  -- the new row, shut
  have hnew : ∀ (Z : Nat → Prop) (w' : World) (ρ'' : List Loc) (own'' : Own) (loc' : Loc) (b : Nat) (vs' : Array Value) (e2 : TypeId), (∀ x u, Reads (Zone N ρ own) w x u → Reads Z w' x u) →
      loc'.a = some ⟨b, 0, none⟩ → loc'.blk = some b → w'.heap[b]? = some (.cells vs' e2 (0, 0)) → (OB.at own id).len + x.len ≤ loc'.cap → loc'.cap * g.size ≤ vs'.size →
      (∀ q r, q < (OB.at own id).len → r < g.size → ∃ v, vs'[q * g.size + r]? = some v ∧ Reads (Zone N ρ own) w ((OB.at own id).data.cell q r) v) →
      (∀ q r, q < x.len → r < g.size → ∃ v, vs'[((OB.at own id).len + q) * g.size + r]? = some v ∧ Reads (Zone N ρ own) w (x.cell q r) v) → OReads Z w' ρ'' own'' loc' ob := by
    intro Z w' ρ'' own'' loc' b vs' e2 hr a1 a2 a3 a4 a5 a6 a7
    rcases hob with ⟨k, l, m, rfl, h2, rfl⟩ | ⟨sz, l, m, rfl, h2, rfl⟩
    · rw [h2] at a4 a6 a7
      simp only [AV.esz, OB.len, AV.len, OB.data, AV.cell] at hsz a4 a6 a7
      refine .inr ⟨b, vs', e2, a1, a2, a3, by simpa using a4, by rw [hsz, Nat.mul_one] at a5; exact a5, fun q hq => ?_⟩
      simp only [List.length_append] at hq
      by_cases hqm : q < m.length
      · obtain ⟨v, hv, hrv⟩ := a6 q 0 hqm (by omega)
        rw [hsz, Nat.mul_one, Nat.add_zero] at hv
        have : v = .int k (m.getD q 0) := by cases hrv; rfl
        rw [hv, this]; simp [List.getD_eq_getElem?_getD, List.getElem?_append, hqm]
      · obtain ⟨v, hv, hrv⟩ := a7 (q - m.length) 0 (by omega) (by omega)
        rw [hsz, Nat.mul_one, Nat.add_zero, show m.length + (q - m.length) = q by omega] at hv
        have : v = .int k (l.getD (q - m.length) 0) := by cases hrv; rfl
        rw [hv, this]; simp [List.getD_eq_getElem?_getD, List.getElem?_append, hqm]
    · rw [h2] at a4 a6 a7
      simp only [AV.esz, OB.len, AV.len, OB.data, AV.cell] at hsz a4 a6 a7
      refine .inr ⟨b, vs', e2, a1, a2, a3, by simpa using a4, by rw [hsz] at a5; exact a5, by omega, fun q r hq hrr => ?_⟩
      simp only [List.length_append] at hq
      by_cases hqm : q < m.length
      · obtain ⟨v, hv, hrv⟩ := a6 q r hqm (by omega)
        rw [hsz] at hv
        refine ⟨v, hv, hr _ _ ?_⟩
        have : (m ++ l).getD q [] = m.getD q [] := by simp [List.getD_eq_getElem?_getD, List.getElem?_append, hqm]
        rw [this]; exact hrv
      · obtain ⟨v, hv, hrv⟩ := a7 (q - m.length) r (by omega) (by omega)
        rw [hsz, show m.length + (q - m.length) = q by omega] at hv
        refine ⟨v, hv, hr _ _ ?_⟩
        have : (m ++ l).getD q [] = l.getD (q - m.length) [] := by simp [List.getD_eq_getElem?_getD, List.getElem?_append, hqm]
        rw [this]; exact hrv
  have hres : ∀ (ρ' : List Loc) (own' : Own), own' = killOwn id (own.set id (false, ob)) → OB.at own' id = ob := by
    rintro ρ' own' rfl
    rw [at_kill, at_set, if_pos ⟨rfl, hid⟩]; exact hkob
  by_cases hroom : (OB.at own id).len + x.len ≤ loc.cap
  · rcases hown with ⟨h0, hc⟩ | ⟨b, vs, e2, a1, a2, a3, a4, a5, a6⟩
    · -- nothing onto nothing
      have hxn : x.len = 0 := by omega
      have hnl : news = [] := by have := hsrc.newsLen; rw [hxn] at this; exact List.length_eq_zero_iff.1 (by simpa using this)
      rw [hxn, hnl] at hsrc
      have hrun := append_nothing (P := P) (w := w) (ty := ty) he hg loc.a (OB.at own id).len loc.cap (by omega) hsrc
      have hset : ρ.set id loc = ρ := by
        apply List.ext_getElem?
        intro j
        rw [List.getElem?_set]
        split
        · rename_i hj; subst hj; rw [if_pos (by rw [hrel.len]; exact hid), hl]
        · rfl
      obtain ⟨r1, r2, r3⟩ := grow_rel hrel id loc hid ob hkob hfz (w' := w) rfl rfl rfl (Nat.le_refl _) (fun _ _ _ => rfl)
        (fun b hb => ⟨hrel.lt id loc b hl hb, hrel.nb id loc b hl hb, .inr ⟨loc, hl, hb⟩⟩)
        (fun Z ρ'' own'' _ => by
          have : ob.len = 0 := by omega
          rcases hob with ⟨k, l, m, rfl, h2, rfl⟩ | ⟨sz, l, m, rfl, h2, rfl⟩
          · exact .inl ⟨List.length_eq_zero_iff.1 this, hc⟩
          · exact .inl ⟨List.length_eq_zero_iff.1 this, hc⟩)
      refine ⟨_, w, ρ.set id loc, by rw [hu]; exact hrun, r1, r2, r3, .of0 ⟨loc, by rw [hset]; exact hl, ?_⟩⟩
      rw [hres (ρ.set id loc) _ rfl, hoblen, hxn]; rfl
    · -- there is room
      have hfit : (OB.at own id).len * g.size + news.length ≤ vs.size := by
        rw [hsrc.newsLen, ← Nat.add_mul]
        exact Nat.le_trans (Nat.mul_le_mul_right _ hroom) a5
      have hrun := append_fits (P := P) (w := w) (ty := ty) he hg b (OB.at own id).len loc.cap x.len hsrc vs a3 hroom hfit
      have hset : ρ.set id loc = ρ := by
        apply List.ext_getElem?
        intro j
        rw [List.getElem?_set]
        split
        · rename_i hj; subst hj; rw [if_pos (by rw [hrel.len]; exact hid), hl]
        · rfl
      have hother : ∀ b', b' ≠ b → (w.setRow b (vs.toList.take ((OB.at own id).len * g.size) ++ news ++ vs.toList.drop ((OB.at own id).len * g.size + news.length)).toArray).heap[b']? = w.heap[b']? :=
        fun b' hb' => setRow_other w b b' _ hb'
      obtain ⟨r1, r2, r3⟩ := grow_rel hrel id loc hid ob hkob hfz
        (w' := w.setRow b (vs.toList.take ((OB.at own id).len * g.size) ++ news ++ vs.toList.drop ((OB.at own id).len * g.size + news.length)).toArray) rfl rfl rfl (by simp)
        (fun b' _ hne => hother b' fun h => hne loc hl (h ▸ a2))
        (fun b' hb' => ⟨by simpa using hrel.lt id loc b' hl hb', hrel.nb id loc b' hl hb', .inr ⟨loc, hl, hb'⟩⟩)
        (fun Z ρ'' own'' hzz => by
          refine hnew Z _ ρ'' own'' loc b _ e2 (keep_reads (fun b' hb' hn => hother b' fun h => hn (.inr ⟨id, loc, hl, h ▸ a2, hfz⟩)) hzz) a1 a2 (setRow_heap w b vs _ e2 (0, 0) a3) hroom (by rw [spliced_size _ _ _ hfit]; exact a5) (fun q r hq hr => ?_) (fun q r hq hr => ?_)
          · rw [spliced_get _ _ _ hfit]
            have : (q + 1) * g.size ≤ (OB.at own id).len * g.size := Nat.mul_le_mul_right _ (by omega)
            rw [Nat.add_mul] at this
            rw [if_neg (by omega)]
            exact a6 q r hq hr
          · rw [spliced_get _ _ _ hfit]
            obtain ⟨v, hv, hrv⟩ := hnews q r hq hr
            have hlt := (List.getElem?_eq_some_iff.1 hv).1
            rw [if_pos (by rw [Nat.add_mul]; omega)]
            refine ⟨v, ?_, hrv⟩
            rw [show ((OB.at own id).len + q) * g.size + r - (OB.at own id).len * g.size = q * g.size + r by rw [Nat.add_mul]; omega]
            exact hv)
      refine ⟨_, _, ρ.set id loc, by rw [hu, a1]; exact hrun, r1, r2, r3, .of0 ⟨loc, by rw [hset]; exact hl, ?_⟩⟩
      rw [hres (ρ.set id loc) _ rfl, hoblen, a1]
  · -- a new row
    have hbn : ((OB.at own id).len + x.len) * g.bytes ≤ 70368744177664 := by rw [hby]; exact bytes_nat (by rw [Int.natCast_add]; exact hb)
    have h63 : (((OB.at own id).len + x.len : Nat) : Int) ≤ 9223372036854775807 := by
      have h1 : ((OB.at own id).len + x.len) * 1 ≤ ((OB.at own id).len + x.len) * g.bytes := Nat.mul_le_mul_left _ (by omega)
      omega
    have hold : ∃ olds : List Value, (Builtin.firstCells g.size (OB.at own id).len (.slice loc.a (OB.at own id).len loc.cap)).run P w.drew = .ok olds.toArray w.drew ∧ olds.length = (OB.at own id).len * g.size ∧
        ∀ q r, q < (OB.at own id).len → r < g.size → ∃ v, olds[q * g.size + r]? = some v ∧ Reads (Zone N ρ own) w ((OB.at own id).data.cell q r) v := by
      rcases hown with ⟨h0, hc⟩ | ⟨b, vs, e2, a1, a2, a3, a4, a5, a6⟩
      · exact ⟨[], by rw [h0]; exact firstCells_none' _ _ _ _, by simp [h0], fun q r hq => by omega⟩
      · have hle : (OB.at own id).len * g.size ≤ vs.size := Nat.le_trans (Nat.mul_le_mul_right _ a4) a5
        refine ⟨vs.toList.take ((OB.at own id).len * g.size), ?_, by simp; omega, fun q r hq hr => ?_⟩
        · rw [a1]
          exact run_firstCells_some w.drew g.size _ ⟨b, 0, none⟩ _ _ _ (by simp; omega) (fun j v hj => by
            rw [add_none, Nat.zero_add]
            have hjl : j < (OB.at own id).len * g.size := by
              have := (List.getElem?_eq_some_iff.1 hj).1
              simp at this; omega
            rw [List.getElem?_take, if_pos hjl] at hj
            have a3' : w.drew.heap[b]? = some (.cells vs e2 (0, 0)) := a3
            simp only [World.cell?, a3']
            simpa using hj)
        · obtain ⟨v, hv, hrv⟩ := a6 q r hq hr
          have hlt : q * g.size + r < (OB.at own id).len * g.size := by
            have : (q + 1) * g.size ≤ (OB.at own id).len * g.size := Nat.mul_le_mul_right _ (by omega)
            rw [Nat.add_mul] at this; omega
          exact ⟨v, by rw [List.getElem?_take, if_pos hlt]; simpa using hv, hrv⟩
    obtain ⟨olds, ho1, ho2, ho3⟩ := hold
    have hrun := run_append_grow_src (P := P) w t tx ty e g z he hg hz loc.a (OB.at own id).len loc.cap olds ho1 vy x.len news hsrc (by omega) h63 (growslice_fits (by omega) (by omega))
    have hge := grown_ge w ((OB.at own id).len + x.len) loc.cap e
    generalize grownCap w ((OB.at own id).len + x.len) loc.cap e = cap at hrun hge
    have hother : ∀ b', b' < w.heap.size → (w.drew.alloc (.cells ((olds ++ news).toArray ++ Builtin.zeroCells z.cells (cap - ((OB.at own id).len + x.len))) e)).heap[b']? = w.heap[b']? :=
      fun b' hb' => heap_alloc_old w.drew _ b' hb'
    obtain ⟨r1, r2, r3⟩ := grow_rel hrel id ⟨some ⟨w.heap.size, 0, none⟩, cap, some w.heap.size⟩ hid ob hkob hfz
      (w' := w.drew.alloc (.cells ((olds ++ news).toArray ++ Builtin.zeroCells z.cells (cap - ((OB.at own id).len + x.len))) e)) rfl rfl rfl (by simp)
      (fun b' hb' _ => hother b' hb')
      (fun b' hb' => by
        simp at hb'; subst hb'
        exact ⟨by simp, fun hn => absurd (hrel.nlt _ hn) (by omega), .inl (Nat.le_refl _)⟩)
      (fun Z ρ'' own'' hzz => by
        refine hnew Z _ ρ'' own'' _ w.heap.size _ e (keep_reads (fun b' hb' _ => hother b' hb') hzz) rfl rfl (alloc_heap w.drew _) hge ?_ (fun q r hq hr => ?_) (fun q r hq hr => ?_)
        · have e1 : ((OB.at own id).len + x.len) * g.size ≤ cap * g.size := Nat.mul_le_mul_right _ hge
          simp only [Array.size_append, List.size_toArray, List.length_append, zeroCells_size', hzs, ho2, hsrc.newsLen, Nat.sub_mul]
          rw [Nat.add_mul] at e1 ⊢; omega
        · obtain ⟨v, hv, hrv⟩ := ho3 q r hq hr
          have hlt := (List.getElem?_eq_some_iff.1 hv).1
          exact ⟨v, grown_get olds news _ _ _ (by rw [List.getElem?_append_left hlt]; exact hv), hrv⟩
        · obtain ⟨v, hv, hrv⟩ := hnews q r hq hr
          refine ⟨v, grown_get olds news _ _ _ ?_, hrv⟩
          rw [List.getElem?_append_right (by rw [ho2, Nat.add_mul]; omega), ho2, show ((OB.at own id).len + q) * g.size + r - (OB.at own id).len * g.size = q * g.size + r by rw [Nat.add_mul]; omega]
          exact hv)
    refine ⟨_, _, ρ.set id ⟨some ⟨w.heap.size, 0, none⟩, cap, some w.heap.size⟩, by rw [hu]; exact hrun, r1, r2, r3, .of0 ⟨_, by rw [List.getElem?_set, if_pos rfl, if_pos (by rw [hrel.len]; exact hid)], ?_⟩⟩
    rw [hres (ρ.set id loc) _ rfl, hoblen]

/-! ### conversions -/
theorem bytes_reads {Z : Nat → Prop} {l : List Int} {u : Value} (h : Reads Z w (.ints .u8 l) u) (hr : ∀ x ∈ l, 0 ≤ x ∧ x < 256) :
    ∃ s : ByteArray, (Conv.bytesToString u).run P w = .ok (.string s) w ∧ l = s.data.toList.map fun b => (b.toNat : Int) := by
  have hmap : ∀ (s : ByteArray), s.data.toList = (l.map fun n => UInt8.ofNat n.toNat) → l = s.data.toList.map fun b => (b.toNat : Int) := by
    intro s hs
    rw [hs, List.map_map]
    have : ∀ x ∈ l, ((fun b : UInt8 => (b.toNat : Int)) ∘ fun n : Int => UInt8.ofNat n.toNat) x = x := by
      intro x hx
      obtain ⟨h0, h1⟩ := hr x hx
      simp only [Function.comp, UInt8.toNat_ofNat']
      omega
    rw [List.map_congr_left this, List.map_id']
  cases h with
  | ints0 a cap =>
    refine ⟨ByteArray.empty, ?_, rfl⟩
    cases a with
    | none => rfl
    | some a =>
      have := run_bytesToString (P := P) w a 0 cap [] rfl
      simpa using this
  | ints _ _ n b off cap hn hz hc hcell =>
    have hload : (loadCells ⟨b, off, none⟩ n).run P w = .ok (l.map (Value.int .u8)).toArray w := by
      have := run_loadCells_list (P := P) w ⟨b, off, none⟩ (l.map (Value.int .u8)) (fun j v hj => by
        rw [List.getElem?_map] at hj
        have hjl : j < l.length := by
          cases hlj : l[j]? with
          | none => simp [hlj] at hj
          | some z => exact (List.getElem?_eq_some_iff.1 hlj).1
        rw [add_none, hcell j (by omega)]
        simp [List.getElem?_eq_getElem hjl] at hj
        simp [List.getD_eq_getElem?_getD, hjl, hj])
      simpa [hn] using this
    exact ⟨_, run_bytesToString (P := P) w _ n cap l hload, hmap _ (by rw [foldl_push]; rfl)⟩

end
end Go.Vc
end

section
/- VcO: every operation of the generator against the model. -/
namespace Go.Vc

section
variable {P : Program} {N : Nat → Prop} {ρ : List Loc} {own : Own} {w : World}

theorem good_of_run (h : ORel N ρ own w) {s : Sem Value} {u : Value} {v : TV} (hs : s.run P w = .ok u w) (hv : TReads (Zone N ρ own) w ρ own v u) {nx : Sem Next} (hn : nx = do pure (.value (← s))) :
    Good P N ρ own w nx v own := by subst hn; exact .of_run h hs hv
theorem good_of_step {s : Sem Value} {u : Value} {v : TV} {w' : World} {ρ' : List Loc} {own' : Own} (hs : s.run P w = .ok u w') (hst : Step N ρ own w ρ' own' w')
    (hv : TReads (Zone N ρ' own') w' ρ' own' v u) {nx : Sem Next} (hn : nx = do pure (.value (← s))) : Good P N ρ own w nx v own' := by
  subst hn
  exact ⟨.value u, w', ρ', u, by simp [hs], .inl rfl, hst, hv⟩

theorem own_bytes (hrel : ORel N ρ own w) {id : Nat} {loc : Loc} (hl : ρ[id]? = some loc) {k : IntKind} {l : List Int} (ho : OB.at own id = .ints k l) :
    Reads (fun _ => False) w (.ints k l) (.slice loc.a l.length loc.cap) := by
  have h := hrel.ob id loc hl
  rw [ho] at h
  rcases h with ⟨rfl, h2⟩ | ⟨b, vs, e, h1, h2, h3, h4, h5, h6⟩
  · exact .ints0 _ _ _
  · rw [h1]; exact .ints k l _ b 0 _ rfl (fun h => h) h4 fun i hi => by simp [World.cell?, h3, h6 i hi]

theorem maxInts_run {Z : Nat → Prop} (f : Int → Int → Int) (m2 : Value → Value → Sem Value) (hm : ∀ (k k' : IntKind) x y, m2 (.int k x) (.int k' y) = pure (.int k (f x y))) (k : IntKind) :
    ∀ (l : List TV) (us : List Value) (a m : Int), maxInts f a l = some m → l.length = us.length → (∀ i, i < l.length → TReads Z w ρ own (l.getD i .un) (us.getD i undef)) →
      (us.foldlM m2 (Value.int k a)).run P w = .ok (.int k m) w
  | [], [], a, m, h, _, _ => by simp [maxInts] at h; subst h; rfl
  | [], _ :: _, _, _, _, h, _ => by simp at h
  | _ :: _, [], _, _, _, h, _ => by simp at h
  | t :: r, u :: us, a, m, h, hl, hr => by
    have h0 := hr 0 (by simp)
    simp only [List.getD_cons_zero] at h0
    have ht : ∃ k' b, t = .d (.int k' b) := by
      cases t with
      | d x => cases x with
        | int k' b => exact ⟨k', b, rfl⟩
        | _ => simp [maxInts] at h
      | _ => simp [maxInts] at h
    obtain ⟨k', b, rfl⟩ := ht
    have := reads_int h0
    subst this
    simp only [maxInts] at h
    rw [List.foldlM_cons, hm, pure_bind]
    exact maxInts_run f m2 hm k r us (f a b) m h (by simpa using hl) (fun i hi => by have := hr (i + 1) (by simpa using hi); simpa using this)

theorem argsRel {tm : List TV} {a : Act} (ht : TRel (Zone N ρ own) w ρ own tm a.tmps) (args : Array Operand) :
    (lmap (ev tm) args.toList).length = ((args.map a.eval).toList).length ∧ ∀ i, i < (lmap (ev tm) args.toList).length → TReads (Zone N ρ own) w ρ own ((lmap (ev tm) args.toList).getD i .un) ((args.map a.eval).toList.getD i undef) := by
  rw [lmap_eq]
  refine ⟨by simp, fun i hi => ?_⟩
  simp only [List.length_map, Array.length_toList] at hi
  have := ev_reads ht args[i]
  simpa [List.getD_eq_getElem?_getD, hi] using this

theorem conv_run {src dst : TypeId} {i j : TyI} (hi : tyChk P src i = true) (hj : tyChk P dst j = true) (hrel : ORel N ρ own w) {ox : Operand} {tm : List TV} {a : Act} (ht : TRel (Zone N ρ own) w ρ own tm a.tmps)
    {safe : List Prop} {v : TV} {own' : Own} (h : convRes i.ty j.ty (ev tm ox) own = .det safe v own') (hs : ∀ p ∈ safe, p) :
    ∃ u, own' = own ∧ (convert src dst (a.eval ox)).run P w = .ok u w ∧ TReads (Zone N ρ own) w ρ own v u := by
  have hx := ev_reads ht ox
  generalize ev tm ox = x at *
  generalize a.eval ox = vx at *
  have hint : ∀ {t : TypeId} {i : TyI} {k : IntKind}, tyChk P t i = true → i.ty = .sc (.int k) → P.underlying t = some (.int k) := by
    intro t i k hi h
    unfold tyChk at hi
    rw [h] at hi
    split at hi <;> simp_all
    exact (kindEq_iff.1 hi.1.1).symm
  have hbytes : i.ty = .sc (.sints .u8) → ∃ e, P.underlying src = some (.slice e) ∧ P.underlying e = some (.int .u8) := by
    intro h
    unfold tyChk at hi
    rw [h] at hi
    split at hi <;> simp_all
    split at hi <;> simp_all
    exact (kindEq_iff.1 hi.2.1.1.1).symm
  unfold convRes at h
  split at h
  · rename_i k k' n hdst
    split at h
    · rename_i ks hsrc
      simp only [OpRes.det.injEq] at h
      obtain ⟨rfl, rfl, rfl⟩ := h
      have := reads_int hx; subst this
      have h1 := hint hi hsrc
      have h2 := hint hj hdst
      exact ⟨_, rfl, by simp [convert, run_underlying h1, run_underlying h2, Conv.intToInt], int_reads _ _⟩
    · cases h
  · rename_i l hdst
    split at h
    · rename_i hsrc
      simp only [OpRes.det.injEq] at h
      obtain ⟨rfl, rfl, rfl⟩ := h
      obtain ⟨s, rfl, hl⟩ := reads_str hx
      have h1 := str_under hi hsrc
      have h2 := str_under hj hdst
      exact ⟨.string s, rfl, by simp [convert, run_underlying h1, run_underlying h2], hx⟩
    · cases h
  · rename_i l hdst
    split at h
    · rename_i hsrc
      simp only [OpRes.det.injEq] at h
      obtain ⟨rfl, rfl, rfl⟩ := h
      obtain ⟨e, h1, h3⟩ := hbytes hsrc
      have h2 := str_under hj hdst
      obtain ⟨aa, cap, hu, _⟩ := reads_ints hx
      obtain ⟨s, hs1, hs2⟩ := bytes_reads (P := P) (w := w) hx (hs _ (by simp))
      refine ⟨.string s, rfl, ?_, .of0 (Reads.str s _ hs2)⟩
      rw [hu] at hs1 ⊢
      simp [convert, run_underlying h1, run_underlying h2, run_underlying h3, hs1]
    · cases h
  · rename_i id hdst
    split at h
    · rename_i l ho hsrc
      simp only [OpRes.det.injEq] at h
      obtain ⟨rfl, rfl, rfl⟩ := h
      obtain ⟨e, h1, h3⟩ := hbytes hsrc
      have h2 := str_under hj hdst
      obtain ⟨loc, hl, hu⟩ := vec_cells hx ho
      obtain ⟨s, hs1, hs2⟩ := bytes_reads (P := P) (w := w) (own_bytes hrel hl ho) (hs _ (by simp))
      refine ⟨.string s, rfl, ?_, .of0 (Reads.str s _ hs2)⟩
      rw [hu]
      simp [convert, run_underlying h1, run_underlying h2, run_underlying h3, hs1]
    · cases h
  · rename_i hdst
    split at h
    · rename_i hsrc
      simp only [OpRes.det.injEq] at h
      obtain ⟨rfl, rfl, rfl⟩ := h
      obtain ⟨e, h1, h3⟩ := hbytes hsrc
      have h2 := str_under hj hdst
      obtain ⟨aa, rfl⟩ := hx
      obtain ⟨s, hs1, hs2⟩ := bytes_reads (P := P) (w := w) (Z := fun _ => False) (l := []) (.ints0 aa 0 .u8) (fun x hx => by cases hx)
      refine ⟨.string s, rfl, ?_, .of0 (Reads.str s _ hs2)⟩
      simp [convert, run_underlying h1, run_underlying h2, run_underlying h3, hs1]
    · cases h
  · cases h

/-- A builtin's call, resolved. -/
theorem exec_builtin {a : Act} {o : Oper} {c : Call} {b : Builtin} (ho : o.op = .call c) (hc : c.callee = .builtin b) :
    ∃ consts, execOp a.eval o = builtin b c.argTypes o.type consts (c.args.map a.eval) := by
  unfold execOp
  rw [ho]
  simp only [resolve, hc, pure_bind, invoke]
  exact ⟨_, rfl⟩

theorem arr_of_list {α : Type} (x : Array α) (l : List α) (h : x.toList = l) : x = l.toArray := by subst h; simp

theorem len2 {α : Type} : ∀ {l : List α}, l.length = 2 → ∃ a b, l = [a, b]
  | [a, b], _ => ⟨a, b, rfl⟩
theorem two_args {tm : List TV} {args : Array Operand} {x y : TV} (h : lmap (ev tm) args.toList = [x, y]) : ∃ p q, args = #[p, q] ∧ ev tm p = x ∧ ev tm q = y := by
  rw [lmap_eq] at h
  have hl : args.toList.length = 2 := by have := congrArg List.length h; simpa using this
  obtain ⟨p, q, hpq⟩ := len2 hl
  rw [hpq] at h
  simp at h
  exact ⟨p, q, arr_of_list _ _ hpq, h.1, h.2⟩
theorem one_arg {tm : List TV} {args : Array Operand} {x : TV} (h : lmap (ev tm) args.toList = [x]) : ∃ p, args = #[p] ∧ ev tm p = x := by
  rw [lmap_eq] at h
  have hl : args.toList.length = 1 := by have := congrArg List.length h; simpa using this
  obtain ⟨p, hpq⟩ := List.length_eq_one_iff.1 hl
  rw [hpq] at h
  simp at h
  exact ⟨p, arr_of_list _ _ hpq, h⟩
theorem head_arg {tm : List TV} {args : Array Operand} {x : TV} {r : List TV} (h : lmap (ev tm) args.toList = x :: r) : ∃ p ps, args = (p :: ps).toArray ∧ ev tm p = x ∧ lmap (ev tm) ps = r := by
  cases hl : args.toList with
  | nil => rw [hl] at h; simp [lmap] at h
  | cons p ps =>
    rw [hl] at h
    simp only [lmap, List.cons.injEq] at h
    exact ⟨p, ps, arr_of_list _ _ hl, h.1, h.2⟩

theorem append_types {tys : Array TypeId} (h : llen tys.toList = 2) : tys = #[lget 0 tys.toList 0, lget 0 tys.toList 1] := by
  rw [llen_eq] at h
  obtain ⟨p, q, hpq⟩ := len2 h
  rw [hpq]
  exact arr_of_list _ _ hpq

theorem openV_ok {y : TV} {u : Value} (hrel : ORel N ρ own w) (hy : TReads (Zone N ρ own) w ρ own y u) :
    Step N ρ own w ρ (freeze0 own y) w ∧ TReads (Zone N ρ (freeze0 own y)) w ρ (freeze0 own y) (openV own y) u := by
  cases y with
  | vec id =>
    have hst := Step.shut hrel id
    have hown : own.set id (true, OB.at own id) = freezeId own id := by rw [freezeId, lset_eq]
    rw [hown] at hst
    refine ⟨hst, ?_⟩
    unfold openV freeze0
    simp only
    obtain ⟨loc, hl, hu⟩ := hy
    have hfz : frozenAt (freezeId own id) id = true := by rw [← hown, fz_set, if_pos ⟨rfl, hrel.idlt hl⟩]
    have hat : OB.at (freezeId own id) id = OB.at own id := by rw [← hown, at_set]; split <;> simp
    cases ho : OB.at own id with
    | ints k l =>
      have hr := shut_reads hst.rel hl hfz (t := .sc (.sints k)) (by rw [hat, ho]; exact kindEq_iff.2 rfl)
      rw [hat, ho] at hr
      rw [hu, ho]
      exact .of0 hr
    | rows sz l =>
      have hr := shut_reads hst.rel hl hfz (t := .sc (.srows sz)) (by rw [hat, ho]; exact Nat.beq_refl sz)
      rw [hat, ho] at hr
      rw [hu, ho]
      exact .of0 hr
    | _ => trivial
  | _ => exact ⟨Step.refl hrel, hy⟩
theorem names_own {Z : Nat → Prop} {w : World} {ρ : List Loc} {own : Own} {t : TV} {v : Value} (h : TReads0 Z w ρ own t v) {id : Nat} (hn : t.names0 id) : id < ρ.length := by
  have key : ∀ {loc : Loc}, ρ[id]? = some loc → id < ρ.length := fun h => (List.getElem?_eq_some_iff.1 h).1
  cases t <;> simp only [TV.names0] at hn
  case vec i => subst hn; obtain ⟨loc, h1, _⟩ := h; exact key h1
  case ptr i o => subst hn; obtain ⟨loc, b, h1, _⟩ := h; exact key h1
  case optr i x j => subst hn; obtain ⟨loc, b, h1, _⟩ := h; exact key h1
/-- A new own slice that nobody will write is data, and its name may go. -/
theorem forget {ρ' : List Loc} {w' : World} {ob : OB} {u : Value} (hrel : ORel N ρ own w) (hst : Step N ρ own w ρ' (own ++ [(false, ob)]) w')
    (hv : TReads (Zone N ρ' (own ++ [(false, ob)])) w' ρ' (own ++ [(false, ob)]) (.vec own.length) u) (hob : (∃ k l, ob = .ints k l) ∨ ∃ sz l, ob = .rows sz l) :
    Step N ρ own w ρ own w' ∧ Reads (Zone N ρ own) w' ob.data u := by
  have hlen : ρ'.length = own.length + 1 := by rw [hst.rel.len]; simp
  have hold : ∀ (i : Nat) (loc : Loc), ρ[i]? = some loc → ρ'[i]? = some loc := fun i loc h => (hst.same i loc h).1
  have hlt : ∀ (i : Nat) (loc : Loc), ρ[i]? = some loc → i < own.length := fun i loc h => by
    have := (List.getElem?_eq_some_iff.1 h).1
    rw [hrel.len] at this; exact this
  have hat : ∀ i, i < own.length → OB.at (own ++ [(false, ob)]) i = OB.at own i := fun i hi => by
    rw [at_app, if_neg (by omega)]
  have hfz : ∀ i, i < own.length → frozenAt (own ++ [(false, ob)]) i = frozenAt own i := fun i hi => by
    unfold frozenAt
    rw [lget_eq, lget_eq]
    simp only [List.getD_eq_getElem?_getD]
    rw [List.getElem?_append_left hi]
  have hzone : ∀ b, Zone N ρ own b → Zone N ρ' (own ++ [(false, ob)]) b := fun b hb => by
    rcases hb with hb | ⟨i, loc, h1, h2, h3⟩
    · exact .inl hb
    · exact .inr ⟨i, loc, hold i loc h1, h2, by rw [hfz i (hlt i loc h1)]; exact h3⟩
  have hreads : ∀ x u, Reads (Zone N ρ' (own ++ [(false, ob)])) w' x u → Reads (Zone N ρ own) w' x u := fun x u hx => hx.mono fun b _ hz => ⟨rfl, fun hb => hz (hzone b hb)⟩
  have hrel' : ORel N ρ own w' :=
    { len := hrel.len
      nlt := hst.rel.nlt
      lt := fun i loc b h1 h2 => hst.rel.lt i loc b (hold i loc h1) h2
      inj := fun i j li lj b h1 h2 h3 h4 => hst.rel.inj i j li lj b (hold i li h1) (hold j lj h2) h3 h4
      nb := fun i loc b h1 h2 => hst.rel.nb i loc b (hold i loc h1) h2
      ob := fun i loc h1 => by
        have h2 := hst.rel.ob i loc (hold i loc h1)
        have h3 := hrel.ob i loc h1
        rw [hat i (hlt i loc h1)] at h2
        refine h2.mono (fun b _ => rfl) hreads fun l hl k id hk hn => ?_
        rw [hl] at h3
        obtain ⟨_, vs, _, _, _, _, _, h4⟩ := h3
        have hid := names_own (h4 k hk) hn
        intro loc' hl'
        have e1 : ρ[id]? = some ρ[id] := by simp [hid]
        have e2 := hold id _ e1
        rw [e2] at hl'
        obtain rfl := Option.some.inj hl'
        rw [hat id (by rw [← hrel.len]; exact hid)]
        exact ⟨e1, rfl, rfl⟩ }
  refine ⟨{ hst.toFr with alive := fun b h => .inl h, rel := hrel', same := SameAt.refl ρ own }, ?_⟩
  obtain ⟨hs2, hv2⟩ := openV_ok hst.rel hv
  have hd : openV (own ++ [(false, ob)]) (.vec own.length) = .d ob.data := by
    have ha : OB.at (own ++ [(false, ob)]) own.length = ob := by rw [at_app, if_pos rfl]
    unfold openV
    simp only [ha]
    rcases hob with ⟨k, l, rfl⟩ | ⟨sz, l, rfl⟩ <;> rfl
  rw [hd] at hv2
  have hv3 : Reads (Zone N ρ' (freeze0 (own ++ [(false, ob)]) (.vec own.length))) w' ob.data u := hv2
  refine hv3.mono fun b _ hz => ⟨rfl, fun hb => hz ?_⟩
  rcases hb with hb | ⟨i, loc, h1, h2, h3⟩
  · exact .inl hb
  · refine .inr ⟨i, loc, hold i loc h1, h2, ?_⟩
    have hi := hlt i loc h1
    show frozenAt (freezeId (own ++ [(false, ob)]) own.length) i = false
    rw [freezeId, lset_eq, fz_set, if_neg (by omega), hfz i hi]; exact h3
theorem good_shut {P : Program} {N : Nat → Prop} {ρ : List Loc} {own own1 : Own} {w : World} {s : Sem Next} {v : TV} {own' : Own} (h : Step N ρ own w ρ own1 w) (k : Good P N ρ own1 w s v own') : Good P N ρ own w s v own' := by
  obtain ⟨nx, w', ρ', u, h1, h2, h3, h4⟩ := k
  exact ⟨nx, w', ρ', u, h1, h2, h.trans h3, h4⟩

theorem builtin_sound {tb : TypeId → TyI} (hT : ∀ t, tyChk P t (tb t) = true) {b : Builtin} {tys : Array TypeId} {args : Array Operand} {tm : List TV} {a : Act} (hrel : ORel N ρ own w) (ht : TRel (Zone N ρ own) w ρ own tm a.tmps)
    {safe : List Prop} {v : TV} {own' : Own} (h : builtinRes tb b tys.toList (lmap (ev tm) args.toList) own = .det safe v own') (hs : ∀ p ∈ safe, p) (ty : TypeId) (consts : Array Bool) :
    Good P N ρ own w (builtin b tys ty consts (args.map a.eval)) v own' := by
  unfold builtinRes at h
  split at h
  · rename_i x hargs
    obtain ⟨p, rfl, hp⟩ := one_arg hargs
    have hx := ev_reads ht p
    rw [hp] at hx
    split at h
    · cases h
    rename_i t r htl
    have htys := arr_of_list _ _ htl
    subst htys
    split at h
    · rename_i n hn
      simp only [OpRes.det.injEq] at h
      obtain ⟨rfl, rfl, rfl⟩ := h
      have := lenTV_run (w := w) (ρ := ρ) (own := own) (N := N) (hT t) hx hn r ty
      exact good_of_run hrel this (int_reads _ _) (by simp [builtin])
    · cases h
  · rename_i x y hargs
    obtain ⟨p, q, rfl, hp, hq⟩ := two_args hargs
    have hx := ev_reads ht p
    have hy := ev_reads ht q
    rw [hp] at hx
    rw [hq] at hy
    clear hargs hp hq
    obtain ⟨hst, hy⟩ := openV_ok hrel hy
    replace hx := hst.treads hx
    refine good_shut hst ?_
    replace hrel := hst.rel
    clear hst ht
    generalize freeze0 own y = own1 at *
    generalize openV own y = y1 at *
    split at h
    · rename_i n hsl hb
      split at h
      · rename_i hn2
        have hn2 := Nat.eq_of_beq_eq_true hn2
        have htys := append_types (tys := tys) (by omega)
        obtain ⟨e', hk⟩ := isSliceTy_under (hT _) hsl
        have hpb : 0 < (tb (lget 0 tys.toList 0)).bytes := by
          have : 1 ≤ (tb (lget 0 tys.toList 0)).bytes := by simpa [Nat.blt] using hb
          omega
        have hcall : ∀ (u : Value) (w' : World), (Builtin.append_ #[lget 0 tys.toList 0, lget 0 tys.toList 1] ty #[a.eval p, a.eval q]).run P w = .ok u w' →
            (Builtin.append_ tys ty (#[p, q].map a.eval)).run P w = .ok u w' := by
          intro u w' hr; rw [htys]; simpa using hr
        unfold appendRes at h
        split at h
        · split at h
          · rename_i hsl0
            simp only [OpRes.det.injEq] at h
            obtain ⟨rfl, rfl, rfl⟩ := h
            have hx0 := hx
            obtain ⟨a1, ha1⟩ := hx
            obtain ⟨a2, ha2⟩ := hy
            obtain ⟨e, he⟩ := isSliceTy_under (hT _) hsl0
            obtain ⟨g, hg⟩ := slice_info (hT _) hsl0 he
            have hsrc : Src P g.size (lget 0 tys.toList 1) (a.eval q) 0 [] w := by
              rw [ha2]
              cases a2 with
              | none => exact Src.ofNil w hk 0
              | some a2 => exact Src.ofSlice w hk a2 0 0 [] (by simp) (fun j u h => by simp at h) (fun u h => by cases h)
            have hr := append_nothing (P := P) (w := w) (ty := ty) he hg a1 0 0 (Nat.le_refl _) hsrc
            rw [← ha1] at hr
            exact good_of_run hrel (hcall _ _ hr) hx0 rfl
          · cases h
        · rename_i x
          split at h
          · rename_i hf
            split at h
            · rename_i k l
              simp only [OpRes.det.injEq] at h
              obtain ⟨rfl, rfl, rfl⟩ := h
              obtain ⟨u, w', ρ', h1, h2, h3⟩ := append_emp_run (P := P) (N := N) (ρ := ρ) (own := own1) (w := w) (ty := ty) (hT _) hrel hk hx hy hf (.ints k l) (.inl ⟨k, l, rfl, rfl⟩) hpb (by have := hs _ (List.mem_singleton.2 rfl); exact this)
              rw [lapp_eq, llen_eq]
              exact good_of_step (hcall _ _ h1) h2 h3 rfl
            · rename_i sz l
              simp only [OpRes.det.injEq] at h
              obtain ⟨rfl, rfl, rfl⟩ := h
              obtain ⟨u, w', ρ', h1, h2, h3⟩ := append_emp_run (P := P) (N := N) (ρ := ρ) (own := own1) (w := w) (ty := ty) (hT _) hrel hk hx hy hf (.rows sz l) (.inr ⟨sz, l, rfl, rfl⟩) hpb (by have := hs _ (List.mem_singleton.2 rfl); exact this)
              rw [lapp_eq, llen_eq]
              exact good_of_step (hcall _ _ h1) h2 h3 rfl
            · cases h
          · cases h
        · rename_i id
          split at h
          · rename_i hf
            simp only [OpRes.det.injEq] at h
            obtain ⟨rfl, rfl, rfl⟩ := h
            have hx' := hx
            obtain ⟨loc, hl, hu⟩ := hx'
            obtain ⟨a2, ha2⟩ := hy
            obtain ⟨hf', _, _⟩ := obFits_data hf
            obtain ⟨e, g, he, hg, hsz, _⟩ := slice_elem (hT _) hf'
            have hsrc : Src P g.size (lget 0 tys.toList 1) (a.eval q) 0 [] w := by
              rw [ha2]
              cases a2 with
              | none => exact Src.ofNil w hk 0
              | some a2 => exact Src.ofSlice w hk a2 0 0 [] (by simp) (fun j u h => by simp at h) (fun u h => by cases h)
            have hle : (OB.at own1 id).len ≤ loc.cap := by
              have hob := hrel.ob id loc hl
              cases ho : OB.at own1 id with
              | ints k l =>
                rw [ho] at hob
                rcases hob with ⟨rfl, _⟩ | ⟨b, vs, e, _, _, _, h4, _⟩
                · simp [OB.len]
                · exact h4
              | rows sz l =>
                rw [ho] at hob
                rcases hob with ⟨rfl, _⟩ | ⟨b, vs, e, _, _, _, h4, _⟩
                · simp [OB.len]
                · exact h4
              | _ => rw [ho] at hf; cases hty : (tb (lget 0 tys.toList 0)).ty <;> simp [hty, obFits] at hf
            have hr := append_nothing (P := P) (w := w) (ty := ty) he hg loc.a _ loc.cap hle hsrc
            rw [← hu] at hr
            exact good_of_run hrel (hcall _ _ hr) hx rfl
          · cases h
        · split at h
          · split at h
            · split at h <;> cases h
            · split at h <;> cases h
            · cases h
          · cases h
        · cases h
      · cases h
    · cases h
  · rename_i k m r hargs
    obtain ⟨p, ps, rfl, hp, hps⟩ := head_arg hargs
    split at h
    · rename_i mm hm
      simp only [OpRes.det.injEq] at h
      obtain ⟨rfl, rfl, rfl⟩ := h
      have hx := ev_reads ht p
      rw [hp] at hx
      have := reads_int hx
      have hrest := maxInts_run (P := P) (w := w) (ρ := ρ) (own := own) (Z := Zone N ρ own) (fun x y => if y > x then y else x) Builtin.max2 (fun k k' x y => rfl) k r (ps.map a.eval) m mm hm (by rw [← hps, lmap_eq]; simp)
        (fun i hi => by
          rw [← hps, lmap_eq] at hi ⊢
          simp only [List.length_map] at hi
          have := ev_reads ht ps[i]
          simpa [List.getD_eq_getElem?_getD, hi] using this)
      refine good_of_run hrel (s := Builtin.max_ tys ty ((p :: ps).toArray.map a.eval)) ?_ (int_reads _ _) rfl
      simp only [Builtin.max_, List.map_toArray, List.map_cons, this]
      exact hrest
    · cases h
  · rename_i k m r hargs
    obtain ⟨p, ps, rfl, hp, hps⟩ := head_arg hargs
    split at h
    · rename_i mm hm
      simp only [OpRes.det.injEq] at h
      obtain ⟨rfl, rfl, rfl⟩ := h
      have hx := ev_reads ht p
      rw [hp] at hx
      have := reads_int hx
      have hrest := maxInts_run (P := P) (w := w) (ρ := ρ) (own := own) (Z := Zone N ρ own) (fun x y => if y < x then y else x) Builtin.min2 (fun k k' x y => rfl) k r (ps.map a.eval) m mm hm (by rw [← hps, lmap_eq]; simp)
        (fun i hi => by
          rw [← hps, lmap_eq] at hi ⊢
          simp only [List.length_map] at hi
          have := ev_reads ht ps[i]
          simpa [List.getD_eq_getElem?_getD, hi] using this)
      refine good_of_run hrel (s := Builtin.min_ tys ty ((p :: ps).toArray.map a.eval)) ?_ (int_reads _ _) rfl
      simp only [Builtin.min_, List.map_toArray, List.map_cons, this]
      exact hrest
    · cases h
  · cases h

end
end Go.Vc
end

section
/- VcP: one operation of any kind; the operations of a region in any order that is given. -/
namespace Go.Vc

section
variable {P : Program} {N : Nat → Prop} {ρ : List Loc} {own : Own} {w : World}

theorem det_sound {tb : TypeId → TyI} (hT : ∀ t, tyChk P t (tb t) = true) {o : Oper} {tm : List TV} {a : Act} (hrel : ORel N ρ own w) (ht : TRel (Zone N ρ own) w ρ own tm a.tmps)
    {safe : List Prop} {v : TV} {own' : Own} (h : opRes tb o tm own = .det safe v own') (hs : ∀ p ∈ safe, p) : Good P N ρ own w (execOp a.eval o) v own' := by
  unfold opRes at h
  unfold execOp
  cases hop : o.op with
  | move x =>
    simp only [hop] at h ⊢
    simp only [OpRes.det.injEq] at h
    obtain ⟨rfl, rfl, rfl⟩ := h
    exact .of_val hrel (ev_reads ht x)
  | assign x =>
    simp only [hop] at h ⊢
    simp only [OpRes.det.injEq] at h
    obtain ⟨rfl, rfl, rfl⟩ := h
    exact .of_val hrel (ev_reads ht x)
  | pick c x y =>
    simp only [hop] at h ⊢
    obtain ⟨b, rfl, hb, hv⟩ := pickRes_run ht h
    refine ⟨.value (if b then a.eval x else a.eval y), w, ρ, _, ?_, .inl rfl, Step.refl hrel, hv⟩
    rw [hb]; cases b <;> rfl
  | alloc t =>
    simp only [hop] at h ⊢
    split at h
    · cases h
    · rename_i hn
      simp only [OpRes.det.injEq] at h
      obtain ⟨rfl, rfl, rfl⟩ := h
      obtain ⟨u, w', ρ', h1, h2, h3⟩ := alloc_run (hT t) (by intro hno; exact hn hno) hrel
      rw [lapp_eq, llen_eq]
      exact good_of_step h1 h2 h3 rfl
  | box t x =>
    simp only [hop] at h ⊢
    split at h
    · rename_i hst
      simp only [OpRes.det.injEq] at h
      obtain ⟨rfl, rfl, rfl⟩ := h
      obtain ⟨u, w', ρ', h1, h2, h3⟩ := box_run (P := P) t hrel ht hst
      rw [lapp_eq, llen_eq]
      exact good_of_step h1 h2 h3 rfl
    · cases h
  | build t parts =>
    simp only [hop] at h ⊢
    split at h
    · rename_i hp hagg
      simp only [OpRes.det.injEq] at h
      obtain ⟨rfl, rfl, rfl⟩ := h
      have hn : ∃ cs, (∃ fs, (tb t).ty = .struct fs cs) ∨ ∃ n e, (tb t).ty = .arr n e cs := by
        cases hty : (tb t).ty with
        | struct fs cs => exact ⟨cs, .inl ⟨fs, rfl⟩⟩
        | arr n e cs => exact ⟨cs, .inr ⟨n, e, rfl⟩⟩
        | _ => rw [hty] at hagg; simp [Ty.isAggTy] at hagg
      obtain ⟨u, h1, h2⟩ := build_run (hT t) ht parts hp hn
      exact good_of_run hrel h1 h2 rfl
    · cases h
  | buildSlice t n parts =>
    simp only [hop] at h ⊢
    split at h
    · rename_i k hty
      split at h
      · rename_i l hl hn
        obtain ⟨u, w', ρ', h1, h2, h3⟩ := ints_lit_run (hT t) hrel ht parts n hty hl (Nat.le_of_ble_eq_true hn)
        unfold litOut at h
        split at h
        · simp only [OpRes.det.injEq] at h
          obtain ⟨rfl, rfl, rfl⟩ := h
          obtain ⟨k1, k2⟩ := forget hrel h2 h3 (.inl ⟨k, l, rfl⟩)
          exact good_of_step h1 k1 (v := .d _) k2 rfl
        · simp only [OpRes.det.injEq] at h
          obtain ⟨rfl, rfl, rfl⟩ := h
          rw [lapp_eq, llen_eq]
          exact good_of_step h1 h2 h3 rfl
      · cases h
    · rename_i sz hty
      split at h
      · rename_i l hl hn
        obtain ⟨u, w', ρ', h1, h2, h3⟩ := rows_lit_run (hT t) hrel ht parts n hty hl (Nat.le_of_ble_eq_true hn)
        unfold litOut at h
        split at h
        · simp only [OpRes.det.injEq] at h
          obtain ⟨rfl, rfl, rfl⟩ := h
          obtain ⟨k1, k2⟩ := forget hrel h2 h3 (.inr ⟨sz, l, rfl⟩)
          exact good_of_step h1 k1 (v := .d _) k2 rfl
        · simp only [OpRes.det.injEq] at h
          obtain ⟨rfl, rfl, rfl⟩ := h
          rw [lapp_eq, llen_eq]
          exact good_of_step h1 h2 h3 rfl
      · cases h
    · cases h
  | load t p =>
    simp only [hop] at h ⊢
    obtain ⟨u, rfl, h1, h2⟩ := loadRes_run (hT t) hrel ht h hs
    exact good_of_run hrel h1 h2 rfl
  | store t p x =>
    simp only [hop] at h ⊢
    obtain ⟨w', rfl, h1, h2⟩ := storeRes_run (hT t) hrel ht h
    exact ⟨.skip, w', ρ, undef, by simp [h1], .inr ⟨rfl, rfl⟩, h2, TReads.un⟩
  | nilCheck x =>
    simp only [hop] at h ⊢
    have hx := ev_reads ht x
    split at h
    · rename_i id j he
      simp only [OpRes.det.injEq] at h
      obtain ⟨rfl, rfl, rfl⟩ := h
      rw [he] at hx
      have hx0 := hx
      obtain ⟨loc, b, h1, h2, h3, h4⟩ := hx
      rw [h4] at hx0 ⊢
      exact .of_val hrel hx0
    · rename_i id n j he
      simp only [OpRes.det.injEq] at h
      obtain ⟨rfl, rfl, rfl⟩ := h
      rw [he] at hx
      have hx0 := hx
      obtain ⟨loc, b, h1, h2, h3, h4, h5⟩ := hx
      rw [h4] at hx0 ⊢
      exact .of_val hrel hx0
    · rename_i y n j he
      simp only [OpRes.det.injEq] at h
      obtain ⟨rfl, rfl, rfl⟩ := h
      rw [he] at hx
      have hx0 := hx
      obtain ⟨b, off, cap, h1, h2, h3, h4⟩ := hx
      rw [h4] at hx0 ⊢
      exact .of_val hrel hx0
    · cases h
  | binOp op t x y ty =>
    simp only [hop] at h ⊢
    obtain ⟨u, rfl, h1, h2⟩ := binRes_det (P := P) (hT t) ht h hs
    exact good_of_run hrel h1 h2 rfl
  | unOp op t x =>
    simp only [hop] at h ⊢
    obtain ⟨u, rfl, h1, h2⟩ := unRes_run (P := P) ht h
    exact good_of_run hrel h1 h2 rfl
  | convert src dst x =>
    simp only [hop] at h ⊢
    obtain ⟨u, rfl, h1, h2⟩ := conv_run (hT src) (hT dst) hrel ht h hs
    exact good_of_run hrel h1 h2 rfl
  | extract x i =>
    simp only [hop] at h ⊢
    split at h
    · rename_i l he
      split at h
      · rename_i hlt
        simp only [OpRes.det.injEq] at h
        obtain ⟨rfl, rfl, rfl⟩ := h
        have hlt : i + 1 ≤ llen l := by simpa [Nat.blt] using hlt
        rw [llen_eq] at hlt
        obtain ⟨u, h1, h2⟩ := extract_run (P := P) ht he hlt
        exact good_of_run hrel h1 h2 rfl
      · cases h
    · cases h
  | fieldAddr s x f =>
    simp only [hop] at h ⊢
    split at h
    · cases h
    · rename_i hin
      have hx := ev_reads ht x
      obtain ⟨fs, cs, hty, hf⟩ : ∃ fs cs, (tb s).ty = .struct fs cs ∧ f < fs.length := by
        cases hty : (tb s).ty with
        | struct fs cs =>
          rw [hty] at hin
          have : f + 1 ≤ llen fs := by simpa [fieldIn, Nat.blt] using hin
          rw [llen_eq] at this
          exact ⟨fs, cs, rfl, by omega⟩
        | _ => rw [hty] at hin; simp [fieldIn] at hin
      have hrun := fun b o => fieldAt_run (w := w) (hT s) hty f hf b o
      split at h
      · rename_i id off he
        simp only [OpRes.det.injEq] at h
        obtain ⟨rfl, rfl, rfl⟩ := h
        rw [he] at hx
        obtain ⟨loc, b, h1, h2, h3, h4⟩ := hx
        refine good_of_run hrel (by rw [h4]; exact hrun b off) ?_ rfl
        exact .of0 ⟨loc, b, h1, h2, h3, rfl⟩
      · rename_i id n j he
        simp only [OpRes.det.injEq] at h
        obtain ⟨rfl, rfl, rfl⟩ := h
        rw [he] at hx
        obtain ⟨loc, b, h1, h2, h3, h4, h5⟩ := hx
        refine good_of_run hrel (by rw [h4]; exact hrun b _) ?_ rfl
        exact .of0 ⟨loc, b, h1, h2, h3, by rw [Nat.add_assoc]; rfl, h5⟩
      · rename_i y n j he
        simp only [OpRes.det.injEq] at h
        obtain ⟨rfl, rfl, rfl⟩ := h
        rw [he] at hx
        obtain ⟨b, off, cap, h1, h2, h3, h4⟩ := hx
        refine good_of_run hrel (by rw [h4]; exact hrun b _) ?_ rfl
        exact .of0 ⟨b, off, cap, h1, h2, h3, by rw [Nat.add_assoc]; rfl⟩
      · cases h
  | field s x f =>
    simp only [hop] at h ⊢
    split at h
    · cases h
    · rename_i hin
      have hx := ev_reads ht x
      obtain ⟨fs, cs, hty, hf⟩ : ∃ fs cs, (tb s).ty = .struct fs cs ∧ f < fs.length := by
        cases hty : (tb s).ty with
        | struct fs cs =>
          rw [hty] at hin
          have : f + 1 ≤ llen fs := by simpa [fieldIn, Nat.blt] using hin
          rw [llen_eq] at this
          exact ⟨fs, cs, rfl, by omega⟩
        | _ => rw [hty] at hin; simp [fieldIn] at hin
      split at h
      · rename_i l he
        split at h
        · rename_i hle
          simp only [OpRes.det.injEq] at h
          obtain ⟨rfl, rfl, rfl⟩ := h
          rw [he] at hx
          have hle := Nat.le_of_ble_eq_true hle
          rw [llen_eq] at hle
          obtain ⟨u, h1, h2⟩ := field_run (w := w) (hT s) hty f hf l hx hle
          exact good_of_run hrel h1 h2 rfl
        · cases h
      · cases h
  | indexAddr t x i =>
    simp only [hop] at h ⊢
    obtain ⟨u, rfl, h1, h2⟩ := indexAddr_run (hT t) hrel ht h hs
    exact good_of_run hrel h1 h2 rfl
  | index t x i =>
    simp only [hop] at h ⊢
    have hx := ev_reads ht x
    have hi := ev_reads ht i
    generalize ev tm x = xx at *
    generalize ev tm i = ii at *
    unfold indexRes at h
    split at h
    · rename_i k n
      split at h
      · rename_i l hty
        simp only [OpRes.det.injEq] at h
        obtain ⟨rfl, rfl, rfl⟩ := h
        have h0 : 0 ≤ n := hs _ (by simp)
        have h1 : n < (l.length : Int) := hs _ (by simp)
        obtain ⟨s, hu, hl⟩ := reads_str hx
        have e1 := reads_int hi
        have hund := str_under (hT t) hty
        have hlt : n.toNat < s.data.size := by rw [hl, List.length_map, Array.length_toList] at h1; omega
        refine good_of_run hrel (u := .int .u8 (s.data[n.toNat]).toNat) ?_ ?_ rfl
        · rw [hu, e1]
          have hg : (if 0 ≤ n then s[n.toNat]? else none) = some (s.data[n.toNat]) := by
            rw [if_pos h0]
            have : n.toNat < s.size := hlt
            rw [getElem?_pos s n.toNat this]; rfl
          simp only [Instr.index, asIntOf, Sem.run_bind, Sem.run_pure, Result.andThen_ok, run_underlying hund, hg]
        · rw [hl]
          have : ((s.data.toList.map fun b => (b.toNat : Int)).getD n.toNat 0) = ((s.data[n.toNat]).toNat : Int) := by
            rw [List.getD_eq_getElem?_getD, List.getElem?_map, Array.getElem?_toList, Array.getElem?_eq_getElem hlt]; rfl
          rw [this]; exact int_reads _ _
      · cases h
    · cases h
  | makeSlice t n c =>
    simp only [hop] at h ⊢
    obtain ⟨u, w', ρ', h1, h2, h3⟩ := makeRes_run (hT t) hrel ht h hs
    exact good_of_step h1 h2 h3 rfl
  | slice t x lo hi mx =>
    simp only [hop] at h ⊢
    obtain ⟨u, h1, h2, h3⟩ := sliceRes_run (hT t) hrel ht h hs
    exact good_of_step h1 h2 h3 rfl
  | call c =>
    simp only [hop] at h
    split at h
    · rename_i b hc
      obtain ⟨consts, he⟩ := exec_builtin (a := a) hop hc
      have := builtin_sound (P := P) (N := N) (ρ := ρ) (w := w) hT hrel ht h hs o.type consts
      rw [← he] at this
      unfold execOp at this
      rw [hop] at this
      exact this
    · cases h
    · cases h
  | panic x =>
    simp only [hop] at h
    simp only [OpRes.det.injEq] at h
    obtain ⟨rfl, _⟩ := h
    exact (hs False (by simp)).elim
  | _ => simp only [hop] at h; cases h

end
end Go.Vc
end

section
/- VcQ: the operations of a region, in an order that is given, against the model. -/
namespace Go.Vc

/-- A contract holds of a function. -/
def SoundCon (P : Program) (f : FuncId) (T : Con) : Prop :=
  (∃ fn, P.funcs[f]? = some fn ∧ fn.body.isNone = false ∧ (fn.name == "runtime.NumGoroutine") = false) ∧
  ∀ (N : Nat → Prop) (ρ : List Loc) (own : Own) (w : World) (args : List TV) (vals : Array Value) (K : TV → Own → Prop), T args own K → ORel N ρ own w →
    args.length = vals.size → (∀ i, i < args.length → TReads (Zone N ρ own) w ρ own (args.getD i .un) (vals.getD i undef)) →
    Calls P f vals w fun e w' => ∃ r own' ρ' v, e = .returned v ∧ K r own' ∧ Step N ρ own w ρ' own' w' ∧ TReads (Zone N ρ' own') w' ρ' own' r v

section
variable {P : Program} {N : Nat → Prop} {ρ : List Loc} {own : Own} {w : World}

theorem grow_shut {N : Nat → Prop} {ρ : List Loc} {own own1 : Own} {w : World} {A : Value → World → Prop} {v : TV} {own' : Own} {id : Nat} (h : Step N ρ own w ρ own1 w)
    (k : ∃ u w' ρ', A u w' ∧ ORel N ρ' own' w' ∧ Fr ρ own1 w ρ' own' w' ∧ (∀ i, i ≠ id → SameAt ρ own1 ρ' own' i) ∧ TReads (Zone N ρ' own') w' ρ' own' v u) :
    ∃ u w' ρ', A u w' ∧ ORel N ρ' own' w' ∧ Fr ρ own w ρ' own' w' ∧ (∀ i, i ≠ id → SameAt ρ own ρ' own' i) ∧ TReads (Zone N ρ' own') w' ρ' own' v u := by
  obtain ⟨u, w', ρ', h1, h2, h3, h4, h5⟩ := k
  refine ⟨u, w', ρ', h1, h2, h.toFr.trans h3, fun i hi => ?_, h5⟩
  intro loc hl
  obtain ⟨a1, a2, a3⟩ := h.same i loc hl
  obtain ⟨b1, b2, b3⟩ := h4 i hi loc a1
  exact ⟨b1, b2.trans a2, b3.trans a3⟩

theorem grow_sound {tb : TypeId → TyI} (hT : ∀ t, tyChk P t (tb t) = true) {o : Oper} {tm : List TV} {a : Act} (hrel : ORel N ρ own w) (ht : TRel (Zone N ρ own) w ρ own tm a.tmps)
    {safe : List Prop} {v : TV} {own' : Own} {id : Nat} (h : opRes tb o tm own = .grow safe v own' id) (hs : ∀ p ∈ safe, p) :
    ∃ u w' ρ', (execOp a.eval o).run P w = .ok (.value u) w' ∧ ORel N ρ' (killOwn id own') w' ∧ Fr ρ own w ρ' (killOwn id own') w' ∧ (∀ i, i ≠ id → SameAt ρ own ρ' (killOwn id own') i) ∧
      TReads (Zone N ρ' (killOwn id own')) w' ρ' (killOwn id own') v u := by
  unfold opRes at h
  cases hop : o.op with
  | call c =>
    simp only [hop] at h
    split at h
    · rename_i b hc
      obtain ⟨consts, he⟩ := exec_builtin (a := a) hop hc
      rw [he]
      unfold builtinRes at h
      split at h
      · split at h
        · cases h
        · split at h <;> cases h
      · rename_i x y hargs
        obtain ⟨p, q, hargs', hp, hq⟩ := two_args hargs
        have hx := ev_reads ht p
        have hy := ev_reads ht q
        rw [hp] at hx
        rw [hq] at hy
        rw [hargs']
        clear hargs hp hq hargs'
        obtain ⟨hst, hy⟩ := openV_ok hrel hy
        replace hx := hst.treads hx
        refine grow_shut hst ?_
        replace hrel := hst.rel
        clear hst ht
        generalize freeze0 own y = own1 at *
        generalize openV own y = y1 at *
        split at h
        · rename_i n hsl hb
          split at h
          · rename_i hn2
            have hn2 := Nat.eq_of_beq_eq_true hn2
            have htys := append_types (tys := c.argTypes) (by omega)
            obtain ⟨e', hk⟩ := isSliceTy_under (hT _) hsl
            have hpb : 0 < (tb (lget 0 c.argTypes.toList 0)).bytes := by
              have : 1 ≤ (tb (lget 0 c.argTypes.toList 0)).bytes := by simpa [Nat.blt] using hb
              omega
            have hcall : ∀ (u : Value) (w' : World), (Builtin.append_ #[lget 0 c.argTypes.toList 0, lget 0 c.argTypes.toList 1] o.type #[a.eval p, a.eval q]).run P w = .ok u w' →
                (builtin .append c.argTypes o.type consts (#[p, q].map a.eval)).run P w = .ok (.value u) w' := by
              intro u w' hr
              rw [htys]
              simp only [builtin, Sem.run_bind, List.map_toArray, List.map_cons, List.map_nil, hr, Result.andThen_ok, Sem.run_pure]
            unfold appendRes at h
            split at h
            · split at h <;> cases h
            · split at h
              · split at h <;> cases h
              · cases h
            · split at h <;> cases h
            · rename_i id' x
              split at h
              · rename_i hf hfz
                split at h
                · rename_i k l k' m ho
                  split at h
                  · rename_i hkk
                    simp only [OpRes.grow.injEq] at h
                    obtain ⟨rfl, rfl, rfl, rfl⟩ := h
                    obtain rfl := kindEq_iff.1 hkk
                    obtain ⟨u, w', ρ', h1, h2, h3, h4, h5⟩ := append_vec_run (P := P) (N := N) (ρ := ρ) (own := own1) (w := w) (ty := o.type) (hT _) hrel hk hx hy hf hfz (.ints k (m ++ l)) (.inl ⟨k, l, m, rfl, ho, rfl⟩) hpb
                      (by rw [ho]; have := hs _ (List.mem_singleton.2 rfl); exact this)
                    rw [lset_eq]
                    exact ⟨u, w', ρ', hcall _ _ h1, h2, h3, h4, h5⟩
                  · cases h
                · rename_i sz l sz' m ho
                  split at h
                  · rename_i hkk
                    simp only [OpRes.grow.injEq] at h
                    obtain ⟨rfl, rfl, rfl, rfl⟩ := h
                    obtain rfl := Nat.eq_of_beq_eq_true hkk
                    obtain ⟨u, w', ρ', h1, h2, h3, h4, h5⟩ := append_vec_run (P := P) (N := N) (ρ := ρ) (own := own1) (w := w) (ty := o.type) (hT _) hrel hk hx hy hf hfz (.rows sz (m ++ l)) (.inr ⟨sz, l, m, rfl, ho, rfl⟩) hpb
                      (by rw [ho]; have := hs _ (List.mem_singleton.2 rfl); exact this)
                    rw [lset_eq]
                    exact ⟨u, w', ρ', hcall _ _ h1, h2, h3, h4, h5⟩
                  · cases h
                · cases h
              · cases h
            · cases h
          · cases h
        · cases h
      · split at h <;> cases h
      · split at h <;> cases h
      · cases h
    · cases h
    · cases h
  | pick c x y => simp only [hop] at h; unfold pickRes at h; split at h <;> (try split at h) <;> (try split at h) <;> cases h
  | binOp op t x y ty =>
    simp only [hop] at h
    unfold binRes at h
    split at h
    · split at h
      · cases h
      · cases h
      · split at h
        · cases op <;> simp [intRes] at h
        · cases h
    · split at h <;> cases h
    · split at h <;> cases h
    · split at h <;> cases h
    all_goals first | cases h | (unfold boolRes at h; split at h <;> cases h)
  | unOp op t x => simp only [hop] at h; unfold unRes at h; split at h <;> cases h
  | convert s d x =>
    simp only [hop] at h; unfold convRes at h
    split at h <;> (try split at h) <;> cases h
  | load t p =>
    simp only [hop] at h; unfold loadRes at h
    split at h
    · split at h
      · split at h <;> cases h
      · cases h
    · unfold loadData at h
      split at h
      · split at h
        · split at h <;> cases h
        · cases h
      · split at h
        · split at h <;> cases h
        · cases h
      · cases h
    · unfold loadData at h
      split at h
      · split at h
        · split at h <;> cases h
        · cases h
      · split at h
        · split at h <;> cases h
        · cases h
      · cases h
    · cases h
  | store t p x =>
    simp only [hop] at h; unfold storeRes at h
    split at h
    · split at h
      · split at h <;> cases h
      · cases h
    · split at h
      · split at h
        · split at h <;> cases h
        · cases h
      · split at h <;> cases h
      · cases h
    · cases h
  | indexAddr t x i =>
    simp only [hop] at h; unfold indexAddrRes at h
    split at h
    · split at h
      · split at h <;> cases h
      · split at h <;> cases h
      · cases h
      · cases h
    · cases h
  | index t x i => simp only [hop] at h; unfold indexRes at h; split at h <;> (try split at h) <;> cases h
  | makeSlice t n c => simp only [hop] at h; unfold makeRes at h; split at h <;> (try split at h) <;> cases h
  | slice t x lo hi mx =>
    simp only [hop] at h; unfold sliceRes at h
    split at h
    · split at h
      · split at h
        · split at h <;> cases h
        · split at h <;> cases h
        · split at h <;> cases h
        · split at h <;> (try split at h) <;> cases h
        · split at h <;> cases h
        · cases h
      · cases h
    · split at h <;> (try split at h) <;> cases h
    · cases h
  | fieldAddr s x f => simp only [hop] at h; split at h <;> (try split at h) <;> cases h
  | field s x f => simp only [hop] at h; split at h <;> (try split at h) <;> (try split at h) <;> cases h
  | extract x i => simp only [hop] at h; split at h <;> (try split at h) <;> cases h
  | nilCheck x => simp only [hop] at h; split at h <;> cases h
  | alloc t => simp only [hop] at h; split at h <;> cases h
  | box t x => simp only [hop] at h; split at h <;> cases h
  | build t parts => simp only [hop] at h; split at h <;> cases h
  | buildSlice t n parts =>
    simp only [hop] at h
    split at h
    · split at h <;> first | cases h | (unfold litOut at h; split at h <;> cases h)
    · split at h <;> first | cases h | (unfold litOut at h; split at h <;> cases h)
    · cases h
  | _ => simp only [hop] at h; cases h

theorem anyB_sound {tb : TypeId → TyI} (hT : ∀ t, tyChk P t (tb t) = true) {o : Oper} {tm : List TV} {a : Act} (ht : TRel (Zone N ρ own) w ρ own tm a.tmps)
    {p : Bool → Prop} (h : opRes tb o tm own = .anyB p) : ∃ b, p b ∧ (execOp a.eval o).run P w = .ok (.value (.bool b)) w := by
  have key : (∃ op t x y ty, o.op = .binOp op t x y ty ∧ binRes op (tb t).ty y (ev tm x) (ev tm y) own = .anyB p) := by
    unfold opRes at h
    cases hop : o.op with
    | binOp op t x y ty => simp only [hop] at h; exact ⟨op, t, x, y, ty, rfl, h⟩
    | call c =>
      simp only [hop] at h
      split at h
      · unfold builtinRes at h
        split at h
        · split at h
          · cases h
          · split at h <;> cases h
        · split at h
          · split at h
            · unfold appendRes at h
              split at h
              · split at h <;> cases h
              · split at h
                · split at h <;> cases h
                · cases h
              · split at h <;> cases h
              · split at h
                · split at h
                  · split at h <;> cases h
                  · split at h <;> cases h
                  · cases h
                · cases h
              · cases h
            · cases h
          · cases h
        · split at h <;> cases h
        · split at h <;> cases h
        · cases h
      · cases h
      · cases h
    | pick c x y => simp only [hop] at h; unfold pickRes at h; split at h <;> (try split at h) <;> (try split at h) <;> cases h
    | unOp op t x => simp only [hop] at h; unfold unRes at h; split at h <;> cases h
    | convert s d x =>
      simp only [hop] at h; unfold convRes at h
      split at h <;> (try split at h) <;> cases h
    | load t p =>
      simp only [hop] at h; unfold loadRes at h
      split at h
      · split at h
        · split at h <;> cases h
        · cases h
      · unfold loadData at h
        split at h
        · split at h
          · split at h <;> cases h
          · cases h
        · split at h
          · split at h <;> cases h
          · cases h
        · cases h
      · unfold loadData at h
        split at h
        · split at h
          · split at h <;> cases h
          · cases h
        · split at h
          · split at h <;> cases h
          · cases h
        · cases h
      · cases h
    | store t p x =>
      simp only [hop] at h; unfold storeRes at h
      split at h
      · split at h
        · split at h <;> cases h
        · cases h
      · split at h
        · split at h
          · split at h <;> cases h
          · cases h
        · split at h <;> cases h
        · cases h
      · cases h
    | indexAddr t x i =>
      simp only [hop] at h; unfold indexAddrRes at h
      split at h
      · split at h
        · split at h <;> cases h
        · split at h <;> cases h
        · cases h
        · cases h
      · cases h
    | index t x i => simp only [hop] at h; unfold indexRes at h; split at h <;> (try split at h) <;> cases h
    | makeSlice t n c => simp only [hop] at h; unfold makeRes at h; split at h <;> (try split at h) <;> cases h
    | slice t x lo hi mx =>
      simp only [hop] at h; unfold sliceRes at h
      split at h
      · split at h
        · split at h
          · split at h <;> cases h
          · split at h <;> cases h
          · split at h <;> cases h
          · split at h <;> (try split at h) <;> cases h
          · split at h <;> cases h
          · cases h
        · cases h
      · split at h <;> (try split at h) <;> cases h
      · cases h
    | fieldAddr s x f => simp only [hop] at h; split at h <;> (try split at h) <;> cases h
    | field s x f => simp only [hop] at h; split at h <;> (try split at h) <;> (try split at h) <;> cases h
    | extract x i => simp only [hop] at h; split at h <;> (try split at h) <;> cases h
    | nilCheck x => simp only [hop] at h; split at h <;> cases h
    | alloc t => simp only [hop] at h; split at h <;> cases h
    | box t x => simp only [hop] at h; split at h <;> cases h
    | build t parts => simp only [hop] at h; split at h <;> cases h
    | buildSlice t n parts =>
      simp only [hop] at h
      split at h
      · split at h <;> first | cases h | (unfold litOut at h; split at h <;> cases h)
      · split at h <;> first | cases h | (unfold litOut at h; split at h <;> cases h)
      · cases h
    | _ => simp only [hop] at h; cases h
  obtain ⟨op, t, x, y, ty, ho, hb⟩ := key
  obtain ⟨b, h1, h2⟩ := anyB_run (P := P) (hT t) ht hb
  refine ⟨b, h1, ?_⟩
  unfold execOp
  rw [ho]
  simp only [Sem.run_bind] at h2 ⊢
  cases hg : (eqGuard op t x y (a.eval x) (a.eval y)).run P w with
  | ok q w1 =>
    rw [hg] at h2
    simp only [Result.andThen_ok] at h2 ⊢
    rw [h2]; rfl
  | halt q w1 => rw [hg] at h2; cases h2

theorem call_op {tb : TypeId → TyI} {o : Oper} {tm : List TV} {f : FuncId} {args : List TV} {tys : List TypeId} (h : opRes tb o tm own = .call f args tys) :
    ∃ c, o.op = .call c ∧ c.callee = .value (.func f) ∧ args = lmap (ev tm) c.args.toList := by
  unfold opRes at h
  cases hop : o.op with
  | call c =>
    simp only [hop] at h
    split at h
    · exfalso
      unfold builtinRes at h
      split at h
      · split at h
        · cases h
        · split at h <;> cases h
      · split at h
        · split at h
          · unfold appendRes at h
            split at h
            · split at h <;> cases h
            · split at h
              · split at h <;> cases h
              · cases h
            · split at h <;> cases h
            · split at h
              · split at h
                · split at h <;> cases h
                · split at h <;> cases h
                · cases h
              · cases h
            · cases h
          · cases h
        · cases h
      · split at h <;> cases h
      · split at h <;> cases h
      · cases h
    · rename_i g hc
      simp only [OpRes.call.injEq] at h
      obtain ⟨rfl, rfl, rfl⟩ := h
      exact ⟨c, rfl, hc, rfl⟩
    · cases h
  | pick c x y => simp only [hop] at h; unfold pickRes at h; split at h <;> (try split at h) <;> (try split at h) <;> cases h
  | binOp op t x y ty =>
    simp only [hop] at h
    unfold binRes at h
    split at h
    · split at h
      · cases h
      · cases h
      · split at h
        · cases op <;> simp [intRes] at h
        · cases h
    · split at h <;> cases h
    · split at h <;> cases h
    · split at h <;> cases h
    all_goals first | cases h | (unfold boolRes at h; split at h <;> cases h)
  | unOp op t x => simp only [hop] at h; unfold unRes at h; split at h <;> cases h
  | convert s d x =>
    simp only [hop] at h; unfold convRes at h
    split at h <;> (try split at h) <;> cases h
  | load t p =>
    simp only [hop] at h; unfold loadRes at h
    split at h
    · split at h
      · split at h <;> cases h
      · cases h
    · unfold loadData at h
      split at h
      · split at h
        · split at h <;> cases h
        · cases h
      · split at h
        · split at h <;> cases h
        · cases h
      · cases h
    · unfold loadData at h
      split at h
      · split at h
        · split at h <;> cases h
        · cases h
      · split at h
        · split at h <;> cases h
        · cases h
      · cases h
    · cases h
  | store t p x =>
    simp only [hop] at h; unfold storeRes at h
    split at h
    · split at h
      · split at h <;> cases h
      · cases h
    · split at h
      · split at h
        · split at h <;> cases h
        · cases h
      · split at h <;> cases h
      · cases h
    · cases h
  | indexAddr t x i =>
    simp only [hop] at h; unfold indexAddrRes at h
    split at h
    · split at h
      · split at h <;> cases h
      · split at h <;> cases h
      · cases h
      · cases h
    · cases h
  | index t x i => simp only [hop] at h; unfold indexRes at h; split at h <;> (try split at h) <;> cases h
  | makeSlice t n c => simp only [hop] at h; unfold makeRes at h; split at h <;> (try split at h) <;> cases h
  | slice t x lo hi mx =>
    simp only [hop] at h; unfold sliceRes at h
    split at h
    · split at h
      · split at h
        · split at h <;> cases h
        · split at h <;> cases h
        · split at h <;> cases h
        · split at h <;> (try split at h) <;> cases h
        · split at h <;> cases h
        · cases h
      · cases h
    · split at h <;> (try split at h) <;> cases h
    · cases h
  | fieldAddr s x f => simp only [hop] at h; split at h <;> (try split at h) <;> cases h
  | field s x f => simp only [hop] at h; split at h <;> (try split at h) <;> (try split at h) <;> cases h
  | extract x i => simp only [hop] at h; split at h <;> (try split at h) <;> cases h
  | nilCheck x => simp only [hop] at h; split at h <;> cases h
  | alloc t => simp only [hop] at h; split at h <;> cases h
  | box t x => simp only [hop] at h; split at h <;> cases h
  | build t parts => simp only [hop] at h; split at h <;> cases h
  | buildSlice t n parts =>
    simp only [hop] at h
    split at h
    · split at h <;> first | cases h | (unfold litOut at h; split at h <;> cases h)
    · split at h <;> first | cases h | (unfold litOut at h; split at h <;> cases h)
    · cases h
  | _ => simp only [hop] at h; cases h

end
end Go.Vc
end

section
/- VcR: the operations of a region, in an order that is given: what the generator says of the list is what the machine does. -/
namespace Go.Vc

structure SRel (N : Nat → Prop) (ρ : List Loc) (tm : List TV) (own : Own) (a : Act) (w : World) : Prop where
  orel : ORel N ρ own w
  trel : TRel (Zone N ρ own) w ρ own tm a.tmps
  df : a.defers = []

/-- Behind a piece: nothing but what it may write has turned. -/
structure Post (N : Nat → Prop) (ρ : List Loc) (own : Own) (a : Act) (w : World) (wr : Tmp → Bool) (K : List TV → Own → Prop) (a' : Act) (w' : World) : Prop where
  ex : ∃ tm' own' ρ', K tm' own' ∧ SRel N ρ' tm' own' a' w' ∧ Fr ρ own w ρ' own' w'
  same : ∀ t, wr t = false → a'.tmps.getD t undef = a.tmps.getD t undef
  sz : a'.tmps.size = a.tmps.size

section
variable {P : Program} {N : Nat → Prop}

def wrOps (ops : Array Oper) (t : Tmp) : Bool := ops.toList.any fun o => match o.dst with | some d => Nat.beq d t | none => false

theorem yieldTmp_eq : ∀ (l : List Oper) (j : Nat), yieldTmp l j = (l[j]?).bind (·.dst)
  | [], j => by simp [yieldTmp]
  | o :: r, 0 => by simp [yieldTmp]
  | o :: r, n + 1 => by simp [yieldTmp, yieldTmp_eq r n]

theorem put_same (a : Act) (dst : Option Tmp) (v : Value) (t : Tmp) (h : dst ≠ some t) : (a.put dst v).tmps.getD t undef = a.tmps.getD t undef := by
  cases dst with
  | none => rfl
  | some d =>
    simp only [Act.put]
    rw [getD_setIfInBounds, if_neg]
    rintro ⟨rfl, _⟩; exact h rfl

theorem wrOps_dst {ops : Array Oper} {i : Nat} {o : Oper} (ho : ops[i]? = some o) {t : Tmp} (h : wrOps ops t = false) : o.dst ≠ some t := by
  intro hd
  have hm : o ∈ ops.toList := by
    obtain ⟨hi, rfl⟩ := Array.getElem?_eq_some_iff.1 ho
    simp
  unfold wrOps at h
  rw [List.any_eq_false] at h
  have := h o hm
  rw [hd] at this
  simp at this

theorem setBit {N : Nat → Prop} {ρ : List Loc} {tm : List TV} {own : Own} {a : Act} {w : World} (h : SRel N ρ tm own a w) (g : Tmp) {b : Bool} (hb : a.tmps.getD g undef = .bool b) :
    SRel N ρ (lset tm g (if b then .bt else .bf)) own a w := by
  refine ⟨h.orel, ⟨by rw [lset_eq]; simpa using h.trel.size, fun t => ?_⟩, h.df⟩
  rw [lset_eq, getD_set]
  split
  · rename_i e
    rw [← e.1, hb]
    cases b <;> exact .of0 rfl
  · exact h.trel.at_ t

theorem upon_mono {o : Oper} {a : Act} {next next' : Act → World → Prop} {Q Q' : Exit → Act → World → Prop} (hn : ∀ a w, next a w → next' a w) (hq : ∀ e a w, Q e a w → Q' e a w) {r : Result Next}
    (h : o.upon P a next Q r) : o.upon P a next' Q' r := by
  unfold Oper.upon at h ⊢
  split at h
  · exact hn _ _ h
  · exact hn _ _ h
  · exact hn _ _ h
  · refine h.mono fun e w hr => ?_
    cases e with
    | returned v => exact hn _ _ hr
    | panicked c => exact hq _ _ _ hr
    | outgrown => obtain ⟨x, y, hh⟩ := hr; exact ⟨x, y, hq _ _ _ hh⟩
  · exact h.mono fun v w hr => hn _ _ hr
  · exact hq _ _ _ h
  · exact h.elim
theorem wpOps_mono {ops : Array Oper} {Q Q' : Exit → Act → World → Prop} (hq : ∀ e a w, Q e a w → Q' e a w) : ∀ (l : List Nat) (a : Act) (w : World), wpOps P ops Q l a w → wpOps P ops Q' l a w
  | [], a, w, h => hq _ _ _ h
  | i :: rest, a, w, h => by
    simp only [wpOps] at h ⊢
    split
    · rename_i ho
      rw [ho] at h
      exact wpOps_mono hq rest a w h
    · rename_i o ho
      rw [ho] at h
      simp only at h
      split
      · rename_i hw
        rw [if_pos hw] at h
        rcases h with h | ⟨h1, x, y, h2⟩
        · exact .inl (upon_mono (fun a w => wpOps_mono hq rest a w) hq h)
        · exact .inr ⟨h1, x, y, hq _ _ _ h2⟩
      · rename_i hw
        rw [if_neg hw] at h
        exact wpOps_mono hq rest _ w h

theorem ops_sound {tb : TypeId → TyI} {Γ : FuncId → Con} (hT : ∀ t, tyChk P t (tb t) = true) (hΓ : ∀ f args own K, Γ f args own K → SoundCon P f (Γ f)) (ops : Array Oper) (K : List TV → Own → Prop) :
    ∀ (is : List Nat), (∀ i ∈ is, i < ops.size) → ∀ (tm : List TV) (own : Own) (a : Act) (w : World) (ρ : List Loc),
      awpOps tb Γ ops.toList (is.map fun i => ops.toList.getD i default) tm own K → SRel N ρ tm own a w →
      wpOps P ops (fun e a' w' => e = .normal ∧ Post N ρ own a w (wrOps ops) K a' w') is a w := by
  intro is
  induction is with
  | nil =>
    intro _ tm own a w ρ h hs
    exact ⟨rfl, ⟨tm, own, ρ, h, hs, Fr.refl _ _ _⟩, fun _ _ => rfl, rfl⟩
  | cons i rest ih =>
    intro hlt tm own a w ρ h hs
    have hi : i < ops.size := hlt i (by simp)
    have ho : ops[i]? = some ops[i] := by simp [hi]
    have hget : ops.toList.getD i default = ops[i] := by simp [List.getD_eq_getElem?_getD, hi]
    simp only [List.map_cons, hget] at h
    simp only [wpOps, ho]
    have ih' := ih fun j hj => hlt j (by simp [hj])
    -- what follows, once the slot is put
    have next : ∀ (tm1 : List TV) (own1 : Own) (w1 : World) (ρ1 : List Loc) (u : Value), awpOps tb Γ ops.toList (rest.map fun i => ops.toList.getD i default) tm1 own1 K →
        SRel N ρ1 tm1 own1 (a.put ops[i].dst u) w1 → Fr ρ own w ρ1 own1 w1 →
        wpOps P ops (fun e a' w' => e = .normal ∧ Post N ρ own a w (wrOps ops) K a' w') rest (a.put ops[i].dst u) w1 := by
      intro tm1 own1 w1 ρ1 u hk hs1 hf
      have := ih' tm1 own1 (a.put ops[i].dst u) w1 ρ1 hk hs1
      refine wpOps_mono ?_ _ _ _ this
      rintro e a' w' ⟨he, ⟨tm', own', ρ', k1, k2, k3⟩, hsame, hsz⟩
      refine ⟨he, ⟨tm', own', ρ', k1, k2, hf.trans k3⟩, fun t ht => ?_, hsz.trans (by cases ops[i].dst <;> simp [Act.put])⟩
      rw [hsame t ht, put_same _ _ _ _ (wrOps_dst ho ht)]
    -- the operation is run
    have run : ∀ (tm0 : List TV), SRel N ρ tm0 own a w →
        (match opRes tb ops[i] tm0 own with
          | .bad => False
          | .det safe v own' => conj safe (awpOps tb Γ ops.toList (rest.map fun i => ops.toList.getD i default) (put tm0 ops[i].dst v) own' K)
          | .grow safe v own' id => conj safe (awpOps tb Γ ops.toList (rest.map fun i => ops.toList.getD i default) (put (lmap (kill1 id) tm0) ops[i].dst v) (killOwn id own') K)
          | .anyB p => ∀ b : Bool, p b → awpOps tb Γ ops.toList (rest.map fun i => ops.toList.getD i default) (put tm0 ops[i].dst (.d (.bool b))) own K
          | .call f args _ => Γ f args own fun v own' => awpOps tb Γ ops.toList (rest.map fun i => ops.toList.getD i default) (put tm0 ops[i].dst v) own' K) →
        ops[i].wp P a w (wpOps P ops (fun e a' w' => e = .normal ∧ Post N ρ own a w (wrOps ops) K a' w') rest) (fun e a' w' => e = .normal ∧ Post N ρ own a w (wrOps ops) K a' w') := by
      intro tm0 hs0 hr
      unfold Oper.wp
      split at hr
      · exact hr.elim
      · rename_i safe v own' he
        rw [conj_iff] at hr
        obtain ⟨hsafe, hr⟩ := hr
        obtain ⟨nx, w', ρ', u, h1, h2, h3, h4⟩ := det_sound (P := P) hT hs0.orel hs0.trel he hsafe
        rw [h1]
        have hs1 : SRel N ρ' (put tm0 ops[i].dst v) own' (a.put ops[i].dst u) w' :=
          ⟨h3.rel, TRel.put (hs0.trel.step h3) _ h4, by cases ops[i].dst <;> exact hs0.df⟩
        have hn := next _ _ _ _ u hr hs1 h3.toFr
        rcases h2 with rfl | ⟨rfl, rfl⟩
        · exact hn
        · exact hn
      · rename_i safe v own' id he
        rw [conj_iff] at hr
        obtain ⟨hsafe, hr⟩ := hr
        obtain ⟨u, w', ρ', h1, h2, h3, h4, h5⟩ := grow_sound (P := P) hT hs0.orel hs0.trel he hsafe
        rw [h1]
        have htr : TRel (Zone N ρ' (killOwn id own')) w' ρ' (killOwn id own') (lmap (kill1 id) tm0) a.tmps := by
          refine ⟨by rw [lmap_eq]; simpa using hs0.trel.size, fun t => ?_⟩
          have := (hs0.trel.at_ t).kill id (fun _ _ => h3.reads) h4
          rw [lmap_eq]
          by_cases hlt : t < tm0.length
          · simpa [List.getD_eq_getElem?_getD, hlt] using this
          · have e1 : (tm0.map (kill1 id)).getD t .un = .un := by rw [List.getD_eq_getElem?_getD, List.getElem?_eq_none (by simpa using hlt)]; rfl
            have e2 : tm0.getD t .un = .un := by rw [List.getD_eq_getElem?_getD, List.getElem?_eq_none (by omega)]; rfl
            rw [e2] at this
            rw [e1]; exact this
        have hs1 : SRel N ρ' (put (lmap (kill1 id) tm0) ops[i].dst v) (killOwn id own') (a.put ops[i].dst u) w' :=
          ⟨h2, TRel.put htr _ h5, by cases ops[i].dst <;> exact hs0.df⟩
        exact next _ _ _ _ u hr hs1 h3
      · rename_i p he
        obtain ⟨b, hb, h1⟩ := anyB_sound (P := P) (w := w) hT hs0.trel he
        rw [h1]
        have hs1 : SRel N ρ (put tm0 ops[i].dst (.d (.bool b))) own (a.put ops[i].dst (.bool b)) w :=
          ⟨hs0.orel, TRel.put hs0.trel _ (bool_reads b), by cases ops[i].dst <;> exact hs0.df⟩
        exact next _ _ _ _ _ (hr b hb) hs1 (Fr.refl _ _ _)
      · rename_i f args tys he
        obtain ⟨c, hop, hc, rfl⟩ := call_op he
        obtain ⟨⟨fn, hf1, hf2, hf3⟩, hcon⟩ := hΓ _ _ _ _ hr
        obtain ⟨hlen, hargs⟩ := argsRel hs0.trel c.args
        have hex : (execOp a.eval ops[i]).run P w = .ok (.enter f (c.args.map a.eval)) w := by
          unfold execOp
          rw [hop]
          simp only [resolve, hc, Deferred.ofValue, Act.eval, pure_bind, invoke, callFunc, Sem.run_bind, run_program, Result.andThen_ok, hf1, hf2, hf3]
          simp
        rw [hex]
        refine (hcon N ρ own w _ _ _ hr hs0.orel (by simpa using hlen) (fun j hj => by have := hargs j hj; simpa [Array.getD_eq_getD_getElem?, List.getD_eq_getElem?_getD] using this)).mono ?_
        rintro e w' ⟨r, own', ρ', v, rfl, h1, h2, h3⟩
        have hs1 : SRel N ρ' (put tm0 ops[i].dst r) own' (a.put ops[i].dst v) w' :=
          ⟨h2.rel, TRel.put (hs0.trel.step h2) _ h3, by cases ops[i].dst <;> exact hs0.df⟩
        exact next _ _ _ _ v h1 hs1 h2.toFr
    -- the operation is passed by
    have skip : ∀ (tm0 : List TV), SRel N ρ tm0 own a w → awpOps tb Γ ops.toList (rest.map fun i => ops.toList.getD i default) (put tm0 ops[i].dst .un) own K →
        wpOps P ops (fun e a' w' => e = .normal ∧ Post N ρ own a w (wrOps ops) K a' w') rest (a.put ops[i].dst undef) w := fun tm0 hs0 hr =>
      next _ _ _ _ undef hr ⟨hs0.orel, TRel.put hs0.trel _ TReads.un, by cases ops[i].dst <;> exact hs0.df⟩ (Fr.refl _ _ _)
    unfold awpOps at h
    cases hg : ops[i].guard with
    | none =>
      rw [hg] at h
      simp only [Region.wanted, hg, if_true]
      exact .inl (run tm hs h)
    | some jw =>
      obtain ⟨j, want⟩ := jw
      rw [hg] at h
      simp only [Region.wanted, hg]
      have hyl : yieldTmp ops.toList j = (ops[j]?).bind (·.dst) := by rw [yieldTmp_eq]; simp
      simp only at h
      cases hy : yieldTmp ops.toList j with
      | none =>
        rw [hy] at h
        have : yielded ops a.tmps j = none := by unfold yielded; rw [← hyl, hy]; rfl
        rw [this]
        exact skip tm hs h
      | some g =>
        rw [hy] at h
        simp only at h
        have hyd : ∀ b, a.tmps.getD g undef = .bool b → yielded ops a.tmps j = some b := by
          intro b hb
          unfold yielded
          rw [← hyl, hy]
          simp only [Option.bind_some]
          have : a.tmps[g]? = some (.bool b) := by
            rw [Array.getD_eq_getD_getElem?] at hb
            cases hq : a.tmps[g]? with
            | none => rw [hq] at hb; cases hb
            | some q => rw [hq] at hb; simp at hb; rw [hb]
          rw [this]
        have hat := hs.trel.at_ g
        rw [← lget_eq] at hat
        split at h
        · rename_i he
          rw [he] at hat
          have hb : a.tmps.getD g undef = .bool true := hat
          rw [hyd true hb]
          cases want with
          | true => simp only [beq_self_eq_true, if_true]; exact .inl (run tm hs h)
          | false => simp only [show (some true == some false) = false from rfl]; exact skip tm hs h
        · rename_i he
          rw [he] at hat
          have hb : a.tmps.getD g undef = .bool false := hat
          rw [hyd false hb]
          cases want with
          | false => simp only [beq_self_eq_true, if_true]; exact .inl (run tm hs h)
          | true => simp only [show (some false == some true) = false from rfl]; exact skip tm hs h
        · rename_i he
          rw [he] at hat
          have hb : a.tmps.getD g undef = undef := hat
          have : yielded ops a.tmps j = none := by
            unfold yielded
            rw [← hyl, hy]
            simp only [Option.bind_some]
            rw [Array.getD_eq_getD_getElem?] at hb
            cases hq : a.tmps[g]? with
            | none => rfl
            | some q => rw [hq] at hb; simp at hb; rw [hb]; rfl
          rw [this]
          exact skip tm hs h
        · rename_i b he
          rw [he] at hat
          have hb := reads_bool hat
          rw [hyd b hb]
          obtain ⟨ht, hf⟩ := h
          have hset := setBit hs g hb
          cases b with
          | true =>
            have ht := ht rfl
            cases want with
            | true => simp only [beq_self_eq_true, if_true]; exact .inl (run _ hset ht)
            | false => simp only [show (some true == some false) = false from rfl]; exact skip _ hset ht
          | false =>
            have hf := hf rfl
            cases want with
            | false => simp only [beq_self_eq_true, if_true]; exact .inl (run _ hset hf)
            | true => simp only [show (some false == some true) = false from rfl]; exact skip _ hset hf
        · exact h.elim

end
end Go.Vc
end

section
/- VcS: regions whose order is open: every order that the model may draw does what the written order does. -/
namespace Go.Vc

/-- What a contract owes to be moved past other operations. -/
def ConOk (T : Con) : Prop :=
  (∀ args own (K K' : TV → Own → Prop), (∀ r o, K r o → K' r o) → T args own K → T args own K') ∧ ∀ args own K, T args own K → ∃ r o, K r o

section
variable {tb : TypeId → TyI} {Γ : FuncId → Con}

/-- One operation, then what is wanted. -/
def stepK (Γ : FuncId → Con) (own : Own) (k : TV → Own → Prop) : OpRes → Prop
  | .bad => False
  | .det safe v own' => conj safe (k v own')
  | .grow _ _ _ _ => False
  | .anyB _ => False
  | .call f args _ => Γ f args own k

/-- The answer of an operation, own memory put in. -/
def OpRes.withOwn (own : Own) : OpRes → OpRes
  | .det s v _ => .det s v own
  | r => r

theorem usesTmp_iff {t : Tmp} {l : List Operand} : usesTmp t l = true ↔ Operand.tmp t ∈ l := by
  induction l with
  | nil => simp [usesTmp]
  | cons x r ih =>
    cases x with
    | tmp u =>
      simp only [usesTmp]
      by_cases h : u = t
      · subst h; simp
      · have : Nat.beq u t = false := by
          cases hb : Nat.beq u t with
          | false => rfl
          | true => exact absurd (Nat.eq_of_beq_eq_true hb) h
        rw [this]; simp [ih, Ne.symm h]
    | _ => simp [usesTmp, ih]

theorem ev_put {tm : List TV} {dst : Option Tmp} {v : TV} {x : Operand} (h : ∀ t, dst = some t → x ≠ .tmp t) : ev (put tm dst v) x = ev tm x := by
  cases dst with
  | none => rfl
  | some d =>
    cases x with
    | tmp t =>
      simp only [put, ev, lset_eq, lget_eq, getD_set]
      rw [if_neg]
      rintro ⟨rfl, _⟩
      exact h d rfl rfl
    | _ => rfl

theorem ev_put_of {o : Oper} {tm : List TV} {dst : Option Tmp} {v : TV} (h : readsDst o dst = false) {x : Operand} (hx : x ∈ o.op.operands.toList) : ev (put tm dst v) x = ev tm x := by
  refine ev_put fun t ht hxt => ?_
  subst ht hxt
  simp only [readsDst] at h
  rw [usesTmp_iff.2 hx] at h
  cases h

theorem lmap_congr {α β : Type} {f g : α → β} {l : List α} (h : ∀ x ∈ l, f x = g x) : lmap f l = lmap g l := by
  rw [lmap_eq, lmap_eq]; exact List.map_congr_left h

theorem opRes_congr {o : Oper} {tm tm' : List TV} {own : Own} (h : ∀ x ∈ o.op.operands.toList, ev tm' x = ev tm x) : opRes tb o tm' own = opRes tb o tm own := by
  unfold opRes
  cases hop : o.op with
  | move x => simp only [hop] at h ⊢; rw [h x (by simp [Op.operands])]
  | assign x => simp only [hop] at h ⊢; rw [h x (by simp [Op.operands])]
  | pick c x y => simp only [hop] at h ⊢; rw [h c (by simp [Op.operands]), h x (by simp [Op.operands]), h y (by simp [Op.operands])]
  | box t x => simp only [hop] at h ⊢; rw [h x (by simp [Op.operands])]
  | build t parts =>
    simp only [hop] at h ⊢
    have : lmap (fun p => (p.1, ev tm' p.2)) parts.toList = lmap (fun p => (p.1, ev tm p.2)) parts.toList := lmap_congr fun p hp => by rw [h p.2 (by simp [Op.operands]; exact ⟨p.1, by simpa using hp⟩)]
    rw [this]
  | buildSlice t n parts =>
    simp only [hop] at h ⊢
    have : lmap (fun p => (p.1, ev tm' p.2)) parts.toList = lmap (fun p => (p.1, ev tm p.2)) parts.toList := lmap_congr fun p hp => by rw [h p.2 (by simp [Op.operands]; exact ⟨p.1, by simpa using hp⟩)]
    rw [this]
  | load t x => simp only [hop] at h ⊢; rw [h x (by simp [Op.operands])]
  | store t x y => simp only [hop] at h ⊢; rw [h x (by simp [Op.operands]), h y (by simp [Op.operands])]
  | nilCheck x => simp only [hop] at h ⊢; rw [h x (by simp [Op.operands])]
  | binOp op t x y ty => simp only [hop] at h ⊢; rw [h x (by simp [Op.operands]), h y (by simp [Op.operands])]
  | unOp op t x => simp only [hop] at h ⊢; rw [h x (by simp [Op.operands])]
  | convert s d x => simp only [hop] at h ⊢; rw [h x (by simp [Op.operands])]
  | extract x i => simp only [hop] at h ⊢; rw [h x (by simp [Op.operands])]
  | fieldAddr s x f => simp only [hop] at h ⊢; rw [h x (by simp [Op.operands])]
  | field s x f => simp only [hop] at h ⊢; rw [h x (by simp [Op.operands])]
  | indexAddr t x i => simp only [hop] at h ⊢; rw [h x (by simp [Op.operands]), h i (by simp [Op.operands])]
  | index t x i => simp only [hop] at h ⊢; rw [h x (by simp [Op.operands]), h i (by simp [Op.operands])]
  | makeSlice t x y => simp only [hop] at h ⊢; rw [h x (by simp [Op.operands]), h y (by simp [Op.operands])]
  | slice t x lo hi mx =>
    simp only [hop] at h ⊢
    have ho : ∀ q : Option Operand, (∀ y, q = some y → ev tm' y = ev tm y) → omap (ev tm') q = omap (ev tm) q := by
      intro q hq
      cases q with
      | none => rfl
      | some y => simp only [omap, hq y rfl]
    rw [h x (by simp [Op.operands]), ho lo (fun y hy => h y (by subst hy; simp [Op.operands])), ho hi (fun y hy => h y (by subst hy; simp [Op.operands])), ho mx (fun y hy => h y (by subst hy; simp [Op.operands]))]
  | call c =>
    simp only [hop] at h ⊢
    have : lmap (ev tm') c.args.toList = lmap (ev tm) c.args.toList := lmap_congr fun x hx => h x (by simp [Op.operands, Call.operands]; exact .inr (by simpa using hx))
    rw [this]
  | _ => rfl

theorem loadData_own (t : Ty) (x : AV) (i : Int) (j : Nat) (own : Own) : loadData t x i j own = .bad ∨ ∃ s v, loadData t x i j own = .det s v own := by
  unfold loadData
  split
  · split
    · split
      · exact .inr ⟨_, _, rfl⟩
      · exact .inl rfl
    · exact .inl rfl
  · split
    · split <;> first | exact .inl rfl | exact .inr ⟨_, _, rfl⟩
    · exact .inl rfl
  · exact .inl rfl

theorem norm0_own (own own' : Own) (s : STy) {v : TV} (h : TV.data0 v = true) : TV.toAV own (s.norm own v) = TV.toAV own' (s.norm own' v) := by
  cases v <;> simp [TV.data0] at h <;> cases s <;> rfl
theorem av_own (own own' : Own) {v : TV} (h : TV.data0 v = true) : TV.toAV own v = TV.toAV own' v := by
  cases v <;> simp [TV.data0] at h <;> rfl
theorem row_own (own own' : Own) : ∀ (cs : List STy) (vs : List TV), allB TV.data0 vs = true → lmap (TV.toAV own) (norms own cs vs) = lmap (TV.toAV own') (norms own' cs vs)
  | [], vs, h => by
    rw [allB_eq, List.all_eq_true] at h
    exact lmap_congr fun x hx => av_own own own' (h x hx)
  | s :: cs, [], _ => rfl
  | s :: cs, v :: vs, h => by
    have h1 : TV.data0 v = true ∧ allB TV.data0 vs = true := by
      rw [allB_eq, List.all_cons, Bool.and_eq_true] at h
      rw [allB_eq]; exact h
    show TV.toAV own (s.norm own v) :: lmap (TV.toAV own) (norms own cs vs) = TV.toAV own' (s.norm own' v) :: lmap (TV.toAV own') (norms own' cs vs)
    rw [norm0_own own own' s h1.1, row_own own own' cs vs h1.2]
theorem litRows_own (own own' : Own) (sz : Nat) (cs : List STy) : ∀ (parts : List (Nat × TV)) (i n : Nat), litRows.go own sz cs i n parts = litRows.go own' sz cs i n parts
  | [], i, 0 => rfl
  | [], i, n + 1 => rfl
  | _ :: _, i, 0 => rfl
  | (j, v) :: r, i, n + 1 => by
    simp only [litRows.go]
    rw [litRows_own own own' sz cs r]
    split
    · rename_i h1 h2 h3
      have : toRow own cs v = toRow own' cs v := row_own own own' cs _ h3
      rw [this]
    · rfl

theorem conv_int (k : IntKind) (dst : Ty) (x : TV) : (∀ own, convRes (.sc (.int k)) dst x own = .bad) ∨ ∃ s v, ∀ own, convRes (.sc (.int k)) dst x own = .det s v own := by
  unfold convRes
  cases dst with
  | sc s =>
    cases s with
    | int k' =>
      cases x with
      | d a => cases a <;> first | exact .inr ⟨_, _, fun _ => rfl⟩ | exact .inl fun _ => rfl
      | _ => exact .inl fun _ => rfl
    | str =>
      cases x with
      | d a =>
        cases a with
        | ints k' l => cases k' <;> exact .inl fun _ => rfl
        | _ => exact .inl fun _ => rfl
      | vec id =>
        refine .inl fun own => ?_
        simp only
        cases OB.at own id with
        | ints k' l => cases k' <;> rfl
        | _ => rfl
      | _ => exact .inl fun _ => rfl
    | _ => exact .inl fun _ => rfl
  | _ => exact .inl fun _ => rfl

/-- Operations that read no own memory. -/
theorem cls0 {o : Oper} (hc : opCls tb o.op = 0) (hm : mayAny o.op = false) (tm : List TV) (own own' : Own) :
    (opRes tb o tm own = .bad ∧ opRes tb o tm own' = .bad) ∨ ∃ s v, opRes tb o tm own = .det s v own ∧ opRes tb o tm own' = .det s v own' := by
  have bad : ∀ {x y : OpRes}, x = .bad → y = .bad → (x = .bad ∧ y = .bad) ∨ ∃ s v, x = .det s v own ∧ y = .det s v own' := fun h1 h2 => .inl ⟨h1, h2⟩
  unfold opRes
  cases hop : o.op <;> simp only [hop, opCls] at hc hm ⊢ <;> try (exact absurd hc (by decide))
  case move x => exact .inr ⟨_, _, rfl, rfl⟩
  case buildSlice t n parts =>
    have hl : (tb t).lit = true := by
      cases hb : (tb t).lit with
      | true => rfl
      | false => rw [hb] at hc; cases hc
    rw [hl]
    split
    · split
      · exact .inr ⟨_, _, rfl, rfl⟩
      · exact .inl ⟨rfl, rfl⟩
    · rw [show ∀ q, litRows own q (tb t).ecells n (lmap (fun p => (p.1, ev tm p.2)) parts.toList) = litRows own' q (tb t).ecells n (lmap (fun p => (p.1, ev tm p.2)) parts.toList) from fun q => litRows_own own own' q _ _ 0 n]
      split
      · exact .inr ⟨_, _, rfl, rfl⟩
      · exact .inl ⟨rfl, rfl⟩
    · exact .inl ⟨rfl, rfl⟩
  case assign x => exact .inr ⟨_, _, rfl, rfl⟩
  case pick c x y =>
    unfold pickRes
    split
    · exact .inr ⟨_, _, rfl, rfl⟩
    · exact .inr ⟨_, _, rfl, rfl⟩
    · split
      · exact .inr ⟨_, _, rfl, rfl⟩
      · exact .inr ⟨_, _, rfl, rfl⟩
      · exact .inr ⟨_, _, rfl, rfl⟩
      · exact .inr ⟨_, _, rfl, rfl⟩
      · split
        · exact .inr ⟨_, _, rfl, rfl⟩
        · exact .inl ⟨rfl, rfl⟩
      · exact .inl ⟨rfl, rfl⟩
    · exact .inl ⟨rfl, rfl⟩
  case nilCheck x => split <;> first | exact .inr ⟨_, _, rfl, rfl⟩ | exact .inl ⟨rfl, rfl⟩
  case binOp op t x y ty =>
    have hnc : ∀ v, y = .const v → (∀ a l c, v ≠ .slice a l c) := by
      rintro v rfl a l c rfl
      simp [mayAny, isSliceConst] at hm
    have hb : ∀ (op : BinOp) (oy : Operand) (k : IntKind) (a b : Int), (intRes op oy k a b own = .bad ∧ intRes op oy k a b own' = .bad) ∨ ∃ s v, intRes op oy k a b own = .det s v own ∧ intRes op oy k a b own' = .det s v own' := by
      intro op oy k a b
      cases op <;> first | exact .inr ⟨_, _, rfl, rfl⟩ | exact .inl ⟨rfl, rfl⟩
    have hbool : ∀ (op : BinOp) (t : Ty) (a b : Bool), (boolRes op t a b own = .bad ∧ boolRes op t a b own' = .bad) ∨ ∃ s v, boolRes op t a b own = .det s v own ∧ boolRes op t a b own' = .det s v own' := by
      intro op t a b
      unfold boolRes
      split <;> first | exact .inr ⟨_, _, rfl, rfl⟩ | exact .inl ⟨rfl, rfl⟩
    generalize hex : ev tm x = xx
    generalize hey : ev tm y = yy
    have hemp : yy = .emp → isSliceConst y = false → ∀ v, y ≠ .const v := by
      intro h1 h2 v hv
      subst hv
      rw [h1] at hey
      have := cv_emp hey
      subst this
      simp [isSliceConst] at h2
    unfold binRes
    split
    · split
      · exact .inr ⟨_, _, rfl, rfl⟩
      · exact .inr ⟨_, _, rfl, rfl⟩
      · split
        · exact hb _ _ _ _ _
        · exact .inl ⟨rfl, rfl⟩
    · split <;> first | exact .inr ⟨_, _, rfl, rfl⟩ | exact .inl ⟨rfl, rfl⟩
    · split
      · exact absurd rfl (hemp rfl hm _)
      · exact absurd rfl (hemp rfl hm _)
      · exact .inl ⟨rfl, rfl⟩
    · split
      · exact absurd rfl (hemp rfl hm _)
      · exact absurd rfl (hemp rfl hm _)
      · exact .inl ⟨rfl, rfl⟩
    all_goals first | exact hbool _ _ _ _ | exact .inl ⟨rfl, rfl⟩
  case unOp op t x => unfold unRes; split <;> first | exact .inr ⟨_, _, rfl, rfl⟩ | exact .inl ⟨rfl, rfl⟩
  case convert s d x =>
    split at hc
    · rename_i k hk
      rw [hk]
      rcases conv_int k (tb d).ty (ev tm x) with h | ⟨s, v, h⟩
      · exact .inl ⟨h own, h own'⟩
      · exact .inr ⟨s, v, h own, h own'⟩
    · cases hc
  case extract x i =>
    split
    · split
      · exact .inr ⟨_, _, rfl, rfl⟩
      · exact .inl ⟨rfl, rfl⟩
    · exact .inl ⟨rfl, rfl⟩
  case fieldAddr s x f =>
    split
    · exact .inl ⟨rfl, rfl⟩
    · split <;> first | exact .inr ⟨_, _, rfl, rfl⟩ | exact .inl ⟨rfl, rfl⟩
  case field s x f =>
    split
    · exact .inl ⟨rfl, rfl⟩
    · split
      · split
        · exact .inr ⟨_, _, rfl, rfl⟩
        · exact .inl ⟨rfl, rfl⟩
      · exact .inl ⟨rfl, rfl⟩
  case index t x i =>
    unfold indexRes
    split
    · split
      · exact .inr ⟨_, _, rfl, rfl⟩
      · exact .inl ⟨rfl, rfl⟩
    · exact .inl ⟨rfl, rfl⟩
  case call c =>
    exfalso
    revert hc
    split <;> simp

/-- Operations that leave own memory. -/
theorem cls1 {o : Oper} (hc : opCls tb o.op ≤ 1) (hm : mayAny o.op = false) (tm : List TV) (own : Own) : opRes tb o tm own = .bad ∨ ∃ s v, opRes tb o tm own = .det s v own := by
  by_cases h0 : opCls tb o.op = 0
  · rcases cls0 (tb := tb) h0 hm tm own own with ⟨h, _⟩ | ⟨s, v, h, _⟩
    · exact .inl h
    · exact .inr ⟨s, v, h⟩
  · have h1 : opCls tb o.op = 1 := by omega
    clear h0 hc
    unfold opRes
    cases hop : o.op <;> simp only [hop, opCls] at h1 ⊢ <;> try (exact absurd h1 (by decide))
    case buildSlice t n parts => exfalso; revert h1; cases (tb t).lit <;> simp
    case load t x =>
      unfold loadRes
      split
      · split
        · split <;> first | exact .inr ⟨_, _, rfl⟩ | exact .inl rfl
        · exact .inl rfl
      · exact loadData_own _ _ _ _ _
      · exact loadData_own _ _ _ _ _
      · exact .inl rfl
    case convert s d x =>
      unfold convRes
      split <;> (try split) <;> first | exact .inr ⟨_, _, rfl⟩ | exact .inl rfl
    case indexAddr t x i =>
      unfold indexAddrRes
      split
      · split
        · split <;> first | exact .inr ⟨_, _, rfl⟩ | exact .inl rfl
        · split <;> first | exact .inr ⟨_, _, rfl⟩ | exact .inl rfl
        · exact .inr ⟨_, _, rfl⟩
        · exact .inl rfl
      · exact .inl rfl
    case call c =>
      split
      · rename_i b hcb
        rw [hcb] at h1
        unfold builtinRes
        split
        · split
          · exact .inl rfl
          · split <;> first | exact .inr ⟨_, _, rfl⟩ | exact .inl rfl
        · exact absurd h1 (by decide)
        · split <;> first | exact .inr ⟨_, _, rfl⟩ | exact .inl rfl
        · split <;> first | exact .inr ⟨_, _, rfl⟩ | exact .inl rfl
        · exact .inl rfl
      · rename_i f hcf
        rw [hcf] at h1
        simp at h1
      · exact .inl rfl

/-- Operations that turn own memory. -/
theorem cls2 {o : Oper} (hc : opCls tb o.op = 2) (tm : List TV) (own : Own) : opRes tb o tm own = .bad ∨ (∃ s v own', opRes tb o tm own = .det s v own') ∨ ∃ f args tys, opRes tb o tm own = .call f args tys := by
  unfold opRes
  cases hop : o.op <;> simp only [hop, opCls] at hc ⊢ <;> try (exact absurd hc (by decide))
  case alloc t => split <;> first | exact .inl rfl | exact .inr (.inl ⟨_, _, _, rfl⟩)
  case box t x => split <;> first | exact .inl rfl | exact .inr (.inl ⟨_, _, _, rfl⟩)
  case convert s d x => exfalso; revert hc; split <;> simp
  case buildSlice t n parts =>
    have hl : (tb t).lit = false := by
      cases hb : (tb t).lit with
      | true => rw [hb] at hc; cases hc
      | false => rfl
    rw [hl]
    split
    · split <;> first | exact .inl rfl | exact .inr (.inl ⟨_, _, _, rfl⟩)
    · split <;> first | exact .inl rfl | exact .inr (.inl ⟨_, _, _, rfl⟩)
    · exact .inl rfl
  case store t x y =>
    unfold storeRes
    split
    · split
      · split <;> first | exact .inl rfl | exact .inr (.inl ⟨_, _, _, rfl⟩)
      · exact .inl rfl
    · split
      · split
        · split <;> first | exact .inl rfl | exact .inr (.inl ⟨_, _, _, rfl⟩)
        · exact .inl rfl
      · split <;> first | exact .inl rfl | exact .inr (.inl ⟨_, _, _, rfl⟩)
      · exact .inl rfl
    · exact .inl rfl
  case makeSlice t x y =>
    unfold makeRes
    split
    · split <;> first | exact .inl rfl | exact .inr (.inl ⟨_, _, _, rfl⟩)
    · exact .inl rfl
  case slice t x lo hi mx =>
    unfold sliceRes
    split
    · split
      · split
        · split <;> first | exact .inl rfl | exact .inr (.inl ⟨_, _, _, rfl⟩)
        · split <;> first | exact .inl rfl | exact .inr (.inl ⟨_, _, _, rfl⟩)
        · split <;> first | exact .inl rfl | exact .inr (.inl ⟨_, _, _, rfl⟩)
        · split
          · split <;> first | exact .inl rfl | exact .inr (.inl ⟨_, _, _, rfl⟩)
          · split <;> first | exact .inl rfl | exact .inr (.inl ⟨_, _, _, rfl⟩)
          · exact .inl rfl
        · split <;> first | exact .inl rfl | exact .inr (.inl ⟨_, _, _, rfl⟩)
        · exact .inl rfl
      · exact .inl rfl
    · split
      · split <;> first | exact .inl rfl | exact .inr (.inl ⟨_, _, _, rfl⟩)
      · split <;> first | exact .inl rfl | exact .inr (.inl ⟨_, _, _, rfl⟩)
      · exact .inl rfl
    · exact .inl rfl
  case call c =>
    split
    · rename_i b hcb
      rw [hcb] at hc
      exfalso
      revert hc
      cases b <;> simp
    · exact .inr (.inr ⟨_, _, _, rfl⟩)
    · exact .inl rfl

theorem put_comm {tm : List TV} {d e : Option Tmp} {u v : TV} (h : sameTmp d e = false) : put (put tm d u) e v = put (put tm e v) d u := by
  cases d with
  | none => cases e <;> rfl
  | some d =>
    cases e with
    | none => rfl
    | some e =>
      have hne : d ≠ e := by
        rintro rfl
        simp [sameTmp] at h
      simp only [put, lset_eq]
      exact List.set_comm _ _ hne

theorem conj_swap {s t : List Prop} {q : Prop} (h : conj s (conj t q)) : conj t (conj s q) := by
  rw [conj_iff, conj_iff] at h ⊢
  exact ⟨h.2.1, h.1, h.2.2⟩

/-- Two operations that ask nothing of each other change places. -/
theorem swapRun {a i : Oper} (hi : indep0 tb a i = true) (hΓ : ∀ f args own K, Γ f args own K → ConOk (Γ f)) {tm tm' : List TV} (hta : ∀ v o, opRes tb a (put tm' i.dst v) o = opRes tb a tm o) (hti : ∀ v o, opRes tb i (put tm a.dst v) o = opRes tb i tm' o) {own : Own} {k : TV → TV → Own → Prop}
    (h : stepK Γ own (fun v own' => stepK Γ own' (fun v' own'' => k v v' own'') (opRes tb i (put tm a.dst v) own')) (opRes tb a tm own)) :
    stepK Γ own (fun v' own' => stepK Γ own' (fun v own'' => k v v' own'') (opRes tb a (put tm' i.dst v') own')) (opRes tb i tm' own) := by
  simp only [indep0, Bool.and_eq_true, Bool.not_eq_true'] at hi
  obtain ⟨⟨⟨⟨⟨hf, hma⟩, hmi⟩, hst⟩, hr1⟩, hr2⟩ := hi
  have hclass : (opCls tb a.op ≤ 1 ∧ opCls tb i.op ≤ 1) ∨ (opCls tb a.op = 0 ∧ opCls tb i.op = 2) ∨ (opCls tb a.op = 2 ∧ opCls tb i.op = 0) := by
    unfold free2 at hf
    split at hf
    · rename_i h1 h2; exact .inl ⟨Nat.le_of_ble_eq_true h1, Nat.le_of_ble_eq_true h2⟩
    · simp only [Bool.and_eq_true] at hf; exact .inr (.inl ⟨Nat.eq_of_beq_eq_true hf.1, Nat.eq_of_beq_eq_true hf.2⟩)
    · simp only [Bool.and_eq_true] at hf; exact .inr (.inr ⟨Nat.eq_of_beq_eq_true hf.1, Nat.eq_of_beq_eq_true hf.2⟩)
    · cases hf
  simp only [hti] at h
  simp only [hta]
  rcases hclass with ⟨h1, h2⟩ | ⟨h1, h2⟩ | ⟨h1, h2⟩
  · -- neither turns own memory
    rcases cls1 (tb := tb) h1 hma tm own with hb | ⟨sa, va, hd⟩
    · rw [hb] at h; exact h.elim
    · rw [hd] at h
      simp only [stepK] at h
      rcases cls1 (tb := tb) h2 hmi tm' own with hb | ⟨si, vi, hd'⟩
      · rw [hb] at h
        exact ((conj_iff _ _).1 h).2.elim
      · rw [hd'] at h ⊢
        simp only [stepK, hd] at h ⊢
        exact conj_swap h
  · -- the second turns it
    rcases cls0 (tb := tb) h1 hma tm own own with ⟨hb, _⟩ | ⟨sa, va, hd, _⟩
    · rw [hb] at h; exact h.elim
    · rw [hd] at h
      simp only [stepK] at h
      have hd2 : ∀ o', opRes tb a tm o' = .det sa va o' := fun o' => by
        rcases cls0 (tb := tb) h1 hma tm own o' with ⟨hb, _⟩ | ⟨s, v, k1, k2⟩
        · rw [hd] at hb; cases hb
        · rw [hd] at k1; cases k1; exact k2
      rcases cls2 (tb := tb) h2 tm' own with hb | ⟨si, vi, o', hd'⟩ | ⟨f, args, tys, hd'⟩
      · rw [hb] at h
        exact ((conj_iff _ _).1 h).2.elim
      · rw [hd'] at h ⊢
        simp only [stepK, hd2] at h ⊢
        exact conj_swap h
      · rw [hd'] at h ⊢
        simp only [stepK, hd2] at h ⊢
        rw [conj_iff] at h
        obtain ⟨hsafe, hcall⟩ := h
        refine (hΓ _ _ _ _ hcall).1 _ _ _ _ (fun r o hr => ?_) hcall
        rw [conj_iff]
        exact ⟨hsafe, hr⟩
  · -- the first turns it
    rcases cls0 (tb := tb) h2 hmi tm' own own with ⟨hb, hb'⟩ | ⟨si, vi, hd, _⟩
    · -- the second is refused wherever it stands
      exfalso
      have hb2 : ∀ o', opRes tb i tm' o' = .bad := fun o' => by
        rcases cls0 (tb := tb) h2 hmi tm' own o' with ⟨_, k⟩ | ⟨s, v, k1, _⟩
        · exact k
        · rw [hb] at k1; cases k1
      rcases cls2 (tb := tb) h1 tm own with hb | ⟨sa, va, o', hd'⟩ | ⟨f, args, tys, hd'⟩
      · rw [hb] at h; exact h
      · rw [hd'] at h
        simp only [stepK, hb2] at h
        exact ((conj_iff _ _).1 h).2
      · rw [hd'] at h
        simp only [stepK, hb2] at h
        obtain ⟨r, o, hr⟩ := (hΓ _ _ _ _ h).2 _ _ _ h
        exact hr
    · have hd2 : ∀ o', opRes tb i tm' o' = .det si vi o' := fun o' => by
        rcases cls0 (tb := tb) h2 hmi tm' own o' with ⟨hb, _⟩ | ⟨s, v, k1, k2⟩
        · rw [hd] at hb; cases hb
        · rw [hd] at k1; cases k1; exact k2
      rw [hd]
      simp only [stepK]
      rcases cls2 (tb := tb) h1 tm own with hb | ⟨sa, va, o', hd'⟩ | ⟨f, args, tys, hd'⟩
      · rw [hb] at h; exact h.elim
      · rw [hd'] at h ⊢
        simp only [stepK, hd2] at h ⊢
        exact conj_swap h
      · rw [hd'] at h ⊢
        simp only [stepK, hd2] at h ⊢
        have hok := hΓ _ _ _ _ h
        rw [conj_iff]
        refine ⟨?_, hok.1 _ _ _ _ (fun r o hr => ?_) h⟩
        · obtain ⟨r, o, hr⟩ := hok.2 _ _ _ h
          exact ((conj_iff _ _).1 hr).1
        · exact ((conj_iff _ _).1 hr).2

/-! ### guards -/
/-- Does it run, and what is known then? -/
def res (all : List Oper) (o : Oper) (tm : List TV) : Option (Bool × List TV) :=
  match o.guard with
  | none => some (true, tm)
  | some (j, want) =>
    match yieldTmp all j with
    | none => some (false, tm)
    | some g =>
      match lget .un tm g with
      | .bt => some (want, tm)
      | .bf => some (!want, tm)
      | .un => some (false, tm)
      | .d (.bool true) => some (want, lset tm g .bt)
      | .d (.bool false) => some (!want, lset tm g .bf)
      | _ => none
def stepM (m : Bool) (Γ : FuncId → Con) (own : Own) (k : TV → Own → Prop) (r : OpRes) : Prop :=
  match m with
  | true => stepK Γ own k r
  | false => k .un own

theorem awpOps_res {all rest : List Oper} {o : Oper} {tm : List TV} {own : Own} {K : List TV → Own → Prop}
    (h1 : ∀ tm own s v o' id, opRes tb o tm own ≠ .grow s v o' id) (h2 : ∀ tm own p, opRes tb o tm own ≠ .anyB p) :
    awpOps tb Γ all (o :: rest) tm own K ↔ match res all o tm with
      | none => False
      | some (m, tm') => stepM m Γ own (fun v own' => awpOps tb Γ all rest (put tm' o.dst v) own' K) (opRes tb o tm' own) := by
  have run : ∀ tm0 : List TV, (match opRes tb o tm0 own with
      | .bad => False
      | .det safe v own' => conj safe (awpOps tb Γ all rest (put tm0 o.dst v) own' K)
      | .grow safe v own' id => conj safe (awpOps tb Γ all rest (put (lmap (kill1 id) tm0) o.dst v) (killOwn id own') K)
      | .anyB p => ∀ b : Bool, p b → awpOps tb Γ all rest (put tm0 o.dst (.d (.bool b))) own K
      | .call f args _ => Γ f args own fun v own' => awpOps tb Γ all rest (put tm0 o.dst v) own' K) ↔
      stepM true Γ own (fun v own' => awpOps tb Γ all rest (put tm0 o.dst v) own' K) (opRes tb o tm0 own) := by
    intro tm0
    cases h : opRes tb o tm0 own with
    | grow s v o' id => exact absurd h (h1 tm0 own s v o' id)
    | anyB p => exact absurd h (h2 tm0 own p)
    | _ => rfl
  rw [awpOps]
  simp only
  unfold res
  cases hg : o.guard with
  | none => exact run tm
  | some p =>
    obtain ⟨j, want⟩ := p
    simp only
    cases hy : yieldTmp all j with
    | none => exact Iff.rfl
    | some g =>
      simp only
      generalize hl : lget TV.un tm g = x
      cases x with
      | bt =>
        cases want
        · exact Iff.rfl
        · exact run tm
      | bf =>
        cases want
        · exact run tm
        · exact Iff.rfl
      | un => exact Iff.rfl
      | d a =>
        cases a with
        | bool b =>
          cases b
          · simp only [Bool.false_eq_true, false_implies, true_and, true_implies]
            cases want
            · exact run _
            · exact Iff.rfl
          · simp only [Bool.true_eq_false, false_implies, and_true, true_implies]
            cases want
            · exact Iff.rfl
            · exact run _
        | _ => exact Iff.rfl
      | _ => exact Iff.rfl

theorem lget_lset_ne {α : Type} {d : α} {l : List α} {g h : Nat} {x : α} (hn : g ≠ h) : lget d (lset l g x) h = lget d l h := by
  rw [lget_eq, lget_eq, lset_eq, List.getD_eq_getElem?_getD, List.getD_eq_getElem?_getD, List.getElem?_set_ne hn]
theorem lget_lset_self {α : Type} {d : α} {l : List α} {g : Nat} {x : α} (h : g < l.length) : lget d (lset l g x) g = x := by
  rw [lget_eq, lset_eq, List.getD_eq_getElem?_getD, List.getElem?_set_self h]; rfl
theorem in_range {tm : List TV} {g : Nat} (h : lget .un tm g ≠ .un) : g < tm.length := by
  refine Nat.lt_of_not_le fun hx => h ?_
  rw [lget_eq, List.getD_eq_getElem?_getD, List.getElem?_eq_none hx]; rfl
theorem sameTmp_iff {a b : Option Tmp} : sameTmp a b = true ↔ ∃ g, a = some g ∧ b = some g := by
  cases a with
  | none => simp [sameTmp]
  | some x =>
    cases b with
    | none => simp [sameTmp]
    | some y =>
      simp only [sameTmp]
      constructor
      · intro h
        obtain rfl := Nat.eq_of_beq_eq_true h
        exact ⟨x, rfl, rfl⟩
      · rintro ⟨g, h1, h2⟩
        cases h1; cases h2
        exact Nat.beq_refl _

/-- What is known once the guard is looked at is one slot more. -/
theorem res_form {all : List Oper} {o : Oper} {tm t : List TV} {m : Bool} (h : res all o tm = some (m, t)) : ∃ r x, t = put tm r x ∧ (r = none ∨ r = guardSlot all o) := by
  unfold res at h
  unfold guardSlot
  cases hg : o.guard with
  | none => rw [hg] at h; simp only [Option.some.injEq, Prod.mk.injEq] at h; exact ⟨none, .un, h.2.symm, .inl rfl⟩
  | some p =>
    obtain ⟨j, want⟩ := p
    rw [hg] at h
    simp only at h ⊢
    cases hy : yieldTmp all j with
    | none => rw [hy] at h; simp only [Option.some.injEq, Prod.mk.injEq] at h; exact ⟨none, .un, h.2.symm, .inl rfl⟩
    | some g =>
      rw [hy] at h
      simp only at h
      split at h
      · simp only [Option.some.injEq, Prod.mk.injEq] at h; exact ⟨none, .un, h.2.symm, .inl rfl⟩
      · simp only [Option.some.injEq, Prod.mk.injEq] at h; exact ⟨none, .un, h.2.symm, .inl rfl⟩
      · simp only [Option.some.injEq, Prod.mk.injEq] at h; exact ⟨none, .un, h.2.symm, .inl rfl⟩
      · simp only [Option.some.injEq, Prod.mk.injEq] at h; exact ⟨some g, .bt, h.2.symm, .inr rfl⟩
      · simp only [Option.some.injEq, Prod.mk.injEq] at h; exact ⟨some g, .bf, h.2.symm, .inr rfl⟩
      · cases h

/-- Another slot does not matter to the guard. -/
theorem res_put {all : List Oper} {o : Oper} {tm : List TV} {d : Option Tmp} {v : TV} (hd : sameTmp (guardSlot all o) d = false) : res all o (put tm d v) = (res all o tm).map fun p => (p.1, put p.2 d v) := by
  cases d with
  | none =>
    have : ∀ t : List TV, put t none v = t := fun t => rfl
    simp only [this]
    cases res all o tm <;> rfl
  | some d =>
    unfold guardSlot at hd
    unfold res
    cases hg : o.guard with
    | none => rfl
    | some p =>
      obtain ⟨j, want⟩ := p
      rw [hg] at hd
      simp only at hd ⊢
      cases hy : yieldTmp all j with
      | none => rfl
      | some g =>
        rw [hy] at hd
        simp only
        have hne : d ≠ g := by
          rintro rfl
          simp [sameTmp] at hd
        have e : lget TV.un (put tm (some d) v) g = lget TV.un tm g := lget_lset_ne hne
        have c : ∀ x, lset (put tm (some d) v) g x = put (lset tm g x) (some d) v := fun x => by
          simp only [put, lset_eq]
          exact (List.set_comm _ _ (Ne.symm hne)).symm ▸ rfl
        rw [e]
        generalize lget TV.un tm g = x
        cases x with
        | d a =>
          cases a with
          | bool b => cases b <;> simp [c]
          | _ => rfl
        | _ => rfl

/-- Two that hang on the same guard. -/
theorem res_same {all : List Oper} {a i : Oper} {g : Tmp} (ha : guardSlot all a = some g) (hi : guardSlot all i = some g) {tm ta tia : List TV} {ma mi : Bool} (h1 : res all a tm = some (ma, ta)) (h2 : res all i ta = some (mi, tia)) :
    tia = ta ∧ res all i tm = some (mi, ta) ∧ res all a ta = some (ma, ta) := by
  unfold guardSlot at ha hi
  cases hga : a.guard with
  | none => rw [hga] at ha; cases ha
  | some pa =>
    cases hgi : i.guard with
    | none => rw [hgi] at hi; cases hi
    | some pi =>
      obtain ⟨ja, wa⟩ := pa
      obtain ⟨ji, wi⟩ := pi
      rw [hga] at ha
      rw [hgi] at hi
      simp only at ha hi
      unfold res at h1 h2 ⊢
      simp only [hga, hgi, ha, hi] at h1 h2 ⊢
      generalize hx : lget TV.un tm g = x at h1 ⊢
      cases x with
      | bt => simp only [Option.some.injEq, Prod.mk.injEq] at h1; obtain ⟨rfl, rfl⟩ := h1; simp only [hx, Option.some.injEq, Prod.mk.injEq] at h2 ⊢; obtain ⟨rfl, rfl⟩ := h2; simp
      | bf => simp only [Option.some.injEq, Prod.mk.injEq] at h1; obtain ⟨rfl, rfl⟩ := h1; simp only [hx, Option.some.injEq, Prod.mk.injEq] at h2 ⊢; obtain ⟨rfl, rfl⟩ := h2; simp
      | un => simp only [Option.some.injEq, Prod.mk.injEq] at h1; obtain ⟨rfl, rfl⟩ := h1; simp only [hx, Option.some.injEq, Prod.mk.injEq] at h2 ⊢; obtain ⟨rfl, rfl⟩ := h2; simp
      | d y =>
        have hr : g < tm.length := in_range (by rw [hx]; intro h; cases h)
        cases y with
        | bool b =>
          cases b
          · simp only [Option.some.injEq, Prod.mk.injEq] at h1
            obtain ⟨rfl, rfl⟩ := h1
            rw [lget_lset_self hr] at h2 ⊢
            simp only [Option.some.injEq, Prod.mk.injEq] at h2 ⊢
            obtain ⟨rfl, rfl⟩ := h2
            simp
          · simp only [Option.some.injEq, Prod.mk.injEq] at h1
            obtain ⟨rfl, rfl⟩ := h1
            rw [lget_lset_self hr] at h2 ⊢
            simp only [Option.some.injEq, Prod.mk.injEq] at h2 ⊢
            obtain ⟨rfl, rfl⟩ := h2
            simp
        | _ => cases h1
      | _ => cases h1

theorem congr_put {o : Oper} {tm : List TV} {r : Option Tmp} {x : TV} (h : ∀ g, r = some g → usesTmp g o.op.operands.toList = false) (own : Own) : opRes tb o (put tm r x) own = opRes tb o tm own := by
  cases r with
  | none => rfl
  | some g => exact opRes_congr fun y hy => ev_put_of (dst := some g) (show readsDst o (some g) = false from h g rfl) hy

/-- The guards of two that ask nothing of each other. -/
theorem res_comm {all : List Oper} {a i : Oper} (h1 : guardFree all a i = true) (h2 : guardFree all i a = true) {tm ta tia : List TV} {ma mi : Bool} (ra : res all a tm = some (ma, ta)) (ri : res all i ta = some (mi, tia)) :
    ∃ ti, res all i tm = some (mi, ti) ∧ res all a ti = some (ma, tia) ∧ (∀ own, opRes tb a tia own = opRes tb a ta own) ∧ ∀ own, opRes tb i tia own = opRes tb i ti own := by
  by_cases hs : sameTmp (guardSlot all a) (guardSlot all i) = true
  · obtain ⟨g, ga, gi⟩ := sameTmp_iff.1 hs
    obtain ⟨rfl, e1, e2⟩ := res_same ga gi ra ri
    exact ⟨tia, e1, e2, fun _ => rfl, fun _ => rfl⟩
  · have hs1 : sameTmp (guardSlot all a) (guardSlot all i) = false := by simpa using hs
    have hs2 : sameTmp (guardSlot all i) (guardSlot all a) = false := by
      cases hx : sameTmp (guardSlot all i) (guardSlot all a) with
      | false => rfl
      | true =>
        obtain ⟨g, e1, e2⟩ := sameTmp_iff.1 hx
        exact absurd (sameTmp_iff.2 ⟨g, e2, e1⟩) hs
    obtain ⟨r, x, rfl, hr⟩ := res_form ra
    have hr1 : sameTmp (guardSlot all i) r = false := by
      rcases hr with rfl | rfl
      · cases guardSlot all i <;> rfl
      · exact hs2
    rw [res_put hr1] at ri
    cases hti : res all i tm with
    | none => rw [hti] at ri; cases ri
    | some p =>
      obtain ⟨m', ti⟩ := p
      rw [hti] at ri
      simp only [Option.map_some, Option.some.injEq, Prod.mk.injEq] at ri
      obtain ⟨rfl, rfl⟩ := ri
      obtain ⟨q, y, rfl, hq⟩ := res_form hti
      have hq1 : sameTmp (guardSlot all a) q = false := by
        rcases hq with rfl | rfl
        · cases guardSlot all a <;> rfl
        · exact hs1
      have hqr : sameTmp q r = false := by
        rcases hq with rfl | rfl
        · rfl
        · exact hr1
      refine ⟨_, rfl, ?_, fun own => ?_, fun own => ?_⟩
      · rw [res_put hq1, ra]
        simp only [Option.map_some]
        rw [put_comm hqr]
      · rw [put_comm hqr]
        refine congr_put (fun g hg => ?_) own
        subst hg
        rcases hq with hq | hq
        · cases hq
        · unfold guardFree at h2
          rw [← hq] at h2
          simp only [Bool.and_eq_true, Bool.or_eq_true, Bool.not_eq_true'] at h2
          rcases h2.2 with h3 | h3
          · exact h3
          · rw [hq, hs1] at h3; cases h3
      · refine congr_put (fun g hg => ?_) own
        subst hg
        rcases hr with hr | hr
        · cases hr
        · unfold guardFree at h1
          rw [← hr] at h1
          simp only [Bool.and_eq_true, Bool.or_eq_true, Bool.not_eq_true'] at h1
          rcases h1.2 with h3 | h3
          · exact h3
          · rw [hr, hs2] at h3; cases h3

theorem guardFree_dst {all : List Oper} {a i : Oper} (h : guardFree all a i = true) : sameTmp (guardSlot all a) i.dst = false := by
  unfold guardFree at h
  split at h
  · rename_i hg; rw [hg]; rfl
  · rename_i g hg
    rw [hg]
    simp only [Bool.and_eq_true, Bool.not_eq_true'] at h
    exact h.1

/-- Two operations, guarded perhaps, that ask nothing of each other change places. -/
theorem swap {all C : List Oper} {a i : Oper} (hi : indep tb all a i = true) (hΓ : ∀ f args own K, Γ f args own K → ConOk (Γ f)) {tm : List TV} {own : Own} {K : List TV → Own → Prop}
    (h : awpOps tb Γ all (a :: i :: C) tm own K) : awpOps tb Γ all (i :: a :: C) tm own K := by
  simp only [indep, Bool.and_eq_true] at hi
  obtain ⟨⟨h0, hga⟩, hgi⟩ := hi
  have h0' := h0
  simp only [indep0, Bool.and_eq_true, Bool.not_eq_true'] at h0'
  obtain ⟨⟨⟨⟨⟨hf, hma⟩, hmi⟩, hst⟩, hr1⟩, hr2⟩ := h0'
  have ci : ∀ (t : List TV) (v : TV) (o : Own), opRes tb i (put t a.dst v) o = opRes tb i t o := fun t v o => opRes_congr fun x hx => ev_put_of hr1 hx
  have ca : ∀ (t : List TV) (v : TV) (o : Own), opRes tb a (put t i.dst v) o = opRes tb a t o := fun t v o => opRes_congr fun x hx => ev_put_of hr2 hx
  have hclass : (opCls tb a.op ≤ 1 ∨ opCls tb a.op = 2) ∧ (opCls tb i.op ≤ 1 ∨ opCls tb i.op = 2) := by
    unfold free2 at hf
    split at hf
    · rename_i h1 h2; exact ⟨.inl (Nat.le_of_ble_eq_true h1), .inl (Nat.le_of_ble_eq_true h2)⟩
    · simp only [Bool.and_eq_true] at hf; exact ⟨.inl (by rw [Nat.eq_of_beq_eq_true hf.1]; decide), .inr (Nat.eq_of_beq_eq_true hf.2)⟩
    · simp only [Bool.and_eq_true] at hf; exact ⟨.inr (Nat.eq_of_beq_eq_true hf.1), .inl (by rw [Nat.eq_of_beq_eq_true hf.2]; decide)⟩
    · cases hf
  have low : ∀ {o : Oper}, (opCls tb o.op ≤ 1 ∨ opCls tb o.op = 2) → mayAny o.op = false → (∀ tm own s v o' id, opRes tb o tm own ≠ .grow s v o' id) ∧ ∀ tm own p, opRes tb o tm own ≠ .anyB p := by
    intro o h1 h2
    refine ⟨fun tm own s v o' id => ?_, fun tm own p => ?_⟩
    · rcases h1 with h1 | h1
      · rcases cls1 (tb := tb) h1 h2 tm own with h | ⟨s, v, h⟩ <;> rw [h] <;> simp
      · rcases cls2 (tb := tb) h1 tm own with h | ⟨s, v, o', h⟩ | ⟨f, args, tys, h⟩ <;> rw [h] <;> simp
    · rcases h1 with h1 | h1
      · rcases cls1 (tb := tb) h1 h2 tm own with h | ⟨s, v, h⟩ <;> rw [h] <;> simp
      · rcases cls2 (tb := tb) h1 tm own with h | ⟨s, v, o', h⟩ | ⟨f, args, tys, h⟩ <;> rw [h] <;> simp
  have la := low hclass.1 hma
  have li := low hclass.2 hmi
  rw [awpOps_res la.1 la.2] at h
  cases hra : res all a tm with
  | none => rw [hra] at h; exact h.elim
  | some p =>
    obtain ⟨ma, ta⟩ := p
    rw [hra] at h
    simp only at h
    have e1 : ∀ v own', awpOps tb Γ all (i :: C) (put ta a.dst v) own' K ↔ _ := fun v own' => awpOps_res (tm := put ta a.dst v) (own := own') (rest := C) (all := all) (K := K) li.1 li.2
    have e2 : ∀ v, res all i (put ta a.dst v) = (res all i ta).map fun p => (p.1, put p.2 a.dst v) := fun v => res_put (guardFree_dst hgi)
    have h : stepM ma Γ own (fun v own' => match (res all i ta).map fun p => (p.1, put p.2 a.dst v) with
        | none => False
        | some (m, tm') => stepM m Γ own' (fun v own' => awpOps tb Γ all C (put tm' i.dst v) own' K) (opRes tb i tm' own')) (opRes tb a ta own) := by
      have : (fun v own' => awpOps tb Γ all (i :: C) (put ta a.dst v) own' K) = (fun v own' => match (res all i ta).map fun p => (p.1, put p.2 a.dst v) with
        | none => False
        | some (m, tm') => stepM m Γ own' (fun v own' => awpOps tb Γ all C (put tm' i.dst v) own' K) (opRes tb i tm' own')) := by
        funext v own'
        rw [← e2 v]
        exact propext (e1 v own')
      rw [← this]; exact h
    have noF : ∀ (m : Bool) (r : OpRes), ¬ stepM m Γ own (fun _ _ => False) r := by
      intro m r hx
      cases m with
      | false => exact hx
      | true =>
        cases r with
        | det s v o => exact ((conj_iff _ _).1 hx).2
        | call f args tys =>
          obtain ⟨_, _, hr⟩ := (hΓ _ _ _ _ hx).2 _ _ _ hx
          exact hr
        | _ => exact hx
    cases hri : res all i ta with
    | none =>
      rw [hri] at h
      exact (noF _ _ h).elim
    | some q =>
      obtain ⟨mi, tia⟩ := q
      rw [hri] at h
      simp only [Option.map_some] at h
      obtain ⟨ti, k1, k2, k3, k4⟩ := res_comm (tb := tb) hga hgi hra hri
      rw [awpOps_res li.1 li.2, k1]
      simp only
      have e3 : ∀ v own', awpOps tb Γ all (a :: C) (put ti i.dst v) own' K ↔ stepM ma Γ own' (fun v' own' => awpOps tb Γ all C (put (put tia i.dst v) a.dst v') own' K) (opRes tb a (put tia i.dst v) own') := fun v own' => by
        rw [awpOps_res la.1 la.2, res_put (guardFree_dst hga), k2]
        rfl
      have e4 : (fun v own' => awpOps tb Γ all (a :: C) (put ti i.dst v) own' K) = fun v own' => stepM ma Γ own' (fun v' own' => awpOps tb Γ all C (put (put tia a.dst v') i.dst v) own' K) (opRes tb a tia own') := by
        funext v own'
        refine (propext (e3 v own')).trans ?_
        rw [ca]
        congr 1
        funext v' own''
        rw [put_comm hst]
      rw [e4, ← k4]
      rw [← k3] at h
      simp only [ci] at h
      cases ma with
      | false => exact h
      | true =>
        cases mi with
        | false => exact h
        | true => exact swapRun (tm := tia) (tm' := tia) (k := fun v v' own'' => awpOps tb Γ all C (put (put tia a.dst v) i.dst v') own'' K) h0 hΓ (fun v o => ca tia v o) (fun v o => ci tia v o) (by simp only [ci]; exact h) |> fun hh => by simp only [ca] at hh; exact hh
end
end Go.Vc
end

section
/- VcT: regions whose order is open, whole. -/
namespace Go.Vc

section
variable {tb : TypeId → TyI} {Γ : FuncId → Con}

/-- What is wanted may be widened. -/
theorem awpOps_mono (hΓ : ∀ f args own K, Γ f args own K → ConOk (Γ f)) {all : List Oper} {K K' : List TV → Own → Prop} (hk : ∀ tm own, K tm own → K' tm own) :
    ∀ (l : List Oper) (tm : List TV) (own : Own), awpOps tb Γ all l tm own K → awpOps tb Γ all l tm own K'
  | [], tm, own, h => hk _ _ h
  | o :: rest, tm, own, h => by
    have ih := fun tm own => awpOps_mono hΓ hk rest tm own (all := all)
    have run : ∀ tm0 : List TV,
        (match opRes tb o tm0 own with
          | .bad => False
          | .det safe v own' => conj safe (awpOps tb Γ all rest (put tm0 o.dst v) own' K)
          | .grow safe v own' id => conj safe (awpOps tb Γ all rest (put (lmap (kill1 id) tm0) o.dst v) (killOwn id own') K)
          | .anyB p => ∀ b : Bool, p b → awpOps tb Γ all rest (put tm0 o.dst (.d (.bool b))) own K
          | .call f args _ => Γ f args own fun v own' => awpOps tb Γ all rest (put tm0 o.dst v) own' K) →
        (match opRes tb o tm0 own with
          | .bad => False
          | .det safe v own' => conj safe (awpOps tb Γ all rest (put tm0 o.dst v) own' K')
          | .grow safe v own' id => conj safe (awpOps tb Γ all rest (put (lmap (kill1 id) tm0) o.dst v) (killOwn id own') K')
          | .anyB p => ∀ b : Bool, p b → awpOps tb Γ all rest (put tm0 o.dst (.d (.bool b))) own K'
          | .call f args _ => Γ f args own fun v own' => awpOps tb Γ all rest (put tm0 o.dst v) own' K') := by
      intro tm0 hr
      cases he : opRes tb o tm0 own with
      | bad => rw [he] at hr; exact hr
      | det s v o' => rw [he] at hr; exact conj_mono (ih _ _) hr
      | grow s v o' id => rw [he] at hr; exact conj_mono (ih _ _) hr
      | anyB p => rw [he] at hr; exact fun b hb => ih _ _ (hr b hb)
      | call f args tys => rw [he] at hr; exact (hΓ _ _ _ _ hr).1 _ _ _ _ (fun r o' => ih _ _) hr
    unfold awpOps at h ⊢
    simp only at h ⊢
    split
    · rename_i hg
      rw [hg] at h
      exact run tm h
    · rename_i j want hg
      rw [hg] at h
      simp only at h
      split
      · rename_i hy
        rw [hy] at h
        exact ih _ _ h
      · rename_i g hy
        rw [hy] at h
        simp only at h
        split
        · rename_i hl
          rw [hl] at h
          cases want
          · exact ih _ _ h
          · exact run _ h
        · rename_i hl
          rw [hl] at h
          cases want
          · exact run _ h
          · exact ih _ _ h
        · rename_i hl
          rw [hl] at h
          exact ih _ _ h
        · rename_i b hl
          rw [hl] at h
          refine ⟨fun hb => ?_, fun hb => ?_⟩
          · have := h.1 hb
            cases want
            · exact ih _ _ this
            · exact run _ this
          · have := h.2 hb
            cases want
            · exact run _ this
            · exact ih _ _ this
        · rename_i h1 h2 h3 h4
          split at h
          · rename_i hl; exact absurd hl h1
          · rename_i hl; exact absurd hl h2
          · rename_i hl; exact absurd hl h3
          · rename_i b hl; exact absurd hl (h4 b)
          · exact h

/-- Only what follows the first operation matters of the rest. -/
theorem awpOps_tail (hΓ : ∀ f args own K, Γ f args own K → ConOk (Γ f)) {all : List Oper} {o : Oper} {r r' : List Oper} {K K' : List TV → Own → Prop}
    (hr : ∀ tm own, awpOps tb Γ all r tm own K → awpOps tb Γ all r' tm own K') {tm : List TV} {own : Own} (h : awpOps tb Γ all (o :: r) tm own K) : awpOps tb Γ all (o :: r') tm own K' := by
  have e : ∀ (r : List Oper) (K : List TV → Own → Prop), awpOps tb Γ all (o :: r) tm own K = awpOps tb Γ all [o] tm own (fun tm own => awpOps tb Γ all r tm own K) := fun r K => rfl
  rw [e] at h ⊢
  exact awpOps_mono hΓ hr [o] tm own h

/-- An operation that asks nothing of those before it goes first. -/
theorem pull (hΓ : ∀ f args own K, Γ f args own K → ConOk (Γ f)) {all : List Oper} {i : Oper} {B : List Oper} : ∀ (A : List Oper), (∀ a ∈ A, indep tb all a i = true) →
    ∀ (tm : List TV) (own : Own) (K : List TV → Own → Prop), awpOps tb Γ all (A ++ i :: B) tm own K → awpOps tb Γ all (i :: (A ++ B)) tm own K
  | [], _, _, _, _, h => h
  | a :: A, hA, tm, own, K, h => by
    have h1 : awpOps tb Γ all (a :: i :: (A ++ B)) tm own K := awpOps_tail hΓ (fun tm own h => pull hΓ A (fun x hx => hA x (by simp [hx])) tm own K h) h
    exact swap (hA a (by simp)) hΓ h1

/-! ### what a calm region is -/
theorem calmFrom_get {all : List Oper} {i : Oper} : ∀ (l : List Oper) (k : Nat), calmFrom tb all i k l = true → ∀ m, (h : m < l.length) → indep tb all l[m] i = true ∨ pathGo all (llen all) i (k + m) = true
  | [], k, _, m, h => by simp at h
  | a :: r, k, hc, m, h => by
    simp only [calmFrom, Bool.and_eq_true, Bool.or_eq_true] at hc
    cases m with
    | zero => exact hc.1
    | succ m =>
      have := calmFrom_get r (k + 1) hc.2 m (by simpa using h)
      rw [show k + (m + 1) = k + 1 + m by omega]; exact this

theorem calmGo_get {all : List Oper} : ∀ (l before : List Oper), calmGo tb all before l = true → ∀ i, (h : i < l.length) → (∀ e ∈ (l[i]).after.toList, Region.binds .any e = true → e.on < before.length + i) ∧
    ∀ a, (ha : a < before.length + i) → indep tb all ((before ++ l)[a]'(by simp; omega)) l[i] = true ∨ pathGo all (llen all) l[i] a = true
  | [], _, _, i, h => by simp at h
  | o :: r, before, hc, i, h => by
    simp only [calmGo, Bool.and_eq_true, lapp_eq, llen_eq] at hc
    obtain ⟨⟨h2, h3⟩, h4⟩ := hc
    cases i with
    | zero =>
      refine ⟨fun e he hb => ?_, fun a ha => ?_⟩
      · rw [List.all_eq_true] at h3
        have h3' : Region.binds .any e = true := hb
        have := h3 e he
        rw [h3'] at this
        have : e.on + 1 ≤ before.length := by simpa [Nat.blt] using this
        omega
      · have := calmFrom_get before 0 h2 a (by simpa using ha)
        simp only [Nat.zero_add] at this
        have e1 : (before ++ o :: r)[a]'(by simp; omega) = before[a]'(by simpa using ha) := List.getElem_append_left (by simpa using ha)
        rw [e1]; exact this
    | succ i =>
      obtain ⟨k2, k3⟩ := calmGo_get r (before ++ [o]) h4 i (by simpa using h)
      simp only [List.length_append, List.length_singleton] at k2 k3
      refine ⟨fun e he hb => by have := k2 e he hb; omega, fun a ha => ?_⟩
      have := k3 a (by omega)
      simpa using this

structure Calm (tb : TypeId → TyI) (ops : Array Oper) : Prop where
  lt : ∀ i, (h : i < ops.size) → ∀ e ∈ (ops[i]).after.toList, Region.binds .any e = true → e.on < i
  ind : ∀ a i, (h : i < ops.size) → (ha : a < i) → indep tb ops.toList ops[a] ops[i] = true ∨ pathGo ops.toList (llen ops.toList) ops[i] a = true

theorem calm_iff {ops : Array Oper} (h : calm tb ops.toList = true) : Calm tb ops := by
  have key := calmGo_get ops.toList [] h
  refine ⟨fun i hi => ?_, fun a i hi ha => ?_⟩
  · have := (key i (by simpa using hi)).1; simpa using this
  · have := (key i (by simpa using hi)).2 a (by simpa using ha); simpa using this

theorem opAt_eq : ∀ (l : List Oper) (n : Nat), opAt l n = l[n]?
  | [], _ => rfl
  | _ :: _, 0 => rfl
  | _ :: r, n + 1 => by simp [opAt, opAt_eq r n]

/-- The operations that are not listed, in their order. -/
def left (n : Nat) (listed : Array Bool) : List Nat := (List.range n).filter fun i => !listed.getD i true

theorem left_set {n : Nat} {listed : Array Bool} {i : Nat} (hi : i < n) (hs : listed.size = n) (hn : listed.getD i true = false) :
    ∃ A B, left n listed = A ++ i :: B ∧ left n (listed.setIfInBounds i true) = A ++ B ∧ ∀ a ∈ A, a < i ∧ listed.getD a true = false := by
  have hsplit : List.range n = List.range i ++ i :: ((List.range (n - i - 1)).map (i + 1 + ·)) := by
    rw [show n = i + (1 + (n - i - 1)) by omega, List.range_add, List.range_add]
    simp [Nat.add_assoc]
  have hget : ∀ j, j ≠ i → (listed.setIfInBounds i true).getD j true = listed.getD j true := fun j hj => by
    simp only [Array.getD_eq_getD_getElem?, Array.getElem?_setIfInBounds]
    rw [if_neg (Ne.symm hj)]
  have hself : (listed.setIfInBounds i true).getD i true = true := by
    simp only [Array.getD_eq_getD_getElem?, Array.getElem?_setIfInBounds, if_true]
    split <;> rfl
  refine ⟨(List.range i).filter fun j => !listed.getD j true, ((List.range (n - i - 1)).map (i + 1 + ·)).filter fun j => !listed.getD j true, ?_, ?_, fun a ha => ?_⟩
  · unfold left
    rw [hsplit, List.filter_append, List.filter_cons]
    rw [if_pos (by rw [hn]; rfl)]
  · unfold left
    rw [hsplit, List.filter_append, List.filter_cons, if_neg (by rw [hself]; simp)]
    congr 1
    · apply List.filter_congr
      intro x hx
      have : x < i := by simpa using hx
      rw [hget x (by omega)]
    · apply List.filter_congr
      intro x hx
      obtain ⟨y, _, rfl⟩ := List.mem_map.1 hx
      rw [hget _ (by omega)]
  · rw [List.mem_filter] at ha
    exact ⟨by simpa using ha.1, by simpa using ha.2⟩

theorem hasDep_get {i : Oper} {a : Nat} (h : hasDep i a = true) : ∃ e ∈ i.after.toList, e.on = a ∧ Region.binds .any e = true := by
  unfold hasDep at h
  rw [List.any_eq_true] at h
  obtain ⟨e, he, hd⟩ := h
  simp only [Bool.and_eq_true] at hd
  exact ⟨e, he, Nat.eq_of_beq_eq_true hd.1, hd.2⟩
theorem listed_no {listed : Array Bool} {a : Nat} (h1 : listed.getD a false = true) (h2 : listed.getD a true = false) : False := by
  rw [Array.getD_eq_getD_getElem?] at h1 h2
  by_cases h : a < listed.size
  · rw [Array.getElem?_eq_getElem h] at h1 h2
    simp at h1 h2
    rw [h1] at h2; cases h2
  · rw [Array.getElem?_eq_none (by omega)] at h1; cases h1

/-- What one waits for, through others perhaps, is listed when it is ready. -/
theorem path_listed {ops : Array Oper} {listed : Array Bool} (hcl : ∀ j, (hj : j < ops.size) → listed.getD j false = true → ∀ e ∈ (ops[j]).after.toList, Region.binds .any e = true → listed.getD e.on false = true) :
    ∀ (f : Nat) (i : Oper) (k : Nat), (∀ e ∈ i.after.toList, Region.binds .any e = true → listed.getD e.on false = true) → pathGo ops.toList f i k = true → listed.getD k false = true
  | 0, _, _, _, h => by cases h
  | f + 1, i, k, hr, h => by
    simp only [pathGo, Bool.or_eq_true] at h
    rcases h with h | h
    · obtain ⟨e, he, h1, hb⟩ := hasDep_get h
      exact h1 ▸ hr e he hb
    · rw [List.any_eq_true] at h
      obtain ⟨e, he, h⟩ := h
      simp only [Bool.and_eq_true] at h
      obtain ⟨hb, h⟩ := h
      rw [opAt_eq] at h
      split at h
      · rename_i q hq
        obtain ⟨hlt, hq'⟩ := List.getElem?_eq_some_iff.1 hq
        have hlt' : e.on < ops.size := by simpa using hlt
        have hq2 : ops[e.on] = q := by simpa using hq'
        refine path_listed hcl f q k (fun e' he' hb' => ?_) h
        exact hcl e.on hlt' (hr e he hb) e' (by rw [hq2]; exact he') hb'
      · cases h

theorem go_spec (hΓ : ∀ f args own K, Γ f args own K → ConOk (Γ f)) {ops : Array Oper} (hc : Calm tb ops) : ∀ (fuel t : Nat) (listed : Array Bool) (acc : List Nat), listed.size = ops.size → (left ops.size listed).length ≤ fuel →
    (∀ j, (hj : j < ops.size) → listed.getD j false = true → ∀ e ∈ (ops[j]).after.toList, Region.binds .any e = true → listed.getD e.on false = true) →
    ∃ l', Region.linearise.go .any ops fuel t listed acc = acc.reverse ++ l' ∧ (∀ i ∈ l', i < ops.size) ∧
      ∀ (tm : List TV) (own : Own) (K : List TV → Own → Prop), awpOps tb Γ ops.toList ((left ops.size listed).map fun i => ops.toList.getD i default) tm own K →
        awpOps tb Γ ops.toList (l'.map fun i => ops.toList.getD i default) tm own K
  | 0, t, listed, acc, hs, hf, hcl => by
    refine ⟨[], by simp [Region.linearise.go], (fun i h => by cases h), fun tm own K h => ?_⟩
    have : left ops.size listed = [] := List.length_eq_zero_iff.1 (by omega)
    rw [this] at h
    exact h
  | fuel + 1, t, listed, acc, hs, hf, hcl => by
    unfold Region.linearise.go
    simp only
    generalize hrs : ((List.range ops.size).filter fun i => !listed.getD i true && ((ops[i]?).map (·.after.all fun e => !Region.binds .any e || listed.getD e.on false)).getD false) = rs
    split
    · rename_i i hi
      have hmem : i ∈ rs := by
        obtain ⟨h1, h2⟩ := List.getElem?_eq_some_iff.1 hi
        exact h2 ▸ List.getElem_mem h1
      rw [← hrs, List.mem_filter, Bool.and_eq_true] at hmem
      obtain ⟨hlt, hnl, hready⟩ := hmem
      have hlt : i < ops.size := by simpa using hlt
      have hnl : listed.getD i true = false := by simpa using hnl
      have hready : ∀ e ∈ (ops[i]).after.toList, Region.binds .any e = true → listed.getD e.on false = true := by
        have h1 : ops[i]? = some ops[i] := by simp [hlt]
        rw [h1] at hready
        simp only [Option.map_some, Option.getD_some] at hready
        rw [← Array.all_toList, List.all_eq_true] at hready
        intro e he hb
        have := hready e he
        rw [hb] at this
        simpa using this
      obtain ⟨A, B, e1, e2, hA⟩ := left_set hlt hs hnl
      obtain ⟨l'', k1, k2, k3⟩ := go_spec hΓ hc fuel (t / rs.length) (listed.setIfInBounds i true) (i :: acc) (by simpa using hs) (by
        rw [e2]; rw [e1] at hf; simp at hf ⊢; omega) (by
        have hmono : ∀ x, listed.getD x false = true → (listed.setIfInBounds i true).getD x false = true := fun x hx => by
          simp only [Array.getD_eq_getD_getElem?, Array.getElem?_setIfInBounds] at hx ⊢
          split
          · rename_i e
            subst e
            rw [if_pos (by omega)]; rfl
          · exact hx
        intro j hj hlj e he hb
        refine hmono _ ?_
        by_cases ej : j = i
        · subst ej; exact hready e he hb
        · refine hcl j hj ?_ e he hb
          simp only [Array.getD_eq_getD_getElem?, Array.getElem?_setIfInBounds] at hlj ⊢
          rw [if_neg (Ne.symm ej)] at hlj
          exact hlj)
      refine ⟨i :: l'', by rw [k1]; simp, fun j hj => ?_, fun tm own K h => ?_⟩
      · rcases List.mem_cons.1 hj with rfl | hj
        · exact hlt
        · exact k2 j hj
      · rw [e1, List.map_append, List.map_cons] at h
        have hget : ∀ j, (hj : j < ops.size) → ops.toList.getD j default = ops[j] := fun j hj => by simp [List.getD_eq_getElem?_getD, hj]
        have hp := pull (tb := tb) hΓ (all := ops.toList) (i := ops.toList.getD i default) (B := B.map fun i => ops.toList.getD i default)
          (A.map fun i => ops.toList.getD i default) (fun x hx => by
            obtain ⟨a, ha, rfl⟩ := List.mem_map.1 hx
            obtain ⟨ha1, ha2⟩ := hA a ha
            rw [hget a (by omega), hget i hlt]
            rcases hc.ind a i hlt ha1 with hd | hd
            · exact hd
            · exact (listed_no (path_listed hcl _ _ _ hready hd) ha2).elim) tm own K h
        rw [List.map_cons]
        refine awpOps_tail hΓ (fun tm own h => k3 tm own K ?_) hp
        rw [e2, List.map_append]; exact h
    · rename_i hnone
      have hempty : rs = [] := by
        cases hr : rs with
        | nil => rfl
        | cons x y =>
          exfalso
          have : t % rs.length < rs.length := Nat.mod_lt _ (by rw [hr]; simp)
          rw [List.getElem?_eq_getElem this] at hnone
          cases hnone
      have hleft : left ops.size listed = [] := by
        cases hl : left ops.size listed with
        | nil => rfl
        | cons m r =>
          exfalso
          have hm : m ∈ left ops.size listed := by rw [hl]; simp
          have hm' := hm
          unfold left at hm'
          rw [List.mem_filter] at hm'
          have hlt : m < ops.size := by simpa using hm'.1
          have hnl : listed.getD m true = false := by simpa using hm'.2
          obtain ⟨A, B, e1, _, hA⟩ := left_set hlt hs hnl
          have hA0 : A = [] := by
            cases A with
            | nil => rfl
            | cons a A' =>
              exfalso
              rw [hl] at e1
              simp only [List.cons_append, List.cons.injEq] at e1
              have := (hA a (by simp)).1
              omega
          -- all before m are listed
          have hbefore : ∀ a, a < m → listed.getD a false = true := by
            intro a ha
            have hsz : a < listed.size := by omega
            cases hla : listed.getD a true with
            | true =>
              rw [Array.getD_eq_getD_getElem?, Array.getElem?_eq_getElem hsz] at hla ⊢
              simpa using hla
            | false =>
              exfalso
              have hmem : a ∈ left ops.size listed := by
                unfold left
                rw [List.mem_filter]
                exact ⟨by simp; omega, by rw [hla]; rfl⟩
              obtain ⟨A2, B2, f1, _, hA2⟩ := left_set (n := ops.size) (listed := listed) (i := a) (by omega) hs hla
              rw [hl] at f1
              cases A2 with
              | nil => simp only [List.nil_append, List.cons.injEq] at f1; omega
              | cons q A3 =>
                simp only [List.cons_append, List.cons.injEq] at f1
                have := (hA2 q (by simp)).1
                omega
          have hin : m ∈ rs := by
            rw [← hrs, List.mem_filter, Bool.and_eq_true]
            refine ⟨by simpa using hlt, by rw [hnl]; rfl, ?_⟩
            have h1 : ops[m]? = some ops[m] := by simp [hlt]
            rw [h1]
            simp only [Option.map_some, Option.getD_some]
            rw [← Array.all_toList, List.all_eq_true]
            intro e he
            cases hb : Region.binds .any e with
            | false => simp
            | true => rw [hbefore e.on (hc.lt m hlt e he hb)]; simp
          rw [hempty] at hin
          cases hin
      refine ⟨[], by simp, (fun i h => by cases h), fun tm own K h => ?_⟩
      rw [hleft] at h
      exact h

theorem map_all (ops : Array Oper) : (List.range ops.size).map (fun i => ops.toList.getD i default) = ops.toList := by
  apply List.ext_getElem?
  intro i
  by_cases h : i < ops.size
  · simp [h, List.getD_eq_getElem?_getD]
  · simp [h]

theorem left_all (n : Nat) : left n (Array.replicate n false) = List.range n := by
  unfold left
  rw [List.filter_eq_self]
  intro i hi
  have : i < n := by simpa using hi
  simp [Array.getD_eq_getD_getElem?, this]

/-- Whatever order is drawn, the region gives what is wanted. -/
theorem drawn {ops : Array Oper} (hΓ : ∀ f args own K, Γ f args own K → ConOk (Γ f)) (hc : Calm tb ops) (mixed : Bool) (hm : mixed = true) (t : Nat) :
    (∀ i ∈ Region.schedule mixed ops t, i < ops.size) ∧ ∀ (tm : List TV) (own : Own) (K : List TV → Own → Prop), awpOps tb Γ ops.toList ops.toList tm own K →
      awpOps tb Γ ops.toList ((Region.schedule mixed ops t).map fun i => ops.toList.getD i default) tm own K := by
  have hs : Region.schedule mixed ops t = Region.linearise .any ops t := by
    unfold Region.schedule
    rw [if_pos (by rw [hm]; simp)]
  rw [hs]
  obtain ⟨l', h1, h2, h3⟩ := go_spec (tb := tb) hΓ hc ops.size t (Array.replicate ops.size false) [] (by simp) (by rw [left_all]; simp) (fun j hj hlj => by simp [Array.getD_eq_getD_getElem?, hj] at hlj)
  have : Region.linearise .any ops t = l' := by unfold Region.linearise; rw [h1]; rfl
  rw [this]
  refine ⟨h2, fun tm own K h => h3 tm own K ?_⟩
  rw [left_all, map_all]; exact h

end
end Go.Vc
end

section
/- VcU: heads of loops and joins: what a shape says of a state. -/
namespace Go.Vc

theorem HL.left_append : ∀ (a b : List STy) (x : HL a) (y : HL b), HL.left a b (HL.append a b x y) = x
  | [], _, _, _ => rfl
  | _ :: ss, b, (x, r), y => by simp only [HL.append, HL.left]; rw [HL.left_append ss b r y]
theorem HL.right_append : ∀ (a b : List STy) (x : HL a) (y : HL b), HL.right a b (HL.append a b x y) = y
  | [], _, _, _ => rfl
  | _ :: ss, b, (x, r), y => by simp only [HL.append, HL.right]; rw [HL.right_append ss b r y]

section
variable {N : Nat → Prop} {ρ : List Loc} {own : Own} {w : World}

/-- A value as its shape says. -/
theorem readT_sound (h : ORel N ρ own w) (s : STy) {t : TV} (hc : ∀ p ∈ (s.readT own t).1, p) :
    ∃ x : AV, s.mk (s.readT own t).2 = .d x ∧ ∀ u, TReads (Zone N ρ own) w ρ own t u → Reads (Zone N ρ own) w x u := by
  have no : ∀ {q : Prop}, (∀ p ∈ [False], p) → q := fun h => (h False (by simp)).elim
  unfold STy.readT at hc ⊢
  split at hc
  · rename_i k k' n
    split at hc
    · rename_i hk; obtain rfl := kindEq_iff.1 hk; exact ⟨_, rfl, fun u ht => ht⟩
    · exact no hc
  · exact no hc
  · exact ⟨_, rfl, fun u ht => ht⟩
  · refine ⟨_, rfl, fun u ht => ?_⟩
    have ht : u = .bool true := ht
    subst ht; exact .bool true
  · refine ⟨_, rfl, fun u ht => ?_⟩
    have ht : u = .bool false := ht
    subst ht; exact .bool false
  · exact no hc
  · exact ⟨_, rfl, fun u ht => ht⟩
  · exact no hc
  · rename_i k k' l
    split at hc
    · rename_i hk; obtain rfl := kindEq_iff.1 hk; exact ⟨_, rfl, fun u ht => ht⟩
    · exact no hc
  · refine ⟨_, rfl, fun u ht => ?_⟩
    obtain ⟨a, rfl⟩ := ht; exact .ints0 _ _ _
  · rename_i k id
    split at hc
    · rename_i k' l ho
      simp only at hc
      split at hc
      · rename_i hk hf
        obtain rfl := kindEq_iff.1 hk
        refine ⟨_, rfl, fun u ht => ?_⟩
        obtain ⟨loc, hl, hu⟩ := ht
        have := shut_reads h hl hf (t := .sc (.sints k)) (by rw [ho]; exact kindEq_iff.2 rfl)
        rw [ho] at this hu
        rw [hu]; exact this
      · exact no hc
    · exact no hc
  · exact no hc
  · rename_i k k' l
    split at hc
    · rename_i hk; obtain rfl := Nat.eq_of_beq_eq_true hk; exact ⟨_, rfl, fun u ht => ht⟩
    · exact no hc
  · refine ⟨_, rfl, fun u ht => ?_⟩
    obtain ⟨a, rfl⟩ := ht; exact .rows0 _ _ _
  · rename_i sz id
    split at hc
    · rename_i sz' l ho
      simp only at hc
      split at hc
      · rename_i hk hf
        obtain rfl := Nat.eq_of_beq_eq_true hk
        refine ⟨_, rfl, fun u ht => ?_⟩
        obtain ⟨loc, hl, hu⟩ := ht
        have := shut_reads h hl hf (t := .sc (.srows sz)) (by rw [ho]; exact Nat.beq_refl sz)
        rw [ho] at this hu
        rw [hu]; exact this
      · exact no hc
    · exact no hc
  · exact no hc
  · exact ⟨_, rfl, fun u ht => ht⟩
  · exact no hc

/-- Cells as their shapes say. -/
theorem readCells_sound (h : ORel N ρ own w) : ∀ (cs : List STy) (vs : List TV) (k : HL cs → Prop), readCells own cs vs k →
    ∃ x, k x ∧ (mkCells cs x).length = vs.length ∧ ∀ (us : Nat → Value), (∀ i, i < vs.length → TReads0 (Zone N ρ own) w ρ own (vs.getD i .un) (us i)) →
      ∀ i, i < vs.length → ∃ y : AV, (mkCells cs x).getD i .un = .d y ∧ Reads (Zone N ρ own) w y (us i)
  | [], [], k, hk => ⟨(), hk, rfl, fun us _ i hi => by simp at hi⟩
  | [], _ :: _, _, hk => hk.elim
  | _ :: _, [], _, hk => hk.elim
  | s :: ss, v :: vs, k, hk => by
    simp only [readCells] at hk
    rw [conj_iff] at hk
    obtain ⟨hc, hk⟩ := hk
    obtain ⟨y, h1, h2⟩ := readT_sound h s hc
    obtain ⟨x, k1, k2, k3⟩ := readCells_sound h ss vs _ hk
    refine ⟨((s.readT own v).2, x), k1, by simp [mkCells, k2], fun us hr i hi => ?_⟩
    cases i with
    | zero => exact ⟨y, by simpa [mkCells] using h1, h2 _ (.of0 (hr 0 (by simp)))⟩
    | succ i =>
      obtain ⟨y', h3, h4⟩ := k3 (fun i => us (i + 1)) (fun i hi => by have := hr (i + 1) (by simpa using hi); simpa using this) i (by simpa using hi)
      exact ⟨y', by simpa [mkCells] using h3, h4⟩

theorem under0_names {n : Nat} {t : TV} (h : t.under0 n = true) {id : Nat} (hn : t.names0 id) : id < n := by
  cases t with
  | vec j => obtain rfl : j = id := hn; have : j + 1 ≤ n := by simpa [TV.under0, Nat.blt] using h
             omega
  | ptr j x => obtain rfl : j = id := hn; have : j + 1 ≤ n := by simpa [TV.under0, Nat.blt] using h
               omega
  | optr j x y => obtain rfl : j = id := hn; have : j + 1 ≤ n := by simpa [TV.under0, Nat.blt] using h
                  omega
  | _ => exact hn.elim
theorem names_of0 {t : TV} {id : Nat} (h1 : ∀ l, t ≠ .agg l) (h2 : ∀ l, t ≠ .tup l) (hn : t.names id) : t.names0 id := by
  cases t with
  | agg l => exact absurd rfl (h1 l)
  | tup l => exact absurd rfl (h2 l)
  | _ => exact hn
theorem under_eq0 {n : Nat} {t : TV} (h1 : ∀ l, t ≠ .agg l) : t.under n = t.under0 n := by
  cases t with
  | agg l => exact absurd rfl (h1 l)
  | _ => rfl
theorem plain_eq0 {t : TV} (h1 : ∀ l, t ≠ .agg l) : t.plain = t.plain0 := by
  cases t with
  | agg l => exact absurd rfl (h1 l)
  | _ => rfl
theorem under_names {n : Nat} {t : TV} (h : t.under n = true) {id : Nat} (hn : t.names id) : id < n := by
  cases t with
  | agg l =>
    obtain ⟨i, hi, hn⟩ := hn
    simp only [TV.under] at h
    rw [allB_eq, List.all_eq_true] at h
    have e : l.getD i .un = l[i] := by simp [List.getD_eq_getElem?_getD, hi]
    rw [e] at hn
    exact under0_names (h _ (List.getElem_mem hi)) hn
  | tup l => simp [TV.under, TV.under0] at h
  | _ => rw [under_eq0 (by simp)] at h; exact under0_names h (names_of0 (by simp) (by simp) hn)
theorem plain0_names {t : TV} (h : t.plain0 = true) {id : Nat} (hn : t.names0 id) : False := by
  cases t <;> simp only [TV.names0] at hn <;> simp [TV.plain0] at h
theorem plain_names {t : TV} (h : t.plain = true) {id : Nat} (hn : t.names id) : False := by
  cases t with
  | agg l =>
    obtain ⟨i, hi, hn⟩ := hn
    simp only [TV.plain] at h
    rw [allB_eq, List.all_eq_true] at h
    have e : l.getD i .un = l[i] := by simp [List.getD_eq_getElem?_getD, hi]
    rw [e] at hn
    exact plain0_names (h _ (List.getElem_mem hi)) hn
  | tup l => simp [TV.plain, TV.plain0] at h
  | _ => rw [plain_eq0 (by simp)] at h; exact plain0_names h (names_of0 (by simp) (by simp) hn)
theorem sameId_eq {v v0 : TV} (h : v.sameId v0 = true) : v = v0 := by
  cases v <;> cases v0 <;> simp only [TV.sameId, Bool.false_eq_true, Bool.and_eq_true] at h <;> try rfl
  · rw [Nat.eq_of_beq_eq_true h]
  · rw [Nat.eq_of_beq_eq_true h.1, Nat.eq_of_beq_eq_true h.2]
  · rw [Nat.eq_of_beq_eq_true h]

/-- Slots as their shapes say. -/
theorem slots_sound {ρ1 : List Loc} {own1 : Own} {w1 : World} {tm1 : List TV} {a1 a : Act} {tm : List TV} (n : Nat) (wr : Tmp → Bool) (h : ORel N ρ own w) (ht : TRel (Zone N ρ own) w ρ own tm a.tmps)
    (ht1 : TRel (Zone N ρ1 own1) w1 ρ1 own1 tm1 a1.tmps) (hsame : ∀ t, wr t = false → a.tmps.getD t undef = a1.tmps.getD t undef) :
    ∀ (ss : List (Tmp × Sh)) (k : HL (slotPs ss) → Prop), readSlots n wr own tm1 ss tm k →
      ∃ x, k x ∧ ∀ (Z' : Nat → Prop) (ρ' : List Loc) (own' : Own), (∀ y u, Reads (Zone N ρ own) w y u → Reads Z' w y u) → (∀ y u, Reads (Zone N ρ1 own1) w1 y u → Reads Z' w y u) →
        (∀ id, id < n → SameAt ρ own ρ' own' id) → ∀ base, TRel Z' w ρ' own' base a.tmps → TRel Z' w ρ' own' (slotSet tm1 ss x base) a.tmps := by
  intro ss
  induction ss with
  | nil => intro k hk; exact ⟨(), hk, fun Z' ρ' own' _ _ _ base hb => hb⟩
  | cons p r ih =>
    intro k hk
    obtain ⟨t, sh⟩ := p
    have put1 : ∀ {Z' : Nat → Prop} {ρ' : List Loc} {own' : Own} {base : List TV} {v : TV}, TRel Z' w ρ' own' base a.tmps → TReads Z' w ρ' own' v (a.tmps.getD t undef) → TRel Z' w ρ' own' (lset base t v) a.tmps := by
      intro Z' ρ' own' base v hb hv
      refine ⟨by rw [lset_eq]; simpa using hb.size, fun i => ?_⟩
      rw [lset_eq, getD_set]
      split
      · rename_i e; rw [← e.1]; exact hv
      · exact hb.at_ i
    have hat : TReads (Zone N ρ own) w ρ own (lget .un tm t) (a.tmps.getD t undef) := by rw [lget_eq]; exact ht.at_ t
    cases sh with
    | sc s =>
      simp only [readSlots] at hk
      rw [conj_iff] at hk
      obtain ⟨hc, hk⟩ := hk
      obtain ⟨y, h1, h2⟩ := readT_sound h s hc
      have h2 := h2 _ hat
      obtain ⟨x, k1, k2⟩ := ih _ hk
      refine ⟨((s.readT own (lget .un tm t)).2, x), k1, fun Z' ρ' own' hr hr1 hs base hb => ?_⟩
      exact put1 (k2 Z' ρ' own' hr hr1 hs base hb) (by rw [h1]; exact .of0 (hr _ _ h2))
    | agg cs =>
      simp only [readSlots] at hk
      split at hk
      · rename_i vs hvs
        rw [hvs] at hat
        obtain ⟨arr, h1, h2, h3⟩ := hat
        obtain ⟨xs, q1, q2, q3⟩ := readCells_sound h cs vs _ hk
        have q3 := q3 (fun i => arr.getD i undef) h3
        obtain ⟨x, k1, k2⟩ := ih _ q1
        refine ⟨HL.append cs (slotPs r) xs x, k1, fun Z' ρ' own' hr hr1 hs base hb => ?_⟩
        simp only [slotSet, HL.left_append, HL.right_append]
        refine put1 (k2 Z' ρ' own' hr hr1 hs base hb) (.of1 ⟨arr, h1, by rw [h2, q2], fun i hi => ?_⟩)
        rw [q2] at hi
        obtain ⟨y, h4, h5⟩ := q3 i hi
        rw [h4]; exact hr _ _ h5
      · exact hk.elim
    | keep =>
      simp only [readSlots] at hk
      split at hk
      · rename_i hko
        obtain ⟨x, k1, k2⟩ := ih _ hk
        refine ⟨x, k1, fun Z' ρ' own' hr hr1 hs base hb => ?_⟩
        simp only [slotSet]
        refine put1 (k2 Z' ρ' own' hr hr1 hs base hb) ?_
        unfold keepOk at hko
        split at hko
        · cases hko
        · rename_i hu
          split at hko
          · rename_i hw hp
            rw [hsame t hw]
            have hat1 : TReads (Zone N ρ1 own1) w1 ρ1 own1 (lget .un tm1 t) (a1.tmps.getD t undef) := by rw [lget_eq]; exact ht1.at_ t
            exact hat1.mono hr1 fun id hn => (plain_names hp hn).elim
          · have := sameId_eq hko
            rw [← this] at hu ⊢
            exact hat.mono hr fun id hn => hs id (under_names hu hn)
      · exact hk.elim

/-- Own blocks as their shapes say. -/
theorem ownMk_len (own0 : Own) : ∀ (os : List OSh) (i : Nat) (x : HL (ownPs os)), (ownMk own0 os i x).length = os.length
  | [], _, _ => rfl
  | .keep :: r, i, x => congrArg (· + 1) (ownMk_len own0 r (Nat.succ i) x)
  | .ints _ :: r, i, (_, x) => congrArg (· + 1) (ownMk_len own0 r (Nat.succ i) x)
  | .rows _ :: r, i, (_, x) => congrArg (· + 1) (ownMk_len own0 r (Nat.succ i) x)
  | .cells cs :: r, i, x => congrArg (· + 1) (ownMk_len own0 r (Nat.succ i) (HL.right cs (ownPs r) x))

structure OwnOk (n : Nat) (N : Nat → Prop) (ρ : List Loc) (own : Own) (w : World) (i : Nat) (l : Own) : Prop where
  fz : ∀ m, m < l.length → frozenAt l m = frozenAt own (i + m)
  sz : ∀ m, m < l.length → (OB.at l m).len = (OB.at own (i + m)).len ∧ (OB.at l m).esz = (OB.at own (i + m)).esz
  rd : ∀ m, m < l.length → ∀ (Z' : Nat → Prop) (ρ' : List Loc) (own' : Own) (loc : Loc), (∀ y u, Reads (Zone N ρ own) w y u → Reads Z' w y u) → (∀ id, id < n → SameAt ρ own ρ' own' id) →
    OReads (Zone N ρ own) w ρ own loc (OB.at own (i + m)) → OReads Z' w ρ' own' loc (OB.at l m)

theorem OwnOk.cons {n : Nat} {i : Nat} {p : Bool × OB} {l : Own} (h1 : p.1 = frozenAt own i) (h2 : p.2.len = (OB.at own i).len ∧ p.2.esz = (OB.at own i).esz)
    (h3 : ∀ (Z' : Nat → Prop) (ρ' : List Loc) (own' : Own) (loc : Loc), (∀ y u, Reads (Zone N ρ own) w y u → Reads Z' w y u) → (∀ id, id < n → SameAt ρ own ρ' own' id) →
      OReads (Zone N ρ own) w ρ own loc (OB.at own i) → OReads Z' w ρ' own' loc p.2) (h : OwnOk n N ρ own w (i + 1) l) : OwnOk n N ρ own w i (p :: l) where
  fz := fun m hm => by
    cases m with
    | zero => exact h1
    | succ m => rw [show i + (m + 1) = i + 1 + m by omega]; exact h.fz m (by simpa using hm)
  sz := fun m hm => by
    cases m with
    | zero => exact h2
    | succ m => rw [show i + (m + 1) = i + 1 + m by omega]; exact h.sz m (by simpa using hm)
  rd := fun m hm => by
    cases m with
    | zero => exact h3
    | succ m => rw [show i + (m + 1) = i + 1 + m by omega]; exact h.rd m (by simpa using hm)

theorem own_sound {own1 : Own} (n : Nat) (h : ORel N ρ own w) : ∀ (os : List OSh) (i : Nat) (k : HL (ownPs os) → Prop), readOwn n own1 os i own k →
    ∃ x, k x ∧ OwnOk n N ρ own w i (ownMk own1 os i x) := by
  intro os
  induction os with
  | nil => intro i k hk; exact ⟨(), hk, ⟨fun m hm => by simp [ownMk] at hm, fun m hm => by simp [ownMk] at hm, fun m hm => by simp [ownMk] at hm⟩⟩
  | cons o r ih =>
    intro i k hk
    have hob : ∀ {f : Bool} {ob : OB}, lget (true, .gone) own i = (f, ob) → OB.at own i = ob ∧ frozenAt own i = f := fun h => by simp [OB.at, frozenAt, h]
    cases o with
    | keep =>
      simp only [readOwn] at hk
      split at hk
      · rename_i hu
        obtain ⟨he, hk⟩ := hk
        obtain ⟨x, k1, k2⟩ := ih (i + 1) _ hk
        refine ⟨x, k1, OwnOk.cons (by rw [← he]; rfl) (by rw [← he]; exact ⟨rfl, rfl⟩) (fun Z' ρ' own' loc hr hs ho => ?_) k2⟩
        rw [← he] at hu ⊢
        refine ho.mono (fun _ _ => rfl) hr (fun l hl kk id hkk hn => hs id ?_)
        have hl' : (lget (true, OB.gone) own i).2 = .cells l := hl
        rw [hl'] at hu
        simp only [OB.under] at hu
        rw [allB_eq, List.all_eq_true] at hu
        have e : l.getD kk .un = l[kk] := by simp [List.getD_eq_getElem?_getD, hkk]
        rw [e] at hn
        exact under0_names (hu _ (List.getElem_mem hkk)) hn
      · exact hk.elim
    | ints k0 =>
      simp only [readOwn] at hk
      split at hk
      · rename_i k1 l hl
        split at hk
        · rename_i hkk
          obtain rfl := kindEq_iff.1 hkk
          obtain ⟨x, q1, q2⟩ := ih (i + 1) _ hk
          obtain ⟨e1, e2⟩ := hob hl
          refine ⟨(l, x), q1, OwnOk.cons e2.symm (by rw [e1]; exact ⟨rfl, rfl⟩) (fun Z' ρ' own' loc hr hs ho => ?_) q2⟩
          rw [e1] at ho
          exact ho.mono (fun _ _ => rfl) hr (fun l hl => by cases hl)
        · exact hk.elim
      · exact hk.elim
    | rows s0 =>
      simp only [readOwn] at hk
      split at hk
      · rename_i s1 l hl
        split at hk
        · rename_i hkk
          obtain rfl := Nat.eq_of_beq_eq_true hkk
          obtain ⟨x, q1, q2⟩ := ih (i + 1) _ hk
          obtain ⟨e1, e2⟩ := hob hl
          refine ⟨(l, x), q1, OwnOk.cons e2.symm (by rw [e1]; exact ⟨rfl, rfl⟩) (fun Z' ρ' own' loc hr hs ho => ?_) q2⟩
          rw [e1] at ho
          exact ho.mono (fun _ _ => rfl) hr (fun l hl => by cases hl)
        · exact hk.elim
      · exact hk.elim
    | cells cs =>
      simp only [readOwn] at hk
      split at hk
      · rename_i vs hl
        obtain ⟨e1, e2⟩ := hob hl
        obtain ⟨xs, q1, q2, q3⟩ := readCells_sound h cs vs _ hk
        obtain ⟨x, k1, k2⟩ := ih (i + 1) _ q1
        refine ⟨HL.append cs (ownPs r) xs x, k1, ?_⟩
        simp only [ownMk, HL.left_append, HL.right_append]
        refine OwnOk.cons e2.symm (by rw [e1]; exact ⟨q2, rfl⟩) (fun Z' ρ' own' loc hr hs ho => ?_) k2
        rw [e1] at ho
        obtain ⟨b', arr', ty', c1, c2, c3, c4, c5⟩ := ho
        refine ⟨b', arr', ty', c1, c2, c3, by rw [q2]; exact c4, fun m hm => ?_⟩
        rw [q2] at hm
        obtain ⟨y, d1, d2⟩ := q3 _ c5 m hm
        rw [d1]; exact hr _ _ d2
      · exact hk.elim

end
end Go.Vc
end

section
/- VcV: at the head of a loop or a join the state is told anew by its shape; nil slices that become own ones. -/
namespace Go.Vc

theorem rep_get {α : Type} (ρ : List α) (n : Nat) (d : α) (i : Nat) (l : α) (h : ((ρ.take n) ++ List.replicate (n - ρ.length) d)[i]? = some l) :
    i < n ∧ (ρ[i]? = some l ∨ (ρ.length ≤ i ∧ l = d)) := by
  rw [List.getElem?_append] at h
  split at h
  · rename_i hi
    simp only [List.length_take] at hi
    rw [List.getElem?_take] at h
    split at h
    · rename_i hn; exact ⟨hn, .inl h⟩
    · cases h
  · rename_i hi
    simp only [List.length_take] at hi h
    rw [List.getElem?_replicate] at h
    split at h
    · rename_i hn
      refine ⟨by omega, .inr ⟨by omega, (Option.some.inj h).symm⟩⟩
    · cases h
theorem rep_old {α : Type} (ρ : List α) (n : Nat) (d : α) (i : Nat) (l : α) (hi : i < n) (h : ρ[i]? = some l) : ((ρ.take n) ++ List.replicate (n - ρ.length) d)[i]? = some l := by
  obtain ⟨h1, h2⟩ := List.getElem?_eq_some_iff.1 h
  rw [List.getElem?_append_left (by simp; omega), List.getElem?_take, if_pos hi, h]

theorem lrep_rel (Z : Nat → Prop) (w : World) (ρ : List Loc) (own : Own) (n : Nat) (tmps : Array Value) (h : tmps.size = n) : TRel Z w ρ own (lrep .any n) tmps := by
  refine ⟨by rw [lrep_eq]; simpa using h, fun t => ?_⟩
  rw [lrep_eq]
  by_cases ht : t < n
  · have : (List.replicate n TV.any).getD t .un = .any := by simp [List.getD_eq_getElem?_getD, ht]
    rw [this]; trivial
  · have : (List.replicate n TV.any).getD t .un = .un := by simp [List.getD_eq_getElem?_getD, ht]
    rw [this, Array.getD_eq_getD_getElem?, Array.getElem?_eq_none (by omega)]
    rfl

theorem head_sound {N : Nat → Prop} {ρ1 ρ : List Loc} {S1 S : St} {a1 a : Act} {w1 w : World} (wr : Tmp → Bool) (h : Head) (k : HL h.ps → Prop)
    (hs1 : SRel N ρ1 S1.tm S1.own a1 w1) (hs : SRel N ρ S.tm S.own a w) (hf : Fr ρ1 S1.own w1 ρ S.own w) (hsame : ∀ t, wr t = false → a.tmps.getD t undef = a1.tmps.getD t undef)
    (hsz : a.tmps.size = a1.tmps.size) (hk : readHead wr h S1 S k) :
    ∃ x, k x ∧ ∃ ρ', SRel N ρ' (mkHead h S1 x).tm (mkHead h S1 x).own a w ∧ Fr ρ S.own w ρ' (mkHead h S1 x).own w := by
  unfold readHead at hk
  obtain ⟨xs, hk, hslots⟩ := slots_sound (a1 := a1) (a := a) (llen h.own) wr hs.orel hs.trel hs1.trel hsame h.slots _ hk
  obtain ⟨xo, hk, hown⟩ := own_sound (llen h.own) hs.orel h.own 0 _ hk
  have hl : (HL.left (slotPs h.slots) (ownPs h.own) (HL.append (slotPs h.slots) (ownPs h.own) xs xo)) = xs := HL.left_append _ _ _ _
  have hr : (HL.right (slotPs h.slots) (ownPs h.own) (HL.append (slotPs h.slots) (ownPs h.own) xs xo)) = xo := HL.right_append _ _ _ _
  refine ⟨_, hk, ρ.take h.own.length ++ List.replicate (h.own.length - ρ.length) ⟨none, 0, none⟩, ?_⟩
  have hlen : (ownMk S1.own h.own 0 xo).length = h.own.length := ownMk_len _ _ _ _
  unfold mkHead
  simp only [hl, hr]
  generalize ownMk S1.own h.own 0 xo = own' at hown hlen ⊢
  rw [llen_eq] at hslots hown
  have hsm : ∀ id, id < h.own.length → SameAt ρ S.own (ρ.take h.own.length ++ List.replicate (h.own.length - ρ.length) ⟨none, 0, none⟩) own' id := fun id hid loc hloc => by
    refine ⟨rep_old _ _ _ _ _ hid hloc, ?_⟩
    have := hown.sz id (by omega)
    simpa using this
  have halive : ∀ b, Alive (ρ.take h.own.length ++ List.replicate (h.own.length - ρ.length) ⟨none, 0, none⟩) own' b → Alive ρ S.own b := fun b ⟨i, loc, e1, e2, e3⟩ => by
    obtain ⟨hi, e | ⟨_, e⟩⟩ := rep_get _ _ _ _ _ e1
    · have := hown.fz i (by omega)
      rw [Nat.zero_add] at this
      exact ⟨i, loc, e, e2, by rw [← this]; exact e3⟩
    · rw [e] at e2; cases e2
  have hfr : Fr ρ S.own w (ρ.take h.own.length ++ List.replicate (h.own.length - ρ.length) ⟨none, 0, none⟩) own' w :=
    ⟨rfl, rfl, rfl, Nat.le_refl _, fun _ _ _ => rfl, fun b hb => .inl (halive b hb)⟩
  have hread : ∀ y u, Reads (Zone N ρ S.own) w y u → Reads (Zone N (ρ.take h.own.length ++ List.replicate (h.own.length - ρ.length) ⟨none, 0, none⟩) own') w y u := fun _ _ => hfr.reads
  have hread1 : ∀ y u, Reads (Zone N ρ1 S1.own) w1 y u → Reads (Zone N (ρ.take h.own.length ++ List.replicate (h.own.length - ρ.length) ⟨none, 0, none⟩) own') w y u := fun _ _ => (hf.trans hfr).reads
  refine ⟨⟨?_, ?_, hs.df⟩, hfr⟩
  · refine { len := by simp [hlen]; omega, nlt := hs.orel.nlt, lt := fun i loc b e1 e2 => ?_, inj := fun i j li lj b e1 e2 e3 e4 => ?_, nb := fun i loc b e1 e2 => ?_, ob := fun i loc e1 => ?_ }
    · obtain ⟨_, e | ⟨_, e⟩⟩ := rep_get _ _ _ _ _ e1
      · exact hs.orel.lt i loc b e e2
      · rw [e] at e2; cases e2
    · obtain ⟨_, e | ⟨_, e⟩⟩ := rep_get _ _ _ _ _ e1
      · obtain ⟨_, e' | ⟨_, e'⟩⟩ := rep_get _ _ _ _ _ e2
        · exact hs.orel.inj i j li lj b e e' e3 e4
        · rw [e'] at e4; cases e4
      · rw [e] at e3; cases e3
    · obtain ⟨_, e | ⟨_, e⟩⟩ := rep_get _ _ _ _ _ e1
      · exact hs.orel.nb i loc b e e2
      · rw [e] at e2; cases e2
    · obtain ⟨hi, e⟩ := rep_get _ _ _ _ _ e1
      refine hown.rd i (by omega) _ _ own' loc hread hsm ?_
      rw [Nat.zero_add]
      rcases e with e | ⟨e, _⟩
      · exact hs.orel.ob i loc e
      · have : OB.at S.own i = .gone := by
          have hl := hs.orel.len
          simp only [OB.at, lget_eq, List.getD_eq_getElem?_getD]
          rw [List.getElem?_eq_none (by omega)]
          rfl
        rw [this]; trivial
  · refine hslots _ _ own' hread hread1 hsm _ ?_
    rw [llen_eq]
    exact lrep_rel _ _ _ _ _ _ (by rw [hsz]; exact hs1.trel.size)

theorem shut_sound {N : Nat → Prop} {a : Act} {w : World} {ρ : List Loc} {S : St} (id : Nat) (h : SRel N ρ S.tm S.own a w) : SRel N ρ S.tm (freezeId S.own id) a w ∧ Fr ρ S.own w ρ (freezeId S.own id) w := by
  have hst : Step N ρ S.own w ρ (freezeId S.own id) w := by unfold freezeId; rw [lset_eq]; exact Step.shut h.orel id
  exact ⟨⟨hst.rel, h.trel.step hst, h.df⟩, hst.toFr⟩

theorem frz_sound {N : Nat → Prop} {a : Act} {w : World} : ∀ (c : List (Tmp × STy)) (S : St) (ρ : List Loc), SRel N ρ S.tm S.own a w →
    SRel N ρ (frzHead c S).tm (frzHead c S).own a w ∧ Fr ρ S.own w ρ (frzHead c S).own w
  | [], S, ρ, h => ⟨h, Fr.refl _ _ _⟩
  | (t, s) :: r, S, ρ, h => by
    unfold frzHead
    split
    · rename_i id he
      obtain ⟨h1, h2⟩ := shut_sound id h
      obtain ⟨k1, k2⟩ := frz_sound r ⟨S.tm, freezeId S.own id⟩ ρ h1
      exact ⟨k1, h2.trans k2⟩
    · exact frz_sound r S ρ h

theorem conv_sound {N : Nat → Prop} {a : Act} {w : World} : ∀ (c : List (Tmp × STy)) (S : St) (ρ : List Loc), SRel N ρ S.tm S.own a w →
    ∃ ρ', SRel N ρ' (convHead c S).tm (convHead c S).own a w ∧ Fr ρ S.own w ρ' (convHead c S).own w
  | [], S, ρ, h => ⟨ρ, h, Fr.refl _ _ _⟩
  | (t, s) :: r, S, ρ, h => by
    unfold convHead
    split
    · rename_i id he
      obtain ⟨h1, h2⟩ := shut_sound id h
      obtain ⟨ρ', k1, k2⟩ := conv_sound r ⟨S.tm, freezeId S.own id⟩ ρ h1
      exact ⟨ρ', k1, h2.trans k2⟩
    · exact conv_sound r S ρ h
    · rename_i s _ _ he _
      have hat := h.trel.at_ t
      rw [← lget_eq, he] at hat
      obtain ⟨x, hx⟩ := hat
      have key : ∀ (ob : OB), (ob = .gone ∨ (∃ k, ob = .ints k []) ∨ ∃ sz, ob = .rows sz []) → Step N ρ S.own w (ρ ++ [⟨x, 0, none⟩]) (S.own ++ [(false, ob)]) w := by
        intro ob ho
        exact Step.nil h.orel false _ x ho
      have hob : emptyOB s = .gone ∨ (∃ k, emptyOB s = .ints k []) ∨ ∃ sz, emptyOB s = .rows sz [] := by
        cases s with
        | sints k => exact .inr (.inl ⟨k, rfl⟩)
        | srows sz => exact .inr (.inr ⟨sz, rfl⟩)
        | _ => exact .inl rfl
      have hst := key _ hob
      have hlen0 : (emptyOB s).len = 0 := by cases s <;> rfl
      have hs' : SRel N (ρ ++ [⟨x, 0, none⟩]) (lset S.tm t (.vec (llen S.own))) (lapp S.own [(false, emptyOB s)]) a w := by
        rw [lapp_eq]
        refine ⟨hst.rel, ⟨by rw [lset_eq]; simpa using h.trel.size, fun i => ?_⟩, h.df⟩
        rw [lset_eq, getD_set]
        split
        · rename_i e
          rw [← e.1, hx]
          refine .of0 ⟨⟨x, 0, none⟩, by rw [llen_eq, ← h.orel.len]; simp, ?_⟩
          rw [at_app, llen_eq, if_pos rfl, hlen0]
        · exact (h.trel.step hst).at_ i
      obtain ⟨ρ', k1, k2⟩ := conv_sound r ⟨lset S.tm t (.vec (llen S.own)), lapp S.own [(false, emptyOB s)]⟩ _ hs'
      refine ⟨ρ', k1, Fr.trans ?_ k2⟩
      rw [lapp_eq]; exact hst.toFr
    · exact conv_sound r S ρ h

end Go.Vc
end

section
/- VcW: what the generator asks of a piece of code is enough for what the machine does with it. -/
namespace Go.Vc

theorem least (p : Nat → Prop) : ∀ n, p n → ∃ n, p n ∧ ∀ k, p k → n ≤ k := by
  intro n
  induction n using Nat.strongRecOn with
  | _ n ih =>
    intro hn
    rcases Classical.em (∃ k, k < n ∧ p k) with ⟨k, hk, hp⟩ | h
    · exact ih k hk hp
    · exact ⟨n, hn, fun k hk => Nat.le_of_not_lt fun hlt => h ⟨k, hlt, hk⟩⟩

open Classical in
/-- A loop, the values of its head held by a ghost. -/
theorem wp_loop_ghost {P : Program} {Q : Exit → Act → World → Prop} {a : Act} {w : World} {c : Code} {α : Type} (I : α → Act → World → Prop) (m : α → Nat) (x0 : α) (h0 : I x0 a w)
    (round : ∀ x a w, I x a w → c.wp P (Exit.then (fun a' w' => ∃ y, I y a' w' ∧ m y < m x) Q) a w) : (Code.loop c).wp P Q a w := by
  have hex : ∀ a w, (∃ x, I x a w) → ∃ n, (∃ x, I x a w ∧ m x = n) ∧ ∀ k, (∃ x, I x a w ∧ m x = k) → n ≤ k := fun a w ⟨x, hx⟩ => least _ _ ⟨x, hx, rfl⟩
  let μ : Act → World → Nat := fun a w => if h : ∃ x, I x a w then Classical.choose (hex a w h) else 0
  have hle : ∀ y a w, I y a w → μ a w ≤ m y := fun y a w hy => by
    have h : ∃ x, I x a w := ⟨y, hy⟩
    simp only [μ, dif_pos h]
    exact (Classical.choose_spec (hex a w h)).2 _ ⟨y, hy, rfl⟩
  have hat : ∀ a w, (∃ x, I x a w) → ∃ x, I x a w ∧ m x = μ a w := fun a w h => by
    simp only [μ, dif_pos h]
    exact (Classical.choose_spec (hex a w h)).1
  refine wp_loop (fun a w => ∃ x, I x a w) μ ⟨x0, h0⟩ fun a w hI => ?_
  obtain ⟨x, hx, hm⟩ := hat a w hI
  refine wp_mono (round x a w hx) fun e a' w' h => ?_
  cases e with
  | normal =>
    obtain ⟨y, hy, hlt⟩ := h
    exact ⟨⟨y, hy⟩, hm ▸ Nat.lt_of_le_of_lt (hle y a' w' hy) hlt⟩
  | _ => exact h

def AExit.to : AExit → Exit
  | .normal => .normal
  | .exit i => .exit i
  | .goto l => .goto l
  | .ret => .ret

theorem allHL_app : ∀ (ss : List STy) (f : HL ss → Prop), allHL ss f → ∀ x, f x
  | [], _, h, () => h
  | _ :: ss, f, h, (x, r) => allHL_app ss (fun r => f (x, r)) (h x) r

section
variable {P : Program} {N : Nat → Prop}

theorem Post.weaken {ρ ρ1 : List Loc} {own own1 : Own} {a a1 a' : Act} {w w1 w' : World} {wr wr1 : Tmp → Bool} {K K' : List TV → Own → Prop} (h : Post N ρ1 own1 a1 w1 wr1 K a' w')
    (hf : Fr ρ own w ρ1 own1 w1) (hs : ∀ t, wr t = false → wr1 t = false ∧ a1.tmps.getD t undef = a.tmps.getD t undef) (hsz : a1.tmps.size = a.tmps.size)
    (hk : ∀ tm own, K tm own → K' tm own) : Post N ρ own a w wr K' a' w' := by
  obtain ⟨tm', own', ρ', k1, k2, k3⟩ := h.ex
  exact ⟨⟨tm', own', ρ', hk _ _ k1, k2, hf.trans k3⟩, fun t ht => (h.same t (hs t ht).1).trans (hs t ht).2, h.sz.trans hsz⟩

theorem cond_bool {ρ : List Loc} {S : St} {a : Act} {w : World} (hs : SRel N ρ S.tm S.own a w) (c : Operand) : TReads (Zone N ρ S.own) w ρ S.own (ev S.tm c) (a.eval c) := ev_reads hs.trel c

/-- What is to be known of an environment. -/
structure EnvOk (P : Program) (E : Env) : Prop where
  ty : ∀ t, tyChk P t (E.tb t) = true
  con : ∀ f args own K, E.Γ f args own K → SoundCon P f (E.Γ f)
  ok : ∀ f args own K, E.Γ f args own K → ConOk (E.Γ f)
  mixed : P.follows .mixedOrders = true

theorem awp_sound (E : Env) (hE : EnvOk P E) (c : Code) :
    ∀ (blk : Nat) (S : St) (K : AExit → St → Prop) (a : Act) (w : World) (ρ : List Loc), awp E c blk S K → SRel N ρ S.tm S.own a w →
      c.wp P (fun e a' w' => ∃ e' : AExit, e = e'.to ∧ Post N ρ S.own a w (Code.assigns c) (fun tm own => K e' ⟨tm, own⟩) a' w') a w := by
  obtain ⟨hT, hΓ, hO, hM⟩ := hE
  have self : ∀ {ρ : List Loc} {S : St} {a : Act} {w : World} {wr : Tmp → Bool} {K : St → Prop}, SRel N ρ S.tm S.own a w → K S → Post N ρ S.own a w wr (fun tm own => K ⟨tm, own⟩) a w :=
    fun {ρ S a w wr K} hs hk => ⟨⟨S.tm, S.own, ρ, hk, hs, Fr.refl _ _ _⟩, fun _ _ => rfl, rfl⟩
  induction c with
  | skip => intro blk S K a w ρ h hs; exact wp_skip ⟨.normal, rfl, self hs h⟩
  | label l => intro blk S K a w ρ h hs; exact wp_label ⟨.normal, rfl, self hs h⟩
  | exit id => intro blk S K a w ρ h hs; exact wp_exit ⟨.exit id, rfl, self hs h⟩
  | goto l => intro blk S K a w ρ h hs; exact wp_goto ⟨.goto l, rfl, self hs h⟩
  | ret => intro blk S K a w ρ h hs; exact wp_ret ⟨.ret, rfl, self hs h⟩
  | region id ops draw =>
    intro blk S K a w ρ h hs
    have hall : ∀ (is : List Nat) (w1 : World), (∀ i ∈ is, i < ops.size) → awpOps E.tb E.Γ ops.toList (is.map fun i => ops.toList.getD i default) S.tm S.own (fun tm own => K .normal ⟨tm, own⟩) →
        SRel N ρ S.tm S.own a w1 → wpOps P ops (fun e a' w' => e = .normal ∧ Post N ρ S.own a w1 (wrOps ops) (fun tm own => K .normal ⟨tm, own⟩) a' w') is a w1 :=
      fun is w1 hi hk hs => ops_sound hT hΓ ops _ is hi S.tm S.own a w1 ρ hk hs
    cases draw with
    | false =>
      have h : awpOps E.tb E.Γ ops.toList ops.toList S.tm S.own (fun tm own => K .normal ⟨tm, own⟩) := h
      refine wp_region (wpOps_mono (fun e a' w' hh => ?_) _ _ _ (hall (List.range ops.size) w (fun i hi => by simpa using hi) (by rw [map_all]; exact h) hs))
      obtain ⟨rfl, hp⟩ := hh
      exact ⟨.normal, rfl, hp⟩
    | true =>
      have hc : calm E.tb ops.toList = true := by
        cases hx : calm E.tb ops.toList with
        | true => rfl
        | false => simp only [awp, hx] at h
      have h : awpOps E.tb E.Γ ops.toList ops.toList S.tm S.own (fun tm own => K .normal ⟨tm, own⟩) := by
        simp only [awp, hc] at h; exact h
      refine wp_region_draw fun t => ?_
      obtain ⟨hi, hk⟩ := drawn (tb := E.tb) hO (calm_iff hc) (P.follows .mixedOrders) hM t
      have hst : Step N ρ S.own w ρ S.own { w with drawn := w.drawn + 1 } := Step.drew hs.orel rfl rfl rfl rfl
      refine wpOps_mono (fun e a' w' hh => ?_) _ _ _ (hall _ { w with drawn := w.drawn + 1 } hi (hk _ _ _ h) ⟨hst.rel, hs.trel.step hst, hs.df⟩)
      obtain ⟨rfl, hp⟩ := hh
      exact ⟨.normal, rfl, hp.weaken hst.toFr (fun _ ht => ⟨ht, rfl⟩) rfl fun _ _ h => h⟩
  | seq x y ihx ihy =>
    intro blk S K a w ρ h hs
    have hor : ∀ t, Code.assigns (.seq x y) t = false → Code.assigns x t = false ∧ Code.assigns y t = false := fun t ht => by
      simpa [Code.assigns, Bool.or_eq_false_iff] using ht
    unfold awp at h
    split at h
    · refine wp_seq (wp_mono (ihx blk S _ a w ρ h hs) fun e a1 w1 hh => ?_)
      obtain ⟨e', rfl, hp⟩ := hh
      cases e' with
      | normal =>
        obtain ⟨tm1, own1, ρ1, k1, k2, k3⟩ := hp.ex
        refine wp_mono (ihy blk ⟨tm1, own1⟩ K a1 w1 ρ1 k1 k2) fun e a2 w2 hh => ?_
        obtain ⟨e', rfl, hp2⟩ := hh
        exact ⟨e', rfl, hp2.weaken k3 (fun t ht => ⟨(hor t ht).2, hp.same t (hor t ht).1⟩) hp.sz fun _ _ h => h⟩
      | exit i => exact ⟨.exit i, rfl, hp.weaken (Fr.refl _ _ _) (fun t ht => ⟨(hor t ht).1, rfl⟩) rfl fun _ _ h => h⟩
      | goto l => exact ⟨.goto l, rfl, hp.weaken (Fr.refl _ _ _) (fun t ht => ⟨(hor t ht).1, rfl⟩) rfl fun _ _ h => h⟩
      | ret => exact ⟨.ret, rfl, hp.weaken (Fr.refl _ _ _) (fun t ht => ⟨(hor t ht).1, rfl⟩) rfl fun _ _ h => h⟩
    · rename_i hd hj
      obtain ⟨J, h1, h2⟩ := h
      obtain ⟨ρ0, hs0, hf0⟩ := conv_sound hd.conv S ρ hs
      refine wp_seq (wp_mono (ihx blk _ _ a w ρ0 h1 hs0) fun e a1 w1 hh => ?_)
      obtain ⟨e', rfl, hp⟩ := hh
      cases e' with
      | normal =>
        obtain ⟨tm1, own1, ρ1, k1, k2, k3⟩ := hp.ex
        obtain ⟨g1, g2⟩ := frz_sound hd.conv ⟨tm1, own1⟩ ρ1 k2
        obtain ⟨z, hz, ρ2, hs2, hf2⟩ := head_sound (S := frzHead hd.conv ⟨tm1, own1⟩) _ hd _ hs0 g1 (k3.trans g2) hp.same hp.sz k1
        refine wp_mono (ihy blk _ K a1 w1 ρ2 (allHL_app _ _ h2 z hz) hs2) fun e a2 w2 hh => ?_
        obtain ⟨e', rfl, hp2⟩ := hh
        exact ⟨e', rfl, hp2.weaken (hf0.trans ((k3.trans g2).trans hf2)) (fun t ht => ⟨(hor t ht).2, hp.same t (hor t ht).1⟩) hp.sz fun _ _ h => h⟩
      | exit i => exact ⟨.exit i, rfl, hp.weaken hf0 (fun t ht => ⟨(hor t ht).1, rfl⟩) rfl fun _ _ h => h⟩
      | goto l => exact ⟨.goto l, rfl, hp.weaken hf0 (fun t ht => ⟨(hor t ht).1, rfl⟩) rfl fun _ _ h => h⟩
      | ret => exact ⟨.ret, rfl, hp.weaken hf0 (fun t ht => ⟨(hor t ht).1, rfl⟩) rfl fun _ _ h => h⟩
  | cond c x y ihx ihy =>
    intro blk S K a w ρ h hs
    have hor : ∀ t, Code.assigns (.cond c x y) t = false → Code.assigns x t = false ∧ Code.assigns y t = false := fun t ht => by
      simpa [Code.assigns, Bool.or_eq_false_iff] using ht
    have hat := cond_bool hs c
    unfold awp at h
    have px : ∀ S1, S1.own = S.own → awp E x blk S1 K → SRel N ρ S1.tm S1.own a w → x.wp P (fun e a' w' => ∃ e' : AExit, e = e'.to ∧ Post N ρ S.own a w (Code.assigns (.cond c x y)) (fun tm own => K e' ⟨tm, own⟩) a' w') a w := fun S1 ho h hs => by
      refine wp_mono (ihx blk S1 K a w ρ h hs) fun e a' w' hh => ?_
      obtain ⟨e', rfl, hp⟩ := hh
      exact ⟨e', rfl, hp.weaken (by rw [ho]; exact Fr.refl _ _ _) (fun t ht => ⟨(hor t ht).1, rfl⟩) rfl fun _ _ h => h⟩
    have py : ∀ S1, S1.own = S.own → awp E y blk S1 K → SRel N ρ S1.tm S1.own a w → y.wp P (fun e a' w' => ∃ e' : AExit, e = e'.to ∧ Post N ρ S.own a w (Code.assigns (.cond c x y)) (fun tm own => K e' ⟨tm, own⟩) a' w') a w := fun S1 ho h hs => by
      refine wp_mono (ihy blk S1 K a w ρ h hs) fun e a' w' hh => ?_
      obtain ⟨e', rfl, hp⟩ := hh
      exact ⟨e', rfl, hp.weaken (by rw [ho]; exact Fr.refl _ _ _) (fun t ht => ⟨(hor t ht).2, rfl⟩) rfl fun _ _ h => h⟩
    split at h
    · rename_i he
      rw [he] at hat
      exact wp_cond_true hat (px S rfl h hs)
    · rename_i he
      rw [he] at hat
      exact wp_cond_false hat (py S rfl h hs)
    · rename_i b he
      rw [he] at hat
      have hb := reads_bool hat
      split at h
      · rename_i t
        have hset := setBit hs t hb
        cases b with
        | true => exact wp_cond_true hb (px ⟨lset S.tm t .bt, S.own⟩ rfl (h.1 rfl) hset)
        | false => exact wp_cond_false hb (py ⟨lset S.tm t .bf, S.own⟩ rfl (h.2 rfl) hset)
      · exact h.elim
    · exact h.elim
  | block id c ih =>
    intro blk S K a w ρ h hs
    unfold awp at h
    refine wp_block (wp_mono (ih id S _ a w ρ h hs) fun e a' w' hh => ?_)
    obtain ⟨e', rfl, hp⟩ := hh
    cases e' with
    | normal => exact ⟨.normal, rfl, hp⟩
    | goto l => exact ⟨.goto l, rfl, hp⟩
    | ret => exact ⟨.ret, rfl, hp⟩
    | exit i =>
      simp only at hp
      show (if i = id then _ else _)
      split
      · rename_i hi
        subst hi
        simp only [Nat.beq_refl] at hp
        exact ⟨.normal, rfl, hp⟩
      · rename_i hi
        have : Nat.beq i id = false := by
          cases hb : Nat.beq i id with
          | false => rfl
          | true => exact absurd (Nat.eq_of_beq_eq_true hb) hi
        simp only [this] at hp
        exact ⟨.exit i, rfl, hp⟩
  | loop c ih =>
    intro blk S K a w ρ h hs
    unfold awp at h
    simp only at h
    obtain ⟨I, m, h0, h1⟩ := h
    obtain ⟨ρ0, hs0, hf0⟩ := conv_sound (E.loops blk).conv S ρ hs
    obtain ⟨x0, hx0, ρ1, hs1, hf1⟩ := head_sound (fun _ => false) _ _ hs0 hs0 (Fr.refl _ _ _) (fun _ _ => rfl) rfl h0
    refine wp_loop_ghost (fun x a' w' => Cur.app _ I x ∧ ∃ ρ', SRel N ρ' (mkHead (E.loops blk) (convHead (E.loops blk).conv S) x).tm (mkHead (E.loops blk) (convHead (E.loops blk).conv S) x).own a' w' ∧
        Fr ρ0 (convHead (E.loops blk).conv S).own w ρ' (mkHead (E.loops blk) (convHead (E.loops blk).conv S) x).own w' ∧ (∀ t, Code.assigns c t = false → a'.tmps.getD t undef = a.tmps.getD t undef) ∧ a'.tmps.size = a.tmps.size)
      (Cur.app _ m) x0 ⟨hx0, ρ1, hs1, hf1, fun _ _ => rfl, rfl⟩ ?_
    rintro x a1 w1 ⟨hI, ρ2, hs2, hf2, hsm, hsz⟩
    refine wp_mono (ih blk _ _ a1 w1 ρ2 (allHL_app _ _ h1 x hI) hs2) fun e a2 w2 hh => ?_
    obtain ⟨e', rfl, hp⟩ := hh
    have hw : ∀ t, Code.assigns (.loop c) t = false → Code.assigns c t = false ∧ a1.tmps.getD t undef = a.tmps.getD t undef := fun t ht => ⟨ht, hsm t ht⟩
    cases e' with
    | normal =>
      obtain ⟨tm3, own3, ρ3, k1, k2, k3⟩ := hp.ex
      obtain ⟨g1, g2⟩ := frz_sound (E.loops blk).conv ⟨tm3, own3⟩ ρ3 k2
      obtain ⟨y, hy, ρ4, hs4, hf4⟩ := head_sound (S := frzHead (E.loops blk).conv ⟨tm3, own3⟩) (Code.assigns c) _ _ hs0 g1 ((hf2.trans k3).trans g2) (fun t ht => (hp.same t ht).trans (hsm t ht)) (hp.sz.trans hsz) k1
      exact ⟨y, ⟨hy.1, ρ4, hs4, ((hf2.trans k3).trans g2).trans hf4, fun t ht => (hp.same t ht).trans (hsm t ht), hp.sz.trans hsz⟩, hy.2⟩
    | exit i => exact ⟨.exit i, rfl, hp.weaken (hf0.trans hf2) hw hsz fun _ _ h => h⟩
    | goto l => exact ⟨.goto l, rfl, hp.weaken (hf0.trans hf2) hw hsz fun _ _ h => h⟩
    | ret => exact ⟨.ret, rfl, hp.weaken (hf0.trans hf2) hw hsz fun _ _ h => h⟩
  | scope c ih =>
    intro blk S K a w ρ h hs
    unfold awp at h
    refine wp_scope_straight (wp_mono (ih blk S _ a w ρ h hs) fun e a' w' hh => ?_)
    obtain ⟨e', rfl, hp⟩ := hh
    cases e' with
    | normal => exact ⟨.normal, rfl, hp⟩
    | exit i => exact ⟨.exit i, rfl, hp⟩
    | ret => exact ⟨.ret, rfl, hp⟩
    | goto l =>
      obtain ⟨_, _, _, k, _⟩ := hp.ex
      exact k.elim
  | _ => intro blk S K a w ρ h hs; exact h.elim

end
end Go.Vc
end

section
/- VcX: from a body to a contract: functions that take data and give data. -/
namespace Go.Vc

def resPlain : List Ty → TV → Bool
  | [_], v => v.plain
  | _, .tup l => allB TV.plain l
  | _, _ => false
/-- The results handed on as data. -/
def dataK (ts : List Ty) (K : TV → Prop) : TV → Own → Prop := fun r own => match resPlain ts (dataOf own ts r) with | true => K (dataOf own ts r) | false => False
/-- A contract over data. -/
def dataCon (ps : List Ty) (T : List TV → (TV → Prop) → Prop) : Con := fun args own K =>
  match Nat.beq (llen ps) (llen args), allB TV.plain (Ty.normR own ps args) with
  | true, true => T (Ty.normR own ps args) fun v => K v (freezeAll own args)
  | _, _ => False
/-- What a contract over data owes to be moved. -/
def TOk (T : List TV → (TV → Prop) → Prop) : Prop :=
  (∀ args (K K' : TV → Prop), (∀ r, K r → K' r) → T args K → T args K') ∧ ∀ args K, T args K → ∃ r, K r

theorem dataCon_ok {ps : List Ty} {T : List TV → (TV → Prop) → Prop} (h : TOk T) : ConOk (dataCon ps T) := by
  refine ⟨fun args own K K' hk hT => ?_, fun args own K hT => ?_⟩
  · unfold dataCon at hT ⊢
    split
    · rename_i h1 h2
      rw [h1, h2] at hT
      exact h.1 _ _ _ (fun r => hk r _) hT
    · rename_i hx
      split at hT
      · rename_i h1 h2; exact (hx h1 h2).elim
      · exact hT
  · unfold dataCon at hT
    split at hT
    · obtain ⟨r, hr⟩ := h.2 _ _ hT
      exact ⟨r, _, hr⟩
    · exact hT.elim

/-! ### shutting -/
section
variable {N : Nat → Prop} {ρ : List Loc} {own : Own} {w : World}

def vecIn (id : Nat) : TV → Prop
  | .vec i => i = id
  | .agg l => ∃ i, i < l.length ∧ l.getD i .un = .vec id
  | _ => False

theorem freezeId_at (own : Own) (id i : Nat) : OB.at (freezeId own id) i = OB.at own i := by
  unfold freezeId
  rw [lset_eq, at_set]
  split
  · rename_i e; rw [e.1]
  · rfl
theorem freezeId_fz (own : Own) (id i : Nat) (h : i = id ∨ frozenAt own i = true) : frozenAt (freezeId own id) i = true := by
  unfold freezeId
  rw [lset_eq, fz_set]
  split
  · rfl
  · rename_i e
    rcases h with rfl | h
    · simp only [true_and, Nat.not_lt] at e
      simp only [frozenAt, lget_eq, List.getD_eq_getElem?_getD]
      rw [List.getElem?_eq_none e]; rfl
    · exact h

theorem freezeId_step (h : ORel N ρ own w) (id : Nat) : Step N ρ own w ρ (freezeId own id) w := by
  unfold freezeId; rw [lset_eq]; exact Step.shut h id

theorem freezeL_spec : ∀ (l : List TV) (own : Own), ORel N ρ own w → Step N ρ own w ρ (freezeL own l) w ∧ (∀ i, OB.at (freezeL own l) i = OB.at own i) ∧ (∀ i, frozenAt own i = true → frozenAt (freezeL own l) i = true) ∧
    ∀ j id, j < l.length → l.getD j .un = .vec id → frozenAt (freezeL own l) id = true
  | [], own, h => ⟨Step.refl h, fun _ => rfl, fun _ h => h, fun j id hj => by simp at hj⟩
  | v :: vs, own, h => by
    have hv : Step N ρ own w ρ (freeze0 own v) w ∧ (∀ i, OB.at (freeze0 own v) i = OB.at own i) ∧ (∀ i, frozenAt own i = true → frozenAt (freeze0 own v) i = true) ∧ ∀ id, v = .vec id → frozenAt (freeze0 own v) id = true := by
      cases v with
      | vec id => exact ⟨freezeId_step h id, freezeId_at own id, fun i hi => freezeId_fz own id i (.inr hi), fun id' e => by cases e; exact freezeId_fz own id id (.inl rfl)⟩
      | _ => exact ⟨Step.refl h, fun _ => rfl, fun _ h => h, fun id e => by cases e⟩
    obtain ⟨h1, h2, h3, h4⟩ := hv
    obtain ⟨k1, k2, k3, k4⟩ := freezeL_spec vs (freeze0 own v) h1.rel
    refine ⟨h1.trans k1, fun i => (k2 i).trans (h2 i), fun i hi => k3 i (h3 i hi), fun j id hj hv => ?_⟩
    cases j with
    | zero => exact k3 id (h4 id (by simpa using hv))
    | succ j => exact k4 j id (by simpa using hj) (by simpa using hv)

theorem freeze_spec (h : ORel N ρ own w) (v : TV) : Step N ρ own w ρ (freeze own v) w ∧ (∀ i, OB.at (freeze own v) i = OB.at own i) ∧ (∀ i, frozenAt own i = true → frozenAt (freeze own v) i = true) ∧
    ∀ id, vecIn id v → frozenAt (freeze own v) id = true := by
  cases v with
  | vec id => exact ⟨freezeId_step h id, freezeId_at own id, fun i hi => freezeId_fz own id i (.inr hi), fun id' e => by cases e; exact freezeId_fz own id id (.inl rfl)⟩
  | agg l =>
    obtain ⟨h1, h2, h3, h4⟩ := freezeL_spec l own h
    exact ⟨h1, h2, h3, fun id ⟨i, hi, e⟩ => h4 i id hi e⟩
  | _ => exact ⟨Step.refl h, fun _ => rfl, fun _ h => h, fun id e => e.elim⟩

theorem freezeAll_spec : ∀ (l : List TV) (own : Own), ORel N ρ own w → Step N ρ own w ρ (freezeAll own l) w ∧ (∀ i, OB.at (freezeAll own l) i = OB.at own i) ∧ (∀ i, frozenAt own i = true → frozenAt (freezeAll own l) i = true) ∧
    ∀ j id, j < l.length → vecIn id (l.getD j .un) → frozenAt (freezeAll own l) id = true
  | [], own, h => ⟨Step.refl h, fun _ => rfl, fun _ h => h, fun j id hj => by simp at hj⟩
  | v :: vs, own, h => by
    obtain ⟨h1, h2, h3, h4⟩ := freeze_spec h v
    obtain ⟨k1, k2, k3, k4⟩ := freezeAll_spec vs (freeze own v) h1.rel
    refine ⟨h1.trans k1, fun i => (k2 i).trans (h2 i), fun i hi => k3 i (h3 i hi), fun j id hj hv => ?_⟩
    cases j with
    | zero => exact k3 id (h4 id (by simpa using hv))
    | succ j => exact k4 j id (by simpa using hj) (by simpa using hv)

theorem vec_data (h : ORel N ρ own w) {id : Nat} {loc : Loc} (hl : ρ[id]? = some loc) (hf : frozenAt own id = true) :
    Reads (Zone N ρ own) w (OB.at own id).data (.slice loc.a (OB.at own id).len loc.cap) := by
  cases ho : OB.at own id with
  | ints k l => have := shut_reads h hl hf (t := .sc (.sints k)) (by rw [ho]; exact kindEq_iff.2 rfl); rw [ho] at this; exact this
  | rows sz l => have := shut_reads h hl hf (t := .sc (.srows sz)) (by rw [ho]; exact Nat.beq_refl sz); rw [ho] at this; exact this
  | cells l => exact .undef _ rfl
  | gone => exact .undef _ rfl

/-- Data out of a value, the slices of the call's own being shut. -/
theorem snorm_reads (h : ORel N ρ own w) {own0 : Own} (hat : ∀ i, OB.at own i = OB.at own0 i) (s : STy) {t : TV} {u : Value} (ht : TReads0 (Zone N ρ own) w ρ own t u) (hf : ∀ id, t = .vec id → frozenAt own id = true) :
    TReads0 (Zone N ρ own) w ρ own (s.norm own0 t) u := by
  have vec : ∀ id, t = .vec id → TReads0 (Zone N ρ own) w ρ own (.d (OB.at own0 id).data) u := fun id e => by
    subst e
    obtain ⟨loc, hl, hu⟩ := ht
    rw [hu, ← hat]; exact vec_data h hl (hf id rfl)
  unfold STy.norm
  split
  · obtain ⟨a, rfl⟩ := ht; exact .ints0 _ _ _
  · exact vec _ rfl
  · obtain ⟨a, rfl⟩ := ht; exact .rows0 _ _ _
  · exact vec _ rfl
  · have ht : u = .bool true := ht
    subst ht; exact .bool true
  · have ht : u = .bool false := ht
    subst ht; exact .bool false
  · exact ht

theorem norms_get (own0 : Own) : ∀ (cs : List STy) (vs : List TV) (i : Nat), i < vs.length → (norms own0 cs vs).getD i .un = vs.getD i .un ∨ ∃ s : STy, (norms own0 cs vs).getD i .un = s.norm own0 (vs.getD i .un)
  | [], vs, i, h => by cases vs <;> exact .inl rfl
  | s :: ss, [], i, h => by simp at h
  | s :: ss, v :: vs, 0, h => .inr ⟨s, rfl⟩
  | s :: ss, v :: vs, i + 1, h => by
    have := norms_get own0 ss vs i (by simpa using h)
    simpa [norms] using this

theorem aggnorm_reads (h : ORel N ρ own w) {own0 : Own} (hat : ∀ i, OB.at own i = OB.at own0 i) (cs : List STy) {l : List TV} {u : Value} (ht : TReads1 (Zone N ρ own) w ρ own (.agg l) u) (hf : ∀ id, vecIn id (.agg l) → frozenAt own id = true) :
    TReads1 (Zone N ρ own) w ρ own (.agg (norms own0 cs l)) u := by
  obtain ⟨a, h1, h2, h3⟩ := ht
  refine ⟨a, h1, by rw [norms_len]; exact h2, fun i hi => ?_⟩
  rw [norms_len] at hi
  rcases norms_get own0 cs l i hi with e | ⟨s, e⟩
  · rw [e]; exact h3 i hi
  · rw [e]; exact snorm_reads h hat s (h3 i hi) fun id hid => hf id ⟨i, hi, hid⟩

theorem norm_reads (h : ORel N ρ own w) {own0 : Own} (hat : ∀ i, OB.at own i = OB.at own0 i) (t : Ty) {v : TV} {u : Value} (ht : TReads1 (Zone N ρ own) w ρ own v u) (hf : ∀ id, vecIn id v → frozenAt own id = true) :
    TReads1 (Zone N ρ own) w ρ own (t.norm own0 v) u := by
  cases t with
  | sc s =>
    cases v with
    | agg l => cases s <;> exact ht
    | tup l => exact ht.elim
    | _ => exact .of0 (snorm_reads h hat s ht fun id e => hf id (by rw [e]; rfl))
  | struct fs cs =>
    cases v with
    | agg l => exact aggnorm_reads h hat cs ht hf
    | _ => exact ht
  | arr n e cs =>
    cases v with
    | agg l => exact aggnorm_reads h hat cs ht hf
    | _ => exact ht
  | no => cases v <;> exact ht

/-- A plain value says the same without the own blocks. -/
theorem plain_reads {Z Z' : Nat → Prop} {w w' : World} {ρ ρ' : List Loc} {own own' : Own} {v : TV} {u : Value} (hp : v.plain = true) (h : TReads1 Z w ρ own v u) (hr : ∀ x u, Reads Z w x u → Reads Z' w' x u) :
    TReads1 Z' w' ρ' own' v u := h.mono hr fun id hn => (plain_names (id := id) hp (by
      cases v with
      | tup l => exact h.elim
      | _ => exact hn)).elim

/-- Old blocks as they were, others more. -/
theorem Step.more {w' : World} (h : ORel N ρ own w) (h1 : w'.os = w.os) (h2 : w'.tape = w.tape) (h3 : w'.output = w.output) (hs : w.heap.size ≤ w'.heap.size)
    (hk : ∀ b, b < w.heap.size → w'.heap[b]? = w.heap[b]?) : Step N ρ own w ρ own w' := by
  have hfr : Fr ρ own w ρ own w' := ⟨h1, h2, h3, hs, fun b hb _ => hk b hb, fun b hb => .inl hb⟩
  exact { hfr with rel := h.upd hfr h.len (fun _ _ _ _ i _ _ => SameAt.refl ρ own i) (fun i l hl => .inl ⟨hl, rfl, id, fun b hb => hk b (h.lt i l b hl hb)⟩), same := SameAt.refl ρ own }

theorem norm_reads_tup {Z : Nat → Prop} (h : ORel N ρ own w) {own0 : Own} (hat : ∀ i, OB.at own i = OB.at own0 i) : ∀ (ts : List Ty) (vs : List TV) (us : Nat → Value), ts.length = vs.length →
    (∀ i, i < vs.length → TReads1 (Zone N ρ own) w ρ own (vs.getD i .un) (us i)) → (∀ j id, j < vs.length → vecIn id (vs.getD j .un) → frozenAt own id = true) →
    (Ty.normR own0 ts vs).length = vs.length ∧ ∀ i, i < vs.length → TReads1 (Zone N ρ own) w ρ own ((Ty.normR own0 ts vs).getD i .un) (us i)
  | [], [], us, _, _, _ => ⟨rfl, fun i hi => by simp at hi⟩
  | [], _ :: _, _, h, _, _ => by simp at h
  | _ :: _, [], _, h, _, _ => by simp at h
  | t :: ts, v :: vs, us, hl, hr, hf => by
    obtain ⟨h1, h2⟩ := norm_reads_tup (Z := Z) h hat ts vs (fun i => us (i + 1)) (by simpa using hl) (fun i hi => by have := hr (i + 1) (by simpa using hi); simpa using this)
      (fun j id hj hv => hf (j + 1) id (by simpa using hj) (by simpa using hv))
    refine ⟨by simp [Ty.normR, h1], fun i hi => ?_⟩
    cases i with
    | zero => exact norm_reads h hat t (by have := hr 0 (by simp); simpa using this) (fun id hv => hf 0 id (by simp) (by simpa using hv))
    | succ i => have := h2 i (by simpa using hi); simpa [Ty.normR] using this
end

/-! ### a body -/
theorem results_run {P : Program} {fn : Func} {rts : List Tmp} (h : fn.results = (rts.map ResultVar.tmp).toArray) (tmps : Array Value) (w : World) :
    (results fn tmps).run P w = .ok (if rts.length = 1 then tmps.getD (rts.getD 0 0) undef else .tuple (rts.map fun t => tmps.getD t undef).toArray) w := by
  unfold results
  rw [h, List.mapM_toArray, List.mapM_map]
  have : ∀ g : ResultVar → Sem Value, (∀ t, g (.tmp t) = pure (tmps.getD t undef)) → (rts.mapM (g ∘ ResultVar.tmp) : Sem (List Value)) = pure (rts.map fun t => tmps.getD t undef) := fun g hg => by
    have e : g ∘ ResultVar.tmp = fun t => pure (tmps.getD t undef) := funext hg
    rw [e]; exact List.mapM_pure
  rw [this _ fun t => rfl, map_pure, pure_bind]
  match rts with
  | [] => rfl
  | [t] => rfl
  | t :: u :: r => 
    rw [dif_neg (by simp), if_neg (by simp)]; rfl

theorem resOf_tmps (tb : TypeId → TyI) (tm : List TV) (own : Own) : ∀ rts : List Tmp, resOf tb tm own (rts.map .tmp) = rts.map fun t => lget .un tm t
  | [] => rfl
  | t :: r => congrArg (lget TV.un tm t :: ·) (resOf_tmps tb tm own r)

theorem allB_get {α : Type} {f : α → Bool} {l : List α} (h : allB f l = true) (d : α) (i : Nat) (hi : i < l.length) : f (l.getD i d) = true := by
  rw [allB_eq, List.all_eq_true] at h
  have : l.getD i d = l[i] := by simp [List.getD_eq_getElem?_getD, hi]
  rw [this]; exact h _ (List.getElem_mem hi)

theorem plain_reads1 {Z : Nat → Prop} {w : World} {ρ : List Loc} {own : Own} {v : TV} {u : Value} (hp : v.plain = true) (h : TReads Z w ρ own v u) : TReads1 Z w ρ own v u := by
  cases v with
  | tup l => cases hp
  | _ => exact h

theorem normR_len (own : Own) : ∀ (ts : List Ty) (vs : List TV), ts.length = vs.length → (Ty.normR own ts vs).length = vs.length
  | [], [], _ => rfl
  | [], _ :: _, h => by simp at h
  | _ :: _, [], h => by simp at h
  | t :: ts, v :: vs, h => congrArg (· + 1) (normR_len own ts vs (by simpa using h))
theorem normR_get (own : Own) : ∀ (ts : List Ty) (vs : List TV), ts.length = vs.length → ∀ i, i < vs.length → ∃ t : Ty, (Ty.normR own ts vs).getD i .un = t.norm own (vs.getD i .un)
  | [], [], _, i, hi => by simp at hi
  | [], _ :: _, h, _, _ => by simp at h
  | _ :: _, [], h, _, _ => by simp at h
  | t :: ts, v :: vs, h, 0, _ => ⟨t, rfl⟩
  | t :: ts, v :: vs, h, i + 1, hi => by
    obtain ⟨t', e⟩ := normR_get own ts vs (by simpa using h) i (by simpa using hi)
    exact ⟨t', by simpa [Ty.normR] using e⟩

/-- A value whose normal form is plain is no tuple. -/
theorem norm_tup (own : Own) (t : Ty) (l : List TV) : (t.norm own (.tup l)) = .tup l := by
  cases t with
  | sc s => cases s <;> rfl
  | _ => rfl
theorem norm_reads' {N : Nat → Prop} {ρ : List Loc} {own : Own} {w : World} (h : ORel N ρ own w) {own0 : Own} (hat : ∀ i, OB.at own i = OB.at own0 i) (t : Ty) {v : TV} {u : Value} (hp : (t.norm own0 v).plain = true)
    (ht : TReads (Zone N ρ own) w ρ own v u) (hf : ∀ id, vecIn id v → frozenAt own id = true) : TReads1 (Zone N ρ own) w ρ own (t.norm own0 v) u := by
  refine norm_reads h hat t ?_ hf
  cases v with
  | tup l => rw [norm_tup] at hp; cases hp
  | _ => exact ht

section
variable {P : Program}

/-- A body runs as it is walked. -/
theorem body_sound (E : Env) (hE : EnvOk P E)
    {f : FuncId} {fn : Func} {c : Code} (hf : P.funcs[f]? = some fn) (hb : fn.body = some c) {rts : List Tmp} (hr : fn.results = (rts.map ResultVar.tmp).toArray)
    {N : Nat → Prop} {ρ : List Loc} {own : Own} {w : World} {args : List TV} {vals : Array Value} {K : TV → Own → Prop} (h : awpBody E fn.ntmps (rts.map .tmp) c args own K) (ho : ORel N ρ own w)
    (hl : args.length = vals.size) (ha : ∀ i, i < args.length → TReads (Zone N ρ own) w ρ own (args.getD i .un) (vals.getD i undef)) :
    Calls P f vals w fun e w' => ∃ (rs : List TV) (own' : Own) (ρ' : List Loc) (vs : List Value), e = .returned (if rts.length = 1 then vs.getD 0 undef else .tuple vs.toArray) ∧ rs.length = rts.length ∧ vs.length = rts.length ∧
      K (one rs) own' ∧ ORel N ρ' own' w' ∧ Fr ρ own w ρ' own' w' ∧ ∀ i, TReads (Zone N ρ' own') w' ρ' own' (rs.getD i .un) (vs.getD i undef) := by
  refine calls_of_wp hf hb ?_
  have hs : SRel N ρ (pad fn.ntmps args) own { tmps := vals ++ Array.replicate (fn.ntmps - vals.size) undef, defers := [] } w := by
    refine ⟨ho, ⟨by rw [pad_eq]; simp [hl], fun t => ?_⟩, rfl⟩
    rw [pad_eq]
    by_cases ht : t < args.length
    · have e1 : (args ++ List.replicate (fn.ntmps - args.length) TV.un).getD t .un = args.getD t .un := by simp [List.getD_eq_getElem?_getD, List.getElem?_append_left ht]
      have e2 : (vals ++ Array.replicate (fn.ntmps - vals.size) undef).getD t undef = vals.getD t undef := by simp [Array.getD_eq_getD_getElem?, Array.getElem?_append_left (show t < vals.size by omega)]
      rw [e1, e2]; exact ha t ht
    · have e1 : (args ++ List.replicate (fn.ntmps - args.length) TV.un).getD t .un = .un := by
        rw [List.getD_eq_getElem?_getD, List.getElem?_append_right (by omega), List.getElem?_replicate]; split <;> rfl
      have e2 : (vals ++ Array.replicate (fn.ntmps - vals.size) undef).getD t undef = undef := by
        rw [Array.getD_eq_getD_getElem?, Array.getElem?_append_right (by omega), Array.getElem?_replicate]; split <;> rfl
      rw [e1, e2]; exact TReads.un
  unfold awpBody at h
  refine wp_mono (awp_sound E hE c _ _ _ _ w ρ h hs) fun e a' w' hh => ?_
  obtain ⟨e', rfl, hp⟩ := hh
  obtain ⟨tm', own', ρ', k1, k2, k3⟩ := hp.ex
  have fin : K (one (resOf E.tb tm' own' (rts.map .tmp))) own' → a'.defers = [] ∧ ∃ v, (results fn a'.tmps).run P w' = .ok v w' ∧
      ∃ (rs : List TV) (own' : Own) (ρ' : List Loc) (vs : List Value), Ending.returned v = .returned (if rts.length = 1 then vs.getD 0 undef else .tuple vs.toArray) ∧ rs.length = rts.length ∧ vs.length = rts.length ∧
      K (one rs) own' ∧ ORel N ρ' own' w' ∧ Fr ρ own w ρ' own' w' ∧ ∀ i, TReads (Zone N ρ' own') w' ρ' own' (rs.getD i .un) (vs.getD i undef) := fun hk => by
    refine ⟨k2.df, _, results_run hr a'.tmps w', _, own', ρ', rts.map fun t => a'.tmps.getD t undef, ?_, by rw [resOf_tmps]; simp, by simp, hk, k2.orel, k3, fun i => ?_⟩
    · congr 1
      split
      · rename_i h1
        match rts, h1 with
        | [t], _ => rfl
      · rfl
    · rw [resOf_tmps]
      by_cases hi : i < rts.length
      · have e1 : (rts.map fun t => lget .un tm' t).getD i .un = tm'.getD (rts[i]) .un := by simp [List.getD_eq_getElem?_getD, hi, lget_eq]
        have e2 : (rts.map fun t => a'.tmps.getD t undef).getD i undef = a'.tmps.getD (rts[i]) undef := by simp [List.getD_eq_getElem?_getD, hi]
        rw [e1, e2]; exact k2.trel.at_ _
      · have e1 : (rts.map fun t => lget .un tm' t).getD i .un = .un := by simp [List.getD_eq_getElem?_getD, hi]
        have e2 : (rts.map fun t => a'.tmps.getD t undef).getD i undef = undef := by simp [List.getD_eq_getElem?_getD, hi]
        rw [e1, e2]; exact TReads.un
  cases e' with
  | normal => exact fin k1
  | ret => exact fin k1
  | _ => exact k1.elim

end
end Go.Vc
end

section
/- VcY: functions that take data and give data keep their contracts. -/
namespace Go.Vc

section
variable {P : Program}

theorem data_sound (E : Env) (hE : EnvOk P E)
    {f : FuncId} {fn : Func} {c : Code} (hf : P.funcs[f]? = some fn) (hb : fn.body = some c) (hn : (fn.name == "runtime.NumGoroutine") = false) {rts : List Tmp} (hr : fn.results = (rts.map ResultVar.tmp).toArray)
    {ps ts : List Ty} (hts : ts.length = rts.length) {T : List TV → (TV → Prop) → Prop} (hbody : ∀ args K, T args K → awpBody E fn.ntmps (rts.map .tmp) c args [] (dataK ts K)) : SoundCon P f (dataCon ps T) := by
  refine ⟨⟨fn, hf, by rw [hb]; rfl, hn⟩, ?_⟩
  intro N ρ own w args vals K h ho hl ha
  unfold dataCon at h
  split at h
  rotate_left
  · exact h.elim
  rename_i h1 h2
  have hlen : ps.length = args.length := by have := Nat.eq_of_beq_eq_true h1; rwa [llen_eq, llen_eq] at this
  obtain ⟨s1, s2, s3, s4⟩ := freezeAll_spec args own ho
  have hlen' := normR_len own ps args hlen
  have ho' : ORel (Zone N ρ (freezeAll own args)) [] [] w :=
    { len := rfl
      nlt := fun b hb => by
        rcases hb with hb | ⟨i, loc, e1, e2, _⟩
        · exact ho.nlt b hb
        · exact ho.lt i loc b e1 e2
      lt := fun i loc b e => by simp at e
      inj := fun i j li lj b e => by simp at e
      nb := fun i loc b e => by simp at e
      ob := fun i loc e => by simp at e }
  have hargs : ∀ i, i < (Ty.normR own ps args).length → TReads (Zone (Zone N ρ (freezeAll own args)) [] []) w [] [] ((Ty.normR own ps args).getD i .un) (vals.getD i undef) := fun i hi => by
    obtain ⟨t, e⟩ := normR_get own ps args hlen i (by omega)
    have hp := allB_get h2 .un i hi
    rw [e] at hp ⊢
    have h5 := norm_reads' s1.rel s2 t hp (s1.treads (ha i (by omega))) fun id hv => s4 i id (by omega) hv
    refine .of1 (plain_reads hp h5 fun x u hx => hx.mono fun b _ hz => ⟨rfl, fun hz' => ?_⟩)
    rcases hz' with hz' | ⟨j, loc, e1, _⟩
    · exact hz hz'
    · simp at e1
  refine (body_sound E hE hf hb hr (hbody _ _ h) ho' (by omega) hargs).mono ?_
  rintro e w' ⟨rs, own', ρ', vs, rfl, l1, l2, hk, hrel, hfr, hrd⟩
  obtain ⟨q1, q2, q3, q4⟩ := freezeAll_spec rs own' hrel
  have hold : Step N ρ (freezeAll own args) w ρ (freezeAll own args) w' := Step.more s1.rel hfr.os hfr.tape hfr.output hfr.size fun b hb => hfr.keep b hb fun ⟨i, loc, e1, _⟩ => by simp at e1
  have hread : ∀ x u, Reads (Zone (Zone N ρ (freezeAll own args)) ρ' (freezeAll own' rs)) w' x u → Reads (Zone N ρ (freezeAll own args)) w' x u := fun x u hx =>
    hx.mono fun b _ hz => ⟨rfl, fun hz' => hz (.inl hz')⟩
  unfold dataK at hk
  split at hk
  rotate_left
  · exact hk.elim
  rename_i hpl
  refine ⟨_, _, ρ, _, rfl, hk, s1.trans hold, ?_⟩
  have hvec : ∀ j id, j < rs.length → vecIn id (rs.getD j .un) → frozenAt (freezeAll own' rs) id = true := q4
  by_cases h1 : rts.length = 1
  · rw [if_pos h1]
    match rs, vs, ts, (by omega : rs.length = 1), (by omega : vs.length = 1), (by omega : ts.length = 1) with
    | [x], [u], [t], _, _, _ =>
      have e : dataOf own' [t] (one [x]) = t.norm own' x := rfl
      rw [e] at hpl ⊢
      have hp : (t.norm own' x).plain = true := hpl
      exact .of1 (plain_reads hp (norm_reads' q1.rel q2 t hp (q1.treads (hrd 0)) fun id hv => hvec 0 id (by simp) hv) hread)
  · rw [if_neg h1]
    have e1 : one rs = .tup rs := by
      match rs, l1 with
      | [], _ => rfl
      | [x], l1 => exact absurd l1.symm h1
      | _ :: _ :: _, _ => rfl
    have e2 : ∀ l, dataOf own' ts (.tup l) = .tup (Ty.normR own' ts l) := fun l => by
      match ts, hts with
      | [], _ => rfl
      | [x], hts => exact absurd hts.symm h1
      | _ :: _ :: _, _ => rfl
    have e3 : ∀ l, resPlain ts (.tup l) = allB TV.plain l := fun l => by
      match ts, hts with
      | [], _ => rfl
      | [x], hts => exact absurd hts.symm h1
      | _ :: _ :: _, _ => rfl
    rw [e1, e2] at hpl ⊢
    rw [e3] at hpl
    have hl2 := normR_len own' ts rs (by omega)
    refine ⟨vs.toArray, rfl, by rw [hl2]; simp; omega, fun i hi => ?_⟩
    obtain ⟨t, e⟩ := normR_get own' ts rs (by omega) i (by omega)
    have hp := allB_get hpl .un i hi
    rw [e] at hp ⊢
    have := plain_reads (ρ' := ρ) (own' := freezeAll own args) hp (norm_reads' q1.rel q2 t hp (q1.treads (hrd i)) fun id hv => hvec i id (by omega) hv) hread
    have e4 : vs.toArray.getD i undef = vs.getD i undef := by simp [Array.getD_eq_getD_getElem?, List.getD_eq_getElem?_getD]
    rw [e4]; exact this

end
end Go.Vc
end

section
/- VcZ: functions that get one own block of the caller's lent (a slice that is written in place, a variable behind a pointer). -/
namespace Go.Vc

def OB.plain : OB → Bool
  | .cells l => allB TV.plain0 l
  | .ints .. => true
  | .rows .. => true
  | .gone => false
def OB.alike : OB → OB → Bool
  | .cells l, .cells l' => Nat.beq (llen l) (llen l')
  | .ints k _, .ints k' _ => kindEq k k'
  | .rows s _, .rows s' _ => Nat.beq s s'
  | _, _ => false
def lendOk : TV → OB → Bool
  | .vec _, .ints .. => true
  | .vec _, .rows .. => true
  | .ptr .., .cells l => allB TV.plain0 l
  | _, _ => false
/-- A slice that is lent has elements. -/
def lendLen : TV → OB → Prop → Prop
  | .vec _, ob, q => 0 < ob.len ∧ q
  | _, _, q => q
def lendId : TV → Option Nat
  | .vec id => some id
  | .ptr id _ => some id
  | _ => none
def lend0 : TV → TV
  | .vec _ => .vec 0
  | .ptr _ off => .ptr 0 off
  | v => v
/-- A contract of a function whose first argument is lent. -/
def lendCon (ps : List Ty) (T : TV → OB → List TV → (OB → TV → Prop) → Prop) : Con := fun args own K =>
  match args with
  | [] => False
  | a0 :: rest =>
    match lendId a0 with
    | none => False
    | some id =>
      match frozenAt (freezeAll own rest) id, lendOk a0 (OB.at own id), Nat.beq (llen ps) (llen rest), allB TV.plain (Ty.normR own ps rest) with
      | false, true, true, true => lendLen a0 (OB.at own id) (T (lend0 a0) (OB.at own id) (Ty.normR own ps rest) fun ob r =>
        (match OB.alike (OB.at own id) ob with | true => K r (lset (freezeAll own rest) id (false, ob)) | false => False))
      | _, _, _, _ => False
def LOk (T : TV → OB → List TV → (OB → TV → Prop) → Prop) : Prop :=
  (∀ a o args (K K' : OB → TV → Prop), (∀ o r, K o r → K' o r) → T a o args K → T a o args K') ∧ ∀ a o args K, T a o args K → ∃ o r, K o r

theorem lendLen_iff (a : TV) (ob : OB) (q : Prop) : lendLen a ob q ↔ (∀ id, a = .vec id → 0 < ob.len) ∧ q := by
  cases a with
  | vec i => simp [lendLen]
  | _ => simp [lendLen]
theorem lendOk_plain {a : TV} {ob : OB} (h : lendOk a ob = true) : ob.plain = true := by
  cases a <;> cases ob <;> first | rfl | exact h | cases h

theorem lendCon_ok {ps : List Ty} {T : TV → OB → List TV → (OB → TV → Prop) → Prop} (h : LOk T) : ConOk (lendCon ps T) := by
  refine ⟨fun args own K K' hk hT => ?_, fun args own K hT => ?_⟩
  · unfold lendCon at hT ⊢
    split
    · exact hT
    · rename_i a0 rest
      simp only at hT
      split
      · rename_i he; rw [he] at hT; exact hT
      · rename_i id he
        rw [he] at hT
        simp only at hT
        split
        · rename_i h1 h2 h3 h4
          rw [h1, h2, h3, h4] at hT
          simp only at hT
          rw [lendLen_iff] at hT ⊢
          refine ⟨hT.1, h.1 _ _ _ _ _ (fun o r ho => ?_) hT.2⟩
          split
          · rename_i ha; rw [ha] at ho; exact hk _ _ ho
          · rename_i ha; rw [ha] at ho; exact ho
        · rename_i hx
          split at hT
          · rename_i h1 h2 h3 h4; exact (hx h1 h2 h3 h4).elim
          · exact hT
  · unfold lendCon at hT
    split at hT
    · exact hT.elim
    · split at hT
      · exact hT.elim
      · split at hT
        · rw [lendLen_iff] at hT
          obtain ⟨o, r, hr⟩ := h.2 _ _ _ _ hT.2
          split at hr
          · exact ⟨_, _, hr⟩
          · exact hr.elim
        · exact hT.elim

/-- What is to be shown of the body. -/
def awpLend (E : Env) (ntmps : Nat) (results : List ResultVar) (c : Code) (a0 : TV) (ob : OB) (rest : List TV) (ts : List Ty) (K : OB → TV → Prop) : Prop :=
  awp E c 1000000 ⟨pad ntmps (a0 :: rest), [(false, ob)]⟩ fun e S =>
    match e with
    | .normal | .ret =>
      (match frozenAt (freezeAll S.own (resOf E.tb S.tm S.own results)) 0, OB.plain (OB.at S.own 0), TV.sameId (lget .un S.tm 0) a0, resPlain ts (dataOf S.own ts (one (resOf E.tb S.tm S.own results))) with
      | false, true, true, true => K (OB.at S.own 0) (dataOf S.own ts (one (resOf E.tb S.tm S.own results)))
      | _, _, _, _ => False)
    | _ => False

section
variable {P : Program}

theorem body_tm (E : Env) (hE : EnvOk P E)
    {f : FuncId} {fn : Func} {c : Code} (hf : P.funcs[f]? = some fn) (hb : fn.body = some c) {rts : List Tmp} (hr : fn.results = (rts.map ResultVar.tmp).toArray)
    {N : Nat → Prop} {ρ : List Loc} {own : Own} {w : World} {args : List TV} {vals : Array Value} {K : List TV → Own → Prop}
    (h : awp E c 1000000 ⟨pad fn.ntmps args, own⟩ fun e S => match e with | .normal | .ret => K S.tm S.own | _ => False) (ho : ORel N ρ own w)
    (hl : args.length = vals.size) (ha : ∀ i, i < args.length → TReads (Zone N ρ own) w ρ own (args.getD i .un) (vals.getD i undef)) :
    Calls P f vals w fun e w' => ∃ (tm : List TV) (own' : Own) (ρ' : List Loc) (a : Act), e = .returned (if rts.length = 1 then a.tmps.getD (rts.getD 0 0) undef else .tuple (rts.map fun t => a.tmps.getD t undef).toArray) ∧
      K tm own' ∧ SRel N ρ' tm own' a w' ∧ Fr ρ own w ρ' own' w' ∧ ∀ t, t < args.length → Code.assigns c t = false → a.tmps.getD t undef = vals.getD t undef := by
  refine calls_of_wp hf hb ?_
  have hs : SRel N ρ (pad fn.ntmps args) own { tmps := vals ++ Array.replicate (fn.ntmps - vals.size) undef, defers := [] } w := by
    refine ⟨ho, ⟨by rw [pad_eq]; simp [hl], fun t => ?_⟩, rfl⟩
    rw [pad_eq]
    by_cases ht : t < args.length
    · have e1 : (args ++ List.replicate (fn.ntmps - args.length) TV.un).getD t .un = args.getD t .un := by simp [List.getD_eq_getElem?_getD, List.getElem?_append_left ht]
      have e2 : (vals ++ Array.replicate (fn.ntmps - vals.size) undef).getD t undef = vals.getD t undef := by simp [Array.getD_eq_getD_getElem?, Array.getElem?_append_left (show t < vals.size by omega)]
      rw [e1, e2]; exact ha t ht
    · have e1 : (args ++ List.replicate (fn.ntmps - args.length) TV.un).getD t .un = .un := by
        rw [List.getD_eq_getElem?_getD, List.getElem?_append_right (by omega), List.getElem?_replicate]; split <;> rfl
      have e2 : (vals ++ Array.replicate (fn.ntmps - vals.size) undef).getD t undef = undef := by
        rw [Array.getD_eq_getD_getElem?, Array.getElem?_append_right (by omega), Array.getElem?_replicate]; split <;> rfl
      rw [e1, e2]; exact TReads.un
  refine wp_mono (awp_sound E hE c _ _ _ _ w ρ h hs) fun e a' w' hh => ?_
  obtain ⟨e', rfl, hp⟩ := hh
  obtain ⟨tm', own', ρ', k1, k2, k3⟩ := hp.ex
  have hold : ∀ t, t < args.length → Code.assigns c t = false → a'.tmps.getD t undef = vals.getD t undef := fun t ht hc => by
    rw [hp.same t hc]
    simp [Array.getD_eq_getD_getElem?, Array.getElem?_append_left (show t < vals.size by omega)]
  cases e' with
  | normal => exact ⟨k2.df, _, results_run hr a'.tmps w', tm', own', ρ', a', rfl, k1, k2, k3, hold⟩
  | ret => exact ⟨k2.df, _, results_run hr a'.tmps w', tm', own', ρ', a', rfl, k1, k2, k3, hold⟩
  | _ => exact k1.elim

/-- The results, as data, out of a frame. -/
theorem res_reads {tb : TypeId → TyI} {N : Nat → Prop} {ρ : List Loc} {own : Own} {w : World} {tm : List TV} {a : Act} (hs : SRel N ρ tm own a w) {rts : List Tmp} {ts : List Ty} (hts : ts.length = rts.length)
    (hpl : resPlain ts (dataOf own ts (one (resOf tb tm own (rts.map .tmp)))) = true) {Z : Nat → Prop} {ρ' : List Loc} {own' : Own} (hz : ∀ b, Z b → Zone N ρ (freezeAll own (resOf tb tm own (rts.map .tmp))) b) :
    TReads Z w ρ' own' (dataOf own ts (one (resOf tb tm own (rts.map .tmp)))) (if rts.length = 1 then a.tmps.getD (rts.getD 0 0) undef else .tuple (rts.map fun t => a.tmps.getD t undef).toArray) := by
  obtain ⟨q1, q2, q3, q4⟩ := freezeAll_spec (resOf tb tm own (rts.map .tmp)) own hs.orel
  have hread : ∀ x u, Reads (Zone N ρ (freezeAll own (resOf tb tm own (rts.map .tmp)))) w x u → Reads Z w x u := fun x u hx => hx.mono fun b _ hn => ⟨rfl, fun hz' => hn (hz b hz')⟩
  have hrd : ∀ i, TReads (Zone N ρ own) w ρ own ((resOf tb tm own (rts.map .tmp)).getD i .un) ((rts.map fun t => a.tmps.getD t undef).getD i undef) := fun i => by
    rw [resOf_tmps]
    by_cases hi : i < rts.length
    · have e1 : (rts.map fun t => lget .un tm t).getD i .un = tm.getD (rts[i]) .un := by simp [List.getD_eq_getElem?_getD, hi, lget_eq]
      have e2 : (rts.map fun t => a.tmps.getD t undef).getD i undef = a.tmps.getD (rts[i]) undef := by simp [List.getD_eq_getElem?_getD, hi]
      rw [e1, e2]; exact hs.trel.at_ _
    · have e1 : (rts.map fun t => lget .un tm t).getD i .un = .un := by simp [List.getD_eq_getElem?_getD, hi]
      have e2 : (rts.map fun t => a.tmps.getD t undef).getD i undef = undef := by simp [List.getD_eq_getElem?_getD, hi]
      rw [e1, e2]; exact TReads.un
  have l1 : (resOf tb tm own (rts.map .tmp)).length = rts.length := by rw [resOf_tmps]; simp
  have l2 : (rts.map fun t => a.tmps.getD t undef).length = rts.length := by simp
  have e0 : rts.length = 1 → a.tmps.getD (rts.getD 0 0) undef = (rts.map fun t => a.tmps.getD t undef).getD 0 undef := fun h1 => by
    match rts, h1 with
    | [t], _ => rfl
  generalize (rts.map fun t => a.tmps.getD t undef) = vs at hrd l2 e0 ⊢
  generalize resOf tb tm own (rts.map .tmp) = rs at q1 q2 q4 hread hrd l1 hpl ⊢
  by_cases h1 : rts.length = 1
  · rw [if_pos h1, e0 h1]
    match rs, ts, (by omega : rs.length = 1), (by omega : ts.length = 1) with
    | [x], [t], _, _ =>
      have hp : (t.norm own x).plain = true := hpl
      exact .of1 (plain_reads hp (norm_reads' q1.rel q2 t hp (q1.treads (hrd 0)) fun id hv => q4 0 id (by simp) hv) hread)
  · rw [if_neg h1]
    have e1 : one rs = .tup rs := by
      match rs, l1 with
      | [], _ => rfl
      | [x], l1 => exact absurd l1.symm h1
      | _ :: _ :: _, _ => rfl
    have e2 : ∀ l, dataOf own ts (.tup l) = .tup (Ty.normR own ts l) := fun l => by
      match ts, hts with
      | [], _ => rfl
      | [x], hts => exact absurd hts.symm h1
      | _ :: _ :: _, _ => rfl
    have e3 : ∀ l, resPlain ts (.tup l) = allB TV.plain l := fun l => by
      match ts, hts with
      | [], _ => rfl
      | [x], hts => exact absurd hts.symm h1
      | _ :: _ :: _, _ => rfl
    rw [e1, e2] at hpl ⊢
    rw [e3] at hpl
    have hl2 := normR_len own ts rs (by omega)
    refine ⟨vs.toArray, rfl, by rw [hl2]; simp; omega, fun i hi => ?_⟩
    obtain ⟨t, e⟩ := normR_get own ts rs (by omega) i (by omega)
    have hp := allB_get hpl .un i hi
    rw [e] at hp ⊢
    have := plain_reads (ρ' := ρ') (own' := own') hp (norm_reads' q1.rel q2 t hp (q1.treads (hrd i)) fun id hv => q4 i id (by omega) hv) hread
    have e4 : vs.toArray.getD i undef = vs.getD i undef := by simp [Array.getD_eq_getD_getElem?, List.getD_eq_getElem?_getD]
    rw [e4]; exact this

theorem plain0_reads {Z Z' : Nat → Prop} {w w' : World} {ρ ρ' : List Loc} {own own' : Own} {v : TV} {u : Value} (hp : v.plain0 = true) (h : TReads0 Z w ρ own v u) (hr : ∀ x u, Reads Z w x u → Reads Z' w' x u) :
    TReads0 Z' w' ρ' own' v u := h.mono hr fun _ hn => (plain0_names hp hn).elim

/-- An own block without handles says the same with others around. -/
theorem oreads_plain {Z Z' : Nat → Prop} {w w' : World} {ρ ρ' : List Loc} {own own' : Own} {loc : Loc} {ob : OB} (hp : ob.plain = true) (h : OReads Z w ρ own loc ob)
    (hb : ∀ b, loc.blk = some b → w'.heap[b]? = w.heap[b]?) (hr : ∀ x u, Reads Z w x u → Reads Z' w' x u) : OReads Z' w' ρ' own' loc ob :=
  h.mono hb hr fun l hl k id hk hn => by
    subst hl
    exact (plain0_names (allB_get hp .un k hk) hn).elim

theorem lend_sound (E : Env) (hE : EnvOk P E)
    {f : FuncId} {fn : Func} {c : Code} (hf : P.funcs[f]? = some fn) (hb : fn.body = some c) (hn : (fn.name == "runtime.NumGoroutine") = false) {rts : List Tmp} (hr : fn.results = (rts.map ResultVar.tmp).toArray)
    (h0 : Code.assigns c 0 = false) {ps ts : List Ty} (hts : ts.length = rts.length) {T : TV → OB → List TV → (OB → TV → Prop) → Prop}
    (hbody : ∀ a0 ob args K, T a0 ob args K → awpLend E fn.ntmps (rts.map .tmp) c a0 ob args ts K) : SoundCon P f (lendCon ps T) := by
  refine ⟨⟨fn, hf, by rw [hb]; rfl, hn⟩, ?_⟩
  intro N ρ own w args vals K h ho hl ha
  unfold lendCon at h
  split at h
  · exact h.elim
  rename_i a0 rest
  split at h
  · exact h.elim
  rename_i id hid
  split at h
  rotate_left
  · exact h.elim
  rename_i h1 h2' h3 h4
  rw [lendLen_iff] at h
  obtain ⟨hpos, h⟩ := h
  have h2 := lendOk_plain h2'
  have hlen : ps.length = rest.length := by have := Nat.eq_of_beq_eq_true h3; rwa [llen_eq, llen_eq] at this
  obtain ⟨s1, s2, s3, s4⟩ := freezeAll_spec rest own ho
  have hlen' := normR_len own ps rest hlen
  have hidlt : id < (freezeAll own rest).length := by
    rcases Nat.lt_or_ge id (freezeAll own rest).length with h | h
    · exact h
    · rw [fz_out _ _ h] at h1; cases h1
  have hidρ : id < ρ.length := by rw [s1.rel.len]; exact hidlt
  have hloc : ρ[id]? = some ρ[id] := by simp [hidρ]
  have hat0 := s1.treads (ha 0 (by simp))
  have halive : ∀ b, ρ[id].blk = some b → Zone N ρ (freezeAll own rest) b := fun b hb => .inr ⟨id, ρ[id], hloc, hb, h1⟩
  have hzone : ∀ b, Zone (fun b => Zone N ρ (freezeAll own rest) b ∧ ρ[id].blk ≠ some b) [ρ[id]] [(false, OB.at own id)] b → Zone N ρ (freezeAll own rest) b := fun b hb => by
    rcases hb with hb | ⟨i, loc, e1, e2, _⟩
    · exact hb.1
    · cases i with
      | zero => simp at e1; subst e1; exact halive b e2
      | succ i => simp at e1
  have hread0 : ∀ x u, Reads (Zone N ρ (freezeAll own rest)) w x u → Reads (Zone (fun b => Zone N ρ (freezeAll own rest) b ∧ ρ[id].blk ≠ some b) [ρ[id]] [(false, OB.at own id)]) w x u :=
    fun x u hx => hx.mono fun b _ hz => ⟨rfl, fun hz' => hz (hzone b hz')⟩
  have hob0 := s1.rel.ob id _ hloc
  rw [s2] at hob0
  have ho' : ORel (fun b => Zone N ρ (freezeAll own rest) b ∧ ρ[id].blk ≠ some b) [ρ[id]] [(false, OB.at own id)] w :=
    { len := rfl
      nlt := fun b hb => by
        rcases hb.1 with hb | ⟨i, loc, e1, e2, _⟩
        · exact ho.nlt b hb
        · exact ho.lt i loc b e1 e2
      lt := fun i loc b e1 e2 => by
        cases i with
        | zero => simp at e1; subst e1; exact ho.lt id _ b hloc e2
        | succ i => simp at e1
      inj := fun i j li lj b e1 e2 _ _ => by
        cases i with
        | zero => cases j with
          | zero => rfl
          | succ j => simp at e2
        | succ i => simp at e1
      nb := fun i loc b e1 e2 hb => by
        cases i with
        | zero => simp at e1; subst e1; exact hb.2 e2
        | succ i => simp at e1
      ob := fun i loc e1 => by
        cases i with
        | zero => simp at e1; subst e1; exact oreads_plain h2 hob0 (fun _ _ => rfl) hread0
        | succ i => simp at e1 }
  have harg0 : TReads (Zone (fun b => Zone N ρ (freezeAll own rest) b ∧ ρ[id].blk ≠ some b) [ρ[id]] [(false, OB.at own id)]) w [ρ[id]] [(false, OB.at own id)] (lend0 a0) (vals.getD 0 undef) := by
    cases a0 with
    | vec i =>
      obtain rfl : i = id := Option.some.inj hid
      obtain ⟨loc, e1, e2⟩ := hat0
      rw [hloc] at e1
      obtain rfl := Option.some.inj e1
      exact ⟨ρ[i], rfl, by rw [e2, s2]; rfl⟩
    | ptr i off =>
      obtain rfl : i = id := Option.some.inj hid
      obtain ⟨loc, b, e1, e2, e3, e4⟩ := hat0
      rw [hloc] at e1
      obtain rfl := Option.some.inj e1
      exact ⟨ρ[i], b, rfl, e2, e3, e4⟩
    | _ => cases hid
  have hargs : ∀ i, i < (lend0 a0 :: Ty.normR own ps rest).length → TReads (Zone (fun b => Zone N ρ (freezeAll own rest) b ∧ ρ[id].blk ≠ some b) [ρ[id]] [(false, OB.at own id)]) w [ρ[id]] [(false, OB.at own id)]
      ((lend0 a0 :: Ty.normR own ps rest).getD i .un) (vals.getD i undef) := fun i hi => by
    cases i with
    | zero => exact harg0
    | succ i =>
      simp only [List.length_cons, Nat.add_lt_add_iff_right] at hi
      obtain ⟨t, e⟩ := normR_get own ps rest hlen i (by omega)
      have hp := allB_get h4 .un i hi
      have hai := s1.treads (ha (i + 1) (by simp; omega))
      simp only [List.getD_cons_succ] at hai ⊢
      rw [e] at hp ⊢
      exact .of1 (plain_reads hp (norm_reads' s1.rel s2 t hp hai fun id hv => s4 i id (by omega) hv) hread0)
  have hbd := hbody _ _ _ _ h
  unfold awpLend at hbd
  refine (body_tm E hE hf hb hr (args := lend0 a0 :: Ty.normR own ps rest) (vals := vals)
    (K := fun tm own' => match frozenAt (freezeAll own' (resOf E.tb tm own' (rts.map .tmp))) 0, OB.plain (OB.at own' 0), TV.sameId (lget .un tm 0) (lend0 a0), resPlain ts (dataOf own' ts (one (resOf E.tb tm own' (rts.map .tmp)))) with
      | false, true, true, true => (match OB.alike (OB.at own id) (OB.at own' 0) with | true => K (dataOf own' ts (one (resOf E.tb tm own' (rts.map .tmp)))) (lset (freezeAll own rest) id (false, OB.at own' 0)) | false => False)
      | _, _, _, _ => False) hbd ho' (by simp at hl ⊢; omega) hargs).mono ?_
  rintro e w' ⟨tm, own', ρ', a, rfl, hk, hs, hfr, hsame⟩
  split at hk
  rotate_left
  · exact hk.elim
  rename_i g1 g2 g3 g4
  split at hk
  rotate_left
  · exact hk.elim
  rename_i g5
  have hv0 := hsame 0 (by simp) h0
  have ht0 := hs.trel.at_ 0
  rw [← lget_eq, sameId_eq g3, hv0] at ht0
  obtain ⟨q1, q2, q3, q4⟩ := freezeAll_spec (resOf E.tb tm own' (rts.map .tmp)) own' hs.orel
  have hob1 := hs.orel.ob 0
  -- where the lent block lies
  have key : ∃ loc' b, ρ'[0]? = some loc' ∧ ρ[id].a = some ⟨b, 0, none⟩ ∧ ρ[id].blk = some b ∧ loc'.blk = some b ∧ (OB.at own' 0).len = (OB.at own id).len ∧
      ∀ Z' ρ2 own2, (∀ x u, Reads (Zone (fun b => Zone N ρ (freezeAll own rest) b ∧ ρ[id].blk ≠ some b) ρ' own') w' x u → Reads Z' w' x u) → OReads Z' w' ρ2 own2 ρ[id] (OB.at own' 0) := by
    cases a0 with
    | vec i =>
      obtain rfl : i = id := Option.some.inj hid
      obtain ⟨l1, e1, e2⟩ := harg0
      obtain ⟨l2, e3, e4⟩ := ht0
      simp at e1
      subst e1
      rw [e2] at e4
      have e5 : (OB.at [(false, OB.at own i)] 0) = OB.at own i := rfl
      rw [e5] at e4
      injection e4 with e6 e7 e8
      have hp := hpos i rfl
      have hob1 := hob1 l2 e3
      cases hob : OB.at own i with
      | cells l => rw [hob] at h2'; cases h2'
      | gone => rw [hob] at h2'; cases h2'
      | ints k l =>
        rw [hob] at hob0 g5 hp e7
        cases hob' : OB.at own' 0 with
        | ints k' l' =>
          rw [hob'] at hob1 e7 g2
          obtain ⟨rfl, _⟩ | ⟨b0, _, _, c1, c2, _⟩ := hob0
          · cases hp
          obtain ⟨rfl, _⟩ | ⟨b1, vs, e, d1, d2, d3, d4, d5, d6⟩ := hob1
          · rw [e7] at hp; cases hp
          rw [← e6, c1] at d1
          obtain rfl : b0 = b1 := by injection d1 with d1; injection d1
          refine ⟨l2, b0, e3, c1, c2, d2, e7.symm, fun Z' ρ2 own2 _ => .inr ⟨b0, vs, e, c1, c2, d3, by rw [e8]; exact d4, by rw [e8]; exact d5, d6⟩⟩
        | _ => rw [hob'] at g5; cases g5
      | rows sz l =>
        rw [hob] at hob0 g5 hp e7
        cases hob' : OB.at own' 0 with
        | rows k' l' =>
          rw [hob'] at hob1 e7 g2
          obtain ⟨rfl, _⟩ | ⟨b0, _, _, c1, c2, _⟩ := hob0
          · cases hp
          obtain ⟨rfl, _⟩ | ⟨b1, vs, e, d1, d2, d3, d4, d5, d6, d7⟩ := hob1
          · rw [e7] at hp; cases hp
          rw [← e6, c1] at d1
          obtain rfl : b0 = b1 := by injection d1 with d1; injection d1
          refine ⟨l2, b0, e3, c1, c2, d2, e7.symm, fun Z' ρ2 own2 hr => .inr ⟨b0, vs, e, c1, c2, d3, by rw [e8]; exact d4, by rw [e8]; exact d5, d6, fun i j hi hj => ?_⟩⟩
          obtain ⟨v, k1, k2⟩ := d7 i j hi hj
          exact ⟨v, k1, hr _ _ k2⟩
        | _ => rw [hob'] at g5; cases g5
    | ptr i off =>
      obtain rfl : i = id := Option.some.inj hid
      obtain ⟨l1, b1, e1, c1, c2, c3⟩ := harg0
      obtain ⟨l2, b2, e3, d1, d2, d3⟩ := ht0
      simp at e1
      subst e1
      rw [c3] at d3
      obtain rfl : b1 = b2 := by injection d3 with d3; injection d3 with d3; injection d3
      have hob1 := hob1 l2 e3
      cases hob : OB.at own i with
      | cells l =>
        rw [hob] at g5
        cases hob' : OB.at own' 0 with
        | cells l' =>
          rw [hob'] at hob1 g2 g5
          have hll : l.length = l'.length := by have := Nat.eq_of_beq_eq_true g5; rwa [llen_eq, llen_eq] at this
          obtain ⟨b3, vs, e, f1, f2, f3, f4, f5⟩ := hob1
          rw [d1] at f1
          obtain rfl : b1 = b3 := by injection f1 with f1; injection f1
          refine ⟨l2, b1, e3, c1, c2, d2, hll.symm, fun Z' ρ2 own2 hr => ⟨b1, vs, e, c1, c2, f3, f4, fun k hk => ?_⟩⟩
          exact plain0_reads (allB_get g2 .un k hk) (f5 k hk) hr
        | _ => rw [hob'] at g5; cases g5
      | _ => rw [hob] at h2'; cases h2'
    | _ => cases hid
  obtain ⟨loc', b, e1, e2, e3, e4, e5, e6⟩ := key
  have hesz : (OB.at own' 0).esz = (OB.at own id).esz := by
    cases hob : OB.at own id <;> cases hob' : OB.at own' 0 <;> rw [hob, hob'] at g5 <;> first | rfl | cases g5 | exact (Nat.eq_of_beq_eq_true g5).symm
  have halive2 : ∀ x, Alive ρ ((freezeAll own rest).set id (false, OB.at own' 0)) x → Alive ρ (freezeAll own rest) x := fun x ⟨i, l, k1, k2, k3⟩ => by
    rw [fz_set] at k3
    by_cases e : id = i
    · subst e; exact ⟨id, l, k1, k2, h1⟩
    · rw [if_neg (by simp [e])] at k3; exact ⟨i, l, k1, k2, k3⟩
  have hkeep : ∀ x, x < w.heap.size → ρ[id].blk ≠ some x → w'.heap[x]? = w.heap[x]? := fun x hx hne => hfr.keep x hx fun ⟨i, l, k1, k2, _⟩ => by
    cases i with
    | zero => simp at k1; subst k1; exact hne k2
    | succ i => simp at k1
  have hfr2 : Fr ρ (freezeAll own rest) w ρ ((freezeAll own rest).set id (false, OB.at own' 0)) w' :=
    ⟨hfr.os, hfr.tape, hfr.output, hfr.size, fun x hx hna => hkeep x hx fun hb => hna ⟨id, _, hloc, hb, h1⟩, fun x hx => .inl (halive2 x hx)⟩
  have hsame2 : ∀ i, SameAt ρ (freezeAll own rest) ρ ((freezeAll own rest).set id (false, OB.at own' 0)) i := fun i l hl => by
    refine ⟨hl, ?_⟩
    rw [at_set]
    by_cases e : id = i
    · subst e; rw [if_pos ⟨rfl, hidlt⟩, s2]; exact ⟨e5, hesz⟩
    · rw [if_neg (by simp [e])]; exact ⟨rfl, rfl⟩
  have hzone2 : ∀ x, Zone N ρ ((freezeAll own rest).set id (false, OB.at own' 0)) x → Zone N ρ (freezeAll own rest) x := fun x hx => hx.imp (fun h => h) (halive2 x)
  have hzone3 : ∀ x, Zone N ρ ((freezeAll own rest).set id (false, OB.at own' 0)) x → Zone (fun b => Zone N ρ (freezeAll own rest) b ∧ ρ[id].blk ≠ some b) ρ' (freezeAll own' (resOf E.tb tm own' (rts.map .tmp))) x := fun x hx => by
    by_cases hb : ρ[id].blk = some x
    · rw [e3] at hb
      obtain rfl := Option.some.inj hb
      exact .inr ⟨0, loc', e1, e4, g1⟩
    · exact .inl ⟨hzone2 x hx, hb⟩
  have hzone4 : ∀ x, Zone N ρ ((freezeAll own rest).set id (false, OB.at own' 0)) x → Zone (fun b => Zone N ρ (freezeAll own rest) b ∧ ρ[id].blk ≠ some b) ρ' own' x := fun x hx => by
    rcases hzone3 x hx with hx | ⟨i, l, k1, k2, k3⟩
    · exact .inl hx
    · refine .inr ⟨i, l, k1, k2, ?_⟩
      cases hf : frozenAt own' i with
      | false => rfl
      | true => rw [q3 i hf] at k3; cases k3
  have hrel2 : ORel N ρ ((freezeAll own rest).set id (false, OB.at own' 0)) w' := by
    refine s1.rel.upd hfr2 (by simp [s1.rel.len]) (fun _ _ _ _ i _ _ => hsame2 i) (fun i l hl => ?_)
    by_cases e : id = i
    · subst e
      rw [hloc] at hl
      obtain rfl := Option.some.inj hl
      refine .inr ⟨fun x hx => ⟨Nat.lt_of_lt_of_le (ho.lt id _ x hloc hx) hfr.size, ho.nb id _ x hloc hx, fun j lj hj hjb => ho.inj j id lj _ x hj hloc hjb hx⟩, ?_⟩
      rw [at_set, if_pos ⟨rfl, hidlt⟩]
      exact e6 _ _ _ fun x u hx => hx.mono fun y _ hz => ⟨rfl, fun hz' => hz (hzone4 y hz')⟩
    · refine .inl ⟨hl, by rw [at_set, if_neg (by simp [e])], fun hx => by rwa [fz_set, if_neg (by simp [e])] at hx, fun x hx => hkeep x (ho.lt i l x hl hx) fun hb => e (ho.inj id i _ l x hloc hl hb hx)⟩
  refine ⟨_, _, ρ, _, rfl, hk, s1.trans ?_, ?_⟩
  · rw [lset_eq]
    exact { hfr2 with rel := hrel2, same := hsame2 }
  · rw [lset_eq]
    exact res_reads hs hts g4 hzone3
end
end Go.Vc
end

section
/- VcZa: an environment out of its lists. -/
namespace Go.Vc

theorem lassoc_mem {α : Type} : ∀ (l : List (Nat × α)) (j : Nat) (x : α), lassoc j l = some x → (j, x) ∈ l
  | [], j, x, h => by cases h
  | (i, y) :: r, j, x, h => by
    unfold lassoc at h
    split at h
    · rename_i hb
      obtain rfl := Nat.eq_of_beq_eq_true hb
      obtain rfl := Option.some.inj h
      simp
    · exact List.mem_cons_of_mem _ (lassoc_mem r j x h)

theorem tyChk_no (P : Program) (t : TypeId) : tyChk P t { ty := .no } = true := rfl

theorem EnvOk.of {P : Program} {E : Env} (h1 : allB (fun p => tyChk P p.1 p.2) E.tys = true) (h2 : ∀ p ∈ E.cons, SoundCon P p.1 p.2 ∧ ConOk p.2) (h3 : P.follows .mixedOrders = true) : EnvOk P E := by
  have key : ∀ f args own K, E.Γ f args own K → (f, E.Γ f) ∈ E.cons := fun f args own K h => by
    unfold Env.Γ at h ⊢
    split
    · rename_i c hc; exact lassoc_mem _ _ _ hc
    · rename_i hc; rw [hc] at h; exact h.elim
  refine ⟨fun t => ?_, fun f args own K h => (h2 _ (key f args own K h)).1, fun f args own K h => (h2 _ (key f args own K h)).2, h3⟩
  unfold Env.tb
  split
  · rename_i i hi
    rw [allB_eq, List.all_eq_true] at h1
    exact h1 _ (lassoc_mem _ _ _ hi)
  · exact tyChk_no P t

/-- The contracts of an environment, one by one. -/
theorem cons_nil {P : Program} : ∀ p ∈ ([] : List (Nat × Con)), SoundCon P p.1 p.2 ∧ ConOk p.2 := fun p h => by cases h
theorem cons_cons {P : Program} {f : Nat} {c : Con} {r : List (Nat × Con)} (h1 : SoundCon P f c) (h2 : ConOk c) (h : ∀ p ∈ r, SoundCon P p.1 p.2 ∧ ConOk p.2) : ∀ p ∈ (f, c) :: r, SoundCon P p.1 p.2 ∧ ConOk p.2 :=
  fun p hp => by
    rcases List.mem_cons.1 hp with rfl | hp
    · exact ⟨h1, h2⟩
    · exact h p hp

/-! ### results under a name -/
def nameL (K : List TV → Prop) : List TV → Prop
  | [] => K []
  | .d (.ints k l) :: r => ∀ x : List Int, x = l → nameL (fun t => K (.d (.ints k x) :: t)) r
  | .d (.rows k l) :: r => ∀ x : List (List AV), x = l → nameL (fun t => K (.d (.rows k x) :: t)) r
  | .d (.int k n) :: r => ∀ x : Int, x = n → nameL (fun t => K (.d (.int k x) :: t)) r
  | .d (.bool b) :: r => ∀ x : Bool, x = b → nameL (fun t => K (.d (.bool x) :: t)) r
  | .d (.str l) :: r => ∀ x : List Int, x = l → nameL (fun t => K (.d (.str x) :: t)) r
  | v :: r => nameL (fun t => K (v :: t)) r
def headTV : List TV → TV
  | v :: _ => v
  | [] => .un
def nameTV (K : TV → Prop) : TV → Prop
  | .tup l => nameL (fun t => K (.tup t)) l
  | .agg l => nameL (fun t => K (.agg t)) l
  | v => nameL (fun t => K (headTV t)) [v]
/-- The same contract, its results under names of their own. -/
def named (T : List TV → (TV → Prop) → Prop) : List TV → (TV → Prop) → Prop := fun args K => T args fun r => nameTV K r

theorem nameL_iff : ∀ (l : List TV) (K : List TV → Prop), nameL K l ↔ K l
  | [], _ => Iff.rfl
  | v :: r, K => by
    cases v with
    | d a => cases a <;> simp [nameL, nameL_iff r]
    | _ => simp [nameL, nameL_iff r]
theorem nameTV_iff (K : TV → Prop) (v : TV) : nameTV K v ↔ K v := by
  cases v <;> simp [nameTV, nameL_iff, headTV]
theorem named_eq (T : List TV → (TV → Prop) → Prop) : named T = T := by
  funext args K
  unfold named
  congr 1
  funext r
  exact propext (nameTV_iff K r)
theorem named_con {P : Program} {f : Nat} {ps : List Ty} {T : List TV → (TV → Prop) → Prop} (h : SoundCon P f (dataCon ps T)) : SoundCon P f (dataCon ps (named T)) := by
  rw [named_eq]; exact h
theorem named_ok {T : List TV → (TV → Prop) → Prop} (h : TOk T) : TOk (named T) := by rw [named_eq]; exact h
end Go.Vc
end
