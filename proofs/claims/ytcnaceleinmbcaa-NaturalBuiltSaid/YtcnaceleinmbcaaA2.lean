/- Helpers for the statements: conditions under which code does what is wanted, and proofs that they suffice. Condition: none. -/
import Derived.Test.YtcnaceleinmbcaaA1
import Derived.Below
import Derived.ChangeSlices
section
/- VcZb: functions whose one result is a new slice that the caller may write. -/
namespace Go.Vc

/-- Old blocks as they were, others more, and one of these is the caller's own. -/
theorem Step.fresh {N : Nat → Prop} {ρ : List Loc} {own : Own} {w w' : World} (h : ORel N ρ own w) (h1 : w'.os = w.os) (h2 : w'.tape = w.tape) (h3 : w'.output = w.output) (hs : w.heap.size ≤ w'.heap.size)
    (hk : ∀ b, b < w.heap.size → w'.heap[b]? = w.heap[b]?) (f : Bool) (ob : OB) (loc : Loc) (hb : ∀ b, loc.blk = some b → w.heap.size ≤ b ∧ b < w'.heap.size)
    (ho : OReads (Zone N (ρ ++ [loc]) (own ++ [(f, ob)])) w' (ρ ++ [loc]) (own ++ [(f, ob)]) loc ob) : Step N ρ own w (ρ ++ [loc]) (own ++ [(f, ob)]) w' := by
  have hfr : Fr ρ own w (ρ ++ [loc]) (own ++ [(f, ob)]) w' := by
    refine ⟨h1, h2, h3, hs, fun b hb _ => hk b hb, fun b ⟨i, l, e1, e2, e3⟩ => ?_⟩
    rw [List.getElem?_append] at e1
    by_cases hi : i < ρ.length
    · rw [if_pos hi] at e1
      rw [fz_app, if_neg (by rw [← h.len]; omega)] at e3
      exact .inl ⟨i, l, e1, e2, e3⟩
    · rw [if_neg hi] at e1
      cases hd : i - ρ.length with
      | zero => simp [hd] at e1; subst e1; exact .inr (hb b e2).1
      | succ n => simp [hd] at e1
  have hsame : ∀ id, SameAt ρ own (ρ ++ [loc]) (own ++ [(f, ob)]) id := fun id l hl => by
    have := h.idlt hl
    refine ⟨by rw [List.getElem?_append_left (by rw [h.len]; exact this)]; exact hl, ?_⟩
    rw [at_app, if_neg (by omega)]; exact ⟨rfl, rfl⟩
  refine { hfr with rel := h.upd hfr (by simp [h.len]) (fun _ _ _ _ id _ _ => hsame id) (fun i l hl => ?_), same := hsame }
  rw [List.getElem?_append] at hl
  by_cases hi : i < ρ.length
  · rw [if_pos hi] at hl
    refine .inl ⟨hl, by rw [at_app, if_neg (by rw [← h.len]; omega)], fun hx => by rwa [fz_app, if_neg (by rw [← h.len]; omega)] at hx, fun b hb => ?_⟩
    exact hk b (h.lt i l b hl hb)
  · rw [if_neg hi] at hl
    cases hd : i - ρ.length with
    | succ n => simp [hd] at hl
    | zero =>
      simp [hd] at hl
      subst hl
      have hi' : i = own.length := by rw [← h.len]; omega
      refine .inr ⟨fun b hbb => ?_, by rw [hi', at_app, if_pos rfl]; exact ho⟩
      obtain ⟨b1, b2⟩ := hb b hbb
      refine ⟨b2, fun hn => absurd (h.nlt _ hn) (by omega), fun j lj hj hb => ?_⟩
      rw [List.getElem?_append] at hj
      by_cases hjl : j < ρ.length
      · rw [if_pos hjl] at hj
        have := h.lt j lj _ hj hb
        omega
      · rw [if_neg hjl] at hj
        cases hd' : j - ρ.length with
        | zero => omega
        | succ n => simp [hd'] at hj

/-- A contract of a function whose result is a new slice. -/
def freshCon (ps : List Ty) (T : List TV → (OB → Prop) → Prop) : Con := fun args own K =>
  match Nat.beq (llen ps) (llen args), allB TV.plain (Ty.normR own ps args) with
  | true, true => T (Ty.normR own ps args) fun ob => K (.vec (llen (freezeAll own args))) (lapp (freezeAll own args) [(false, ob)])
  | _, _ => False
def FOk (T : List TV → (OB → Prop) → Prop) : Prop :=
  (∀ args (K K' : OB → Prop), (∀ r, K r → K' r) → T args K → T args K') ∧ ∀ args K, T args K → ∃ r, K r
theorem freshCon_ok {ps : List Ty} {T : List TV → (OB → Prop) → Prop} (h : FOk T) : ConOk (freshCon ps T) := by
  refine ⟨fun args own K K' hk hT => ?_, fun args own K hT => ?_⟩
  · unfold freshCon at hT ⊢
    split
    · rename_i h1 h2
      rw [h1, h2] at hT
      exact h.1 _ _ _ (fun r hr => hk _ _ hr) hT
    · rename_i hx
      split at hT
      · rename_i h1 h2; exact (hx h1 h2).elim
      · exact hT
  · unfold freshCon at hT
    split at hT
    · obtain ⟨r, hr⟩ := h.2 _ _ hT
      exact ⟨_, _, hr⟩
    · exact hT.elim

def isSlice : OB → Bool
  | .ints .. => true
  | .rows .. => true
  | _ => false
/-- What is to be shown at the end of the body. -/
def freshK (t : Ty) (K : OB → Prop) (v : TV) (own : Own) : Prop :=
  match v with
  | .vec id => (match frozenAt own id, isSlice (OB.at own id) with | false, true => K (OB.at own id) | _, _ => False)
  | .emp => (match t with | .sc (.sints k) => K (.ints k []) | .sc (.srows sz) => K (.rows sz []) | _ => False)
  | _ => False

section
variable {P : Program}
theorem fresh_sound (E : Env) (hE : EnvOk P E)
    {f : FuncId} {fn : Func} {c : Code} (hf : P.funcs[f]? = some fn) (hb : fn.body = some c) (hn : (fn.name == "runtime.NumGoroutine") = false) {r : Tmp} (hr : fn.results = ([r].map ResultVar.tmp).toArray)
    {ps : List Ty} {t : Ty} {T : List TV → (OB → Prop) → Prop} (hbody : ∀ args K, T args K → awpBody E fn.ntmps ([r].map .tmp) c args [] (freshK t K)) : SoundCon P f (freshCon ps T) := by
  refine ⟨⟨fn, hf, by rw [hb]; rfl, hn⟩, ?_⟩
  intro N ρ own w args vals K h ho hl ha
  unfold freshCon at h
  split at h
  rotate_left
  · exact h.elim
  rename_i h1 h2
  have hlen : ps.length = args.length := by have := Nat.eq_of_beq_eq_true h1; rwa [llen_eq, llen_eq] at this
  obtain ⟨s1, s2, s3, s4⟩ := freezeAll_spec args own ho
  have hlen' := normR_len own ps args hlen
  have ho' : ORel (Zone N ρ (freezeAll own args)) [] [] w :=
    { len := rfl
      nlt := fun b hb => by
        rcases hb with hb | ⟨i, loc, e1, e2, _⟩
        · exact ho.nlt b hb
        · exact ho.lt i loc b e1 e2
      lt := fun i loc b e => by simp at e
      inj := fun i j li lj b e => by simp at e
      nb := fun i loc b e => by simp at e
      ob := fun i loc e => by simp at e }
  have hargs : ∀ i, i < (Ty.normR own ps args).length → TReads (Zone (Zone N ρ (freezeAll own args)) [] []) w [] [] ((Ty.normR own ps args).getD i .un) (vals.getD i undef) := fun i hi => by
    obtain ⟨t, e⟩ := normR_get own ps args hlen i (by omega)
    have hp := allB_get h2 .un i hi
    rw [e] at hp ⊢
    have h5 := norm_reads' s1.rel s2 t hp (s1.treads (ha i (by omega))) fun id hv => s4 i id (by omega) hv
    refine .of1 (plain_reads hp h5 fun x u hx => hx.mono fun b _ hz => ⟨rfl, fun hz' => ?_⟩)
    rcases hz' with hz' | ⟨j, loc, e1, _⟩
    · exact hz hz'
    · simp at e1
  refine (body_sound E hE hf hb hr (hbody _ _ h) ho' (by omega) hargs).mono ?_
  rintro e w' ⟨rs, own', ρ', vs, rfl, l1, l2, hk, hrel, hfr, hrd⟩
  have keep : ∀ b, b < w.heap.size → w'.heap[b]? = w.heap[b]? := fun b hb => hfr.keep b hb fun ⟨i, loc, e1, _⟩ => by simp at e1
  simp only [List.length_singleton, if_true] at l1 l2 ⊢
  match rs, vs, l1, l2 with
  | [x], [u], _, _ =>
  have hx : TReads (Zone (Zone N ρ (freezeAll own args)) ρ' own') w' ρ' own' x u := hrd 0
  have fin : ∀ (loc : Loc) (ob : OB), ob.plain = true → (∀ b, loc.blk = some b → w.heap.size ≤ b ∧ b < w'.heap.size ∧ Zone (Zone N ρ (freezeAll own args)) ρ' own' b) → OReads (Zone (Zone N ρ (freezeAll own args)) ρ' own') w' ρ' own' loc ob →
      K (.vec (llen (freezeAll own args))) (lapp (freezeAll own args) [(false, ob)]) → u = .slice loc.a ob.len loc.cap →
      ∃ r own'' ρ'' v, Ending.returned (List.getD [u] 0 undef) = .returned v ∧ K r own'' ∧ Step N ρ own w ρ'' own'' w' ∧ TReads (Zone N ρ'' own'') w' ρ'' own'' r v := by
    intro loc ob hp hblk hob hK hu
    have hz : ∀ b, Zone N (ρ ++ [loc]) (freezeAll own args ++ [(false, ob)]) b → Zone (Zone N ρ (freezeAll own args)) ρ' own' b := fun b hb => by
      rcases hb with hb | ⟨i, l, e1, e2, e3⟩
      · exact .inl (.inl hb)
      · rw [List.getElem?_append] at e1
        by_cases hi : i < ρ.length
        · rw [if_pos hi] at e1
          rw [fz_app, if_neg (by rw [← s1.rel.len]; omega)] at e3
          exact .inl (.inr ⟨i, l, e1, e2, e3⟩)
        · rw [if_neg hi] at e1
          cases hd : i - ρ.length with
          | zero => simp [hd] at e1; subst e1; exact (hblk b e2).2.2
          | succ n => simp [hd] at e1
    have hst := Step.fresh s1.rel hfr.os hfr.tape hfr.output hfr.size keep false ob loc (fun b hb => ⟨(hblk b hb).1, (hblk b hb).2.1⟩)
      (oreads_plain hp hob (fun b _ => rfl) fun x u hx => hx.mono fun b _ hn => ⟨rfl, fun hb => hn (hz b hb)⟩)
    refine ⟨_, _, ρ ++ [loc], u, rfl, hK, by rw [lapp_eq]; exact s1.trans hst, ?_⟩
    rw [lapp_eq, llen_eq]
    refine .of0 ⟨loc, ?_, ?_⟩
    · rw [List.getElem?_append_right (by rw [s1.rel.len]; omega), s1.rel.len]; simp
    · rw [at_app, if_pos rfl]; exact hu
  replace hk : freshK t (fun ob => K (.vec (llen (freezeAll own args))) (lapp (freezeAll own args) [(false, ob)])) x own' := hk
  unfold freshK at hk
  cases x with
  | vec id =>
    simp only at hk
    split at hk
    · rename_i g1 g2
      obtain ⟨loc, hloc, hu⟩ := hx
      refine fin loc (OB.at own' id) ?_ (fun b hb => ?_) (hrel.ob id loc hloc) hk hu
      · cases ho : OB.at own' id <;> rw [ho] at g2 <;> first | rfl | cases g2
      · have hal : Alive ρ' own' b := ⟨id, loc, hloc, hb, g1⟩
        refine ⟨?_, hrel.lt id loc b hloc hb, .inr hal⟩
        rcases hfr.alive b hal with ⟨i, l, e1, _⟩ | h
        · simp at e1
        · exact h
    · exact hk.elim
  | emp =>
    obtain ⟨a, hu⟩ := hx
    simp only at hk
    split at hk
    · rename_i k
      exact fin ⟨a, 0, none⟩ (.ints k []) rfl (fun b hb => by cases hb) (Or.inl ⟨rfl, rfl⟩) hk hu
    · rename_i sz
      exact fin ⟨a, 0, none⟩ (.rows sz []) rfl (fun b hb => by cases hb) (Or.inl ⟨rfl, rfl⟩) hk hu
    · exact hk.elim
  | _ => exact hk.elim
end

/-- A contract told by what is asked and what is given. -/
def fspec (S : List TV → Option (Prop × OB)) : List TV → (OB → Prop) → Prop := fun args K => match S args with | some (p, r) => p ∧ K r | none => False
theorem fspec_ok (S : List TV → Option (Prop × OB)) : FOk (fspec S) := by
  refine ⟨fun args K K' hk h => ?_, fun args K h => ?_⟩
  · unfold fspec at h ⊢
    split
    · rename_i he; rw [he] at h; exact ⟨h.1, hk _ h.2⟩
    · rename_i he; rw [he] at h; exact h
  · unfold fspec at h
    split at h
    · exact ⟨_, h.2⟩
    · exact h.elim
def nameOB (K : OB → Prop) : OB → Prop
  | .ints k l => ∀ x : List Int, x = l → K (.ints k x)
  | .rows k l => ∀ x : List (List AV), x = l → K (.rows k x)
  | o => K o
def fnamed (T : List TV → (OB → Prop) → Prop) : List TV → (OB → Prop) → Prop := fun args K => T args fun r => nameOB K r
theorem fnamed_eq (T : List TV → (OB → Prop) → Prop) : fnamed T = T := by
  funext args K
  unfold fnamed
  congr 1
  funext r
  exact propext (by cases r <;> simp [nameOB])
theorem fnamed_con {P : Program} {f : Nat} {ps : List Ty} {T : List TV → (OB → Prop) → Prop} (h : SoundCon P f (freshCon ps T)) : SoundCon P f (freshCon ps (fnamed T)) := by
  rw [fnamed_eq]; exact h
theorem fnamed_ok {T : List TV → (OB → Prop) → Prop} (h : FOk T) : FOk (fnamed T) := by rw [fnamed_eq]; exact h
end Go.Vc
end

section
/- VcZc: functions whose one result is a pointer to a new variable that the caller may write. -/
namespace Go.Vc

/-- A contract of a function whose result points to a new variable. -/
def ptrCon (ps : List Ty) (T : List TV → (OB → Prop) → Prop) : Con := fun args own K =>
  match Nat.beq (llen ps) (llen args), allB TV.plain (Ty.normR own ps args) with
  | true, true => T (Ty.normR own ps args) fun ob => K (.ptr (llen (freezeAll own args)) 0) (lapp (freezeAll own args) [(false, ob)])
  | _, _ => False
theorem ptrCon_ok {ps : List Ty} {T : List TV → (OB → Prop) → Prop} (h : FOk T) : ConOk (ptrCon ps T) := by
  refine ⟨fun args own K K' hk hT => ?_, fun args own K hT => ?_⟩
  · unfold ptrCon at hT ⊢
    split
    · rename_i h1 h2
      rw [h1, h2] at hT
      exact h.1 _ _ _ (fun r hr => hk _ _ hr) hT
    · rename_i hx
      split at hT
      · rename_i h1 h2; exact (hx h1 h2).elim
      · exact hT
  · unfold ptrCon at hT
    split at hT
    · obtain ⟨r, hr⟩ := h.2 _ _ hT
      exact ⟨_, _, hr⟩
    · exact hT.elim

/-- What is to be shown at the end of the body. -/
def ptrK (K : OB → Prop) (v : TV) (own : Own) : Prop :=
  match v with
  | .ptr id off => (match Nat.beq off 0, frozenAt own id, (OB.at own id).plain with | true, false, true => K (OB.at own id) | _, _, _ => False)
  | _ => False

section
variable {P : Program}
theorem ptr_sound (E : Env) (hE : EnvOk P E)
    {f : FuncId} {fn : Func} {c : Code} (hf : P.funcs[f]? = some fn) (hb : fn.body = some c) (hn : (fn.name == "runtime.NumGoroutine") = false) {r : Tmp} (hr : fn.results = ([r].map ResultVar.tmp).toArray)
    {ps : List Ty} {T : List TV → (OB → Prop) → Prop} (hbody : ∀ args K, T args K → awpBody E fn.ntmps ([r].map .tmp) c args [] (ptrK K)) : SoundCon P f (ptrCon ps T) := by
  refine ⟨⟨fn, hf, by rw [hb]; rfl, hn⟩, ?_⟩
  intro N ρ own w args vals K h ho hl ha
  unfold ptrCon at h
  split at h
  rotate_left
  · exact h.elim
  rename_i h1 h2
  have hlen : ps.length = args.length := by have := Nat.eq_of_beq_eq_true h1; rwa [llen_eq, llen_eq] at this
  obtain ⟨s1, s2, s3, s4⟩ := freezeAll_spec args own ho
  have hlen' := normR_len own ps args hlen
  have ho' : ORel (Zone N ρ (freezeAll own args)) [] [] w :=
    { len := rfl
      nlt := fun b hb => by
        rcases hb with hb | ⟨i, loc, e1, e2, _⟩
        · exact ho.nlt b hb
        · exact ho.lt i loc b e1 e2
      lt := fun i loc b e => by simp at e
      inj := fun i j li lj b e => by simp at e
      nb := fun i loc b e => by simp at e
      ob := fun i loc e => by simp at e }
  have hargs : ∀ i, i < (Ty.normR own ps args).length → TReads (Zone (Zone N ρ (freezeAll own args)) [] []) w [] [] ((Ty.normR own ps args).getD i .un) (vals.getD i undef) := fun i hi => by
    obtain ⟨t, e⟩ := normR_get own ps args hlen i (by omega)
    have hp := allB_get h2 .un i hi
    rw [e] at hp ⊢
    have h5 := norm_reads' s1.rel s2 t hp (s1.treads (ha i (by omega))) fun id hv => s4 i id (by omega) hv
    refine .of1 (plain_reads hp h5 fun x u hx => hx.mono fun b _ hz => ⟨rfl, fun hz' => ?_⟩)
    rcases hz' with hz' | ⟨j, loc, e1, _⟩
    · exact hz hz'
    · simp at e1
  refine (body_sound E hE hf hb hr (hbody _ _ h) ho' (by omega) hargs).mono ?_
  rintro e w' ⟨rs, own', ρ', vs, rfl, l1, l2, hk, hrel, hfr, hrd⟩
  have keep : ∀ b, b < w.heap.size → w'.heap[b]? = w.heap[b]? := fun b hb => hfr.keep b hb fun ⟨i, loc, e1, _⟩ => by simp at e1
  simp only [List.length_singleton, if_true] at l1 l2 ⊢
  match rs, vs, l1, l2 with
  | [x], [u], _, _ =>
  have hx : TReads (Zone (Zone N ρ (freezeAll own args)) ρ' own') w' ρ' own' x u := hrd 0
  have fin : ∀ (loc : Loc) (ob : OB), ob.plain = true → (∀ b, loc.blk = some b → w.heap.size ≤ b ∧ b < w'.heap.size ∧ Zone (Zone N ρ (freezeAll own args)) ρ' own' b) → OReads (Zone (Zone N ρ (freezeAll own args)) ρ' own') w' ρ' own' loc ob →
      K (.ptr (llen (freezeAll own args)) 0) (lapp (freezeAll own args) [(false, ob)]) → (∃ b, loc.a = some ⟨b, 0, none⟩ ∧ loc.blk = some b ∧ u = .pointer (some ⟨b, 0, none⟩)) →
      ∃ r own'' ρ'' v, Ending.returned (List.getD [u] 0 undef) = .returned v ∧ K r own'' ∧ Step N ρ own w ρ'' own'' w' ∧ TReads (Zone N ρ'' own'') w' ρ'' own'' r v := by
    intro loc ob hp hblk hob hK hu
    have hz : ∀ b, Zone N (ρ ++ [loc]) (freezeAll own args ++ [(false, ob)]) b → Zone (Zone N ρ (freezeAll own args)) ρ' own' b := fun b hb => by
      rcases hb with hb | ⟨i, l, e1, e2, e3⟩
      · exact .inl (.inl hb)
      · rw [List.getElem?_append] at e1
        by_cases hi : i < ρ.length
        · rw [if_pos hi] at e1
          rw [fz_app, if_neg (by rw [← s1.rel.len]; omega)] at e3
          exact .inl (.inr ⟨i, l, e1, e2, e3⟩)
        · rw [if_neg hi] at e1
          cases hd : i - ρ.length with
          | zero => simp [hd] at e1; subst e1; exact (hblk b e2).2.2
          | succ n => simp [hd] at e1
    have hst := Step.fresh s1.rel hfr.os hfr.tape hfr.output hfr.size keep false ob loc (fun b hb => ⟨(hblk b hb).1, (hblk b hb).2.1⟩)
      (oreads_plain hp hob (fun b _ => rfl) fun x u hx => hx.mono fun b _ hn => ⟨rfl, fun hb => hn (hz b hb)⟩)
    refine ⟨_, _, ρ ++ [loc], u, rfl, hK, by rw [lapp_eq]; exact s1.trans hst, ?_⟩
    rw [lapp_eq, llen_eq]
    obtain ⟨b, u1, u2, u3⟩ := hu
    refine .of0 ⟨loc, b, ?_, u1, u2, u3⟩
    rw [List.getElem?_append_right (by rw [s1.rel.len]; omega), s1.rel.len]; simp
  replace hk : ptrK (fun ob => K (.ptr (llen (freezeAll own args)) 0) (lapp (freezeAll own args) [(false, ob)])) x own' := hk
  unfold ptrK at hk
  cases x with
  | ptr id off =>
    simp only at hk
    split at hk
    · rename_i g1 g2 g3
      obtain rfl := Nat.eq_of_beq_eq_true g1
      obtain ⟨loc, b0, hloc, ha, hbk, hu⟩ := hx
      refine fin loc (OB.at own' id) ?_ (fun b hb => ?_) (hrel.ob id loc hloc) hk ⟨b0, ha, hbk, hu⟩
      · exact g3
      · have hal : Alive ρ' own' b := ⟨id, loc, hloc, hb, g2⟩
        refine ⟨?_, hrel.lt id loc b hloc hb, .inr hal⟩
        rcases hfr.alive b hal with ⟨i, l, e1, _⟩ | h
        · simp at e1
        · exact h
    · exact hk.elim
  | _ => exact hk.elim
end

/-! ### results of lent blocks and new variables under names -/
def nameOBc (K : OB → Prop) : OB → Prop
  | .cells l => nameL (fun t => K (.cells t)) l
  | .ints k l => ∀ x : List Int, x = l → K (.ints k x)
  | .rows k l => ∀ x : List (List AV), x = l → K (.rows k x)
  | .gone => K .gone
theorem nameOBc_iff (K : OB → Prop) (o : OB) : nameOBc K o ↔ K o := by
  cases o <;> simp [nameOBc, nameL_iff]
def pnamed (T : List TV → (OB → Prop) → Prop) : List TV → (OB → Prop) → Prop := fun args K => T args fun r => nameOBc K r
theorem pnamed_eq (T : List TV → (OB → Prop) → Prop) : pnamed T = T := by
  funext args K
  unfold pnamed
  congr 1
  funext r
  exact propext (nameOBc_iff K r)
theorem pnamed_con {P : Program} {f : Nat} {ps : List Ty} {T : List TV → (OB → Prop) → Prop} (h : SoundCon P f (ptrCon ps T)) : SoundCon P f (ptrCon ps (pnamed T)) := by
  rw [pnamed_eq]; exact h
theorem pnamed_ok {T : List TV → (OB → Prop) → Prop} (h : FOk T) : FOk (pnamed T) := by rw [pnamed_eq]; exact h
def lnamed (T : TV → OB → List TV → (OB → TV → Prop) → Prop) : TV → OB → List TV → (OB → TV → Prop) → Prop := fun a o args K => T a o args fun o' r => nameOBc (fun o'' => nameTV (fun r' => K o'' r') r) o'
theorem lnamed_eq (T : TV → OB → List TV → (OB → TV → Prop) → Prop) : lnamed T = T := by
  funext a o args K
  unfold lnamed
  congr 1
  funext o' r
  exact propext ((nameOBc_iff _ o').trans (nameTV_iff _ r))
theorem lnamed_con {P : Program} {f : Nat} {ps : List Ty} {T : TV → OB → List TV → (OB → TV → Prop) → Prop} (h : SoundCon P f (lendCon ps T)) : SoundCon P f (lendCon ps (lnamed T)) := by
  rw [lnamed_eq]; exact h
theorem lnamed_ok {T : TV → OB → List TV → (OB → TV → Prop) → Prop} (h : LOk T) : LOk (lnamed T) := by rw [lnamed_eq]; exact h
end Go.Vc
end

section
/- VcRow: from a contract to the call of a law: what the arguments of a row read as, and what the call leaves. -/
namespace Go.Vc
open Go.RowKit

/-- The cells behind a slice of whole numbers. -/
def IsRow (k : IntKind) (w : World) (a : Option Addr) (len cap : Nat) (zs : List Int) : Prop :=
  (a = none ∧ len = 0 ∧ cap = 0 ∧ zs = []) ∨
  ∃ x, a = some x ∧ len ≤ cap ∧ cap ≤ maxLen ∧ zs.length = cap ∧ (∀ i, i < zs.length → w.cell? (x.add i) = some (.int k (zs.getD i 0))) ∧ ∀ n ∈ zs, (Lit.int k n).wf = true

/-- Nobody writes anywhere. -/
def No0 (_ : Nat) : Prop := False

theorem spot_none {w : World} {a : Addr} {v : Value} (h : w.cell? a = some v) : a.spot = none := by
  unfold World.cell? at h
  split at h
  · split at h
    · cases h
    · rename_i hs
      cases ha : a.spot with
      | none => rfl
      | some x => rw [ha] at hs; simp at hs
  · cases h

theorem row_reads {k : IntKind} {w : World} {a : Option Addr} {len cap : Nat} {zs : List Int} (h : IsRow k w a len cap zs) : Reads No0 w (.ints k (zs.take len)) (.slice a len cap) := by
  rcases h with ⟨rfl, rfl, rfl, rfl⟩ | ⟨x, rfl, hl, hm, hz, hc, hw⟩
  · exact .ints0 _ _ _
  · by_cases h0 : len = 0
    · subst h0
      rw [List.take_zero]
      exact .ints0 _ _ _
    · have hs : x.spot = none := by
        have := hc 0 (by omega)
        exact spot_none this
      obtain ⟨b, off, sp⟩ := x
      simp only at hs
      subst hs
      refine .ints k _ len b off cap (by rw [List.length_take]; omega) (fun h => h) hl fun i hi => ?_
      have hci := hc i (by omega)
      have e1 : Addr.add ⟨b, off, none⟩ i = ⟨b, off + i, none⟩ := by
        unfold Addr.add
        split
        · rename_i e; subst e; rfl
        · rfl
      rw [e1] at hci
      rw [hci]
      congr 2
      simp only [List.getD_eq_getElem?_getD, List.getElem?_take]
      rw [if_pos hi]
theorem row_wf {k : IntKind} {w : World} {a : Option Addr} {len cap : Nat} {zs : List Int} (h : IsRow k w a len cap zs) : ∀ n ∈ zs.take len, k.min ≤ n ∧ n ≤ k.max := fun n hn => by
  rcases h with ⟨rfl, rfl, rfl, rfl⟩ | ⟨x, rfl, hl, hm, hz, hc, hw⟩
  · cases hn
  · have := hw n (List.mem_of_mem_take hn)
    simpa [Lit.wf] using this
theorem row_len {k : IntKind} {w : World} {a : Option Addr} {len cap : Nat} {zs : List Int} (h : IsRow k w a len cap zs) : (zs.take len).length = len := by
  rcases h with ⟨rfl, rfl, rfl, rfl⟩ | ⟨x, rfl, hl, hm, hz, hc, hw⟩
  · rfl
  · rw [List.length_take]; omega
theorem int_wf {k : IntKind} {n : Int} (h : (Lit.int k n).wf = true) : k.min ≤ n ∧ n ≤ k.max := by simpa [Lit.wf] using h
theorem str_reads {w : World} (s : ByteArray) : Reads No0 w (.str (s.data.toList.map fun b => (b.toNat : Int))) (.string s) := .str _ _ rfl

/-- A law whose contract says 'true' returns true, and leaves all memory as it was. -/
theorem law_calls {P : Program} {f : FuncId} {ps : List Ty} {T : List TV → (TV → Prop) → Prop} (h : SoundCon P f (dataCon ps T)) {xs : List AV} {vals : Array Value} {w : World}
    (hT : dataCon ps T (lmap .d xs) [] fun r _ => r = .d (.bool true)) (hl : xs.length = vals.size) (ha : ∀ i, i < xs.length → Reads No0 w (xs.getD i .undef) (vals.getD i undef)) :
    Calls P f vals w fun e w' => e = .returned (.bool true) ∧ Below w.heap.size w w' := by
  have hz : ∀ b, ¬ Zone No0 [] [] b := fun b hb => by
    rcases hb with hb | ⟨i, loc, e1, _⟩
    · exact hb
    · simp at e1
  have hrel : ORel No0 [] [] w :=
    { len := rfl
      nlt := fun b hb => hb.elim
      lt := fun i loc b e => by simp at e
      inj := fun i j li lj b e => by simp at e
      nb := fun i loc b e => by simp at e
      ob := fun i loc e => by simp at e }
  have hlm : (lmap TV.d xs).length = xs.length := by rw [lmap_eq, List.length_map]
  refine (h.2 No0 [] [] w (lmap .d xs) vals _ hT hrel (by rw [hlm]; exact hl) fun i hi => ?_).mono ?_
  · rw [hlm] at hi
    have e : (lmap TV.d xs).getD i .un = .d (xs.getD i .undef) := by
      rw [lmap_eq]
      simp [List.getD_eq_getElem?_getD, hi]
    rw [e]
    exact .of0 ((ha i hi).mono fun b _ hb => ⟨rfl, hz b⟩)
  · rintro e w' ⟨r, own', ρ', v, rfl, rfl, hs, hv⟩
    have hv : Reads (Zone No0 ρ' own') w' (.bool true) v := hv
    cases hv with
    | bool _ => exact ⟨rfl, hs.os, hs.tape, hs.output, hs.size, fun k hk => hs.keep k hk fun ⟨i, loc, e1, _⟩ => by simp at e1⟩
end Go.Vc
end
