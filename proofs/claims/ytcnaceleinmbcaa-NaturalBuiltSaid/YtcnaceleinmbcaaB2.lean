/- Helpers for the statements: facts about numbers as lists of limbs, and the proofs of the conditions. Condition: none. -/
import Derived.Test.YtcnaceleinmbcaaA2
import Derived.Test.YtcnaceleinmbcaaB1
section
/- NtRw: proofs of verification conditions: the specification's Format, agrees, NaturalRaw. -/
open Go Go.Vc
namespace Nt

theorem p_nrefFormat (a : List Int) (K : TV → Prop) (h : crefFormat.T [.d (.ints .u32 a)] K) : vc_nrefFormat a K := by
  obtain ⟨ha, hk⟩ := h
  have hal := few_len ha
  have ha2 := ha.2
  have hfew := dec_few ha.1
  unfold vc_nrefFormat
  generalize hA : val a = A at *
  have hlen : ∀ {o : List Int} {n : Nat}, decR A = o ++ decR n → o.length ≤ 1000000000 := fun {o n} h => by
    have := congrArg List.length h
    rw [List.length_append] at this
    omega
  refine ⟨ha, fun h => ?_, fun h => ?_⟩
  · simp only [decide_eq_true_eq] at h
    have h0 : A = 0 := limbs0 (by omega)
    rw [h0] at hk; exact hk
  · simp only [decide_eq_false_iff_not] at h
    have hA0 : A ≠ 0 := fun e => h (by rw [e, limbs_zero]; rfl)
    refine ⟨fun v o => ∃ V, v = limbs V ∧ V ≤ A ∧ decR A = o ++ decR V, fun v o => val v, ⟨by first | rfl | trivial, A, rfl, Nat.le_refl _, rfl⟩, ?_⟩
    rintro v o ⟨V, rfl, hV, hd⟩
    refine ⟨fun h => ?_, fun h => ?_⟩
    · simp only [decide_eq_true_eq] at h
      have hV0 : V ≠ 0 := by
        rintro rfl
        rw [limbs_zero] at h; simp at h
      have hVl : (limbs V).length ≤ 100000000 := by
        have : (limbs V).length ≤ a.length := by
          rw [limbs_len]
          have := val_lt ha.1
          omega
        omega
      have hol := hlen hd
      simp only [val_limbs]
      have hb : IntKind.wrap .u8 (IntKind.wrap .u32 (48 + ((V % 10 : Nat) : Int))) = ((48 + V % 10 : Nat) : Int) := by
        rw [wu32 (by omega), wu8 (by omega)]; omega
      simp only [hb]
      refine ⟨⟨⟨limbs_lim _, hVl⟩, by unfold L; omega, by omega⟩, by simp; omega, by first | rfl | trivial, ⟨V / 10, rfl, by omega, ?_⟩, ?_⟩
      · rw [hd, decR_pos hV0]
        show o ++ _ :: _ = o ++ [_] ++ _
        rw [List.append_assoc]; rfl
      · exact Nat.div_lt_self (by omega) (by decide)
    · simp only [decide_eq_false_iff_not] at h
      have hV0 : V = 0 := limbs0 (by omega)
      subst hV0
      rw [decR_zero, List.append_nil] at hd
      have hol := hlen (o := o) (n := 0) (by rw [decR_zero, List.append_nil]; exact hd)
      have hkk : K (.d (.str o.reverse)) := by
        unfold dec at hk
        rw [if_neg hA0, hd] at hk; exact hk
      have hmem : ∀ x ∈ o, 0 ≤ x ∧ x < 256 := fun x hx => by
        have := decR_mem (n := A) (by rw [hd]; exact hx)
        omega
      generalize o = l at *
      refine ⟨fun i j o => o.length = l.length ∧ 0 ≤ i ∧ i + j = l.length - 1 ∧ i ≤ j + 1 ∧
        ∀ p : Nat, p < l.length → o.getD p 0 = if (p : Int) < i ∨ j < (p : Int) then l.getD (l.length - 1 - p) 0 else l.getD p 0, fun i j o => (j + 1 - i).toNat, ⟨by first | rfl | trivial, rfl, by omega, ?_, ?_, ?_⟩, ?_⟩
      · rw [w64 (by omega)]; omega
      · rw [w64 (by omega)]; omega
      · intro p hp
        rw [w64 (by omega), if_neg (by omega)]
      rintro i j o ⟨h1, h2, h3, h4, h5⟩
      refine ⟨fun h => ?_, fun h => ?_⟩
      · simp only [decide_eq_true_eq] at h
        rw [w64 (by omega), w64 (by omega)]
        simp only [List.length_set]
        refine ⟨by omega, by omega, by omega, by omega, by omega, by omega, by omega, by omega, by first | rfl | trivial, ⟨by omega, by omega, by omega, by omega, fun p hp => ?_⟩, by show (j - 1 + 1 - (i + 1)).toNat < (j + 1 - i).toNat; omega⟩
        rw [getD_set, getD_set]
        simp only [List.length_set]
        have hi := h5 i.toNat (by omega)
        have hj := h5 j.toNat (by omega)
        rw [if_neg (by omega)] at hi hj
        have hp5 := h5 p hp
        by_cases e1 : p = j.toNat
        · rw [if_pos ⟨e1.symm, by omega⟩, if_pos (by omega), hi, e1]
          congr 1; omega
        · rw [if_neg (fun h => e1 h.1.symm)]
          by_cases e2 : p = i.toNat
          · rw [if_pos ⟨e2.symm, by omega⟩, if_pos (by omega), hj, e2]
            congr 1; omega
          · rw [if_neg (fun h => e2 h.1.symm), hp5]
            by_cases e3 : (p : Int) < i ∨ j < (p : Int)
            · rw [if_pos e3, if_pos (by omega)]
            · rw [if_neg e3, if_neg (by omega)]
      · simp only [decide_eq_false_iff_not] at h
        have : o = l.reverse := by
          refine ext_getD (by simpa using h1) fun p hp => ?_
          rw [getD_rev l p (by omega), h5 p (by omega)]
          by_cases e3 : (p : Int) < i ∨ j < (p : Int)
          · rw [if_pos e3]
          · rw [if_neg e3]
            congr 1; omega
        rw [this]
        exact ⟨fun x hx => hmem x (List.mem_reverse.1 hx), hkk⟩

theorem gcd_sz {x y k : Nat} (hx : Sz x k) (hy : Sz y k) : Sz (Nat.gcd x y) k := by
  rcases Nat.eq_zero_or_pos x with h0 | h0
  · rw [h0, Nat.gcd_zero_left]; exact hy
  · exact hx.le (Nat.gcd_le_left y h0)
theorem ite_len {c : Prop} [Decidable c] {l : List Int} {n : Nat} (h : l.length ≤ n) : (if c then [] else l).length ≤ n := by
  split
  · exact Nat.zero_le _
  · exact h
theorem ite_len' {c : Prop} [Decidable c] {l : List Int} {n : Nat} (h : l.length ≤ n) : (if c then l else []).length ≤ n := by
  split
  · exact h
  · exact Nat.zero_le _
theorem p_nlawagrees (a b : List Int) (K : TV → Prop) (h : clawagrees.T [.d (.ints .u32 a), .d (.ints .u32 b)] K) : vc_nlawagrees a b K := by
  obtain ⟨⟨ha, hb, hal, hbl⟩, hk⟩ := h
  unfold vc_nlawagrees
  have fa : Few a := ⟨ha, by omega⟩
  have fb : Few b := ⟨hb, by omega⟩
  have sa : Sz (val a) 1000000 := .of ha hal
  have sb : Sz (val b) 1000000 := .of hb hbl
  have g9 : a.length ≤ 90000000 := by omega
  have g9b : b.length ≤ 90000000 := by omega
  have g4 : a.length ≤ 40000000 := by omega
  have g4b : b.length ≤ 40000000 := by omega
  have l1 : (limbs (val a)).length ≤ 1000000000 := sa.len (by decide)
  have l2 : (limbs (val a + val b)).length ≤ 1000000000 := (sa.add sb).len (by decide)
  have l3 : (if val a < val b then [] else limbs (val a - val b)).length ≤ 1000000000 := ite_len ((sa.le (Nat.sub_le _ _)).len (by decide))
  have l4 : (limbs (val a * val b)).length ≤ 1000000000 := (sa.mul sb).len (by decide)
  have l5 : (if val b = 0 then [] else limbs (val a / val b)).length ≤ 1000000000 := ite_len ((sa.le (Nat.div_le_self _ _)).len (by decide))
  have l6 : (if val b = 0 then [] else limbs (val a % val b)).length ≤ 1000000000 := ite_len ((sa.le (Nat.mod_le _ _)).len (by decide))
  have l7 : (limbs (Nat.gcd (val a) (val b))).length ≤ 1000000000 := (gcd_sz sa sb).len (by decide)
  repeat' first
    | with_reducible exact hk
    | with_reducible assumption
    | (simp only [decide_true]; exact hk)
    | (intro x hx; subst hx)
    | (intro h; exfalso; simp at h; done)
    | intro _
    | refine And.intro ?_ ?_

theorem parseV_len (s : List Int) : (parseV s).length ≤ 1000000000 := by
  unfold parseV
  split
  · rename_i h
    have h1 := pv_lt s (isDec_get h.1) s.length (Nat.le_refl _)
    rw [List.take_length] at h1
    have hsz : Sz (pv 0 s) 7 := Nat.lt_of_lt_of_le h1 (Nat.le_trans (Nat.pow_le_pow_right (by decide) h.2) (by decide))
    exact hsz.len (by decide)
  · exact Nat.zero_le _
theorem p_nlawNaturalRaw (a b : List Int) (n : Int) (s : List Int) (K : TV → Prop) (h : cNaturalRaw.T [.d (.ints .u32 a), .d (.ints .u32 b), .d (.int .i64 n), .d (.str s)] K) : vc_nlawNaturalRaw a b n s K := by
  obtain ⟨⟨ha, hb, hn1, hn2⟩, hk⟩ := h
  have hy := yes hk
  unfold vc_nlawNaturalRaw
  refine ⟨trivial, ?_⟩
  rintro _ rfl
  refine ⟨fun _ => ⟨trivial, hy⟩, fun h1 => ⟨trivial, ?_⟩⟩
  rintro _ rfl
  refine ⟨fun _ => ⟨trivial, hy⟩, fun h2 => ⟨fun _ => ⟨trivial, hy⟩, fun h3 => ?_⟩⟩
  have h1 : a.length ≤ 24 := by simpa using h1
  have h2 : b.length ≤ 24 := by simpa using h2
  simp only [decide_eq_false_iff_not] at h3
  have g1 : a.length ≤ 1000000 := by omega
  have g2 : b.length ≤ 1000000 := by omega
  have g3 : a.length ≤ 500000 := by omega
  have hs : s.length ≤ 1000000000000 := by omega
  have l1 := parseV_len s
  have l2 : (if n < 0 then [] else limbs n.toNat).length ≤ 1000000000 := ite_len (by have := (val_small (n := n.toNat) (by omega)).2; omega)
  have l3 : (if 0 ≤ n ∧ n ≤ 64 then limbs (val a ^ n.toNat) else []).length ≤ 1000000000 := by
    split
    · have h5 := pow_few ha n.toNat
      have h6 : a.length * n.toNat ≤ 24 * 64 := Nat.mul_le_mul h1 (by omega)
      omega
    · exact Nat.zero_le _
  repeat' first
    | with_reducible exact hk
    | with_reducible exact hy
    | with_reducible exact trivial
    | with_reducible assumption
    | (intro x hx; subst hx)
    | (intro h; exfalso; simp at h; done)
    | intro _
    | refine And.intro ?_ ?_
end Nt
end

section
/- NtMk: contracts of the reader of numbers of the statements. -/
namespace Nt
open Go Go.Vc
/-! ### the reader of numbers of the statements -/
def i64 (x : Int) : Prop := -9223372036854775808 ≤ x ∧ x < 9223372036854775808
def StOk (l : List Int) (a : Int) : Prop := 0 ≤ a ∧ l.length ≤ 1000 ∧ ∀ x ∈ l, i64 x
def rawA (l : List Int) (a : Int) : Int := if (l.length : Int) ≤ a then a else a + 1
def rawV (l : List Int) (a : Int) : Int := if (l.length : Int) ≤ a then 0 else l.getD a.toNat 0
def numA (l : List Int) (a n : Int) : Int := if n < 1 then a else rawA l a
def numV (l : List Int) (a n : Int) : Int := if n < 1 then 0 else rawV l a % n
def pickV (l : List Int) (a : Int) (m : List Int) : Int := m.getD (numV l a m.length).toNat 0
def limbChoice : List Int := [0, 1, 2, 3, 10, 97, 65536, 2147483648, 4294967295, 4294967291, 123456789, 4000000007]
def limbsGo (l : List Int) : Nat → Int → List Int → List Int × Int
  | 0, a, out => (out, a)
  | i + 1, a, out => limbsGo l i (numA l a 12) (out ++ [pickV l a limbChoice])
def limbsF (l : List Int) (a : Int) : List Int × Int := limbsGo l (numV l a 5).toNat (numA l a 5) []
abbrev st (l : List Int) (a s : Int) : OB := .cells [.d (.ints .i64 l), .d (.int .i64 a), .d (.int .i64 s)]
def cmkNew.T := fspec fun | [.d (.ints .i64 l)] => some (True, .cells [.d (.ints .i64 (l.take 1000)), .d (.int .i64 0), .d (.int .i64 0)]) | _ => none
def cmkRaw.T := lspec fun | .ptr z o, .cells [.d (.ints .i64 l), .d (.int .i64 a), .d (.int .i64 s)], [] => (match Nat.beq z 0, Nat.beq o 0 with | true, true => some (StOk l a, .cells [.d (.ints .i64 l), .d (.int .i64 (rawA l a)), .d (.int .i64 s)], .d (.int .i64 (rawV l a))) | _, _ => none) | _, _, _ => none
def cmkN.T := lspec fun | .ptr z o, .cells [.d (.ints .i64 l), .d (.int .i64 a), .d (.int .i64 s)], [.d (.int .i64 n)] => (match Nat.beq z 0, Nat.beq o 0 with | true, true => some (StOk l a ∧ i64 n, .cells [.d (.ints .i64 l), .d (.int .i64 (numA l a n)), .d (.int .i64 s)], .d (.int .i64 (numV l a n))) | _, _ => none) | _, _, _ => none
def cmkPick.T := lspec fun | .ptr z o, .cells [.d (.ints .i64 l), .d (.int .i64 a), .d (.int .i64 s)], [.d (.ints .i64 m)] => (match Nat.beq z 0, Nat.beq o 0 with | true, true => some (StOk l a ∧ 0 < m.length ∧ m.length ≤ 1000, .cells [.d (.ints .i64 l), .d (.int .i64 (numA l a m.length)), .d (.int .i64 s)], .d (.int .i64 (pickV l a m))) | _, _ => none) | _, _, _ => none
def cmkLimbs.T := lspec fun | .ptr z o, .cells [.d (.ints .i64 l), .d (.int .i64 a), .d (.int .i64 s)], [] => (match Nat.beq z 0, Nat.beq o 0 with | true, true => some (StOk l a, .cells [.d (.ints .i64 l), .d (.int .i64 (limbsF l a).2), .d (.int .i64 s)], .d (.ints .u32 (limbsF l a).1)) | _, _ => none) | _, _, _ => none
def cNaturalBuilt.T := spec fun | [.d (.ints .i64 l)] => some (∀ x ∈ l, i64 x, .d (.bool true)) | _ => none
end Nt
end

section
/- The shapes of arguments, printed. -/
open Go Go.Vc
theorem Nt.cmkNew_el {M : List TV → (OB → Prop) → Prop} (H : ∀ l K, Nt.cmkNew.T [.d (.ints .i64 l)] K → M [.d (.ints .i64 l)] K) (args : List TV) (K : OB → Prop) (hyp : Nt.cmkNew.T args K) : M args K := by
  have e : ∃ l, args = [.d (.ints .i64 l)] := by
    unfold Nt.cmkNew.T fspec at hyp
    split at hyp
    · rename_i he
      simp only at he
      split at he
      · exact ⟨_, rfl⟩
      · cases he
    · exact hyp.elim
  obtain ⟨l, eqn⟩ := e
  subst eqn
  exact H l K hyp
theorem Nt.cmkRaw_el {M : TV → OB → List TV → (OB → TV → Prop) → Prop} (H : ∀ l a s K, Nt.cmkRaw.T (.ptr 0 0) (.cells [.d (.ints .i64 l), .d (.int .i64 a), .d (.int .i64 s)]) [] K → M (.ptr 0 0) (.cells [.d (.ints .i64 l), .d (.int .i64 a), .d (.int .i64 s)]) [] K) (a0 : TV) (b0 : OB) (args : List TV) (K : OB → TV → Prop) (hyp : Nt.cmkRaw.T a0 b0 args K) : M a0 b0 args K := by
  have e : ∃ l a s, a0 = .ptr 0 0 ∧ b0 = .cells [.d (.ints .i64 l), .d (.int .i64 a), .d (.int .i64 s)] ∧ args = [] := by
    unfold Nt.cmkRaw.T lspec at hyp
    split at hyp
    · rename_i he
      simp only at he
      split at he
      · split at he
        · rename_i hb hc
          obtain rfl := Nat.eq_of_beq_eq_true hb
          obtain rfl := Nat.eq_of_beq_eq_true hc
          exact ⟨_, _, _, rfl, rfl, rfl⟩
        · cases he
      · cases he
    · exact hyp.elim
  obtain ⟨l, a, s, e0, e1, e2⟩ := e
  subst e0 e1 e2
  exact H l a s K hyp
theorem Nt.cmkN_el {M : TV → OB → List TV → (OB → TV → Prop) → Prop} (H : ∀ l a s n K, Nt.cmkN.T (.ptr 0 0) (.cells [.d (.ints .i64 l), .d (.int .i64 a), .d (.int .i64 s)]) [.d (.int .i64 n)] K → M (.ptr 0 0) (.cells [.d (.ints .i64 l), .d (.int .i64 a), .d (.int .i64 s)]) [.d (.int .i64 n)] K) (a0 : TV) (b0 : OB) (args : List TV) (K : OB → TV → Prop) (hyp : Nt.cmkN.T a0 b0 args K) : M a0 b0 args K := by
  have e : ∃ l a s n, a0 = .ptr 0 0 ∧ b0 = .cells [.d (.ints .i64 l), .d (.int .i64 a), .d (.int .i64 s)] ∧ args = [.d (.int .i64 n)] := by
    unfold Nt.cmkN.T lspec at hyp
    split at hyp
    · rename_i he
      simp only at he
      split at he
      · split at he
        · rename_i hb hc
          obtain rfl := Nat.eq_of_beq_eq_true hb
          obtain rfl := Nat.eq_of_beq_eq_true hc
          exact ⟨_, _, _, _, rfl, rfl, rfl⟩
        · cases he
      · cases he
    · exact hyp.elim
  obtain ⟨l, a, s, n, e0, e1, e2⟩ := e
  subst e0 e1 e2
  exact H l a s n K hyp
theorem Nt.cmkPick_el {M : TV → OB → List TV → (OB → TV → Prop) → Prop} (H : ∀ l a s m K, Nt.cmkPick.T (.ptr 0 0) (.cells [.d (.ints .i64 l), .d (.int .i64 a), .d (.int .i64 s)]) [.d (.ints .i64 m)] K → M (.ptr 0 0) (.cells [.d (.ints .i64 l), .d (.int .i64 a), .d (.int .i64 s)]) [.d (.ints .i64 m)] K) (a0 : TV) (b0 : OB) (args : List TV) (K : OB → TV → Prop) (hyp : Nt.cmkPick.T a0 b0 args K) : M a0 b0 args K := by
  have e : ∃ l a s m, a0 = .ptr 0 0 ∧ b0 = .cells [.d (.ints .i64 l), .d (.int .i64 a), .d (.int .i64 s)] ∧ args = [.d (.ints .i64 m)] := by
    unfold Nt.cmkPick.T lspec at hyp
    split at hyp
    · rename_i he
      simp only at he
      split at he
      · split at he
        · rename_i hb hc
          obtain rfl := Nat.eq_of_beq_eq_true hb
          obtain rfl := Nat.eq_of_beq_eq_true hc
          exact ⟨_, _, _, _, rfl, rfl, rfl⟩
        · cases he
      · cases he
    · exact hyp.elim
  obtain ⟨l, a, s, m, e0, e1, e2⟩ := e
  subst e0 e1 e2
  exact H l a s m K hyp
theorem Nt.cmkLimbs_el {M : TV → OB → List TV → (OB → TV → Prop) → Prop} (H : ∀ l a s K, Nt.cmkLimbs.T (.ptr 0 0) (.cells [.d (.ints .i64 l), .d (.int .i64 a), .d (.int .i64 s)]) [] K → M (.ptr 0 0) (.cells [.d (.ints .i64 l), .d (.int .i64 a), .d (.int .i64 s)]) [] K) (a0 : TV) (b0 : OB) (args : List TV) (K : OB → TV → Prop) (hyp : Nt.cmkLimbs.T a0 b0 args K) : M a0 b0 args K := by
  have e : ∃ l a s, a0 = .ptr 0 0 ∧ b0 = .cells [.d (.ints .i64 l), .d (.int .i64 a), .d (.int .i64 s)] ∧ args = [] := by
    unfold Nt.cmkLimbs.T lspec at hyp
    split at hyp
    · rename_i he
      simp only at he
      split at he
      · split at he
        · rename_i hb hc
          obtain rfl := Nat.eq_of_beq_eq_true hb
          obtain rfl := Nat.eq_of_beq_eq_true hc
          exact ⟨_, _, _, rfl, rfl, rfl⟩
        · cases he
      · cases he
    · exact hyp.elim
  obtain ⟨l, a, s, e0, e1, e2⟩ := e
  subst e0 e1 e2
  exact H l a s K hyp
theorem Nt.cNaturalBuilt_el {M : List TV → (TV → Prop) → Prop} (H : ∀ l K, Nt.cNaturalBuilt.T [.d (.ints .i64 l)] K → M [.d (.ints .i64 l)] K) (args : List TV) (K : TV → Prop) (hyp : Nt.cNaturalBuilt.T args K) : M args K := by
  have e : ∃ l, args = [.d (.ints .i64 l)] := by
    unfold Nt.cNaturalBuilt.T spec at hyp
    split at hyp
    · rename_i he
      simp only at he
      split at he
      · exact ⟨_, rfl⟩
      · cases he
    · exact hyp.elim
  obtain ⟨l, eqn⟩ := e
  subst eqn
  exact H l K hyp
end

section
/- Verification conditions, printed. -/
open Go Go.Vc
namespace Nt
def vc_nmkNew : List Int → (OB → Prop) → Prop :=
 fun (l : List Int) (K : OB → Prop) => (decide ((1000 : Int) < (Nat.cast : Nat → Int) (List.length l)) = true → (0 : Int) ≤ (1000 : Int) ∧ (1000 : Int) ≤ (Nat.cast : Nat → Int) (List.length l) ∧ K
 (OB.cells [TV.d (AV.ints IntKind.i64 (List.take (1000 : Nat) l)), TV.d (AV.int IntKind.i64 (0 : Int)), TV.d (AV.int IntKind.i64 (0 : Int))])) ∧ (decide ((1000 : Int) < (Nat.cast : Nat → Int)
 (List.length l)) = false → K (OB.cells [TV.d (AV.ints IntKind.i64 l), TV.d (AV.int IntKind.i64 (0 : Int)), TV.d (AV.int IntKind.i64 (0 : Int))]))

def vc_n__mkSrc__Raw : List Int → Int → Int → (OB → TV → Prop) → Prop :=
 fun (l : List Int) (a s : Int) (K : OB → TV → Prop) => (decide ((Nat.cast : Nat → Int) (List.length l) ≤ a) = true → K (OB.cells [TV.d (AV.ints IntKind.i64 l), TV.d (AV.int IntKind.i64 a), TV.d
 (AV.int IntKind.i64 s)]) (TV.d (AV.int IntKind.i64 (0 : Int)))) ∧ (decide ((Nat.cast : Nat → Int) (List.length l) ≤ a) = false → (0 : Int) ≤ IntKind.wrap IntKind.i64 (IntKind.wrap IntKind.i64 (a + (1
 : Int)) - (1 : Int)) ∧ IntKind.wrap IntKind.i64 (IntKind.wrap IntKind.i64 (a + (1 : Int)) - (1 : Int)) < (Nat.cast : Nat → Int) (List.length l) ∧ K (OB.cells [TV.d (AV.ints IntKind.i64 l), TV.d
 (AV.int IntKind.i64 (IntKind.wrap IntKind.i64 (a + (1 : Int)))), TV.d (AV.int IntKind.i64 s)]) (TV.d (AV.int IntKind.i64 (List.getD l (Int.toNat (IntKind.wrap IntKind.i64 (IntKind.wrap IntKind.i64 (a
 + (1 : Int)) - (1 : Int)))) (0 : Int)))))

def vc_n__mkSrc__N : List Int → Int → Int → Int → (OB → TV → Prop) → Prop :=
 fun (l : List Int) (a s n : Int) (K : OB → TV → Prop) => (decide (n < (1 : Int)) = true → K (OB.cells [TV.d (AV.ints IntKind.i64 l), TV.d (AV.int IntKind.i64 a), TV.d (AV.int IntKind.i64 s)]) (TV.d
 (AV.int IntKind.i64 (0 : Int)))) ∧ (decide (n < (1 : Int)) = false → Nt.StOk l a ∧ ¬n = (0 : Int) ∧ (decide (Int.tmod (Nt.rawV l a) n < (0 : Int)) = true → K (OB.cells [TV.d (AV.ints IntKind.i64 l),
 TV.d (AV.int IntKind.i64 (Nt.rawA l a)), TV.d (AV.int IntKind.i64 s)]) (TV.d (AV.int IntKind.i64 (IntKind.wrap IntKind.i64 (Int.tmod (Nt.rawV l a) n + n))))) ∧ (decide (Int.tmod (Nt.rawV l a) n < (0 :
 Int)) = false → K (OB.cells [TV.d (AV.ints IntKind.i64 l), TV.d (AV.int IntKind.i64 (Nt.rawA l a)), TV.d (AV.int IntKind.i64 s)]) (TV.d (AV.int IntKind.i64 (Int.tmod (Nt.rawV l a) n)))))

def vc_n__mkSrc__Pick : List Int → Int → Int → List Int → (OB → TV → Prop) → Prop :=
 fun (l : List Int) (a s : Int) (m : List Int) (K : OB → TV → Prop) => (Nt.StOk l a ∧ Nt.i64 ((Nat.cast : Nat → Int) (List.length m))) ∧ (0 : Int) ≤ Nt.numV l a ((Nat.cast : Nat → Int) (List.length m))
 ∧ Nt.numV l a ((Nat.cast : Nat → Int) (List.length m)) < (Nat.cast : Nat → Int) (List.length m) ∧ K (OB.cells [TV.d (AV.ints IntKind.i64 l), TV.d (AV.int IntKind.i64 (Nt.numA l a ((Nat.cast : Nat →
 Int) (List.length m)))), TV.d (AV.int IntKind.i64 s)]) (TV.d (AV.int IntKind.i64 (List.getD m (Int.toNat (Nt.numV l a ((Nat.cast : Nat → Int) (List.length m)))) (0 : Int))))

def vc_n__mkSrc__Limbs : List Int → Int → Int → (OB → TV → Prop) → Prop :=
 fun (l : List Int) (a s : Int) (K : OB → TV → Prop) => (Nt.StOk l a ∧ Nt.i64 (5 : Int)) ∧ ∃ (I : Int → List Int → Int → Int → List Int → Prop), ∃ (m : Int → List Int → Int → Int → List Int → Nat), I
 (Nt.numV l a (5 : Int)) l (Nt.numA l a (5 : Int)) s [] ∧ ∀ (v4 : Int) (l : List Int) (a s : Int) (o1 : List Int), I v4 l a s o1 → (decide ((0 : Int) < v4) = true → (Nt.StOk l a ∧ (0 : Nat) < (12 :
 Nat) ∧ (12 : Nat) ≤ (1000 : Nat)) ∧ ((Nat.cast : Nat → Int) (List.length o1) + (Nat.cast : Nat → Int) (List.length [IntKind.wrap IntKind.u32 (Nt.pickV l a [(0 : Int), (1 : Int), (2 : Int), (3 : Int),
 (10 : Int), (97 : Int), (65536 : Int), (2147483648 : Int), (4294967295 : Int), (4294967291 : Int), (123456789 : Int), (4000000007 : Int)])])) * (4 : Int) ≤ (70368744177664 : Int) ∧ I (IntKind.wrap
 IntKind.i64 (v4 - (1 : Int))) l (Nt.numA l a (12 : Int)) s (instHAppendOfAppend.1 o1 [IntKind.wrap IntKind.u32 (Nt.pickV l a [(0 : Int), (1 : Int), (2 : Int), (3 : Int), (10 : Int), (97 : Int), (65536
 : Int), (2147483648 : Int), (4294967295 : Int), (4294967291 : Int), (123456789 : Int), (4000000007 : Int)])]) ∧ m (IntKind.wrap IntKind.i64 (v4 - (1 : Int))) l (Nt.numA l a (12 : Int)) s
 (instHAppendOfAppend.1 o1 [IntKind.wrap IntKind.u32 (Nt.pickV l a [(0 : Int), (1 : Int), (2 : Int), (3 : Int), (10 : Int), (97 : Int), (65536 : Int), (2147483648 : Int), (4294967295 : Int),
 (4294967291 : Int), (123456789 : Int), (4000000007 : Int)])]) < m v4 l a s o1) ∧ (decide ((0 : Int) < v4) = false → K (OB.cells [TV.d (AV.ints IntKind.i64 l), TV.d (AV.int IntKind.i64 a), TV.d (AV.int
 IntKind.i64 s)]) (TV.d (AV.ints IntKind.u32 o1)))

def vc_nlawNaturalBuilt : List Int → (TV → Prop) → Prop :=
 fun (l : List Int) (K : TV → Prop) => True ∧ ∀ (x : List Int), x = List.take (1000 : Nat) l → ∀ (x_1 : Int), x_1 = (0 : Int) → ∀ (x_2 : Int), x_2 = (0 : Int) → Nt.StOk x x_1 ∧ ∀ (x_3 : List Int), x_3
 = x → ∀ (x_4 : Int), x_4 = (Nt.limbsF x x_1).2 → ∀ (x_5 : Int), x_5 = x_2 → ∀ (x_6 : List Int), x_6 = (Nt.limbsF x x_1).1 → Nt.StOk x_3 x_4 ∧ ∀ (x : List Int), x = x_3 → ∀ (x_7 : Int), x_7 =
 (Nt.limbsF x_3 x_4).2 → ∀ (x_8 : Int), x_8 = x_5 → ∀ (x_9 : List Int), x_9 = (Nt.limbsF x_3 x_4).1 → Nt.StOk x x_7 ∧ ∀ (x_10 : List Int), x_10 = x → ∀ (x_11 : Int), x_11 = (Nt.limbsF x x_7).2 → ∀
 (x_12 : Int), x_12 = x_8 → ∀ (x_13 : List Int), x_13 = (Nt.limbsF x x_7).1 → (Nt.Lim x_6 ∧ Nt.Lim x_9 ∧ List.length x_6 ≤ (40000000 : Nat) ∧ List.length x_9 ≤ (40000000 : Nat)) ∧ ∀ (x : List Int), x =
 Nt.limbs (Nt.val x_6 * Nt.val x_9) → (Nt.StOk x_10 x_11 ∧ Nt.i64 (5 : Int)) ∧ ∀ (x_14 : List Int), x_14 = x_10 → ∀ (x_15 : Int), x_15 = Nt.numA x_10 x_11 (5 : Int) → ∀ (x_16 : Int), x_16 = x_12 → ∀
 (x_17 : Int), x_17 = Nt.numV x_10 x_11 (5 : Int) → (Nt.Lim x_6 ∧ List.length x_6 ≤ (1000000 : Nat)) ∧ ∀ (x_18 : List Int), (x_18 = if (0 : Int) ≤ x_17 ∧ x_17 ≤ (64 : Int) then Nt.limbs (Nt.val x_6 ^
 Int.toNat x_17) else []) → ∀ (x_19 : Int), (x_19 = if (0 : Int) ≤ x_17 ∧ x_17 ≤ (64 : Int) then (0 : Int) else (1 : Int)) → (Nt.Lim x_6 ∧ List.length x_6 ≤ (500000 : Nat)) ∧ ∀ (x_20 : List Int), (x_20
 = if (0 : Int) ≤ x_17 ∧ x_17 ≤ (64 : Int) then Nt.limbs (Nt.val x_6 ^ Int.toNat x_17) else []) → ∀ (x_21 : Int), (x_21 = if (0 : Int) ≤ x_17 ∧ x_17 ≤ (64 : Int) then (0 : Int) else (1 : Int)) →
 (decide (x_19 = x_21) = true → (List.length x_18 ≤ (1000000000 : Nat) ∧ List.length x_20 ≤ (1000000000 : Nat)) ∧ ∀ (x_22 : Bool), x_22 = decide (x_18 = x_20) → (x_22 = true → (Nt.Lim x_6 ∧ Nt.Lim x_9
 ∧ List.length x_6 ≤ (1000000 : Nat) ∧ List.length x_9 ≤ (1000000 : Nat)) ∧ ∀ (x_23 : Bool), x_23 = true → (x_23 = true → (Nt.Lim x ∧ Nt.Lim x_6 ∧ List.length x ≤ (1000000 : Nat) ∧ List.length x_6 ≤
 (1000000 : Nat)) ∧ ∀ (x_24 : Bool), x_24 = true → (x_24 = true → (Nt.Lim x ∧ Nt.Lim x_13 ∧ List.length x ≤ (90000000 : Nat) ∧ List.length x_13 ≤ (90000000 : Nat)) ∧ ∀ (x_25 : List Int), x_25 =
 Nt.limbs (Nt.val x + Nt.val x_13) → (Nt.Lim x_25 ∧ Nt.Lim x_9 ∧ List.length x_25 ≤ (1000000 : Nat) ∧ List.length x_9 ≤ (1000000 : Nat)) ∧ ∀ (x_26 : Bool), x_26 = true → (x_26 = true → (Nt.Lim x ∧
 Nt.Lim x_13 ∧ List.length x ≤ (40000000 : Nat) ∧ List.length x_13 ≤ (40000000 : Nat)) ∧ ∀ (x_27 : List Int), x_27 = Nt.limbs (Nt.val x * Nt.val x_13) → (Nt.Lim x_6 ∧ Nt.Lim x_13 ∧ List.length x_6 ≤
 (40000000 : Nat) ∧ List.length x_13 ≤ (40000000 : Nat)) ∧ ∀ (x : List Int), x = Nt.limbs (Nt.val x_6 * Nt.val x_13) → (Nt.Lim x_27 ∧ Nt.Lim x ∧ List.length x_27 ≤ (1000000 : Nat) ∧ List.length x ≤
 (1000000 : Nat)) ∧ ∀ (x : Bool), x = true → (x = true → True ∧ ∀ (x : Bool), x = true → K (TV.d (AV.bool x))) ∧ (x = false → K (TV.d (AV.bool false)))) ∧ (x_26 = false → K (TV.d (AV.bool false)))) ∧
 (x_24 = false → K (TV.d (AV.bool false)))) ∧ (x_23 = false → K (TV.d (AV.bool false)))) ∧ (x_22 = false → K (TV.d (AV.bool false)))) ∧ (decide (x_19 = x_21) = false → K (TV.d (AV.bool false)))

end Nt
end

section
/- NtMp: proofs of verification conditions: the reader of numbers of the statements. -/
open Go Go.Vc
namespace Nt

theorem StOk.getD {l : List Int} {a : Int} (h : StOk l a) (n : Nat) : i64 (l.getD n 0) := by
  rw [List.getD_eq_getElem?_getD]
  cases e : l[n]? with
  | none => simp [i64]
  | some x => exact h.2.2 x (List.mem_of_getElem? e)
theorem StOk.raw {l : List Int} {a : Int} (h : StOk l a) : StOk l (rawA l a) ∧ i64 (rawV l a) := by
  refine ⟨⟨?_, h.2⟩, ?_⟩
  · have := h.1; unfold rawA; split <;> omega
  · unfold rawV; split
    · simp [i64]
    · exact h.getD _
theorem StOk.num {l : List Int} {a : Int} (h : StOk l a) (n : Int) : StOk l (numA l a n) ∧ 0 ≤ numV l a n ∧ (1 ≤ n → numV l a n < n) ∧ (n < 1 → numV l a n = 0) := by
  unfold numA numV
  split
  · exact ⟨h, by omega, by omega, by omega⟩
  · exact ⟨h.raw.1, Int.emod_nonneg _ (by omega), fun _ => Int.emod_lt_of_pos _ (by omega), by omega⟩
theorem numV_i64 {l : List Int} {a : Int} (h : StOk l a) {n : Int} (hn : i64 n) : i64 (numV l a n) := by
  obtain ⟨_, h1, h2, h3⟩ := h.num n
  unfold i64 at hn ⊢
  omega

theorem p_nmkNew (l : List Int) (K : OB → Prop) (h : cmkNew.T [.d (.ints .i64 l)] K) : vc_nmkNew l K := by
  obtain ⟨_, hk⟩ := h
  unfold vc_nmkNew
  refine ⟨fun h => ?_, fun h => ?_⟩
  · simp only [decide_eq_true_eq] at h
    exact ⟨by omega, by omega, hk⟩
  · simp only [decide_eq_false_iff_not] at h
    rw [List.take_of_length_le (by omega)] at hk
    exact hk

theorem p_n__mkSrc__Raw (l : List Int) (a s : Int) (K : OB → TV → Prop) (h : cmkRaw.T (.ptr 0 0) (st l a s) [] K) : vc_n__mkSrc__Raw l a s K := by
  obtain ⟨ho, hk⟩ := h
  unfold vc_n__mkSrc__Raw
  unfold rawA rawV at hk
  have h0 := ho.1
  have h1 := ho.2.1
  refine ⟨fun h => ?_, fun h => ?_⟩
  · simp only [decide_eq_true_eq] at h
    rw [if_pos h, if_pos h] at hk; exact hk
  · simp only [decide_eq_false_iff_not] at h
    rw [if_neg h, if_neg h] at hk
    rw [w64 (x := a + 1) (by omega), w64 (by omega)]
    refine ⟨by omega, by omega, ?_⟩
    rw [Int.add_sub_cancel]; exact hk

theorem tmod_fix {x n : Int} (h : 1 ≤ n) : (x.tmod n < 0 → x.tmod n + n = x % n) ∧ (¬ x.tmod n < 0 → x.tmod n = x % n) ∧ -n < x.tmod n ∧ x.tmod n < n := by
  have h1 : -n < x.tmod n := by have := Int.lt_tmod_of_pos x (show 0 < n by omega); omega
  have h2 : x.tmod n < n := Int.tmod_lt_of_pos x (by omega)
  have h3 : (x.tmod n) % n = x % n := by rw [Int.tmod_def, Int.sub_mul_emod_self_left]
  refine ⟨fun h => ?_, fun h => ?_, h1, h2⟩
  · rw [← h3, ← Int.add_emod_right]
    exact (Int.emod_eq_of_lt (by omega) (by omega)).symm
  · rw [← h3]
    exact (Int.emod_eq_of_lt (by omega) (by omega)).symm

theorem p_n__mkSrc__N (l : List Int) (a s n : Int) (K : OB → TV → Prop) (h : cmkN.T (.ptr 0 0) (st l a s) [.d (.int .i64 n)] K) : vc_n__mkSrc__N l a s n K := by
  obtain ⟨⟨ho, hn⟩, hk⟩ := h
  unfold vc_n__mkSrc__N
  unfold numA numV at hk
  refine ⟨fun h => ?_, fun h => ?_⟩
  · simp only [decide_eq_true_eq] at h
    rw [if_pos h, if_pos h] at hk; exact hk
  · simp only [decide_eq_false_iff_not] at h
    rw [if_neg h, if_neg h] at hk
    obtain ⟨t1, t2, t3, t4⟩ := tmod_fix (x := rawV l a) (n := n) (by omega)
    unfold i64 at hn
    refine ⟨ho, by omega, fun h => ?_, fun h => ?_⟩
    · simp only [decide_eq_true_eq] at h
      rw [w64 (by omega), t1 h]; exact hk
    · simp only [decide_eq_false_iff_not] at h
      rw [t2 h]; exact hk

theorem p_n__mkSrc__Pick (l : List Int) (a s : Int) (m : List Int) (K : OB → TV → Prop) (h : cmkPick.T (.ptr 0 0) (st l a s) [.d (.ints .i64 m)] K) : vc_n__mkSrc__Pick l a s m K := by
  obtain ⟨⟨ho, hm, hm'⟩, hk⟩ := h
  unfold vc_n__mkSrc__Pick
  obtain ⟨_, h1, h2, _⟩ := ho.num (m.length : Int)
  exact ⟨⟨ho, by unfold i64; omega⟩, h1, h2 (by omega), hk⟩

theorem choice_lim (n : Nat) : 0 ≤ limbChoice.getD n 0 ∧ limbChoice.getD n 0 < 4294967296 := by
  have : ∀ x ∈ limbChoice, 0 ≤ x ∧ x < 4294967296 := by decide
  rw [List.getD_eq_getElem?_getD]
  cases e : limbChoice[n]? with
  | none => simp
  | some x => exact this x (List.mem_of_getElem? e)
theorem pick_lim (l : List Int) (a : Int) : 0 ≤ pickV l a limbChoice ∧ pickV l a limbChoice < 4294967296 := choice_lim _

theorem p_n__mkSrc__Limbs (l : List Int) (a s : Int) (K : OB → TV → Prop) (h : cmkLimbs.T (.ptr 0 0) (st l a s) [] K) : vc_n__mkSrc__Limbs l a s K := by
  obtain ⟨ho, hk⟩ := h
  unfold vc_n__mkSrc__Limbs
  obtain ⟨o5, v1, v2, _⟩ := ho.num 5
  have v2 := v2 (by decide)
  refine ⟨⟨ho, by unfold i64; decide⟩, fun i l' a' s' o => l' = l ∧ s' = s ∧ 0 ≤ i ∧ i ≤ 4 ∧ StOk l a' ∧ (o.length : Int) + i ≤ 4 ∧ limbsGo l i.toNat a' o = limbsF l a, fun i _ _ _ _ => i.toNat,
    ⟨rfl, rfl, v1, by omega, o5, by simp; omega, rfl⟩, ?_⟩
  rintro i l' a' s' o ⟨rfl, rfl, i0, i4, ho', hl, hgo⟩
  refine ⟨fun h => ?_, fun h => ?_⟩
  · simp only [decide_eq_true_eq] at h
    obtain ⟨o12, _, _, _⟩ := ho'.num 12
    rw [w64 (by omega)]
    refine ⟨⟨ho', by decide, by decide⟩, by simp; omega, ⟨rfl, rfl, by omega, by omega, o12, by show ((o ++ [_]).length : Int) + _ ≤ 4; simp; omega, ?_⟩, by show (i - 1).toNat < i.toNat; omega⟩
    rw [← hgo]
    obtain ⟨n, hn⟩ : ∃ n : Nat, i.toNat = n + 1 := ⟨i.toNat - 1, by omega⟩
    rw [show (i - 1).toNat = n by omega, hn]
    show limbsGo l' n _ (o ++ [IntKind.wrap .u32 (pickV l' a' limbChoice)]) = limbsGo l' n _ (o ++ [_])
    rw [wu32 (pick_lim l' a')]
  · simp only [decide_eq_false_iff_not] at h
    rw [show i.toNat = 0 by omega] at hgo
    rw [← hgo] at hk
    exact hk

theorem limbsGo_ok {l : List Int} : ∀ (n : Nat) (a : Int) (o : List Int), StOk l a → Lim o → StOk l (limbsGo l n a o).2 ∧ Lim (limbsGo l n a o).1 ∧ (limbsGo l n a o).1.length = o.length + n
  | 0, a, o, h, ho => ⟨h, ho, rfl⟩
  | n + 1, a, o, h, ho => by
    have := limbsGo_ok n (numA l a 12) (o ++ [pickV l a limbChoice]) (h.num 12).1 (ho.append (.mk (pick_lim l a) .nil))
    refine ⟨this.1, this.2.1, ?_⟩
    have h3 := this.2.2
    rw [List.length_append, List.length_singleton] at h3
    show (limbsGo l n _ _).1.length = _
    rw [h3]; omega
theorem StOk.limbs {l : List Int} {a : Int} (h : StOk l a) : StOk l (limbsF l a).2 ∧ Lim (limbsF l a).1 ∧ (limbsF l a).1.length ≤ 4 := by
  obtain ⟨o5, v1, v2, _⟩ := h.num 5
  have v2 := v2 (by decide)
  obtain ⟨h1, h2, h3⟩ := limbsGo_ok (numV l a 5).toNat (numA l a 5) [] o5 .nil
  exact ⟨h1, h2, by unfold limbsF; rw [h3]; simp; omega⟩
theorem StOk.new {l : List Int} (h : ∀ x ∈ l, i64 x) : StOk (l.take 1000) 0 := ⟨by omega, by simp; omega, fun x hx => h x (List.mem_of_mem_take hx)⟩

theorem p_nlawNaturalBuilt (l : List Int) (K : TV → Prop) (h : cNaturalBuilt.T [.d (.ints .i64 l)] K) : vc_nlawNaturalBuilt l K := by
  obtain ⟨hl, hk⟩ := h
  unfold vc_nlawNaturalBuilt
  have o0 := StOk.new hl
  refine ⟨trivial, ?_⟩
  rintro ll rfl _ rfl _ rfl
  generalize List.take 1000 l = ll at *
  refine ⟨o0, ?_⟩
  obtain ⟨o1, la, ka⟩ := o0.limbs
  rintro _ h1 A1 hA1 _ - a ha
  obtain rfl := h1.symm
  rw [← ha] at la ka
  rw [← hA1] at o1
  clear ha hA1
  refine ⟨o1, ?_⟩
  obtain ⟨o2, lb, kb⟩ := o1.limbs
  rintro _ h1 A2 hA2 _ - b hb
  obtain rfl := h1.symm
  rw [← hb] at lb kb
  rw [← hA2] at o2
  clear hb hA2
  refine ⟨o2, ?_⟩
  obtain ⟨o3, lc, kc⟩ := o2.limbs
  rintro _ h1 A3 hA3 _ - c hc
  obtain rfl := h1.symm
  rw [← hc] at lc kc
  rw [← hA3] at o3
  clear hc hA3
  have sz : ∀ {x : List Int} {k : Nat}, Lim x → x.length ≤ k → val x < 4294967296 ^ k := fun h hk => Nat.lt_of_lt_of_le (val_lt h) (Nat.pow_le_pow_right (by decide) hk)
  have mul_len : ∀ {x y : Nat} {k j : Nat}, x < 4294967296 ^ k → y < 4294967296 ^ j → x * y < 4294967296 ^ (k + j) := fun h1 h2 => by
    rw [Nat.pow_add]; exact Nat.mul_lt_mul'' h1 h2
  have pa := sz la ka
  have pb := sz lb kb
  have pc := sz lc kc
  refine ⟨⟨la, lb, by omega, by omega⟩, ?_⟩
  rintro p rfl
  refine ⟨⟨o3, by unfold i64; decide⟩, ?_⟩
  rintro _ - A4 - _ - n hn
  obtain ⟨_, n1, n2, _⟩ := o3.num 5
  have n2 := n2 (by decide)
  rw [← hn] at n1 n2
  clear hn
  refine ⟨⟨la, by omega⟩, ?_⟩
  rintro x hx e he
  refine ⟨⟨la, by omega⟩, ?_⟩
  rintro y hy f hf
  rw [← hx] at hy
  rw [← he] at hf
  obtain rfl := hy.symm
  obtain rfl := hf.symm
  rw [if_pos ⟨n1, by omega⟩] at hx he
  have hxl : x.length ≤ 100000 := by
    subst hx
    have : (limbs (val a ^ n.toNat)).length ≤ 17 := by
      rw [limbs_len]
      have h1 : val a ^ n.toNat ≤ (4294967296 ^ 4) ^ n.toNat := Nat.pow_le_pow_left (by omega) _
      have h2 : (4294967296 ^ 4) ^ n.toNat ≤ (4294967296 ^ 4) ^ 4 := Nat.pow_le_pow_right (by decide) (by omega)
      have h3 : (4294967296 ^ 4) ^ 4 < 4294967296 ^ 17 := by decide
      exact Nat.lt_of_le_of_lt (Nat.le_trans h1 h2) h3
    omega
  have hp : (limbs (val a * val b)).length ≤ 8 := limbs_len.2 (mul_len pa pb)
  have lp := limbs_lim (val a * val b)
  generalize limbs (val a * val b) = p at *
  have pp := sz lp hp
  have hs : (limbs (val p + val c)).length ≤ 9 := limbs_len.2 (by
    have : (4294967296 : Nat) ^ 8 + 4294967296 ^ 4 < 4294967296 ^ 9 := by decide
    omega)
  have hm : (limbs (val p * val c)).length ≤ 12 := limbs_len.2 (mul_len pp pc)
  have hn : (limbs (val a * val c)).length ≤ 8 := limbs_len.2 (mul_len pa pc)
  refine ⟨fun _ => ⟨⟨by omega, by omega⟩, ?_⟩, fun h => by simp at h⟩
  rintro _ rfl
  refine ⟨fun _ => ⟨⟨la, lb, by omega, by omega⟩, ?_⟩, fun h => by simp at h⟩
  rintro _ rfl
  refine ⟨fun _ => ⟨⟨lp, la, by omega, by omega⟩, ?_⟩, fun h => by simp at h⟩
  rintro _ rfl
  refine ⟨fun _ => ⟨⟨lp, lc, by omega, by omega⟩, ?_⟩, fun h => by simp at h⟩
  rintro _ rfl
  refine ⟨⟨limbs_lim _, lb, by omega, by omega⟩, ?_⟩
  rintro _ rfl
  refine ⟨fun _ => ⟨⟨lp, lc, by omega, by omega⟩, ?_⟩, fun h => by simp at h⟩
  rintro _ rfl
  refine ⟨⟨la, lc, by omega, by omega⟩, ?_⟩
  rintro _ rfl
  refine ⟨⟨limbs_lim _, limbs_lim _, by omega, by omega⟩, ?_⟩
  rintro _ rfl
  refine ⟨fun _ => ⟨trivial, ?_⟩, fun h => by simp at h⟩
  rintro _ rfl
  exact hk
theorem i64s_of {l : List Int} (h : ∀ n ∈ l, IntKind.min .i64 ≤ n ∧ n ≤ IntKind.max .i64) : ∀ x ∈ l, i64 x := fun x hx => by
  have h := h x hx
  have e1 : IntKind.i64.min = -9223372036854775808 := by decide
  have e2 : IntKind.i64.max = 9223372036854775807 := by decide
  unfold i64
  omega
end Nt
end
