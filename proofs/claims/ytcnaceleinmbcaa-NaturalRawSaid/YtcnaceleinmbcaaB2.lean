/- Helpers for the statements: facts about numbers as lists of limbs, and the proofs of the conditions. Condition: none. -/
import Derived.Test.YtcnaceleinmbcaaA2
import Derived.Test.YtcnaceleinmbcaaB1
section
/- NtRw: proofs of verification conditions: the specification's Format, agrees, NaturalRaw. -/
open Go Go.Vc
namespace Nt

theorem p_nrefFormat (a : List Int) (K : TV → Prop) (h : crefFormat.T [.d (.ints .u32 a)] K) : vc_nrefFormat a K := by
  obtain ⟨ha, hk⟩ := h
  have hal := few_len ha
  have ha2 := ha.2
  have hfew := dec_few ha.1
  unfold vc_nrefFormat
  generalize hA : val a = A at *
  have hlen : ∀ {o : List Int} {n : Nat}, decR A = o ++ decR n → o.length ≤ 1000000000 := fun {o n} h => by
    have := congrArg List.length h
    rw [List.length_append] at this
    omega
  refine ⟨ha, fun h => ?_, fun h => ?_⟩
  · simp only [decide_eq_true_eq] at h
    have h0 : A = 0 := limbs0 (by omega)
    rw [h0] at hk; exact hk
  · simp only [decide_eq_false_iff_not] at h
    have hA0 : A ≠ 0 := fun e => h (by rw [e, limbs_zero]; rfl)
    refine ⟨fun v o => ∃ V, v = limbs V ∧ V ≤ A ∧ decR A = o ++ decR V, fun v o => val v, ⟨by first | rfl | trivial, A, rfl, Nat.le_refl _, rfl⟩, ?_⟩
    rintro v o ⟨V, rfl, hV, hd⟩
    refine ⟨fun h => ?_, fun h => ?_⟩
    · simp only [decide_eq_true_eq] at h
      have hV0 : V ≠ 0 := by
        rintro rfl
        rw [limbs_zero] at h; simp at h
      have hVl : (limbs V).length ≤ 100000000 := by
        have : (limbs V).length ≤ a.length := by
          rw [limbs_len]
          have := val_lt ha.1
          omega
        omega
      have hol := hlen hd
      simp only [val_limbs]
      have hb : IntKind.wrap .u8 (IntKind.wrap .u32 (48 + ((V % 10 : Nat) : Int))) = ((48 + V % 10 : Nat) : Int) := by
        rw [wu32 (by omega), wu8 (by omega)]; omega
      simp only [hb]
      refine ⟨⟨⟨limbs_lim _, hVl⟩, by unfold L; omega, by omega⟩, by simp; omega, by first | rfl | trivial, ⟨V / 10, rfl, by omega, ?_⟩, ?_⟩
      · rw [hd, decR_pos hV0]
        show o ++ _ :: _ = o ++ [_] ++ _
        rw [List.append_assoc]; rfl
      · exact Nat.div_lt_self (by omega) (by decide)
    · simp only [decide_eq_false_iff_not] at h
      have hV0 : V = 0 := limbs0 (by omega)
      subst hV0
      rw [decR_zero, List.append_nil] at hd
      have hol := hlen (o := o) (n := 0) (by rw [decR_zero, List.append_nil]; exact hd)
      have hkk : K (.d (.str o.reverse)) := by
        unfold dec at hk
        rw [if_neg hA0, hd] at hk; exact hk
      have hmem : ∀ x ∈ o, 0 ≤ x ∧ x < 256 := fun x hx => by
        have := decR_mem (n := A) (by rw [hd]; exact hx)
        omega
      generalize o = l at *
      refine ⟨fun i j o => o.length = l.length ∧ 0 ≤ i ∧ i + j = l.length - 1 ∧ i ≤ j + 1 ∧
        ∀ p : Nat, p < l.length → o.getD p 0 = if (p : Int) < i ∨ j < (p : Int) then l.getD (l.length - 1 - p) 0 else l.getD p 0, fun i j o => (j + 1 - i).toNat, ⟨by first | rfl | trivial, rfl, by omega, ?_, ?_, ?_⟩, ?_⟩
      · rw [w64 (by omega)]; omega
      · rw [w64 (by omega)]; omega
      · intro p hp
        rw [w64 (by omega), if_neg (by omega)]
      rintro i j o ⟨h1, h2, h3, h4, h5⟩
      refine ⟨fun h => ?_, fun h => ?_⟩
      · simp only [decide_eq_true_eq] at h
        rw [w64 (by omega), w64 (by omega)]
        simp only [List.length_set]
        refine ⟨by omega, by omega, by omega, by omega, by omega, by omega, by omega, by omega, by first | rfl | trivial, ⟨by omega, by omega, by omega, by omega, fun p hp => ?_⟩, by show (j - 1 + 1 - (i + 1)).toNat < (j + 1 - i).toNat; omega⟩
        rw [getD_set, getD_set]
        simp only [List.length_set]
        have hi := h5 i.toNat (by omega)
        have hj := h5 j.toNat (by omega)
        rw [if_neg (by omega)] at hi hj
        have hp5 := h5 p hp
        by_cases e1 : p = j.toNat
        · rw [if_pos ⟨e1.symm, by omega⟩, if_pos (by omega), hi, e1]
          congr 1; omega
        · rw [if_neg (fun h => e1 h.1.symm)]
          by_cases e2 : p = i.toNat
          · rw [if_pos ⟨e2.symm, by omega⟩, if_pos (by omega), hj, e2]
            congr 1; omega
          · rw [if_neg (fun h => e2 h.1.symm), hp5]
            by_cases e3 : (p : Int) < i ∨ j < (p : Int)
            · rw [if_pos e3, if_pos (by omega)]
            · rw [if_neg e3, if_neg (by omega)]
      · simp only [decide_eq_false_iff_not] at h
        have : o = l.reverse := by
          refine ext_getD (by simpa using h1) fun p hp => ?_
          rw [getD_rev l p (by omega), h5 p (by omega)]
          by_cases e3 : (p : Int) < i ∨ j < (p : Int)
          · rw [if_pos e3]
          · rw [if_neg e3]
            congr 1; omega
        rw [this]
        exact ⟨fun x hx => hmem x (List.mem_reverse.1 hx), hkk⟩

theorem gcd_sz {x y k : Nat} (hx : Sz x k) (hy : Sz y k) : Sz (Nat.gcd x y) k := by
  rcases Nat.eq_zero_or_pos x with h0 | h0
  · rw [h0, Nat.gcd_zero_left]; exact hy
  · exact hx.le (Nat.gcd_le_left y h0)
theorem ite_len {c : Prop} [Decidable c] {l : List Int} {n : Nat} (h : l.length ≤ n) : (if c then [] else l).length ≤ n := by
  split
  · exact Nat.zero_le _
  · exact h
theorem ite_len' {c : Prop} [Decidable c] {l : List Int} {n : Nat} (h : l.length ≤ n) : (if c then l else []).length ≤ n := by
  split
  · exact h
  · exact Nat.zero_le _
theorem p_nlawagrees (a b : List Int) (K : TV → Prop) (h : clawagrees.T [.d (.ints .u32 a), .d (.ints .u32 b)] K) : vc_nlawagrees a b K := by
  obtain ⟨⟨ha, hb, hal, hbl⟩, hk⟩ := h
  unfold vc_nlawagrees
  have fa : Few a := ⟨ha, by omega⟩
  have fb : Few b := ⟨hb, by omega⟩
  have sa : Sz (val a) 1000000 := .of ha hal
  have sb : Sz (val b) 1000000 := .of hb hbl
  have g9 : a.length ≤ 90000000 := by omega
  have g9b : b.length ≤ 90000000 := by omega
  have g4 : a.length ≤ 40000000 := by omega
  have g4b : b.length ≤ 40000000 := by omega
  have l1 : (limbs (val a)).length ≤ 1000000000 := sa.len (by decide)
  have l2 : (limbs (val a + val b)).length ≤ 1000000000 := (sa.add sb).len (by decide)
  have l3 : (if val a < val b then [] else limbs (val a - val b)).length ≤ 1000000000 := ite_len ((sa.le (Nat.sub_le _ _)).len (by decide))
  have l4 : (limbs (val a * val b)).length ≤ 1000000000 := (sa.mul sb).len (by decide)
  have l5 : (if val b = 0 then [] else limbs (val a / val b)).length ≤ 1000000000 := ite_len ((sa.le (Nat.div_le_self _ _)).len (by decide))
  have l6 : (if val b = 0 then [] else limbs (val a % val b)).length ≤ 1000000000 := ite_len ((sa.le (Nat.mod_le _ _)).len (by decide))
  have l7 : (limbs (Nat.gcd (val a) (val b))).length ≤ 1000000000 := (gcd_sz sa sb).len (by decide)
  repeat' first
    | with_reducible exact hk
    | with_reducible assumption
    | (simp only [decide_true]; exact hk)
    | (intro x hx; subst hx)
    | (intro h; exfalso; simp at h; done)
    | intro _
    | refine And.intro ?_ ?_

theorem parseV_len (s : List Int) : (parseV s).length ≤ 1000000000 := by
  unfold parseV
  split
  · rename_i h
    have h1 := pv_lt s (isDec_get h.1) s.length (Nat.le_refl _)
    rw [List.take_length] at h1
    have hsz : Sz (pv 0 s) 7 := Nat.lt_of_lt_of_le h1 (Nat.le_trans (Nat.pow_le_pow_right (by decide) h.2) (by decide))
    exact hsz.len (by decide)
  · exact Nat.zero_le _
theorem p_nlawNaturalRaw (a b : List Int) (n : Int) (s : List Int) (K : TV → Prop) (h : cNaturalRaw.T [.d (.ints .u32 a), .d (.ints .u32 b), .d (.int .i64 n), .d (.str s)] K) : vc_nlawNaturalRaw a b n s K := by
  obtain ⟨⟨ha, hb, hn1, hn2⟩, hk⟩ := h
  have hy := yes hk
  unfold vc_nlawNaturalRaw
  refine ⟨trivial, ?_⟩
  rintro _ rfl
  refine ⟨fun _ => ⟨trivial, hy⟩, fun h1 => ⟨trivial, ?_⟩⟩
  rintro _ rfl
  refine ⟨fun _ => ⟨trivial, hy⟩, fun h2 => ⟨fun _ => ⟨trivial, hy⟩, fun h3 => ?_⟩⟩
  have h1 : a.length ≤ 24 := by simpa using h1
  have h2 : b.length ≤ 24 := by simpa using h2
  simp only [decide_eq_false_iff_not] at h3
  have g1 : a.length ≤ 1000000 := by omega
  have g2 : b.length ≤ 1000000 := by omega
  have g3 : a.length ≤ 500000 := by omega
  have hs : s.length ≤ 1000000000000 := by omega
  have l1 := parseV_len s
  have l2 : (if n < 0 then [] else limbs n.toNat).length ≤ 1000000000 := ite_len (by have := (val_small (n := n.toNat) (by omega)).2; omega)
  have l3 : (if 0 ≤ n ∧ n ≤ 64 then limbs (val a ^ n.toNat) else []).length ≤ 1000000000 := by
    split
    · have h5 := pow_few ha n.toNat
      have h6 : a.length * n.toNat ≤ 24 * 64 := Nat.mul_le_mul h1 (by omega)
      omega
    · exact Nat.zero_le _
  repeat' first
    | with_reducible exact hk
    | with_reducible exact hy
    | with_reducible exact trivial
    | with_reducible assumption
    | (intro x hx; subst hx)
    | (intro h; exfalso; simp at h; done)
    | intro _
    | refine And.intro ?_ ?_
end Nt
end
