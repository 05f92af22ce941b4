/- Helpers for the statements: facts about numbers and fractions as lists of limbs, and the proofs of the conditions. Condition: none. -/
import Derived.Test.YtabajebkmipogaaA2
import Derived.Test.YtabajebkmipogaaB0
section
/- NtO: the proof of the verification condition of long, whole. -/
open Go Go.Vc
namespace Nt

/-- What the subtraction of one digit leaves. -/
structure Dig (u u' : List Int) (j n V Q : Nat) : Prop where
  lim : Lim u'
  len : u'.length = u.length
  dig : Q < 4294967296
  eq : val u' + 4294967296 ^ j * (Q * V) = val u
  lt : val u' < 4294967296 ^ j * V

set_option maxHeartbeats 1000000 in
theorem p_nlong (a b : List Int) (K : TV → Prop) (h : clong.T [.d (.ints .u32 a), .d (.ints .u32 b)] K) : vc_nlong a b K := by
  obtain ⟨⟨ha, hb, hna, hnb, hb2, hle⟩, hk⟩ := h
  have hal := ha.2
  have hbl := hb.2
  obtain ⟨n1, n2, n3, n4, n5⟩ := norm_top hb.1 hnb hb2
  unfold vc_nlong
  have e1 : IntKind.wrap .i64 ((Nat.cast : Nat → Int) b.length - 1) = ((b.length - 1 : Nat) : Int) := by rw [w64 (by omega)]; omega
  rw [e1, Int.toNat_natCast, lm_eq hb.1, Int.toNat_natCast]
  have hlb := lm_lt hb.1 (b.length - 1)
  refine ⟨by omega, by omega, ⟨by omega, by omega⟩, ?_⟩
  rintro x rfl
  obtain ⟨k, hk0⟩ : ∃ k, 32 - blen (lm b (b.length - 1)) = k := ⟨_, rfl⟩
  rw [hk0] at n4 n5
  have hk32 : k < 32 := by omega
  have e2 : IntKind.wrap .u64 (32 - (blen (lm b (b.length - 1)) : Int)) = (k : Int) := by rw [wu64 (by omega)]; omega
  rw [e2]
  simp only [Int.toNat_natCast]
  have p31 : 2 ^ k ≤ 2147483648 := by
    have := Nat.pow_le_pow_right (show 0 < 2 by decide) (show k ≤ 31 by omega)
    exact this
  have hbval : 4294967296 ^ (b.length - 1) ≤ val b := by
    have h1 := vd_vt b (b.length - 1)
    rw [vd_lm] at h1
    have h2 := Nat.mul_le_mul_left (4294967296 ^ (b.length - 1)) (show 1 ≤ lm b (b.length - 1) + 4294967296 * vd b (b.length - 1 + 1) by omega)
    omega
  have hlen : b.length ≤ a.length := by
    have h1 := val_lt ha.1
    have h2 : 4294967296 ^ (b.length - 1) < 4294967296 ^ a.length := by omega
    have := (Nat.pow_lt_pow_iff_right (by decide : 1 < 4294967296)).1 h2
    omega
  refine ⟨⟨ha, by omega, by omega⟩, ?_⟩
  rintro u0 hu0
  refine ⟨⟨hb, by omega, by omega⟩, ?_⟩
  rintro v0 hv0
  have hv0v : val v0 = val b * 2 ^ k := by
    rw [hv0]
    refine lowl_val _ _ (Nat.lt_of_lt_of_le n4 (Nat.pow_le_pow_right (by decide) (by omega)))
  have hu0v : val u0 = val a * 2 ^ k := by
    rw [hu0]
    refine lowl_val _ _ ?_
    rw [Nat.pow_succ]
    exact Nat.mul_lt_mul'' (val_lt ha.1) (by omega)
  have hu0L : Lim u0 := hu0 ▸ lowl_lim _ _
  have hv0L : Lim v0 := hv0 ▸ lowl_lim _ _
  have hu0l : u0.length = a.length + 1 := by rw [hu0, lowl_len]
  have hv0l : v0.length = b.length + 1 := by rw [hv0, lowl_len]
  refine ⟨⟨hv0L, by omega⟩, ?_⟩
  rintro v hv
  have hvv : val v = val b * 2 ^ k := by rw [hv, val_limbs, hv0v]
  have hvL : Lim v := hv ▸ limbs_lim _
  have hvl : v.length = b.length := by
    rw [hv, hv0v]
    refine Nat.le_antisymm (limbs_len.2 n4) ?_
    refine Nat.le_of_not_lt fun hx => ?_
    have h1 := limbs_len.1 (show (limbs (val b * 2 ^ k)).length ≤ b.length - 1 by omega)
    have h2 : 1 * 4294967296 ^ (b.length - 1) ≤ 2147483648 * 4294967296 ^ (b.length - 1) := Nat.mul_le_mul_right _ (by decide)
    omega
  have hd1 : val a / val b = val u0 / val v := by rw [hu0v, hvv, Nat.mul_div_mul_right _ _ (Nat.two_pow_pos k)]
  have hd2 : (val a % val b) * 2 ^ k = val u0 % val v := by rw [hu0v, hvv, Nat.mul_mod_mul_right]
  have hVpos : 0 < val b := Nat.lt_of_lt_of_le (Nat.pow_pos (by decide)) hbval
  have hVt : 2147483648 * 4294967296 ^ (b.length - 1) ≤ val v := by rw [hvv]; exact n5
  have hVn : val v < 4294967296 ^ b.length := by rw [hvv]; exact n4
  have hU : val u0 < 4294967296 ^ (a.length + 1 - b.length) * val v := by
    rw [hu0v]
    have h1 : val a * 2 ^ k < 4294967296 ^ a.length * 2147483648 := Nat.lt_of_lt_of_le (Nat.mul_lt_mul_of_pos_right (val_lt ha.1) (Nat.two_pow_pos k)) (Nat.mul_le_mul_left _ p31)
    have h2 := Nat.mul_le_mul_left (4294967296 ^ (a.length + 1 - b.length)) hVt
    rw [Nat.mul_left_comm, ← Nat.pow_add, show a.length + 1 - b.length + (b.length - 1) = a.length by omega, Nat.mul_comm 2147483648] at h2
    exact Nat.lt_of_lt_of_le h1 h2
  rw [hvl, hu0l]
  clear hv hu0 hv0 hvv hu0v hv0v n4 n5 hbval hle e2 e1 hk0 n1 n2 n3 hlb hv0L hv0l
  obtain ⟨m, hm⟩ : ∃ m, a.length + 1 - b.length = m := ⟨_, rfl⟩
  obtain ⟨n, hn⟩ : ∃ n, b.length = n := ⟨_, rfl⟩
  have hm1 : 1 ≤ m := by omega
  rw [hm] at hU
  rw [hn] at hVt hVn hvl hb2 hlen ⊢
  have e4 : IntKind.wrap .i64 ((n : Int) - 1) = ((n - 1 : Nat) : Int) := by rw [w64 (by omega)]; omega
  have e5 : IntKind.wrap .i64 ((n : Int) - 2) = ((n - 2 : Nat) : Int) := by rw [w64 (by omega)]; omega
  have e6 : IntKind.wrap .i64 (((a.length + 1 : Nat) : Int) - (n : Int)) = (m : Int) := by rw [w64 (by omega)]; omega
  rw [e4, e5, e6]
  simp only [Int.toNat_natCast, List.length_replicate]
  refine ⟨by omega, by omega, by omega, by omega, by omega, by omega, by omega, fun j u q => -1 ≤ j ∧ j < m ∧ Lim u ∧ u.length = m + n ∧ Lim q ∧ q.length = m ∧ val u0 = val q * val v + val u ∧ val u < 4294967296 ^ (j + 1).toNat * val v ∧ ∀ p : Nat, (p : Int) ≤ j → q.getD p 0 = 0,
    fun j u q => (j + 1).toNat, ⟨by first | rfl | trivial, ?_⟩, ?_⟩
  · rw [w64 (by omega)]
    refine ⟨by omega, by omega, hu0L, by omega, Lim.zeros _, by simp, by rw [val_zeros, Nat.zero_mul, Nat.zero_add], ?_, fun p _ => by simp [List.getD_eq_getElem?_getD, List.getElem?_replicate]; split <;> rfl⟩
    rw [show ((m : Int) - 1 + 1).toNat = m by omega]; exact hU
  rintro j u q ⟨hj0, hj1, hu, hul, hq, hql, heq, hlt, hqz⟩
  refine ⟨fun hj => ?_, fun hj => ?_⟩
  · simp only [decide_eq_true_eq] at hj
    obtain ⟨j, rfl⟩ : ∃ i : Nat, j = i := ⟨j.toNat, by omega⟩
    rw [show ((j : Int) + 1).toNat = j + 1 by omega] at hlt
    have e7 : IntKind.wrap .i64 ((j : Int) + (n : Int)) = ((j + n : Nat) : Int) := by rw [w64 (by omega)]; omega
    have e8 : IntKind.wrap .i64 (((j + n : Nat) : Int) - 1) = ((j + n - 1 : Nat) : Int) := by rw [w64 (by omega)]; omega
    have e9 : IntKind.wrap .i64 (((j + n : Nat) : Int) - 2) = ((j + n - 2 : Nat) : Int) := by rw [w64 (by omega)]; omega
    rw [e7, e8, e9]
    simp only [Int.toNat_natCast]
    obtain ⟨p, lv, ld, hd⟩ := head_of (j := j) hu hvL hvl hb2 rfl hVt hlt
    simp only [lm_eq hu, lm_eq hvL, word2 (lm_lt hu (j + n)) (lm_lt hu (j + n - 1))]
    have htI : IntKind.wrap .u64 ((lm v (n - 1) : Nat) : Int) = ((lm v (n - 1) : Nat) : Int) := wu64 (by have := hd.htl; omega)
    have hsI : IntKind.wrap .u64 ((lm v (n - 2) : Nat) : Int) = ((lm v (n - 2) : Nat) : Int) := wu64 (by have := hd.hs; omega)
    simp only [htI, hsI]
    obtain ⟨F, hFe⟩ : ∃ F, lm u (j + n) * 4294967296 + lm u (j + n - 1) = F := ⟨_, rfl⟩
    rw [hFe] at hd
    simp only [hFe]
    have hD : ∃ D, vd u j = D := ⟨_, rfl⟩
    obtain ⟨D, hDe⟩ := hD
    rw [hDe] at hd
    obtain ⟨t, hte⟩ : ∃ t, lm v (n - 1) = t := ⟨_, rfl⟩
    obtain ⟨s, hse⟩ : ∃ s, lm v (n - 2) = s := ⟨_, rfl⟩
    obtain ⟨th, hthe⟩ : ∃ s, lm u (j + n - 2) = s := ⟨_, rfl⟩
    rw [hte, hse, hthe] at hd
    rw [hte] at htI
    rw [hse] at hsI
    simp only [hte, hse, hthe]
    obtain ⟨hV, hDq, hlv, hld, ht, htl, hs, hth, hDV, hF⟩ := hd
    have eF : Int.tdiv (F : Int) (t : Int) = ((F / t : Nat) : Int) := by rw [Int.tdiv_eq_ediv_of_nonneg (by omega), Int.natCast_ediv]
    have eR : Int.tmod (F : Int) (t : Int) = ((F % t : Nat) : Int) := by rw [Int.tmod_eq_emod_of_nonneg (by omega), Int.natCast_emod]
    simp only [eF, eR]
    have hF2 : F < 18446744073709551616 := by omega
    have hFt : F / t ≤ F := Nat.div_le_self _ _
    have hRt : F % t < t := Nat.mod_lt _ ht
    have eW : ∀ G0 : Nat, G0 ≤ F → IntKind.wrap .u64 (G0 : Int) = (G0 : Int) := fun G0 h => wu64 (by omega)
    simp only [eW _ hFt]
    refine ⟨by omega, by omega, by omega, by omega, by omega, by omega, fun g => ∃ G : Nat, g = G ∧ G < 4294967296 ∧ D < (G + 1) * val v ∧ G * val v ≤ D + val v, ?_, ?_⟩
    · refine ⟨fun g r => ∃ G R : Nat, g = G ∧ r = R ∧ t * G + R = F ∧ R < 4294967296 ∧ D < (G + 1) * val v, fun g r => g.toNat, ⟨by first | rfl | trivial, by first | rfl | trivial, by first | rfl | trivial, F / t, F % t, rfl, rfl, Nat.div_add_mod F t, by omega, ?_⟩, ?_⟩
      · rw [hDq, hV]
        exact (est_init (lv := lv) (s := s) rfl rfl ht hld hth).1
      rintro g r ⟨G, R, rfl, rfl, hGR, hR, hDG⟩
      have hGF : G ≤ F := by
        have : 1 * G ≤ t * G := Nat.mul_le_mul_right _ ht
        omega
      have eRt : IntKind.wrap .u64 ((R : Int) + (t : Int)) = ((R + t : Nat) : Int) := by rw [wu64 (by omega)]; omega
      have eRd : ((R + t : Nat) : Int).fdiv 4294967296 = ((R + t : Nat) : Int) / 4294967296 := Int.fdiv_eq_ediv_of_nonneg _ (by omega)
      have eGd : (G : Int).fdiv 4294967296 = (G : Int) / 4294967296 := Int.fdiv_eq_ediv_of_nonneg _ (by omega)
      simp only [eRt, eRd, eGd]
      refine ⟨fun hG => ?_, fun hG => ⟨by omega, by omega, ?_⟩⟩
      · have hGW : ¬ ((G : Int) / 4294967296 = 0) := by simpa using hG
        have hlt' : D < G * val v := Nat.lt_of_lt_of_le hDV (Nat.mul_le_mul_right _ (by omega))
        have hG1 : 1 ≤ G := by
          rcases Nat.eq_zero_or_pos G with h0 | h0
          · rw [h0, Nat.zero_mul] at hlt'; omega
          · exact h0
        have eG : IntKind.wrap .u64 ((G : Int) - 1) = ((G - 1 : Nat) : Int) := by rw [wu64 (by omega)]; omega
        have hGR' : t * (G - 1) + (R + t) = F := by
          have : t * G = t * (G - 1) + t := by rw [← Nat.mul_succ]; congr 1; omega
          omega
        have hDG' : D < (G - 1 + 1) * val v := by rw [show G - 1 + 1 = G by omega]; exact hlt'
        simp only [eG]
        refine ⟨fun hr => ⟨by first | rfl | trivial, by first | rfl | trivial, by first | rfl | trivial, G - 1, rfl, ?_, hDG', ?_⟩, fun hr => ⟨by first | rfl | trivial, by first | rfl | trivial, by first | rfl | trivial, ⟨G - 1, R + t, rfl, rfl, hGR', ?_, hDG'⟩, ?_⟩⟩
        · have hr' : ¬ (((R + t : Nat) : Int) / 4294967296 = 0) := by simpa using hr
          refine Nat.lt_of_mul_lt_mul_left (a := t) ?_
          omega
        · have hr' : ¬ (((R + t : Nat) : Int) / 4294967296 = 0) := by simpa using hr
          have hg1 : G - 1 < 4294967296 := by
            refine Nat.lt_of_mul_lt_mul_left (a := t) ?_
            omega
          have hc1 : (G - 1) * s ≤ (R + t) * 4294967296 + th := by
            have h1 : (G - 1) * s ≤ 4294967296 * 4294967296 := Nat.mul_le_mul (by omega) (by omega)
            have h2 : 4294967296 * 4294967296 ≤ (R + t) * 4294967296 := Nat.mul_le_mul_right _ (by omega)
            omega
          rw [hDq, hV]
          exact est_exit hGR' ht hlv hg1 hc1
        · have hr' : ((R + t : Nat) : Int) / 4294967296 = 0 := by simpa using hr
          omega
        · show ((G - 1 : Nat) : Int).toNat < (G : Int).toNat
          omega
      · have hGW : (G : Int) / 4294967296 = 0 := by simpa using hG
        have eM : IntKind.wrap .u64 ((G : Int) * (s : Int)) = ((G * s : Nat) : Int) := by
          have : G * s ≤ 4294967295 * 4294967295 := Nat.mul_le_mul (by omega) (by omega)
          rw [← Int.natCast_mul, wu64 ⟨Int.natCast_nonneg _, by omega⟩]
        have eO := word2' (h := R) (l := th) hR hth
        simp only [eM, eO]
        refine ⟨fun hc => ?_, fun hc => ⟨by first | rfl | trivial, by first | rfl | trivial, by first | rfl | trivial, G, rfl, by omega, hDG, ?_⟩⟩
        · simp only [decide_eq_true_eq, Int.ofNat_lt] at hc
          have hlt' : D < G * val v := by rw [hDq, hV]; exact est_cond hGR hld hc
          have hG1 : 1 ≤ G := by
            rcases Nat.eq_zero_or_pos G with h0 | h0
            · rw [h0, Nat.zero_mul] at hlt'; omega
            · exact h0
          have eG : IntKind.wrap .u64 ((G : Int) - 1) = ((G - 1 : Nat) : Int) := by rw [wu64 (by omega)]; omega
          have hGR' : t * (G - 1) + (R + t) = F := by
            have : t * G = t * (G - 1) + t := by rw [← Nat.mul_succ]; congr 1; omega
            omega
          have hDG' : D < (G - 1 + 1) * val v := by rw [show G - 1 + 1 = G by omega]; exact hlt'
          simp only [eG]
          refine ⟨fun hr => ⟨by first | rfl | trivial, by first | rfl | trivial, by first | rfl | trivial, G - 1, rfl, ?_, hDG', ?_⟩, fun hr => ⟨by first | rfl | trivial, by first | rfl | trivial, by first | rfl | trivial, ⟨G - 1, R + t, rfl, rfl, hGR', ?_, hDG'⟩, ?_⟩⟩
          · have hr' : ¬ (((R + t : Nat) : Int) / 4294967296 = 0) := by simpa using hr
            refine Nat.lt_of_mul_lt_mul_left (a := t) ?_
            omega
          · have hr' : ¬ (((R + t : Nat) : Int) / 4294967296 = 0) := by simpa using hr
            have hg1 : G - 1 < 4294967296 := by
              refine Nat.lt_of_mul_lt_mul_left (a := t) ?_
              omega
            have hc1 : (G - 1) * s ≤ (R + t) * 4294967296 + th := by
              have h1 : (G - 1) * s ≤ 4294967296 * 4294967296 := Nat.mul_le_mul (by omega) (by omega)
              have h2 : 4294967296 * 4294967296 ≤ (R + t) * 4294967296 := Nat.mul_le_mul_right _ (by omega)
              omega
            rw [hDq, hV]
            exact est_exit hGR' ht hlv hg1 hc1
          · have hr' : ((R + t : Nat) : Int) / 4294967296 = 0 := by simpa using hr
            omega
          · show ((G - 1 : Nat) : Int).toNat < (G : Int).toNat
            omega
        · simp only [decide_eq_false_iff_not, Int.ofNat_lt] at hc
          rw [hDq, hV]
          exact est_exit hGR ht hlv (by omega) (by omega)
    · rintro g ⟨G, rfl, hGW, hDG, hGD⟩
      have hvu : ∃ l, val u = l + 4294967296 ^ j * D ∧ l < 4294967296 ^ j := ⟨vt u j, by rw [← hDe]; exact vd_vt u j, vt_lt hu j⟩
      obtain ⟨l, hvu, hl⟩ := hvu
      have hz : ∀ p, j + n < p → u.getD p 0 = 0 := fun p hp => by
        refine hi_zero hu (m := j + n + 1) ?_ p (by omega)
        rw [show j + n + 1 = j + 1 + n by omega, Nat.pow_add]
        exact Nat.lt_of_lt_of_le hlt (Nat.mul_le_mul_left _ (Nat.le_of_lt hVn))
      refine ⟨fun bo c i u' q' => q' = q ∧ Lim u' ∧ u'.length = m + n ∧ ∃ C B i0 : Nat, bo = B ∧ c = C ∧ i = i0 ∧ i0 ≤ n ∧ B ≤ 1 ∧ C < 4294967296 ∧ val u' + 4294967296 ^ j * (G * vt v i0) = val u + 4294967296 ^ (j + i0) * (C + B) ∧ ∀ p, j + n < p → u'.getD p 0 = 0,
        fun _ _ i _ _ => n - i.toNat, ⟨by first | rfl | trivial, rfl, hu, hul, 0, 0, 0, rfl, rfl, rfl, by omega, by omega, by omega, by rw [vt_zero, Nat.mul_zero, Nat.mul_zero, Nat.mul_zero], hz⟩, ?_⟩
      rintro bo c i u' q' ⟨rfl, hu', hul', C, B, i, rfl, rfl, rfl, hin, hB, hC, hval, hz'⟩
      refine ⟨fun h => ?_, fun h => ?_⟩
      · simp only [decide_eq_true_eq] at h
        have ei : IntKind.wrap .i64 ((j : Int) + (i : Int)) = ((j + i : Nat) : Int) := by rw [w64 (by omega)]; omega
        have ei1 : IntKind.wrap .i64 ((i : Int) + 1) = ((i + 1 : Nat) : Int) := by rw [w64 (by omega)]; omega
        simp only [ei, ei1, Int.toNat_natCast, lm_eq hu']
        have hdl := lm_lt hvL i
        have hul2 := lm_lt hu' (j + i)
        obtain ⟨d, hde⟩ : ∃ d, lm v i = d := ⟨_, rfl⟩
        obtain ⟨ui, hui⟩ : ∃ d, lm u' (j + i) = d := ⟨_, rfl⟩
        rw [hde] at hdl
        rw [hui] at hul2
        simp only [hde, hui]
        obtain ⟨t1, lo, T2, st, B2, hlo2, hT2, hlo, t2, hst, hst2, hB2, hB3, t4⟩ := sub_step' (g := G) (d := d) (c := C) (b := B) (u := ui) hGW hdl hC hB hul2
        have hGd : G * d ≤ 4294967295 * 4294967295 := Nat.mul_le_mul (by omega) (by omega)
        have w1 : IntKind.wrap .u64 (d : Int) = (d : Int) := wu64 (by omega)
        have w2 : IntKind.wrap .u64 ((G : Int) * (d : Int)) = ((G * d : Nat) : Int) := by rw [← Int.natCast_mul, wu64 ⟨Int.natCast_nonneg _, by omega⟩]
        have w3 : IntKind.wrap .u64 ((C : Int) + ((G * d : Nat) : Int)) = ((C + G * d : Nat) : Int) := by rw [← Int.natCast_add, wu64 ⟨Int.natCast_nonneg _, by omega⟩]
        have w4 := andu64 t1
        rw [hlo2] at w4
        have w5 : ((C + G * d : Nat) : Int).fdiv 4294967296 = (((C + G * d) / 4294967296 : Nat) : Int) := by rw [Int.fdiv_eq_ediv_of_nonneg _ (by omega), Int.natCast_ediv]; rfl
        obtain ⟨x1, x2⟩ := xs (u := (ui : Int)) (l := (lo : Int)) (b := (B : Int)) (by omega) (by omega) (by omega)
        rw [hB2] at x1
        rw [hst] at x2
        rw [hT2] at w5
        simp only [w1, w2, w3, w4, w5, x1, x2]
        have hvs := val_set u' (j + i) (st : Int) (by omega)
        rw [show (u'.getD (j + i) 0).toNat = ui from hui, Int.toNat_natCast] at hvs
        have hvt : vt v (i + 1) = vt v i + 4294967296 ^ i * d := by rw [vt_succ, show (v.getD i 0).toNat = d from hde]
        have hfin := sub_fin hvs hval t4
        refine ⟨by omega, by omega, by omega, by omega, by omega, by omega, by first | rfl | trivial, ⟨by first | rfl | trivial, hu'.set _ ⟨by omega, by omega⟩, by rw [List.length_set]; exact hul', T2, B2, i + 1, rfl, rfl, rfl, by omega, hB3, t2, ?_, fun p hp => ?_⟩, by show n - ((i + 1 : Nat) : Int).toNat < n - (i : Int).toNat; omega⟩
        · have e10 : 4294967296 ^ j * (G * vt v (i + 1)) = 4294967296 ^ j * (G * vt v i) + 4294967296 ^ (j + i) * (G * d) := by
            rw [hvt, Nat.mul_add, Nat.mul_add, Nat.pow_add, Nat.mul_left_comm G, Nat.mul_assoc]
          have e11 : 4294967296 ^ (j + (i + 1)) * (T2 + B2) = 4294967296 ^ (j + i) * (4294967296 * (T2 + B2)) := by
            rw [← Nat.add_assoc, Nat.pow_succ, Nat.mul_assoc]
          rw [e10, e11]; exact hfin
        · rw [getD_set, if_neg (by omega)]; exact hz' p hp
      · simp only [decide_eq_false_iff_not] at h
        obtain rfl : i = n := by omega
        rw [vt_all v (by omega)] at hval
        have hy := lm_lt hu' (j + i)
        simp only [lm_eq hu']
        obtain ⟨y, hye⟩ : ∃ y, lm u' (j + i) = y := ⟨_, rfl⟩
        rw [hye] at hy
        simp only [hye]
        obtain ⟨x1, x2⟩ := xs (u := (y : Int)) (l := (C : Int)) (b := (B : Int)) (by omega) (by omega) (by omega)
        simp only [x1, x2]
        have hvs := val_set u' (j + i) (((y : Int) - (C : Int) - (B : Int)) % 4294967296) (by omega)
        rw [show (u'.getD (j + i) 0).toNat = y from hye] at hvs
        refine ⟨by omega, by omega, by omega, by omega, fun g u'' q'' => ∃ Q : Nat, g = Q ∧ q'' = q' ∧ Dig u u'' j i (val v) Q, ⟨fun hx => ?_, fun hx => ?_⟩, ?_⟩
        · have hyc : y < C + B := by
            by_cases hc : (y : Int) - C - B < 0
            · omega
            · rw [if_neg hc] at hx; simp at hx
          rw [show (((y : Int) - (C : Int) - (B : Int)) % 4294967296) = ((y + 4294967296 - C - B : Nat) : Int) by omega] at hvs
          simp only [show (((y : Int) - (C : Int) - (B : Int)) % 4294967296) = ((y + 4294967296 - C - B : Nat) : Int) by omega]
          rw [Int.toNat_natCast] at hvs
          have hu2L : Lim (u'.set (j + i) ((y + 4294967296 - C - B : Nat) : Int)) := hu'.set _ ⟨by omega, by omega⟩
          have hu2l : (u'.set (j + i) ((y + 4294967296 - C - B : Nat) : Int)).length = m + i := by rw [List.length_set]; exact hul'
          have hz2 : ∀ p, j + i < p → (u'.set (j + i) ((y + 4294967296 - C - B : Nat) : Int)).getD p 0 = 0 := fun p hp => by
            rw [getD_set, if_neg (by omega)]; exact hz' p hp
          obtain ⟨u2, hu2⟩ : ∃ u2, u'.set (j + i) ((y + 4294967296 - C - B : Nat) : Int) = u2 := ⟨_, rfl⟩
          rw [hu2] at hvs hu2L hu2l hz2
          simp only [hu2]
          have hv2 : val u2 < 4294967296 ^ (j + i) * 4294967296 := by rw [← Nat.pow_succ]; exact val_hi hu2L (m := j + i + 1) fun p hp => hz2 p (by omega)
          obtain ⟨g3, g1, g7, g6, g5⟩ := dig_neg hval hvs hyc (by omega) hv2 hvu hGD
          have eG : IntKind.wrap .u64 ((G : Int) - 1) = ((G - 1 : Nat) : Int) := by rw [wu64 (by omega)]; omega
          simp only [eG]
          refine ⟨fun c i3 u3 q3 => q3 = q' ∧ Lim u3 ∧ u3.length = m + i ∧ ∃ C3 i0 : Nat, c = C3 ∧ i3 = i0 ∧ i0 ≤ i ∧ C3 ≤ 1 ∧ val u3 + 4294967296 ^ (j + i0) * C3 = val u2 + 4294967296 ^ j * vt v i0 ∧ ∀ p, j + i < p → u3.getD p 0 = 0, fun _ i3 _ _ => i - i3.toNat,
            ⟨by first | rfl | trivial, by first | rfl | trivial, hu2L, hu2l, 0, 0, rfl, rfl, by omega, by omega, by rw [vt_zero, Nat.mul_zero, Nat.mul_zero], hz2⟩, ?_⟩
          rintro c i3 u3 q3 ⟨rfl, hu3, hu3l, C3, i3, rfl, rfl, hi3, hC3, hval3, hz3⟩
          refine ⟨fun h3 => ?_, fun h3 => ?_⟩
          · simp only [decide_eq_true_eq] at h3
            have ej : IntKind.wrap .i64 ((j : Int) + (i3 : Int)) = ((j + i3 : Nat) : Int) := by rw [w64 (by omega)]; omega
            have ej1 : IntKind.wrap .i64 ((i3 : Int) + 1) = ((i3 + 1 : Nat) : Int) := by rw [w64 (by omega)]; omega
            simp only [ej, ej1, Int.toNat_natCast, lm_eq hu3]
            have hdl := lm_lt hvL i3
            have hul2 := lm_lt hu3 (j + i3)
            obtain ⟨d, hde⟩ : ∃ d, lm v i3 = d := ⟨_, rfl⟩
            obtain ⟨ui, hui⟩ : ∃ d, lm u3 (j + i3) = d := ⟨_, rfl⟩
            rw [hde] at hdl
            rw [hui] at hul2
            simp only [hde, hui]
            have w1 : IntKind.wrap .u64 (C3 + IntKind.wrap .u64 (IntKind.wrap .u64 (ui : Int) + IntKind.wrap .u64 (d : Int))) = ((C3 + (ui + d) : Nat) : Int) := by
              rw [wu64 (x := (d : Int)) (by omega), wu64 (x := (ui : Int)) (by omega), wu64 (x := (ui : Int) + (d : Int)) (by omega), wu64 (by omega)]; omega
            have w2 : ((C3 + (ui + d) : Nat) : Int).fdiv 4294967296 = (((C3 + (ui + d)) / 4294967296 : Nat) : Int) := by rw [Int.fdiv_eq_ediv_of_nonneg _ (by omega), Int.natCast_ediv]; rfl
            have w3 : IntKind.wrap .u32 ((C3 + (ui + d) : Nat) : Int) = (((C3 + (ui + d)) % 4294967296 : Nat) : Int) := by rw [wu32m]; omega
            simp only [w1, w2, w3]
            have hst : (C3 + (ui + d)) % 4294967296 < 4294967296 := Nat.mod_lt _ (by decide)
            have hvs3 := val_set u3 (j + i3) (((C3 + (ui + d)) % 4294967296 : Nat) : Int) (by omega)
            rw [show (u3.getD (j + i3) 0).toNat = ui from hui, Int.toNat_natCast] at hvs3
            have hvt : vt v (i3 + 1) = vt v i3 + 4294967296 ^ i3 * d := by rw [vt_succ, show (v.getD i3 0).toNat = d from hde]
            have hfin := add_fin (T := (C3 + (ui + d)) / 4294967296) (d := d) hvs3 hval3 (by omega)
            refine ⟨by omega, by omega, by omega, by omega, by omega, by omega, by first | rfl | trivial, ⟨by first | rfl | trivial, hu3.set _ ⟨by omega, by omega⟩, by rw [List.length_set]; exact hu3l, (C3 + (ui + d)) / 4294967296, i3 + 1, rfl, rfl, by omega, by omega, ?_, fun p hp => ?_⟩, by show i - ((i3 + 1 : Nat) : Int).toNat < i - (i3 : Int).toNat; omega⟩
            · have e10 : 4294967296 ^ j * vt v (i3 + 1) = 4294967296 ^ j * vt v i3 + 4294967296 ^ (j + i3) * d := by
                rw [hvt, Nat.mul_add, Nat.pow_add, Nat.mul_assoc]
              have e11 : 4294967296 ^ (j + (i3 + 1)) * ((C3 + (ui + d)) / 4294967296) = 4294967296 ^ (j + i3) * (4294967296 * ((C3 + (ui + d)) / 4294967296)) := by
                rw [← Nat.add_assoc, Nat.pow_succ, Nat.mul_assoc]
              rw [e10, e11]; exact hfin
            · rw [getD_set, if_neg (by omega)]; exact hz3 p hp
          · simp only [decide_eq_false_iff_not] at h3
            obtain rfl : i3 = i := by omega
            rw [vt_all v (by omega)] at hval3
            have hy3 := lm_lt hu3 (j + i3)
            simp only [lm_eq hu3]
            obtain ⟨y3, hy3e⟩ : ∃ y, lm u3 (j + i3) = y := ⟨_, rfl⟩
            rw [hy3e] at hy3
            simp only [hy3e]
            have hlow := vd_vt u3 (j + i3)
            have hzz : vd u3 (j + i3 + 1) = 0 := by
              have := vd_lt_of (a := u3) (i := j + i3 + 1) (V := 1) (by rw [Nat.mul_one]; exact val_hi hu3 fun p hp => hz3 p (by omega))
              omega
            rw [vd_lm, hzz, Nat.mul_zero, Nat.add_zero, hy3e] at hlow
            have hvs4 := val_set u3 (j + i3) 0 (by omega)
            rw [show (u3.getD (j + i3) 0).toNat = y3 from hy3e, show Int.toNat 0 = 0 from rfl, Nat.mul_zero, Nat.add_zero] at hvs4
            obtain ⟨k1, k2, k3⟩ := dig_back g3 g5 g6 g7 hval3 hlow (vt_lt hu3 _) hy3 hC3 hvs4
            have w1 : IntKind.wrap .u32 ((y3 : Int) + IntKind.wrap .u32 (C3 : Int)) = 0 := by
              rw [wu32 (x := (C3 : Int)) (by omega), wu32m]; omega
            simp only [w1]
            exact ⟨by omega, by omega, by omega, by omega, by first | rfl | trivial, G - 1, rfl, by first | rfl | trivial, hu3.set _ (by omega), by rw [List.length_set, hu3l, hul], by omega, k2, k3⟩
        · have hyc : C + B ≤ y := by
            by_cases hc : (y : Int) - C - B < 0
            · rw [if_pos hc] at hx; simp at hx
            · omega
          rw [show (((y : Int) - (C : Int) - (B : Int)) % 4294967296) = ((y - C - B : Nat) : Int) by omega] at hvs ⊢
          rw [Int.toNat_natCast] at hvs
          obtain ⟨f1, f2⟩ := dig_pos hval hvs hyc hvu hl hDG
          exact ⟨by first | rfl | trivial, G, rfl, rfl, hu'.set _ ⟨by omega, by omega⟩, by rw [List.length_set, hul', hul], hGW, f1, f2⟩
        · rintro g u'' q'' ⟨Q, rfl, rfl, hdg⟩
          have hQ := hdg.dig
          have wQ : IntKind.wrap .u32 (Q : Int) = (Q : Int) := wu32 (by omega)
          have wj : IntKind.wrap .i64 ((j : Int) - 1) = (j : Int) - 1 := w64 (by omega)
          rw [wQ, wj]
          have hqj := hqz j (by omega)
          have hqs := val_set q'' j (Q : Int) (by omega)
          rw [hqj, show Int.toNat 0 = 0 from rfl, Nat.mul_zero, Nat.add_zero, Int.toNat_natCast] at hqs
          have heq2 : val u0 = (val q'' + 4294967296 ^ j * Q) * val v + val u'' := by
            rw [heq, ← hdg.eq, Nat.add_mul, Nat.mul_assoc]; omega
          refine ⟨by omega, by omega, by first | rfl | trivial, ⟨by omega, by omega, hdg.lim, by rw [hdg.len]; exact hul, hq.set _ ⟨by omega, by omega⟩, by rw [List.length_set]; exact hql, by rw [hqs]; exact heq2, ?_, fun p hp => ?_⟩, ?_⟩
          · rw [show ((j : Int) - 1 + 1).toNat = j by omega]; exact hdg.lt
          · rw [getD_set, if_neg (by omega)]; exact hqz p (by omega)
          · show ((j : Int) - 1 + 1).toNat < ((j : Int) + 1).toNat
            omega
  · simp only [decide_eq_false_iff_not] at hj
    obtain rfl : j = -1 := by omega
    rw [show ((-1 : Int) + 1).toNat = 0 from rfl, Nat.pow_zero, Nat.one_mul] at hlt
    have hq1 : val u0 / val v = val q := by
      rw [heq, Nat.mul_comm, Nat.mul_add_div (by omega), Nat.div_eq_of_lt hlt, Nat.add_zero]
    have hq2 : val u0 % val v = val u := by
      rw [heq, Nat.mul_comm, Nat.mul_add_mod, Nat.mod_eq_of_lt hlt]
    have hR : val u / 2 ^ k = val a % val b := by rw [← hq2, ← hd2, Nat.mul_div_cancel _ (Nat.two_pow_pos k)]
    refine ⟨by omega, by omega, by omega, fun i u' q' r => u' = u ∧ q' = q ∧ Lim r ∧ r.length = n ∧ ∃ i0 : Nat, i = i0 ∧ i0 ≤ n ∧ vt r i0 = val u / 2 ^ k % 4294967296 ^ i0, fun i _ _ _ => n - i.toNat, ⟨by first | rfl | trivial, rfl, rfl, Lim.zeros _, by simp, 0, rfl, by omega, by rw [vt_zero, Nat.pow_zero, Nat.mod_one]⟩, ?_⟩
    rintro i u' q' r ⟨rfl, rfl, hr, hrl, i, rfl, hin, hvr⟩
    refine ⟨fun h => ?_, fun h => ?_⟩
    · simp only [decide_eq_true_eq] at h
      have ei1 : IntKind.wrap .i64 ((i : Int) + 1) = ((i + 1 : Nat) : Int) := by rw [w64 (by omega)]; omega
      simp only [ei1, Int.toNat_natCast, lm_eq hu, word2 (lm_lt hu (i + 1)) (lm_lt hu i), show min k 64 = k by omega]
      have p1 : (2 : Int) ^ k = ((2 ^ k : Nat) : Int) := by simp
      have w1 : Int.fdiv ((lm u' (i + 1) * 4294967296 + lm u' i : Nat) : Int) ((2 : Int) ^ k) = (((lm u' (i + 1) * 4294967296 + lm u' i) / 2 ^ k : Nat) : Int) := by
        rw [p1, Int.fdiv_eq_ediv_of_nonneg _ (Int.natCast_nonneg _), Int.natCast_ediv]
      have w2 : IntKind.wrap .u32 (((lm u' (i + 1) * 4294967296 + lm u' i) / 2 ^ k : Nat) : Int) = (((lm u' (i + 1) * 4294967296 + lm u' i) / 2 ^ k % 4294967296 : Nat) : Int) := by
        rw [wu32m, Int.natCast_emod]; rfl
      simp only [w1, w2]
      have hlimb : (lm u' (i + 1) * 4294967296 + lm u' i) / 2 ^ k % 4294967296 = val u' / 2 ^ k / 4294967296 ^ i % 4294967296 := by
        rw [unshift_limb (A := vd u' (i + 2)) hk32, ← vd_lm, ← vd_lm, ← vd_div hu i, Nat.div_div_eq_div_mul, Nat.div_div_eq_div_mul, Nat.mul_comm]
      rw [hlimb]
      have hX : val u' / 2 ^ k / 4294967296 ^ i % 4294967296 < 4294967296 := Nat.mod_lt _ (by decide)
      refine ⟨by omega, by omega, by omega, by omega, by omega, by omega, by omega, by first | rfl | trivial, ⟨by first | rfl | trivial, by first | rfl | trivial, hr.set _ ⟨Int.natCast_nonneg _, by omega⟩, by rw [List.length_set]; exact hrl, i + 1, rfl, by omega, ?_⟩, by show n - ((i + 1 : Nat) : Int).toNat < n - (i : Int).toNat; omega⟩
      rw [vt_succ, vt_set _ _ _ _ (Nat.le_refl _), getD_set, if_pos ⟨rfl, by omega⟩, Int.toNat_natCast, hvr, Nat.pow_succ, Nat.mod_mul]
    · simp only [decide_eq_false_iff_not] at h
      obtain rfl : i = n := by omega
      rw [vt_all r (by omega), Nat.mod_eq_of_lt (Nat.lt_of_le_of_lt (Nat.div_le_self _ _) (Nat.lt_trans hlt hVn)), hR] at hvr
      refine ⟨⟨hq, by omega⟩, ?_⟩
      rintro x rfl
      refine ⟨⟨hr, by omega⟩, ?_⟩
      rintro x4 rfl
      rw [hvr, ← hq1, ← hd1]
      exact hk
end Nt
end

section
/- Verification conditions, printed. -/
open Go Go.Vc
namespace Nt
def vc_nDivMod : List Int → List Int → (TV → Prop) → Prop :=
 fun (a b : List Int) (K : TV → Prop) => (Nt.Lim a ∧ List.length a ≤ (1000000000 : Nat)) ∧ (Nt.Lim b ∧ List.length b ≤ (1000000000 : Nat)) ∧ (decide ((Nat.cast : Nat → Int) (List.length (Nt.limbs
 (Nt.val b))) = (0 : Int)) = true → K (TV.tup [TV.d (AV.ints IntKind.u32 []), TV.d (AV.ints IntKind.u32 []), TV.d (AV.int IntKind.i64 (3 : Int))])) ∧ (decide ((Nat.cast : Nat → Int) (List.length
 (Nt.limbs (Nt.val b))) = (0 : Int)) = false → (Nt.Few (Nt.limbs (Nt.val a)) ∧ Nt.Few (Nt.limbs (Nt.val b))) ∧ (decide (Nt.cmp (Nt.val (Nt.limbs (Nt.val a))) (Nt.val (Nt.limbs (Nt.val b))) < (0 : Int))
 = true → List.length (Nt.limbs (Nt.val a)) ≤ (100000000 : Nat) ∧ K (TV.tup [TV.d (AV.ints IntKind.u32 []), TV.d (AV.ints IntKind.u32 (Nt.limbs (Nt.val a))), TV.d (AV.int IntKind.i64 (0 : Int))])) ∧
 (decide (Nt.cmp (Nt.val (Nt.limbs (Nt.val a))) (Nt.val (Nt.limbs (Nt.val b))) < (0 : Int)) = false → (decide ((Nat.cast : Nat → Int) (List.length (Nt.limbs (Nt.val b))) = (1 : Int)) = true → (0 : Int)
 ≤ (0 : Int) ∧ (0 : Int) < (Nat.cast : Nat → Int) (List.length (Nt.limbs (Nt.val b))) ∧ (Nt.Few (Nt.limbs (Nt.val a)) ∧ Nt.L (List.getD (Nt.limbs (Nt.val b)) (0 : Nat) (0 : Int)) ∧ (0 : Int) <
 List.getD (Nt.limbs (Nt.val b)) (0 : Nat) (0 : Int)) ∧ ((0 : Int) ≤ IntKind.wrap IntKind.u64 ((Nat.cast : Nat → Int) (Nt.val (Nt.limbs (Nt.val a)) % Int.toNat (List.getD (Nt.limbs (Nt.val b)) (0 :
 Nat) (0 : Int)))) ∧ IntKind.wrap IntKind.u64 ((Nat.cast : Nat → Int) (Nt.val (Nt.limbs (Nt.val a)) % Int.toNat (List.getD (Nt.limbs (Nt.val b)) (0 : Nat) (0 : Int)))) < (18446744073709551616 : Int)) ∧
 K (TV.tup [TV.d (AV.ints IntKind.u32 (Nt.limbs (Nt.val (Nt.limbs (Nt.val a)) / Int.toNat (List.getD (Nt.limbs (Nt.val b)) (0 : Nat) (0 : Int))))), TV.d (AV.ints IntKind.u32 (Nt.limbs (Int.toNat
 (IntKind.wrap IntKind.u64 ((Nat.cast : Nat → Int) (Nt.val (Nt.limbs (Nt.val a)) % Int.toNat (List.getD (Nt.limbs (Nt.val b)) (0 : Nat) (0 : Int)))))))), TV.d (AV.int IntKind.i64 (0 : Int))])) ∧
 (decide ((Nat.cast : Nat → Int) (List.length (Nt.limbs (Nt.val b))) = (1 : Int)) = false → (Nt.Few (Nt.limbs (Nt.val a)) ∧ Nt.Few (Nt.limbs (Nt.val b)) ∧ Nt.Norm (Nt.limbs (Nt.val a)) ∧ Nt.Norm
 (Nt.limbs (Nt.val b)) ∧ (2 : Nat) ≤ List.length (Nt.limbs (Nt.val b)) ∧ Nt.val (Nt.limbs (Nt.val b)) ≤ Nt.val (Nt.limbs (Nt.val a))) ∧ K (TV.tup [TV.d (AV.ints IntKind.u32 (Nt.limbs (Nt.val (Nt.limbs
 (Nt.val a)) / Nt.val (Nt.limbs (Nt.val b))))), TV.d (AV.ints IntKind.u32 (Nt.limbs (Nt.val (Nt.limbs (Nt.val a)) % Nt.val (Nt.limbs (Nt.val b))))), TV.d (AV.int IntKind.i64 (0 : Int))]))))

end Nt
end

section
/- NtN: the proof of the verification condition of DivMod. -/
open Go Go.Vc
namespace Nt
theorem p_nDivMod (a b : List Int) (K : TV → Prop) (h : cDivMod.T [.d (.ints .u32 a), .d (.ints .u32 b)] K) : vc_nDivMod a b K := by
  obtain ⟨⟨ha, hb⟩, hk⟩ := h
  have hal := few_len ha
  have hbl := few_len hb
  have ha2 := ha.2
  have hb2 := hb.2
  unfold vc_nDivMod
  simp only [val_limbs]
  refine ⟨⟨ha.1, by omega⟩, ⟨hb.1, by omega⟩, fun h => ?_, fun h => ?_⟩
  · simp only [decide_eq_true_eq] at h
    have h0 : val b = 0 := limbs0 (by omega)
    simp only [h0, if_true] at hk; exact hk
  · simp only [decide_eq_false_iff_not] at h
    have h0 : val b ≠ 0 := fun e => h (by rw [e, limbs_zero]; rfl)
    simp only [if_neg h0] at hk
    refine ⟨⟨⟨limbs_lim _, by omega⟩, ⟨limbs_lim _, by omega⟩⟩, fun h1 => ⟨by omega, ?_⟩, fun h1 => ⟨fun h2 => ?_, fun h2 => ?_⟩⟩
    · simp only [decide_eq_true_eq] at h1
      have hlt : val a < val b := by
        unfold cmp at h1
        split at h1
        · assumption
        · split at h1 <;> omega
      rw [Nat.div_eq_of_lt hlt, Nat.mod_eq_of_lt hlt, limbs_zero] at hk; exact hk
    · simp only [decide_eq_true_eq] at h2
      have hB : ((limbs (val b)).getD 0 0).toNat = val b := by
        have := vt_all (limbs (val b)) (i := 1) (by omega)
        rw [vt_succ, vt_zero, val_limbs] at this
        simpa using this
      have hB' := limbs_lim (val b) 0
      rw [hB]
      have hm : val a % val b < val b := Nat.mod_lt _ (by omega)
      rw [wu64 (by omega), Int.toNat_natCast]
      exact ⟨by omega, by omega, ⟨⟨limbs_lim _, by omega⟩, hB', by omega⟩, ⟨by omega, by omega⟩, hk⟩
    · simp only [decide_eq_false_iff_not] at h1 h2
      have hge : val b ≤ val a := by
        unfold cmp at h1
        split at h1
        · exact absurd (by decide) h1
        · omega
      exact ⟨⟨⟨limbs_lim _, by omega⟩, ⟨limbs_lim _, by omega⟩, limbs_norm _, limbs_norm _, by omega, hge⟩, hk⟩
end Nt
end

section
/- Verification conditions, printed. -/
open Go Go.Vc
namespace Nt

def vc_nGCD : List Int → List Int → (TV → Prop) → Prop :=
 fun (a b : List Int) (K : TV → Prop) => Nt.Few a ∧ ∀ (x : List Int), x = Nt.limbs (Nt.val a) → Nt.Few b ∧ ∀ (x_1 : List Int), x_1 = Nt.limbs (Nt.val b) → ∃ (I : List Int → List Int → Prop), ∃ (m :
 List Int → List Int → Nat), I x x_1 ∧ ∀ (v0 v1 : List Int), I v0 v1 → (decide ((2 : Int) < (Nat.cast : Nat → Int) (List.length v0)) = true → (decide ((Nat.cast : Nat → Int) (List.length v1) = (0 :
 Int)) = true → K (TV.d (AV.ints IntKind.u32 v0))) ∧ (decide ((Nat.cast : Nat → Int) (List.length v1) = (0 : Int)) = false → (Nt.Few v0 ∧ Nt.Few v1) ∧ ∀ (x : List Int), (x = if Nt.val v1 = (0 : Nat)
 then [] else Nt.limbs (Nt.val v0 / Nt.val v1)) → ∀ (x : List Int), (x = if Nt.val v1 = (0 : Nat) then [] else Nt.limbs (Nt.val v0 % Nt.val v1)) → ∀ (x_2 : Int), (x_2 = if Nt.val v1 = (0 : Nat) then (3
 : Int) else (0 : Int)) → I v1 x ∧ m v1 x < m v0 v1)) ∧ (decide ((2 : Int) < (Nat.cast : Nat → Int) (List.length v0)) = false → (decide ((2 : Int) < (Nat.cast : Nat → Int) (List.length v1)) = true →
 (decide ((Nat.cast : Nat → Int) (List.length v1) = (0 : Int)) = true → K (TV.d (AV.ints IntKind.u32 v0))) ∧ (decide ((Nat.cast : Nat → Int) (List.length v1) = (0 : Int)) = false → (Nt.Few v0 ∧ Nt.Few
 v1) ∧ ∀ (x : List Int), (x = if Nt.val v1 = (0 : Nat) then [] else Nt.limbs (Nt.val v0 / Nt.val v1)) → ∀ (x : List Int), (x = if Nt.val v1 = (0 : Nat) then [] else Nt.limbs (Nt.val v0 % Nt.val v1)) →
 ∀ (x_2 : Int), (x_2 = if Nt.val v1 = (0 : Nat) then (3 : Int) else (0 : Int)) → I v1 x ∧ m v1 x < m v0 v1)) ∧ (decide ((2 : Int) < (Nat.cast : Nat → Int) (List.length v1)) = false → (Nt.Lim v0 ∧
 List.length v0 ≤ (2 : Nat)) ∧ ∀ (x : Int), x = (Nat.cast : Nat → Int) (Nt.val v0) → (Nt.Lim v1 ∧ List.length v1 ≤ (2 : Nat)) ∧ ∀ (x_2 : Int), x_2 = (Nat.cast : Nat → Int) (Nt.val v1) → ∃ (I : Int →
 Int → Prop), ∃ (m : Int → Int → Nat), I x x_2 ∧ ∀ (v8 v9 : Int), I v8 v9 → ((!decide (v9 = (0 : Int))) = true → ¬v9 = (0 : Int) ∧ I v9 (Int.tmod v8 v9) ∧ m v9 (Int.tmod v8 v9) < m v8 v9) ∧ ((!decide
 (v9 = (0 : Int))) = false → ((0 : Int) ≤ v8 ∧ v8 < (18446744073709551616 : Int)) ∧ ∀ (x : List Int), x = Nt.limbs (Int.toNat v8) → K (TV.d (AV.ints IntKind.u32 x)))))

def vc_nrefTrim : List Int → (OB → Prop) → Prop :=
 fun (a : List Int) (K : OB → Prop) => ∃ (I : Int → Prop), ∃ (m : Int → Nat), I ((Nat.cast : Nat → Int) (List.length a)) ∧ ∀ (v3 : Int), I v3 → (decide ((0 : Int) < v3) = true → (0 : Int) ≤
 IntKind.wrap IntKind.i64 (v3 - (1 : Int)) ∧ IntKind.wrap IntKind.i64 (v3 - (1 : Int)) < (Nat.cast : Nat → Int) (List.length a) ∧ (decide (List.getD a (Int.toNat (IntKind.wrap IntKind.i64 (v3 - (1 :
 Int)))) (0 : Int) = (0 : Int)) = true → I (IntKind.wrap IntKind.i64 (v3 - (1 : Int))) ∧ m (IntKind.wrap IntKind.i64 (v3 - (1 : Int))) < m v3) ∧ (decide (List.getD a (Int.toNat (IntKind.wrap
 IntKind.i64 (v3 - (1 : Int)))) (0 : Int) = (0 : Int)) = false → (0 : Int) ≤ v3 ∧ v3 ≤ (Nat.cast : Nat → Int) (List.length a) ∧ (Nat.cast : Nat → Int) (List.length (List.take (Int.toNat v3) a)) * (4 :
 Int) ≤ (70368744177664 : Int) ∧ K (OB.ints IntKind.u32 (List.take (Int.toNat v3) a)))) ∧ (decide ((0 : Int) < v3) = false → (0 : Int) ≤ v3 ∧ v3 ≤ (Nat.cast : Nat → Int) (List.length a) ∧ (Nat.cast :
 Nat → Int) (List.length (List.take (Int.toNat v3) a)) * (4 : Int) ≤ (70368744177664 : Int) ∧ K (OB.ints IntKind.u32 (List.take (Int.toNat v3) a)))

def vc_nrefCmp : List Int → List Int → (TV → Prop) → Prop :=
 fun (a b : List Int) (K : TV → Prop) => Nt.Few a ∧ Nt.Few b ∧ ((!decide ((Nat.cast : Nat → Int) (List.length (Nt.limbs (Nt.val a))) = (Nat.cast : Nat → Int) (List.length (Nt.limbs (Nt.val b))))) =
 true → (decide ((Nat.cast : Nat → Int) (List.length (Nt.limbs (Nt.val a))) < (Nat.cast : Nat → Int) (List.length (Nt.limbs (Nt.val b)))) = true → K (TV.d (AV.int IntKind.i64 (-1 : Int)))) ∧ (decide
 ((Nat.cast : Nat → Int) (List.length (Nt.limbs (Nt.val a))) < (Nat.cast : Nat → Int) (List.length (Nt.limbs (Nt.val b)))) = false → K (TV.d (AV.int IntKind.i64 (1 : Int))))) ∧ ((!decide ((Nat.cast :
 Nat → Int) (List.length (Nt.limbs (Nt.val a))) = (Nat.cast : Nat → Int) (List.length (Nt.limbs (Nt.val b))))) = false → ∃ (I : Int → Prop), ∃ (m : Int → Nat), ((false, OB.ints IntKind.u32 (Nt.limbs
 (Nt.val a))) = (false, OB.ints IntKind.u32 (Nt.limbs (Nt.val a))) ∧ (false, OB.ints IntKind.u32 (Nt.limbs (Nt.val b))) = (false, OB.ints IntKind.u32 (Nt.limbs (Nt.val b))) ∧ I (IntKind.wrap
 IntKind.i64 ((Nat.cast : Nat → Int) (List.length (Nt.limbs (Nt.val a))) - (1 : Int)))) ∧ ∀ (v5 : Int), I v5 → (decide ((0 : Int) ≤ v5) = true → (0 : Int) ≤ v5 ∧ v5 < (Nat.cast : Nat → Int)
 (List.length (Nt.limbs (Nt.val a))) ∧ (0 : Int) ≤ v5 ∧ v5 < (Nat.cast : Nat → Int) (List.length (Nt.limbs (Nt.val b))) ∧ (decide (List.getD (Nt.limbs (Nt.val a)) (Int.toNat v5) (0 : Int) < List.getD
 (Nt.limbs (Nt.val b)) (Int.toNat v5) (0 : Int)) = true → K (TV.d (AV.int IntKind.i64 (-1 : Int)))) ∧ (decide (List.getD (Nt.limbs (Nt.val a)) (Int.toNat v5) (0 : Int) < List.getD (Nt.limbs (Nt.val b))
 (Int.toNat v5) (0 : Int)) = false → (0 : Int) ≤ v5 ∧ v5 < (Nat.cast : Nat → Int) (List.length (Nt.limbs (Nt.val a))) ∧ (0 : Int) ≤ v5 ∧ v5 < (Nat.cast : Nat → Int) (List.length (Nt.limbs (Nt.val b)))
 ∧ (decide (List.getD (Nt.limbs (Nt.val b)) (Int.toNat v5) (0 : Int) < List.getD (Nt.limbs (Nt.val a)) (Int.toNat v5) (0 : Int)) = true → K (TV.d (AV.int IntKind.i64 (1 : Int)))) ∧ (decide (List.getD
 (Nt.limbs (Nt.val b)) (Int.toNat v5) (0 : Int) < List.getD (Nt.limbs (Nt.val a)) (Int.toNat v5) (0 : Int)) = false → (false, OB.ints IntKind.u32 (Nt.limbs (Nt.val a))) = (false, OB.ints IntKind.u32
 (Nt.limbs (Nt.val a))) ∧ (false, OB.ints IntKind.u32 (Nt.limbs (Nt.val b))) = (false, OB.ints IntKind.u32 (Nt.limbs (Nt.val b))) ∧ I (IntKind.wrap IntKind.i64 (v5 - (1 : Int))) ∧ m (IntKind.wrap
 IntKind.i64 (v5 - (1 : Int))) < m v5))) ∧ (decide ((0 : Int) ≤ v5) = false → K (TV.d (AV.int IntKind.i64 (0 : Int)))))

def vc_nrefshort : List Int → Int → (TV → Prop) → Prop :=
 fun (a : List Int) (d : Int) (K : TV → Prop) => (0 : Int) ≤ (Nat.cast : Nat → Int) (List.length a) ∧ (Nat.cast : Nat → Int) (List.length a) ≤ (Nat.cast : Nat → Int) (List.length a) ∧ (Nat.cast : Nat →
 Int) (List.length a) * (4 : Int) ≤ (281474976710656 : Int) ∧ ∃ (I : Int → Int → List Int → Prop), ∃ (m : Int → Int → List Int → Nat), I (0 : Int) (IntKind.wrap IntKind.i64 ((Nat.cast : Nat → Int)
 (List.length a) - (1 : Int))) (List.replicate (Int.toNat ((Nat.cast : Nat → Int) (List.length a))) (0 : Int)) ∧ ∀ (v7 v8 : Int) (o0 : List Int), I v7 v8 o0 → (decide ((0 : Int) ≤ v8) = true → (0 :
 Int) ≤ v8 ∧ v8 < (Nat.cast : Nat → Int) (List.length a) ∧ ¬IntKind.wrap IntKind.u64 d = (0 : Int) ∧ (0 : Int) ≤ v8 ∧ v8 < (Nat.cast : Nat → Int) (List.length o0) ∧ ¬IntKind.wrap IntKind.u64 d = (0 :
 Int) ∧ I (Int.tmod (bitop BinOp.or IntKind.u64 (IntKind.wrap IntKind.u64 (v7 * (4294967296 : Int))) (IntKind.wrap IntKind.u64 (List.getD a (Int.toNat v8) (0 : Int)))) (IntKind.wrap IntKind.u64 d))
 (IntKind.wrap IntKind.i64 (v8 - (1 : Int))) (List.set o0 (Int.toNat v8) (IntKind.wrap IntKind.u32 (IntKind.wrap IntKind.u64 (Int.tdiv (bitop BinOp.or IntKind.u64 (IntKind.wrap IntKind.u64 (v7 *
 (4294967296 : Int))) (IntKind.wrap IntKind.u64 (List.getD a (Int.toNat v8) (0 : Int)))) (IntKind.wrap IntKind.u64 d))))) ∧ m (Int.tmod (bitop BinOp.or IntKind.u64 (IntKind.wrap IntKind.u64 (v7 *
 (4294967296 : Int))) (IntKind.wrap IntKind.u64 (List.getD a (Int.toNat v8) (0 : Int)))) (IntKind.wrap IntKind.u64 d)) (IntKind.wrap IntKind.i64 (v8 - (1 : Int))) (List.set o0 (Int.toNat v8)
 (IntKind.wrap IntKind.u32 (IntKind.wrap IntKind.u64 (Int.tdiv (bitop BinOp.or IntKind.u64 (IntKind.wrap IntKind.u64 (v7 * (4294967296 : Int))) (IntKind.wrap IntKind.u64 (List.getD a (Int.toNat v8) (0
 : Int)))) (IntKind.wrap IntKind.u64 d))))) < m v7 v8 o0) ∧ (decide ((0 : Int) ≤ v8) = false → Nt.Few o0 ∧ K (TV.tup [TV.d (AV.ints IntKind.u32 (Nt.limbs (Nt.val o0))), TV.d (AV.int IntKind.u32
 (IntKind.wrap IntKind.u32 v7))]))



end Nt
end

section
/- NtT: proofs of verification conditions: NaturalDivides, GCD, NaturalCommon, and of the specification's Trim, Cmp, short, DivMod by one limb. -/
open Go Go.Vc
namespace Nt



theorem gcd_step {A B : Nat} : Nat.gcd B (A % B) = Nat.gcd A B := by
  rw [Nat.gcd_comm A B, Nat.gcd_rec B A, Nat.gcd_comm]
theorem p_nGCD (a b : List Int) (K : TV → Prop) (h : cGCD.T [.d (.ints .u32 a), .d (.ints .u32 b)] K) : vc_nGCD a b K := by
  obtain ⟨⟨ha, hb⟩, hk⟩ := h
  unfold vc_nGCD
  obtain ⟨G, hG⟩ : ∃ G, Nat.gcd (val a) (val b) = G := ⟨_, rfl⟩
  rw [hG] at hk
  refine ⟨ha, ?_⟩
  rintro x rfl
  refine ⟨hb, ?_⟩
  rintro y rfl
  have hal := few_len ha
  have hbl := few_len hb
  have ha2 := ha.2
  have hb2 := hb.2
  refine ⟨fun u v => ∃ A B : Nat, u = limbs A ∧ v = limbs B ∧ Nat.gcd A B = G ∧ (limbs A).length ≤ 100000000 ∧ (limbs B).length ≤ 100000000, fun u v => val v, ⟨val a, val b, rfl, rfl, hG, by omega, by omega⟩, ?_⟩
  rintro u v ⟨A, B, rfl, rfl, hAB, hA, hB⟩
  have fA : Few (limbs A) := ⟨limbs_lim _, hA⟩
  have fB : Few (limbs B) := ⟨limbs_lim _, hB⟩
  simp only [val_limbs]
  have zero : ∀ {n : Nat}, decide ((Nat.cast : Nat → Int) (limbs n).length = 0) = true → n = 0 := fun h => by
    simp only [decide_eq_true_eq] at h
    exact limbs0 (by omega)
  have nz : ∀ {n : Nat}, decide ((Nat.cast : Nat → Int) (limbs n).length = 0) = false → n ≠ 0 := fun h e => by
    subst e
    rw [limbs_zero] at h
    simp at h
  have stop : B = 0 → K (.d (.ints .u32 (limbs A))) := fun h => by
    subst h
    rw [Nat.gcd_zero_right] at hAB
    rw [hAB]; exact hk
  have hlt : B ≠ 0 → A % B < B := fun h => Nat.mod_lt _ (by omega)
  have hlen : B ≠ 0 → (limbs (A % B)).length ≤ 100000000 := fun h => by
    refine Nat.le_trans (limbs_len.2 ?_) hB
    exact Nat.lt_trans (hlt h) (limbs_len.1 (Nat.le_refl _))
  refine ⟨fun _ => ⟨fun h => stop (zero h), fun h => ⟨⟨fA, fB⟩, ?_⟩⟩, fun h1 => ⟨fun _ => ⟨fun h => stop (zero h), fun h => ⟨⟨fA, fB⟩, ?_⟩⟩, fun h2 => ?_⟩⟩
  · have hB0 := nz h
    rintro q rfl r rfl e rfl
    rw [if_neg hB0]
    exact ⟨⟨B, A % B, rfl, rfl, by rw [gcd_step]; exact hAB, hB, hlen hB0⟩, by rw [val_limbs]; exact hlt hB0⟩
  · have hB0 := nz h
    rintro q rfl r rfl e rfl
    rw [if_neg hB0]
    exact ⟨⟨B, A % B, rfl, rfl, by rw [gcd_step]; exact hAB, hB, hlen hB0⟩, by rw [val_limbs]; exact hlt hB0⟩
  · simp only [decide_eq_false_iff_not] at h1 h2
    have p2 : (4294967296 : Nat) ^ 2 = 18446744073709551616 := by decide
    have hA2 : A < 18446744073709551616 := by rw [← p2]; exact limbs_len.1 (by omega)
    have hB2 : B < 18446744073709551616 := by rw [← p2]; exact limbs_len.1 (by omega)
    refine ⟨⟨limbs_lim _, by omega⟩, ?_⟩
    rintro x rfl
    refine ⟨⟨limbs_lim _, by omega⟩, ?_⟩
    rintro y rfl
    refine ⟨fun x y => ∃ p q : Nat, x = p ∧ y = q ∧ p < 18446744073709551616 ∧ q < 18446744073709551616 ∧ Nat.gcd p q = G, fun x y => y.toNat, ⟨A, B, rfl, rfl, hA2, hB2, hAB⟩, ?_⟩
    rintro x y ⟨p, q, rfl, rfl, hp, hq, hg⟩
    refine ⟨fun h => ?_, fun h => ?_⟩
    · have hq0 : ¬ ((q : Int) = 0) := by simpa using h
      have ht : Int.tmod (p : Int) (q : Int) = ((p % q : Nat) : Int) := by rw [Int.tmod_eq_emod_of_nonneg (by omega), Int.natCast_emod]
      have hm : p % q < q := Nat.mod_lt _ (by omega)
      rw [ht]
      refine ⟨hq0, ⟨q, p % q, rfl, rfl, hq, by omega, by rw [gcd_step]; exact hg⟩, ?_⟩
      show ((p % q : Nat) : Int).toNat < (q : Int).toNat
      rw [Int.toNat_natCast, Int.toNat_natCast]; exact hm
    · have hq0 : ((q : Int) = 0) := by simpa using h
      obtain rfl : q = 0 := by omega
      rw [Nat.gcd_zero_right] at hg
      refine ⟨⟨by omega, by omega⟩, ?_⟩
      rintro r rfl
      rw [Int.toNat_natCast, hg]; exact hk

theorem take_pred {a : List Int} {k : Nat} (hk : 0 < k) (_ : k ≤ a.length) (h : a.getD (k - 1) 0 = 0) : val (a.take (k - 1)) = val (a.take k) := by
  have := vt_succ a (k - 1)
  rw [show k - 1 + 1 = k by omega, h] at this
  unfold vt at this
  rw [this]; simp
theorem p_nrefTrim (a : List Int) (K : OB → Prop) (h : crefTrim.T [.d (.ints .u32 a)] K) : vc_nrefTrim a K := by
  obtain ⟨ha, hk⟩ := h
  have hal := ha.2
  unfold vc_nrefTrim
  refine ⟨fun i => ∃ k : Nat, i = k ∧ k ≤ a.length ∧ val (a.take k) = val a, fun i => i.toNat, ⟨a.length, rfl, Nat.le_refl _, by rw [List.take_length]⟩, ?_⟩
  rintro i ⟨k, rfl, hkl, hv⟩
  have hgd : ∀ j, j < k → (a.take k).getD j 0 = a.getD j 0 := fun j hj => by simp [List.getD_eq_getElem?_getD, hj]
  refine ⟨fun h => ?_, fun h => ?_⟩
  · simp only [decide_eq_true_eq] at h
    have e : IntKind.wrap .i64 ((k : Int) - 1) = ((k - 1 : Nat) : Int) := by rw [w64 (by omega)]; omega
    rw [e]
    simp only [Int.toNat_natCast]
    refine ⟨by omega, by omega, fun h0 => ?_, fun h0 => ⟨by omega, by omega, ?_, ?_⟩⟩
    · simp only [decide_eq_true_eq] at h0
      exact ⟨⟨k - 1, rfl, by omega, by rw [take_pred (by omega) hkl h0, hv]⟩, by show ((k - 1 : Nat) : Int).toNat < (k : Int).toNat; omega⟩
    · rw [List.length_take]; omega
    · simp only [decide_eq_false_iff_not] at h0
      rw [← limbs_val (ha.1.take k) (norm_of_last (.inr ?_)), hv]
      · exact hk
      · rw [List.length_take, Nat.min_eq_left hkl, hgd _ (by omega)]; exact h0
  · simp only [decide_eq_false_iff_not] at h
    obtain rfl : k = 0 := by omega
    simp only [Int.toNat_natCast]
    refine ⟨by omega, by omega, by rw [List.length_take]; omega, ?_⟩
    rw [← limbs_val (ha.1.take 0) (norm_of_last (.inl (by simp))), hv]; exact hk

theorem p_nrefshort (a : List Int) (d : Int) (K : TV → Prop) (h : crefshort.T [.d (.ints .u32 a), .d (.int .u32 d)] K) : vc_nrefshort a d K := by
  obtain ⟨⟨ha, hd, hd0⟩, hk⟩ := h
  have hal := ha.2
  unfold L at hd
  obtain ⟨D, rfl⟩ : ∃ D : Nat, d = D := ⟨d.toNat, by omega⟩
  simp only [Int.toNat_natCast] at hk
  unfold vc_nrefshort
  rw [Int.toNat_natCast]
  have wD : IntKind.wrap .u64 (D : Int) = D := wu64 (by omega)
  simp only [wD]
  refine ⟨by omega, by omega, by omega, fun r i o => Lim o ∧ o.length = a.length ∧ 0 ≤ r ∧ r < D ∧ -1 ≤ i ∧ i < a.length ∧ vd a (i + 1).toNat = vd o (i + 1).toNat * D + r.toNat, fun r i o => (i + 1).toNat, ⟨Lim.zeros _, by simp, by omega, by omega, ?_⟩, ?_⟩
  · rw [w64 (by omega)]
    refine ⟨by omega, by omega, ?_⟩
    rw [vd_len a (by omega), vd_len _ (by simp)]; simp
  rintro r i o ⟨ho, hol, hr0, hrd, hi0, hi1, hv⟩
  refine ⟨fun h => ?_, fun h => ?_⟩
  · simp only [decide_eq_true_eq] at h
    obtain ⟨n, rfl⟩ : ∃ n : Nat, i = n := ⟨i.toNat, by omega⟩
    simp only [Int.toNat_natCast, lm_eq ha.1]
    rw [w64 (by omega)]
    obtain ⟨R, rfl⟩ : ∃ R : Nat, r = R := ⟨r.toNat, by omega⟩
    have hx := lm_lt ha.1 n
    have hxe : (a.getD n 0).toNat = lm a n := rfl
    obtain ⟨x, hx'⟩ : ∃ x, lm a n = x := ⟨_, rfl⟩
    rw [hx'] at hx hxe
    simp only [hx', word2' (h := R) (l := x) (by omega) hx]
    have e1 : Int.tdiv ((R * 4294967296 + x : Nat) : Int) (D : Int) = (((R * 4294967296 + x) / D : Nat) : Int) := by rw [Int.tdiv_eq_ediv_of_nonneg (Int.natCast_nonneg _), Int.natCast_ediv]
    have e2 : Int.tmod ((R * 4294967296 + x : Nat) : Int) (D : Int) = (((R * 4294967296 + x) % D : Nat) : Int) := by rw [Int.tmod_eq_emod_of_nonneg (Int.natCast_nonneg _), Int.natCast_emod]
    rw [show ((n : Int) + 1).toNat = n + 1 by omega] at hv
    have hst := short_step (z := vd o (n + 1)) 4294967296 rfl (show R < D by omega) hx (by simpa using hv)
    obtain ⟨hq, hm, he⟩ := hst
    have hva : vd a n = x + 4294967296 * vd a (n + 1) := by rw [vd_step a n, hxe]
    rw [← hva] at he
    simp only [e1, e2]
    generalize (R * 4294967296 + x) / D = q at hq he ⊢
    generalize (R * 4294967296 + x) % D = m at hm he ⊢
    have w1 : IntKind.wrap .u32 (IntKind.wrap .u64 (q : Int)) = (q : Int) := by rw [wu64 (by omega), wu32 (by omega)]
    simp only [w1]
    have hset : vd (o.set n (q : Int)) n = q + 4294967296 * vd o (n + 1) := by
      rw [vd_step _ n, vd_set _ _ _ _ (by omega), getD_set, if_pos ⟨rfl, by omega⟩, Int.toNat_natCast]
    rw [← hset] at he
    refine ⟨by omega, by omega, by omega, by omega, by omega, by omega, ⟨ho.set _ ⟨by omega, by omega⟩, by simpa using hol, by omega, by omega, by omega, by omega, ?_⟩, by show (((n : Int) - 1) + 1).toNat < ((n : Int) + 1).toNat; omega⟩
    rw [show ((n : Int) - 1 + 1).toNat = n by omega, Int.toNat_natCast]
    exact he
  · simp only [decide_eq_false_iff_not] at h
    obtain rfl : i = -1 := by omega
    simp only [show ((-1 : Int) + 1).toNat = 0 from rfl, vd_all] at hv
    refine ⟨⟨ho, by omega⟩, ?_⟩
    have h1 : val a / D = val o := by
      rw [hv, Nat.mul_comm, Nat.mul_add_div (by omega), Nat.div_eq_of_lt (by omega)]; omega
    have h2 : ((val a % D : Nat) : Int) = r := by
      rw [hv, Nat.mul_comm, Nat.mul_add_mod, Nat.mod_eq_of_lt (by omega)]; omega
    rw [h1, h2] at hk
    rw [wu32 (by omega)]; exact hk
theorem p_nrefCmp (a b : List Int) (K : TV → Prop) (h : crefCmp.T [.d (.ints .u32 a), .d (.ints .u32 b)] K) : vc_nrefCmp a b K := by
  obtain ⟨⟨ha, hb⟩, hk⟩ := h
  have hal := few_len ha
  have hbl := few_len hb
  have ha2 := ha.2
  have hb2 := hb.2
  unfold vc_nrefCmp
  refine ⟨ha, hb, fun h => ⟨fun h1 => ?_, fun h1 => ?_⟩, fun h => ?_⟩
  · simp only [decide_eq_true_eq] at h1
    rw [cmp_lt (len_lt (by omega))] at hk; exact hk
  · have h2 : ¬ ((Nat.cast : Nat → Int) (limbs (val a)).length = (Nat.cast : Nat → Int) (limbs (val b)).length) := by simpa using h
    simp only [decide_eq_false_iff_not] at h1
    rw [cmp_gt (len_lt (by omega))] at hk; exact hk
  · have h2 : (Nat.cast : Nat → Int) (limbs (val a)).length = (Nat.cast : Nat → Int) (limbs (val b)).length := by simpa using h
    have hA := limbs_lim (val a)
    have hB := limbs_lim (val b)
    have hva := val_limbs (val a)
    have hvb := val_limbs (val b)
    rw [← hva, ← hvb] at hk
    generalize limbs (val a) = A at *
    generalize limbs (val b) = B at *
    refine ⟨fun i => -1 ≤ i ∧ i < A.length ∧ vd A (i + 1).toNat = vd B (i + 1).toNat, fun i => (i + 1).toNat, ⟨by first | rfl | trivial, by first | rfl | trivial, ?_⟩, ?_⟩
    · rw [w64 (by omega)]
      refine ⟨by omega, by omega, ?_⟩
      rw [vd_len A (by omega), vd_len B (by omega)]
    rintro i ⟨h3, h4, h5⟩
    refine ⟨fun h6 => ?_, fun h6 => ?_⟩
    · simp only [decide_eq_true_eq] at h6
      obtain ⟨n, rfl⟩ : ∃ n : Nat, i = n := ⟨i.toNat, by omega⟩
      rw [show ((n : Int) + 1).toNat = n + 1 by omega] at h5
      simp only [Int.toNat_natCast]
      have hx := hA n
      have hy := hB n
      refine ⟨by omega, by omega, by omega, by omega, fun h7 => ?_, fun h7 => ⟨by omega, by omega, by omega, by omega, fun h8 => ?_, fun h8 => ?_⟩⟩
      · simp only [decide_eq_true_eq] at h7
        rw [cmp_lt (vd_less n hA h5 (by omega))] at hk; exact hk
      · simp only [decide_eq_true_eq] at h8
        rw [cmp_gt (vd_less n hB h5.symm (by omega))] at hk; exact hk
      · simp only [decide_eq_false_iff_not] at h7 h8
        rw [w64 (by omega)]
        refine ⟨by first | rfl | trivial, by first | rfl | trivial, ⟨by omega, by omega, ?_⟩, by show (((n : Int) - 1) + 1).toNat < ((n : Int) + 1).toNat; omega⟩
        rw [show ((n : Int) - 1 + 1).toNat = n by omega, vd_step A n, vd_step B n, h5, show A.getD n 0 = B.getD n 0 by omega]
    · simp only [decide_eq_false_iff_not] at h6
      obtain rfl : i = -1 := by omega
      simp only [show ((-1 : Int) + 1).toNat = 0 from rfl, vd_all] at h5
      rw [h5, cmp_eq] at hk; exact hk

end Nt
end

section
/- NtU: proofs of verification conditions: the specification's DivMod by one limb, NaturalCommon. -/
open Go Go.Vc
namespace Nt



end Nt
end

section
/- Verification conditions, printed. -/
open Go Go.Vc
namespace Nt
def vc_nrefAdd : List Int → List Int → (TV → Prop) → Prop :=
 fun (a b : List Int) (K : TV → Prop) => (0 : Int) ≤ IntKind.wrap IntKind.i64 ((if (Nat.cast : Nat → Int) (List.length a) < (Nat.cast : Nat → Int) (List.length b) then (Nat.cast : Nat → Int)
 (List.length b) else (Nat.cast : Nat → Int) (List.length a)) + (1 : Int)) ∧ IntKind.wrap IntKind.i64 ((if (Nat.cast : Nat → Int) (List.length a) < (Nat.cast : Nat → Int) (List.length b) then (Nat.cast
 : Nat → Int) (List.length b) else (Nat.cast : Nat → Int) (List.length a)) + (1 : Int)) ≤ IntKind.wrap IntKind.i64 ((if (Nat.cast : Nat → Int) (List.length a) < (Nat.cast : Nat → Int) (List.length b)
 then (Nat.cast : Nat → Int) (List.length b) else (Nat.cast : Nat → Int) (List.length a)) + (1 : Int)) ∧ IntKind.wrap IntKind.i64 ((if (Nat.cast : Nat → Int) (List.length a) < (Nat.cast : Nat → Int)
 (List.length b) then (Nat.cast : Nat → Int) (List.length b) else (Nat.cast : Nat → Int) (List.length a)) + (1 : Int)) * (4 : Int) ≤ (281474976710656 : Int) ∧ ∃ (I : Int → Int → List Int → Prop), ∃ (m
 : Int → Int → List Int → Nat), I (0 : Int) (0 : Int) (List.replicate (Int.toNat (IntKind.wrap IntKind.i64 ((if (Nat.cast : Nat → Int) (List.length a) < (Nat.cast : Nat → Int) (List.length b) then
 (Nat.cast : Nat → Int) (List.length b) else (Nat.cast : Nat → Int) (List.length a)) + (1 : Int)))) (0 : Int)) ∧ ∀ (v6 v7 : Int) (o0 : List Int), I v6 v7 o0 → (decide (v7 < (Nat.cast : Nat → Int)
 (List.length o0)) = true → ∃ (J : Int → Prop), ((decide (v7 < (Nat.cast : Nat → Int) (List.length a)) = true → (0 : Int) ≤ v7 ∧ v7 < (Nat.cast : Nat → Int) (List.length a) ∧ (false, OB.ints
 IntKind.u32 o0) = (false, OB.ints IntKind.u32 o0) ∧ J (IntKind.wrap IntKind.u64 (v6 + IntKind.wrap IntKind.u64 (List.getD a (Int.toNat v7) (0 : Int))))) ∧ (decide (v7 < (Nat.cast : Nat → Int)
 (List.length a)) = false → (false, OB.ints IntKind.u32 o0) = (false, OB.ints IntKind.u32 o0) ∧ J v6)) ∧ ∀ (v6_1 : Int), J v6_1 → ∃ (J : Int → Prop), ((decide (v7 < (Nat.cast : Nat → Int) (List.length
 b)) = true → (0 : Int) ≤ v7 ∧ v7 < (Nat.cast : Nat → Int) (List.length b) ∧ (false, OB.ints IntKind.u32 o0) = (false, OB.ints IntKind.u32 o0) ∧ J (IntKind.wrap IntKind.u64 (v6_1 + IntKind.wrap
 IntKind.u64 (List.getD b (Int.toNat v7) (0 : Int))))) ∧ (decide (v7 < (Nat.cast : Nat → Int) (List.length b)) = false → (false, OB.ints IntKind.u32 o0) = (false, OB.ints IntKind.u32 o0) ∧ J v6_1)) ∧ ∀
 (v6_2 : Int), J v6_2 → (0 : Int) ≤ v7 ∧ v7 < (Nat.cast : Nat → Int) (List.length o0) ∧ I (Int.fdiv v6_2 (4294967296 : Int)) (IntKind.wrap IntKind.i64 (v7 + (1 : Int))) (List.set o0 (Int.toNat v7)
 (IntKind.wrap IntKind.u32 v6_2)) ∧ m (Int.fdiv v6_2 (4294967296 : Int)) (IntKind.wrap IntKind.i64 (v7 + (1 : Int))) (List.set o0 (Int.toNat v7) (IntKind.wrap IntKind.u32 v6_2)) < m v6 v7 o0) ∧ (decide
 (v7 < (Nat.cast : Nat → Int) (List.length o0)) = false → Nt.Few o0 ∧ K (TV.d (AV.ints IntKind.u32 (Nt.limbs (Nt.val o0)))))

def vc_nrefMul : List Int → List Int → (TV → Prop) → Prop :=
 fun (a b : List Int) (K : TV → Prop) => (0 : Int) ≤ IntKind.wrap IntKind.i64 (IntKind.wrap IntKind.i64 ((Nat.cast : Nat → Int) (List.length a) + (Nat.cast : Nat → Int) (List.length b)) + (1 : Int)) ∧
 IntKind.wrap IntKind.i64 (IntKind.wrap IntKind.i64 ((Nat.cast : Nat → Int) (List.length a) + (Nat.cast : Nat → Int) (List.length b)) + (1 : Int)) ≤ IntKind.wrap IntKind.i64 (IntKind.wrap IntKind.i64
 ((Nat.cast : Nat → Int) (List.length a) + (Nat.cast : Nat → Int) (List.length b)) + (1 : Int)) ∧ IntKind.wrap IntKind.i64 (IntKind.wrap IntKind.i64 ((Nat.cast : Nat → Int) (List.length a) + (Nat.cast
 : Nat → Int) (List.length b)) + (1 : Int)) * (4 : Int) ≤ (281474976710656 : Int) ∧ ∃ (I : Int → List Int → Prop), ∃ (m : Int → List Int → Nat), I (0 : Int) (List.replicate (Int.toNat (IntKind.wrap
 IntKind.i64 (IntKind.wrap IntKind.i64 ((Nat.cast : Nat → Int) (List.length a) + (Nat.cast : Nat → Int) (List.length b)) + (1 : Int)))) (0 : Int)) ∧ ∀ (v6 : Int) (o0 : List Int), I v6 o0 → (decide (v6
 < (Nat.cast : Nat → Int) (List.length a)) = true → ∃ (I_1 : Int → Int → List Int → Prop), ∃ (m_1 : Int → Int → List Int → Nat), I_1 (0 : Int) (0 : Int) o0 ∧ ∀ (v7 v8 : Int) (o0_1 : List Int), I_1 v7
 v8 o0_1 → (decide (v8 < (Nat.cast : Nat → Int) (List.length b)) = true → (0 : Int) ≤ v6 ∧ v6 < (Nat.cast : Nat → Int) (List.length a) ∧ (0 : Int) ≤ v8 ∧ v8 < (Nat.cast : Nat → Int) (List.length b) ∧
 (0 : Int) ≤ IntKind.wrap IntKind.i64 (v6 + v8) ∧ IntKind.wrap IntKind.i64 (v6 + v8) < (Nat.cast : Nat → Int) (List.length o0_1) ∧ (0 : Int) ≤ IntKind.wrap IntKind.i64 (v6 + v8) ∧ IntKind.wrap
 IntKind.i64 (v6 + v8) < (Nat.cast : Nat → Int) (List.length o0_1) ∧ I_1 (Int.fdiv (IntKind.wrap IntKind.u64 (IntKind.wrap IntKind.u64 (IntKind.wrap IntKind.u64 (IntKind.wrap IntKind.u64 (List.getD a
 (Int.toNat v6) (0 : Int)) * IntKind.wrap IntKind.u64 (List.getD b (Int.toNat v8) (0 : Int))) + IntKind.wrap IntKind.u64 (List.getD o0_1 (Int.toNat (IntKind.wrap IntKind.i64 (v6 + v8))) (0 : Int))) +
 v7)) (4294967296 : Int)) (IntKind.wrap IntKind.i64 (v8 + (1 : Int))) (List.set o0_1 (Int.toNat (IntKind.wrap IntKind.i64 (v6 + v8))) (IntKind.wrap IntKind.u32 (IntKind.wrap IntKind.u64 (IntKind.wrap
 IntKind.u64 (IntKind.wrap IntKind.u64 (IntKind.wrap IntKind.u64 (List.getD a (Int.toNat v6) (0 : Int)) * IntKind.wrap IntKind.u64 (List.getD b (Int.toNat v8) (0 : Int))) + IntKind.wrap IntKind.u64
 (List.getD o0_1 (Int.toNat (IntKind.wrap IntKind.i64 (v6 + v8))) (0 : Int))) + v7)))) ∧ m_1 (Int.fdiv (IntKind.wrap IntKind.u64 (IntKind.wrap IntKind.u64 (IntKind.wrap IntKind.u64 (IntKind.wrap
 IntKind.u64 (List.getD a (Int.toNat v6) (0 : Int)) * IntKind.wrap IntKind.u64 (List.getD b (Int.toNat v8) (0 : Int))) + IntKind.wrap IntKind.u64 (List.getD o0_1 (Int.toNat (IntKind.wrap IntKind.i64
 (v6 + v8))) (0 : Int))) + v7)) (4294967296 : Int)) (IntKind.wrap IntKind.i64 (v8 + (1 : Int))) (List.set o0_1 (Int.toNat (IntKind.wrap IntKind.i64 (v6 + v8))) (IntKind.wrap IntKind.u32 (IntKind.wrap
 IntKind.u64 (IntKind.wrap IntKind.u64 (IntKind.wrap IntKind.u64 (IntKind.wrap IntKind.u64 (List.getD a (Int.toNat v6) (0 : Int)) * IntKind.wrap IntKind.u64 (List.getD b (Int.toNat v8) (0 : Int))) +
 IntKind.wrap IntKind.u64 (List.getD o0_1 (Int.toNat (IntKind.wrap IntKind.i64 (v6 + v8))) (0 : Int))) + v7)))) < m_1 v7 v8 o0_1) ∧ (decide (v8 < (Nat.cast : Nat → Int) (List.length b)) = false → ∃
 (I_2 : Int → Int → List Int → Prop), ∃ (m_2 : Int → Int → List Int → Nat), I_2 v7 (IntKind.wrap IntKind.i64 (v6 + (Nat.cast : Nat → Int) (List.length b))) o0_1 ∧ ∀ (v7 v10 : Int) (o0_2 : List Int),
 I_2 v7 v10 o0_2 → (decide ((0 : Int) < v7) = true → (0 : Int) ≤ v10 ∧ v10 < (Nat.cast : Nat → Int) (List.length o0_2) ∧ (0 : Int) ≤ v10 ∧ v10 < (Nat.cast : Nat → Int) (List.length o0_2) ∧ I_2
 (Int.fdiv (IntKind.wrap IntKind.u64 (IntKind.wrap IntKind.u64 (List.getD o0_2 (Int.toNat v10) (0 : Int)) + v7)) (4294967296 : Int)) (IntKind.wrap IntKind.i64 (v10 + (1 : Int))) (List.set o0_2
 (Int.toNat v10) (IntKind.wrap IntKind.u32 (IntKind.wrap IntKind.u64 (IntKind.wrap IntKind.u64 (List.getD o0_2 (Int.toNat v10) (0 : Int)) + v7)))) ∧ m_2 (Int.fdiv (IntKind.wrap IntKind.u64
 (IntKind.wrap IntKind.u64 (List.getD o0_2 (Int.toNat v10) (0 : Int)) + v7)) (4294967296 : Int)) (IntKind.wrap IntKind.i64 (v10 + (1 : Int))) (List.set o0_2 (Int.toNat v10) (IntKind.wrap IntKind.u32
 (IntKind.wrap IntKind.u64 (IntKind.wrap IntKind.u64 (List.getD o0_2 (Int.toNat v10) (0 : Int)) + v7)))) < m_2 v7 v10 o0_2) ∧ (decide ((0 : Int) < v7) = false → I (IntKind.wrap IntKind.i64 (v6 + (1 :
 Int))) o0_2 ∧ m (IntKind.wrap IntKind.i64 (v6 + (1 : Int))) o0_2 < m v6 o0))) ∧ (decide (v6 < (Nat.cast : Nat → Int) (List.length a)) = false → Nt.Few o0 ∧ K (TV.d (AV.ints IntKind.u32 (Nt.limbs
 (Nt.val o0)))))

def vc_nrefSub : List Int → List Int → (TV → Prop) → Prop :=
 fun (a b : List Int) (K : TV → Prop) => (Nt.Few a ∧ Nt.Few b) ∧ (decide (Nt.cmp (Nt.val a) (Nt.val b) < (0 : Int)) = true → K (TV.tup [TV.d (AV.ints IntKind.u32 []), TV.d (AV.int IntKind.i64 (1 :
 Int))])) ∧ (decide (Nt.cmp (Nt.val a) (Nt.val b) < (0 : Int)) = false → Nt.Few a ∧ Nt.Few b ∧ ∃ (I : Int → Int → List Int → List Int → Prop), ∃ (m : Int → Int → List Int → List Int → Nat), I (0 : Int)
 (0 : Int) (Nt.limbs (Nt.val a)) (Nt.limbs (Nt.val b)) ∧ ∀ (v7 v8 : Int) (o0 o1 : List Int), I v7 v8 o0 o1 → (decide (v8 < (Nat.cast : Nat → Int) (List.length o0)) = true → ∃ (J : Int → Prop), ((decide
 (v8 < (Nat.cast : Nat → Int) (List.length o1)) = true → (0 : Int) ≤ v8 ∧ v8 < (Nat.cast : Nat → Int) (List.length o1) ∧ (false, OB.ints IntKind.u32 o0) = (false, OB.ints IntKind.u32 o0) ∧ (false,
 OB.ints IntKind.u32 o1) = (false, OB.ints IntKind.u32 o1) ∧ J (IntKind.wrap IntKind.u64 (v7 + IntKind.wrap IntKind.u64 (List.getD o1 (Int.toNat v8) (0 : Int))))) ∧ (decide (v8 < (Nat.cast : Nat → Int)
 (List.length o1)) = false → (false, OB.ints IntKind.u32 o0) = (false, OB.ints IntKind.u32 o0) ∧ (false, OB.ints IntKind.u32 o1) = (false, OB.ints IntKind.u32 o1) ∧ J v7)) ∧ ∀ (v9 : Int), J v9 → (0 :
 Int) ≤ v8 ∧ v8 < (Nat.cast : Nat → Int) (List.length o0) ∧ (decide (IntKind.wrap IntKind.u64 (List.getD o0 (Int.toNat v8) (0 : Int)) < v9) = true → (0 : Int) ≤ v8 ∧ v8 < (Nat.cast : Nat → Int)
 (List.length o0) ∧ I (1 : Int) (IntKind.wrap IntKind.i64 (v8 + (1 : Int))) (List.set o0 (Int.toNat v8) (IntKind.wrap IntKind.u32 (IntKind.wrap IntKind.u64 (IntKind.wrap IntKind.u64 (IntKind.wrap
 IntKind.u64 (List.getD o0 (Int.toNat v8) (0 : Int)) + (4294967296 : Int)) - v9)))) o1 ∧ m (1 : Int) (IntKind.wrap IntKind.i64 (v8 + (1 : Int))) (List.set o0 (Int.toNat v8) (IntKind.wrap IntKind.u32
 (IntKind.wrap IntKind.u64 (IntKind.wrap IntKind.u64 (IntKind.wrap IntKind.u64 (List.getD o0 (Int.toNat v8) (0 : Int)) + (4294967296 : Int)) - v9)))) o1 < m v7 v8 o0 o1) ∧ (decide (IntKind.wrap
 IntKind.u64 (List.getD o0 (Int.toNat v8) (0 : Int)) < v9) = false → (0 : Int) ≤ v8 ∧ v8 < (Nat.cast : Nat → Int) (List.length o0) ∧ I (0 : Int) (IntKind.wrap IntKind.i64 (v8 + (1 : Int))) (List.set o0
 (Int.toNat v8) (IntKind.wrap IntKind.u32 (IntKind.wrap IntKind.u64 (IntKind.wrap IntKind.u64 (List.getD o0 (Int.toNat v8) (0 : Int)) - v9)))) o1 ∧ m (0 : Int) (IntKind.wrap IntKind.i64 (v8 + (1 :
 Int))) (List.set o0 (Int.toNat v8) (IntKind.wrap IntKind.u32 (IntKind.wrap IntKind.u64 (IntKind.wrap IntKind.u64 (List.getD o0 (Int.toNat v8) (0 : Int)) - v9)))) o1 < m v7 v8 o0 o1)) ∧ (decide (v8 <
 (Nat.cast : Nat → Int) (List.length o0)) = false → Nt.Few o0 ∧ K (TV.tup [TV.d (AV.ints IntKind.u32 (Nt.limbs (Nt.val o0))), TV.d (AV.int IntKind.i64 (0 : Int))])))

def vc_nrefshift : List Int → Int → (OB → Prop) → Prop :=
 fun (a : List Int) (k : Int) (K : OB → Prop) => (0 : Int) ≤ IntKind.wrap IntKind.i64 ((Nat.cast : Nat → Int) (List.length a) + (1 : Int)) ∧ IntKind.wrap IntKind.i64 ((Nat.cast : Nat → Int)
 (List.length a) + (1 : Int)) ≤ IntKind.wrap IntKind.i64 ((Nat.cast : Nat → Int) (List.length a) + (1 : Int)) ∧ IntKind.wrap IntKind.i64 ((Nat.cast : Nat → Int) (List.length a) + (1 : Int)) * (4 : Int)
 ≤ (281474976710656 : Int) ∧ ∃ (I : Int → Int → List Int → Prop), ∃ (m : Int → Int → List Int → Nat), I (0 : Int) (0 : Int) (List.replicate (Int.toNat (IntKind.wrap IntKind.i64 ((Nat.cast : Nat → Int)
 (List.length a) + (1 : Int)))) (0 : Int)) ∧ ∀ (v6 v7 : Int) (o0 : List Int), I v6 v7 o0 → (decide (v7 < (Nat.cast : Nat → Int) (List.length a)) = true → (0 : Int) ≤ v7 ∧ v7 < (Nat.cast : Nat → Int)
 (List.length a) ∧ (0 : Int) ≤ IntKind.wrap IntKind.u64 k ∧ (0 : Int) ≤ v7 ∧ v7 < (Nat.cast : Nat → Int) (List.length o0) ∧ I (Int.fdiv (bitop BinOp.or IntKind.u64 (IntKind.wrap IntKind.u64
 (IntKind.wrap IntKind.u64 (List.getD a (Int.toNat v7) (0 : Int)) * (2 : Int) ^ min (Int.toNat (IntKind.wrap IntKind.u64 k)) (64 : Nat))) v6) (4294967296 : Int)) (IntKind.wrap IntKind.i64 (v7 + (1 :
 Int))) (List.set o0 (Int.toNat v7) (IntKind.wrap IntKind.u32 (bitop BinOp.or IntKind.u64 (IntKind.wrap IntKind.u64 (IntKind.wrap IntKind.u64 (List.getD a (Int.toNat v7) (0 : Int)) * (2 : Int) ^ min
 (Int.toNat (IntKind.wrap IntKind.u64 k)) (64 : Nat))) v6))) ∧ m (Int.fdiv (bitop BinOp.or IntKind.u64 (IntKind.wrap IntKind.u64 (IntKind.wrap IntKind.u64 (List.getD a (Int.toNat v7) (0 : Int)) * (2 :
 Int) ^ min (Int.toNat (IntKind.wrap IntKind.u64 k)) (64 : Nat))) v6) (4294967296 : Int)) (IntKind.wrap IntKind.i64 (v7 + (1 : Int))) (List.set o0 (Int.toNat v7) (IntKind.wrap IntKind.u32 (bitop
 BinOp.or IntKind.u64 (IntKind.wrap IntKind.u64 (IntKind.wrap IntKind.u64 (List.getD a (Int.toNat v7) (0 : Int)) * (2 : Int) ^ min (Int.toNat (IntKind.wrap IntKind.u64 k)) (64 : Nat))) v6))) < m v6 v7
 o0) ∧ (decide (v7 < (Nat.cast : Nat → Int) (List.length a)) = false → (0 : Int) ≤ (Nat.cast : Nat → Int) (List.length a) ∧ (Nat.cast : Nat → Int) (List.length a) < (Nat.cast : Nat → Int) (List.length
 o0) ∧ K (OB.ints IntKind.u32 (List.set o0 (Int.toNat ((Nat.cast : Nat → Int) (List.length a))) (IntKind.wrap IntKind.u32 v6))))

def vc_nrefunshift : List Int → Int → (TV → Prop) → Prop :=
 fun (a : List Int) (k : Int) (K : TV → Prop) => (0 : Int) ≤ (Nat.cast : Nat → Int) (List.length a) ∧ (Nat.cast : Nat → Int) (List.length a) ≤ (Nat.cast : Nat → Int) (List.length a) ∧ (Nat.cast : Nat →
 Int) (List.length a) * (4 : Int) ≤ (281474976710656 : Int) ∧ ∃ (I : Int → List Int → Prop), ∃ (m : Int → List Int → Nat), I (0 : Int) (List.replicate (Int.toNat ((Nat.cast : Nat → Int) (List.length
 a))) (0 : Int)) ∧ ∀ (v6 : Int) (o0 : List Int), I v6 o0 → (decide (v6 < (Nat.cast : Nat → Int) (List.length a)) = true → (0 : Int) ≤ v6 ∧ v6 < (Nat.cast : Nat → Int) (List.length a) ∧ ∃ (J : Int →
 Prop), ((decide (IntKind.wrap IntKind.i64 (v6 + (1 : Int)) < (Nat.cast : Nat → Int) (List.length a)) = true → (0 : Int) ≤ IntKind.wrap IntKind.i64 (v6 + (1 : Int)) ∧ IntKind.wrap IntKind.i64 (v6 + (1
 : Int)) < (Nat.cast : Nat → Int) (List.length a) ∧ (false, OB.ints IntKind.u32 o0) = (false, OB.ints IntKind.u32 o0) ∧ J (bitop BinOp.or IntKind.u64 (IntKind.wrap IntKind.u64 (List.getD a (Int.toNat
 v6) (0 : Int))) (IntKind.wrap IntKind.u64 (IntKind.wrap IntKind.u64 (List.getD a (Int.toNat (IntKind.wrap IntKind.i64 (v6 + (1 : Int)))) (0 : Int)) * (4294967296 : Int))))) ∧ (decide (IntKind.wrap
 IntKind.i64 (v6 + (1 : Int)) < (Nat.cast : Nat → Int) (List.length a)) = false → (false, OB.ints IntKind.u32 o0) = (false, OB.ints IntKind.u32 o0) ∧ J (IntKind.wrap IntKind.u64 (List.getD a (Int.toNat
 v6) (0 : Int))))) ∧ ∀ (v7 : Int), J v7 → (0 : Int) ≤ IntKind.wrap IntKind.u64 k ∧ (0 : Int) ≤ v6 ∧ v6 < (Nat.cast : Nat → Int) (List.length o0) ∧ I (IntKind.wrap IntKind.i64 (v6 + (1 : Int)))
 (List.set o0 (Int.toNat v6) (IntKind.wrap IntKind.u32 (Int.fdiv v7 ((2 : Int) ^ min (Int.toNat (IntKind.wrap IntKind.u64 k)) (64 : Nat))))) ∧ m (IntKind.wrap IntKind.i64 (v6 + (1 : Int))) (List.set o0
 (Int.toNat v6) (IntKind.wrap IntKind.u32 (Int.fdiv v7 ((2 : Int) ^ min (Int.toNat (IntKind.wrap IntKind.u64 k)) (64 : Nat))))) < m v6 o0) ∧ (decide (v6 < (Nat.cast : Nat → Int) (List.length a)) =
 false → Nt.Few o0 ∧ K (TV.d (AV.ints IntKind.u32 (Nt.limbs (Nt.val o0)))))

def vc_nrefFromInt : Int → (TV → Prop) → Prop :=
 fun (n : Int) (K : TV → Prop) => (decide (n < (0 : Int)) = true → K (TV.tup [TV.d (AV.ints IntKind.u32 []), TV.d (AV.int IntKind.i64 (1 : Int))])) ∧ (decide (n < (0 : Int)) = false → Nt.Few
 [IntKind.wrap IntKind.u32 (bitop BinOp.and IntKind.i64 n (4294967295 : Int)), IntKind.wrap IntKind.u32 (Int.fdiv n (4294967296 : Int))] ∧ K (TV.tup [TV.d (AV.ints IntKind.u32 (Nt.limbs (Nt.val
 [IntKind.wrap IntKind.u32 (bitop BinOp.and IntKind.i64 n (4294967295 : Int)), IntKind.wrap IntKind.u32 (Int.fdiv n (4294967296 : Int))]))), TV.d (AV.int IntKind.i64 (0 : Int))]))


def vc_nrefParse : List Int → (TV → Prop) → Prop :=
 fun (s : List Int) (K : TV → Prop) => (decide (s = []) = true → K (TV.tup [TV.d (AV.ints IntKind.u32 []), TV.d (AV.int IntKind.i64 (4 : Int))])) ∧ (decide (s = []) = false → ∃ (I : Int → Prop), ∃ (m :
 Int → Nat), I (0 : Int) ∧ ∀ (v4 : Int), I v4 → (decide (v4 < (Nat.cast : Nat → Int) (List.length s)) = true → (0 : Int) ≤ v4 ∧ v4 < (Nat.cast : Nat → Int) (List.length s) ∧ (decide (List.getD s
 (Int.toNat v4) (0 : Int) < (48 : Int)) = true → K (TV.tup [TV.d (AV.ints IntKind.u32 []), TV.d (AV.int IntKind.i64 (4 : Int))])) ∧ (decide (List.getD s (Int.toNat v4) (0 : Int) < (48 : Int)) = false →
 (0 : Int) ≤ v4 ∧ v4 < (Nat.cast : Nat → Int) (List.length s) ∧ (decide ((57 : Int) < List.getD s (Int.toNat v4) (0 : Int)) = true → K (TV.tup [TV.d (AV.ints IntKind.u32 []), TV.d (AV.int IntKind.i64
 (4 : Int))])) ∧ (decide ((57 : Int) < List.getD s (Int.toNat v4) (0 : Int)) = false → I (IntKind.wrap IntKind.i64 (v4 + (1 : Int))) ∧ m (IntKind.wrap IntKind.i64 (v4 + (1 : Int))) < m v4))) ∧ (decide
 (v4 < (Nat.cast : Nat → Int) (List.length s)) = false → (decide ((60 : Int) < (Nat.cast : Nat → Int) (List.length s)) = true → K (TV.tup [TV.d (AV.ints IntKind.u32 []), TV.d (AV.int IntKind.i64 (9 :
 Int))])) ∧ (decide ((60 : Int) < (Nat.cast : Nat → Int) (List.length s)) = false → ∃ (I : List Int → Int → Prop), ∃ (m : List Int → Int → Nat), I [] (0 : Int) ∧ ∀ (v5 : List Int) (v6 : Int), I v5 v6 →
 (decide (v6 < (Nat.cast : Nat → Int) (List.length s)) = true → (Nt.Lim v5 ∧ Nt.Lim [(10 : Int)] ∧ List.length v5 ≤ (40000000 : Nat) ∧ (1 : Nat) ≤ (40000000 : Nat)) ∧ (0 : Int) ≤ v6 ∧ v6 < (Nat.cast :
 Nat → Int) (List.length s) ∧ (Nt.Lim (Nt.limbs (Nt.val v5 * (10 : Nat))) ∧ Nt.Lim [IntKind.wrap IntKind.u32 (IntKind.wrap IntKind.u8 (List.getD s (Int.toNat v6) (0 : Int) - (48 : Int)))] ∧ List.length
 (Nt.limbs (Nt.val v5 * (10 : Nat))) ≤ (90000000 : Nat) ∧ List.length [IntKind.wrap IntKind.u32 (IntKind.wrap IntKind.u8 (List.getD s (Int.toNat v6) (0 : Int) - (48 : Int)))] ≤ (90000000 : Nat)) ∧ I
 (Nt.limbs (Nt.val (Nt.limbs (Nt.val v5 * (10 : Nat))) + Nt.val [IntKind.wrap IntKind.u32 (IntKind.wrap IntKind.u8 (List.getD s (Int.toNat v6) (0 : Int) - (48 : Int)))])) (IntKind.wrap IntKind.i64 (v6
 + (1 : Int))) ∧ m (Nt.limbs (Nt.val (Nt.limbs (Nt.val v5 * (10 : Nat))) + Nt.val [IntKind.wrap IntKind.u32 (IntKind.wrap IntKind.u8 (List.getD s (Int.toNat v6) (0 : Int) - (48 : Int)))]))
 (IntKind.wrap IntKind.i64 (v6 + (1 : Int))) < m v5 v6) ∧ (decide (v6 < (Nat.cast : Nat → Int) (List.length s)) = false → K (TV.tup [TV.d (AV.ints IntKind.u32 v5), TV.d (AV.int IntKind.i64 (0 :
 Int))])))))


def vc_nrefFormat : List Int → (TV → Prop) → Prop :=
 fun (a : List Int) (K : TV → Prop) => Nt.Few a ∧ (decide ((Nat.cast : Nat → Int) (List.length (Nt.limbs (Nt.val a))) = (0 : Int)) = true → K (TV.d (AV.str [(48 : Int)]))) ∧ (decide ((Nat.cast : Nat →
 Int) (List.length (Nt.limbs (Nt.val a))) = (0 : Int)) = false → ∃ (I : List Int → List Int → Prop), ∃ (m : List Int → List Int → Nat), ((true, OB.ints IntKind.u32 (Nt.limbs (Nt.val a))) = (true,
 OB.ints IntKind.u32 (Nt.limbs (Nt.val a))) ∧ I (Nt.limbs (Nt.val a)) []) ∧ ∀ (v0 o1 : List Int), I v0 o1 → (decide ((0 : Int) < (Nat.cast : Nat → Int) (List.length v0)) = true → (Nt.Few v0 ∧ Nt.L (10
 : Int) ∧ (0 : Int) < (10 : Int)) ∧ ((Nat.cast : Nat → Int) (List.length o1) + (Nat.cast : Nat → Int) (List.length [IntKind.wrap IntKind.u8 (IntKind.wrap IntKind.u32 ((48 : Int) + (Nat.cast : Nat →
 Int) (Nt.val v0 % (10 : Nat))))])) * (1 : Int) ≤ (70368744177664 : Int) ∧ (true, OB.ints IntKind.u32 (Nt.limbs (Nt.val a))) = (true, OB.ints IntKind.u32 (Nt.limbs (Nt.val a))) ∧ I (Nt.limbs (Nt.val v0
 / (10 : Nat))) (instHAppendOfAppend.1 o1 [IntKind.wrap IntKind.u8 (IntKind.wrap IntKind.u32 ((48 : Int) + (Nat.cast : Nat → Int) (Nt.val v0 % (10 : Nat))))]) ∧ m (Nt.limbs (Nt.val v0 / (10 : Nat)))
 (instHAppendOfAppend.1 o1 [IntKind.wrap IntKind.u8 (IntKind.wrap IntKind.u32 ((48 : Int) + (Nat.cast : Nat → Int) (Nt.val v0 % (10 : Nat))))]) < m v0 o1) ∧ (decide ((0 : Int) < (Nat.cast : Nat → Int)
 (List.length v0)) = false → ∃ (I : Int → Int → List Int → Prop), ∃ (m : Int → Int → List Int → Nat), ((true, OB.ints IntKind.u32 (Nt.limbs (Nt.val a))) = (true, OB.ints IntKind.u32 (Nt.limbs (Nt.val
 a))) ∧ I (0 : Int) (IntKind.wrap IntKind.i64 ((Nat.cast : Nat → Int) (List.length o1) - (1 : Int))) o1) ∧ ∀ (v6 v7 : Int) (o1 : List Int), I v6 v7 o1 → (decide (v6 < v7) = true → (0 : Int) ≤ v7 ∧ v7 <
 (Nat.cast : Nat → Int) (List.length o1) ∧ (0 : Int) ≤ v6 ∧ v6 < (Nat.cast : Nat → Int) (List.length o1) ∧ (0 : Int) ≤ v6 ∧ v6 < (Nat.cast : Nat → Int) (List.length o1) ∧ (0 : Int) ≤ v7 ∧ v7 <
 (Nat.cast : Nat → Int) (List.length (List.set o1 (Int.toNat v6) (List.getD o1 (Int.toNat v7) (0 : Int)))) ∧ (true, OB.ints IntKind.u32 (Nt.limbs (Nt.val a))) = (true, OB.ints IntKind.u32 (Nt.limbs
 (Nt.val a))) ∧ I (IntKind.wrap IntKind.i64 (v6 + (1 : Int))) (IntKind.wrap IntKind.i64 (v7 - (1 : Int))) (List.set (List.set o1 (Int.toNat v6) (List.getD o1 (Int.toNat v7) (0 : Int))) (Int.toNat v7)
 (List.getD o1 (Int.toNat v6) (0 : Int))) ∧ m (IntKind.wrap IntKind.i64 (v6 + (1 : Int))) (IntKind.wrap IntKind.i64 (v7 - (1 : Int))) (List.set (List.set o1 (Int.toNat v6) (List.getD o1 (Int.toNat v7)
 (0 : Int))) (Int.toNat v7) (List.getD o1 (Int.toNat v6) (0 : Int))) < m v6 v7 o1) ∧ (decide (v6 < v7) = false → (∀ (x : Int), x ∈ o1 → (0 : Int) ≤ x ∧ x < (256 : Int)) ∧ K (TV.d (AV.str o1)))))

end Nt
end

section
/- NtQ: proofs of verification conditions: the specification's sums, differences, products, shifts, conversions. -/
open Go Go.Vc
namespace Nt

theorem getD_out {b : List Int} {n : Nat} (h : b.length ≤ n) : b.getD n 0 = 0 := by
  simp [List.getD_eq_getElem?_getD, List.getElem?_eq_none h]
theorem add_step {W' V Va Vb w x y C T st : Nat} (h1 : V + w * C = Va + Vb) (h2 : st + 4294967296 * T = C + x + y) (h3 : W' = V + w * st) : W' + w * (4294967296 * T) = (Va + w * x) + (Vb + w * y) := by
  have h := congrArg (w * ·) h2
  simp only [Nat.mul_add] at h
  omega
theorem p_nrefAdd (a b : List Int) (K : TV → Prop) (h : crefAdd.T [.d (.ints .u32 a), .d (.ints .u32 b)] K) : vc_nrefAdd a b K := by
  obtain ⟨⟨ha, hb, hal, hbl⟩, hk⟩ := h
  unfold vc_nrefAdd
  obtain ⟨M, hM, hMa, hMb, hM2⟩ : ∃ M : Nat, IntKind.wrap .i64 ((if (Nat.cast : Nat → Int) a.length < (Nat.cast : Nat → Int) b.length then (Nat.cast : Nat → Int) b.length else (Nat.cast : Nat → Int) a.length) + 1) = (M : Int) ∧ a.length < M ∧ b.length < M ∧ M ≤ 90000001 := by
    split
    · exact ⟨b.length + 1, by rw [w64 (by omega)]; omega, by omega, by omega, by omega⟩
    · exact ⟨a.length + 1, by rw [w64 (by omega)]; omega, by omega, by omega, by omega⟩
  rw [hM]
  simp only [Int.toNat_natCast]
  refine ⟨by omega, by omega, by omega, fun c i o => Lim o ∧ o.length = M ∧ ∃ C i0 : Nat, c = C ∧ i = i0 ∧ i0 ≤ M ∧ C ≤ 1 ∧ vt o i0 + 4294967296 ^ i0 * C = vt a i0 + vt b i0, fun c i o => M - i.toNat, ⟨Lim.zeros _, by simp, 0, 0, rfl, rfl, by omega, by omega, by simp [vt_zero]⟩, ?_⟩
  rintro c i o ⟨ho, hol, C, n, rfl, rfl, hn, hC, hs⟩
  rw [hol]
  refine ⟨fun h => ?_, fun h => ?_⟩
  · simp only [decide_eq_true_eq] at h
    simp only [Int.toNat_natCast, lm_eq ha, lm_eq hb]
    have hx := lm_lt ha n
    have hy := lm_lt hb n
    refine ⟨fun v => v = ((C + lm a n : Nat) : Int), ⟨fun h1 => ?_, fun h1 => ?_⟩, ?_⟩
    · simp only [decide_eq_true_eq] at h1
      refine ⟨by omega, h1, by first | rfl | trivial, ?_⟩
      rw [wu64 (x := (lm a n : Int)) (by omega), wu64 (by omega)]; omega
    · simp only [decide_eq_false_iff_not] at h1
      refine ⟨by first | rfl | trivial, ?_⟩
      have : lm a n = 0 := by unfold lm; rw [getD_out (by omega)]; rfl
      rw [this]; rfl
    rintro v rfl
    refine ⟨fun v => v = ((C + lm a n + lm b n : Nat) : Int), ⟨fun h1 => ?_, fun h1 => ?_⟩, ?_⟩
    · simp only [decide_eq_true_eq] at h1
      refine ⟨by omega, h1, by first | rfl | trivial, ?_⟩
      rw [wu64 (x := (lm b n : Int)) (by omega), wu64 (by omega)]; omega
    · simp only [decide_eq_false_iff_not] at h1
      refine ⟨by first | rfl | trivial, ?_⟩
      have : lm b n = 0 := by unfold lm; rw [getD_out (by omega)]; rfl
      rw [this]; rfl
    rintro v rfl
    have e1 : IntKind.wrap .i64 ((n : Int) + 1) = ((n + 1 : Nat) : Int) := by rw [w64 (by omega)]; omega
    have e2 : IntKind.wrap .u32 ((C + lm a n + lm b n : Nat) : Int) = (((C + lm a n + lm b n) % 4294967296 : Nat) : Int) := by rw [wu32m]; omega
    have e3 : Int.fdiv ((C + lm a n + lm b n : Nat) : Int) 4294967296 = (((C + lm a n + lm b n) / 4294967296 : Nat) : Int) := by rw [Int.fdiv_eq_ediv_of_nonneg _ (by omega)]; omega
    simp only [e1, e2, e3]
    refine ⟨by omega, by omega, ⟨ho.set _ ⟨by omega, by omega⟩, by rw [List.length_set]; exact hol, _, n + 1, rfl, rfl, by omega, by omega, ?_⟩, by show M - ((n + 1 : Nat) : Int).toNat < M - (n : Int).toNat; omega⟩
    have hw : vt (o.set n (((C + lm a n + lm b n) % 4294967296 : Nat) : Int)) (n + 1) = vt o n + 4294967296 ^ n * ((C + lm a n + lm b n) % 4294967296) := by
      rw [vt_succ, vt_set _ _ _ _ (Nat.le_refl _), getD_set, if_pos ⟨rfl, by omega⟩, Int.toNat_natCast]
    have hf := add_step (x := lm a n) (y := lm b n) (T := (C + lm a n + lm b n) / 4294967296) hs (by omega) hw
    rw [Nat.pow_succ, Nat.mul_assoc, vt_succ a, vt_succ b]
    exact hf
  · simp only [decide_eq_false_iff_not] at h
    obtain rfl : n = M := by omega
    refine ⟨⟨ho, by omega⟩, ?_⟩
    rw [vt_all a (by omega), vt_all b (by omega), vt_all o (by omega)] at hs
    have h1 := val_lt ha
    have h2 := val_lt hb
    have hC0 : C = 0 := by
      rcases Nat.eq_zero_or_pos C with h0 | h0
      · exact h0
      · exfalso
        have h3 : 4294967296 ^ a.length * 4294967296 ≤ 4294967296 ^ n := by rw [← Nat.pow_succ]; exact Nat.pow_le_pow_right (by decide) hMa
        have h4 : 4294967296 ^ b.length * 4294967296 ≤ 4294967296 ^ n := by rw [← Nat.pow_succ]; exact Nat.pow_le_pow_right (by decide) hMb
        have h5 := Nat.mul_le_mul_left (4294967296 ^ n) h0
        omega
    rw [hC0, Nat.mul_zero, Nat.add_zero] at hs
    rw [hs]; exact hk

theorem mul_fin {V1 V2 vo w ui st X C T A : Nat} (a1 : V2 + w * ui = V1 + w * st) (a2 : V1 + w * C = vo + A) (a3 : st + 4294967296 * T = X + ui + C) : V2 + w * (4294967296 * T) = vo + (A + w * X) := by
  have h := congrArg (w * ·) a3
  simp only [Nat.mul_add] at h
  omega
theorem prod_lt {x y : Nat} (hx : x < 4294967296) (hy : y < 4294967296) : x * y ≤ 18446744065119617025 := by
  have : x * y ≤ 4294967295 * 4294967295 := Nat.mul_le_mul (by omega) (by omega)
  omega
theorem p_nrefMul (a b : List Int) (K : TV → Prop) (h : crefMul.T [.d (.ints .u32 a), .d (.ints .u32 b)] K) : vc_nrefMul a b K := by
  obtain ⟨⟨ha, hb, hal, hbl⟩, hk⟩ := h
  unfold vc_nrefMul
  have e0 : IntKind.wrap .i64 (IntKind.wrap .i64 ((Nat.cast : Nat → Int) a.length + (Nat.cast : Nat → Int) b.length) + 1) = ((a.length + b.length + 1 : Nat) : Int) := by
    rw [w64 (x := (Nat.cast : Nat → Int) a.length + (Nat.cast : Nat → Int) b.length) (by omega), w64 (by omega)]; omega
  rw [e0]
  simp only [Int.toNat_natCast]
  refine ⟨by omega, by omega, by omega, fun i o => Lim o ∧ o.length = a.length + b.length + 1 ∧ ∃ n : Nat, i = n ∧ n ≤ a.length ∧ val o = vt a n * val b, fun i o => a.length - i.toNat, ⟨Lim.zeros _, by simp, 0, rfl, by omega, by rw [val_zeros, vt_zero, Nat.zero_mul]⟩, ?_⟩
  rintro i o ⟨ho, hol, n, rfl, hn, hv⟩
  refine ⟨fun h => ?_, fun h => ?_⟩
  · simp only [decide_eq_true_eq] at h
    simp only [Int.toNat_natCast, lm_eq ha, lm_eq hb]
    refine ⟨fun c k p => Lim p ∧ p.length = a.length + b.length + 1 ∧ ∃ C q : Nat, c = C ∧ k = q ∧ q ≤ b.length ∧ C < 4294967296 ∧ val p + 4294967296 ^ (n + q) * C = val o + 4294967296 ^ n * (lm a n * vt b q), fun c k p => b.length - k.toNat,
      ⟨ho, hol, 0, 0, rfl, rfl, by omega, by omega, by rw [vt_zero, Nat.mul_zero, Nat.mul_zero, Nat.mul_zero]⟩, ?_⟩
    rintro c k p ⟨hp, hpl, C, q, rfl, rfl, hq, hC, hs⟩
    refine ⟨fun h2 => ?_, fun h2 => ?_⟩
    · simp only [decide_eq_true_eq] at h2
      have e1 : IntKind.wrap .i64 ((n : Int) + (q : Int)) = ((n + q : Nat) : Int) := by rw [w64 (by omega)]; omega
      have e2 : IntKind.wrap .i64 ((q : Int) + 1) = ((q + 1 : Nat) : Int) := by rw [w64 (by omega)]; omega
      simp only [e1, e2, Int.toNat_natCast, lm_eq hp]
      have hx := lm_lt ha n
      have hy := lm_lt hb q
      have ho' := lm_lt hp (n + q)
      have hxy := prod_lt hx hy
      have hpe : (p.getD (n + q) 0).toNat = lm p (n + q) := rfl
      have hbe : (b.getD q 0).toNat = lm b q := rfl
      obtain ⟨x, hx'⟩ : ∃ x, lm a n = x := ⟨_, rfl⟩
      obtain ⟨y, hy'⟩ : ∃ x, lm b q = x := ⟨_, rfl⟩
      obtain ⟨z, hz'⟩ : ∃ x, lm p (n + q) = x := ⟨_, rfl⟩
      rw [hx'] at hs hx hxy
      rw [hy'] at hy hxy hbe
      rw [hz'] at ho' hpe
      simp only [hx', hy', hz']
      have w1 : IntKind.wrap .u64 (IntKind.wrap .u64 (IntKind.wrap .u64 (IntKind.wrap .u64 (x : Int) * IntKind.wrap .u64 (y : Int)) + IntKind.wrap .u64 (z : Int)) + (C : Int)) = ((x * y + z + C : Nat) : Int) := by
        rw [wu64 (x := (x : Int)) (by omega), wu64 (x := (y : Int)) (by omega), wu64 (x := (z : Int)) (by omega), ← Int.natCast_mul]
        generalize x * y = xy at hxy ⊢
        rw [wu64 (x := (xy : Int)) (by omega), wu64 (x := (xy : Int) + (z : Int)) (by omega), wu64 (by omega)]; omega
      simp only [w1]
      obtain ⟨S, hS⟩ : ∃ S, x * y + z + C = S := ⟨_, rfl⟩
      simp only [hS]
      have w2 : IntKind.wrap .u32 (S : Int) = ((S % 4294967296 : Nat) : Int) := by rw [wu32m]; omega
      have w3 : Int.fdiv (S : Int) 4294967296 = ((S / 4294967296 : Nat) : Int) := by rw [Int.fdiv_eq_ediv_of_nonneg _ (by omega)]; omega
      simp only [w2, w3]
      have hS2 : S < 18446744073709551616 := by omega
      have hset := val_set p (n + q) ((S % 4294967296 : Nat) : Int) (by omega)
      rw [hpe, Int.toNat_natCast] at hset
      have hf := mul_fin (X := x * y) (T := S / 4294967296) hset hs (by omega)
      refine ⟨by omega, by omega, by omega, by omega, by omega, by omega, by omega, by omega, ⟨hp.set _ ⟨by omega, by omega⟩, by rw [List.length_set]; exact hpl, _, q + 1, rfl, rfl, by omega, by omega, ?_⟩, by show b.length - ((q + 1 : Nat) : Int).toNat < b.length - (q : Int).toNat; omega⟩
      have e5 : 4294967296 ^ (n + (q + 1)) * (S / 4294967296) = 4294967296 ^ (n + q) * (4294967296 * (S / 4294967296)) := by rw [← Nat.add_assoc, Nat.pow_succ, Nat.mul_assoc]
      have e6 : 4294967296 ^ n * (x * vt b (q + 1)) = 4294967296 ^ n * (x * vt b q) + 4294967296 ^ (n + q) * (x * y) := by
        rw [vt_succ, hbe, Nat.mul_add, Nat.mul_add, Nat.pow_add, Nat.mul_left_comm x, Nat.mul_assoc]
      rw [e5, e6]; exact hf
    · simp only [decide_eq_false_iff_not] at h2
      obtain rfl : q = b.length := by omega
      have e1 : IntKind.wrap .i64 ((n : Int) + (Nat.cast : Nat → Int) b.length) = ((n + b.length : Nat) : Int) := by rw [w64 (by omega)]; omega
      rw [e1]
      rw [vt_all b (Nat.le_refl _)] at hs
      -- what is to come, at most
      have htot : val o + 4294967296 ^ n * (lm a n * val b) = vt a (n + 1) * val b := by
        rw [hv, vt_succ, Nat.add_mul, Nat.mul_assoc]; rfl
      have hbound : vt a (n + 1) * val b < 4294967296 ^ (a.length + b.length + 1) := by
        have h1 := vt_lt ha (n + 1)
        have h2 := val_lt hb
        have h3 := Nat.mul_lt_mul'' h1 h2
        rw [← Nat.pow_add] at h3
        exact Nat.lt_of_lt_of_le h3 (Nat.pow_le_pow_right (by decide) (by omega))
      rw [htot] at hs
      refine ⟨fun c k p => Lim p ∧ p.length = a.length + b.length + 1 ∧ ∃ C q : Nat, c = C ∧ k = q ∧ q ≤ a.length + b.length + 1 ∧ C < 4294967296 ∧ val p + 4294967296 ^ q * C = vt a (n + 1) * val b, fun c k p => a.length + b.length + 1 - k.toNat,
        ⟨hp, hpl, C, n + b.length, rfl, rfl, by omega, hC, hs⟩, ?_⟩
      rintro c k p ⟨hp, hpl, C, q, rfl, rfl, hq, hC, hs⟩
      refine ⟨fun h3 => ?_, fun h3 => ?_⟩
      · simp only [decide_eq_true_eq] at h3
        have hql : q < a.length + b.length + 1 := by
          rcases Nat.lt_or_ge q (a.length + b.length + 1) with h4 | h4
          · exact h4
          · exfalso
            have h5 : 4294967296 ^ (a.length + b.length + 1) ≤ 4294967296 ^ q := Nat.pow_le_pow_right (by decide) h4
            have h6 := Nat.mul_le_mul_left (4294967296 ^ q) (show 1 ≤ C by omega)
            omega
        have e2 : IntKind.wrap .i64 ((q : Int) + 1) = ((q + 1 : Nat) : Int) := by rw [w64 (by omega)]; omega
        simp only [e2, Int.toNat_natCast, lm_eq hp]
        have ho' := lm_lt hp q
        have hpe : (p.getD q 0).toNat = lm p q := rfl
        obtain ⟨z, hz'⟩ : ∃ x, lm p q = x := ⟨_, rfl⟩
        rw [hz'] at ho' hpe
        simp only [hz']
        have w1 : IntKind.wrap .u64 (IntKind.wrap .u64 (z : Int) + (C : Int)) = ((z + C : Nat) : Int) := by rw [wu64 (x := (z : Int)) (by omega), wu64 (by omega)]; omega
        simp only [w1]
        obtain ⟨S, hS⟩ : ∃ S, z + C = S := ⟨_, rfl⟩
        simp only [hS]
        have w2 : IntKind.wrap .u32 (S : Int) = ((S % 4294967296 : Nat) : Int) := by rw [wu32m]; omega
        have w3 : Int.fdiv (S : Int) 4294967296 = ((S / 4294967296 : Nat) : Int) := by rw [Int.fdiv_eq_ediv_of_nonneg _ (by omega)]; omega
        simp only [w2, w3]
        have hset := val_set p q ((S % 4294967296 : Nat) : Int) (by omega)
        rw [hpe, Int.toNat_natCast] at hset
        have hf := mul_fin (X := 0) (A := vt a (n + 1) * val b) (vo := 0) (C := C) (T := S / 4294967296) hset (by rw [Nat.zero_add]; exact hs) (by omega)
        rw [Nat.mul_zero, Nat.add_zero, Nat.zero_add] at hf
        refine ⟨by omega, by omega, by omega, by omega, ⟨hp.set _ ⟨by omega, by omega⟩, by rw [List.length_set]; exact hpl, _, q + 1, rfl, rfl, by omega, by omega, ?_⟩, by show a.length + b.length + 1 - ((q + 1 : Nat) : Int).toNat < a.length + b.length + 1 - (q : Int).toNat; omega⟩
        have e5 : 4294967296 ^ (q + 1) * (S / 4294967296) = 4294967296 ^ q * (4294967296 * (S / 4294967296)) := by rw [Nat.pow_succ, Nat.mul_assoc]
        rw [e5]; exact hf
      · simp only [decide_eq_false_iff_not] at h3
        obtain rfl : C = 0 := by omega
        have e3 : IntKind.wrap .i64 ((n : Int) + 1) = ((n + 1 : Nat) : Int) := by rw [w64 (by omega)]; omega
        rw [e3]
        refine ⟨⟨hp, hpl, n + 1, rfl, by omega, by omega⟩, by show a.length - ((n + 1 : Nat) : Int).toNat < a.length - (n : Int).toNat; omega⟩
  · simp only [decide_eq_false_iff_not] at h
    obtain rfl : n = a.length := by omega
    refine ⟨⟨ho, by omega⟩, ?_⟩
    rw [hv, vt_all a (Nat.le_refl _)]; exact hk
end Nt
end

section
/- NtS: proofs of verification conditions: the specification's Parse, Pow. -/
open Go Go.Vc
namespace Nt

theorem p_nrefParse (s : List Int) (K : TV → Prop) (h : crefParse.T [.d (.str s)] K) : vc_nrefParse s K := by
  obtain ⟨hl, hk⟩ := h
  unfold vc_nrefParse
  have bad : isDec s = false → K (.tup [.d (.ints .u32 []), .d (.int .i64 4)]) := fun h => by
    unfold parseE parseV at hk
    rw [h] at hk
    simpa using hk
  refine ⟨fun h => ?_, fun h => ?_⟩
  · simp only [decide_eq_true_eq] at h
    subst h
    exact bad rfl
  · simp only [decide_eq_false_iff_not] at h
    refine ⟨fun i => 0 ≤ i ∧ i ≤ s.length ∧ ∀ p : Nat, p < i.toNat → 48 ≤ s.getD p 0 ∧ s.getD p 0 ≤ 57, fun i => s.length - i.toNat, ⟨by omega, by omega, fun p hp => by simp at hp⟩, ?_⟩
    rintro i ⟨h1, h2, h3⟩
    have no : i < s.length → ¬ (48 ≤ s.getD i.toNat 0 ∧ s.getD i.toNat 0 ≤ 57) → isDec s = false := fun hi hx => by
      cases hd : isDec s with
      | false => rfl
      | true => exact absurd (isDec_get hd i.toNat (by omega)) hx
    refine ⟨fun h4 => ?_, fun h4 => ?_⟩
    · simp only [decide_eq_true_eq] at h4
      refine ⟨by omega, by omega, fun h5 => ?_, fun h5 => ⟨by omega, by omega, fun h6 => ?_, fun h6 => ?_⟩⟩
      · simp only [decide_eq_true_eq] at h5
        exact bad (no h4 fun hx => by omega)
      · simp only [decide_eq_true_eq] at h6
        exact bad (no h4 fun hx => by omega)
      · simp only [decide_eq_false_iff_not] at h5 h6
        rw [w64 (by omega)]
        refine ⟨⟨by omega, by omega, fun p hp => ?_⟩, by show s.length - (i + 1).toNat < s.length - i.toNat; omega⟩
        by_cases e : p = i.toNat
        · subst e; exact ⟨by omega, by omega⟩
        · exact h3 p (by omega)
    · simp only [decide_eq_false_iff_not] at h4
      have hdig : ∀ p : Nat, p < s.length → 48 ≤ s.getD p 0 ∧ s.getD p 0 ≤ 57 := fun p hp => h3 p (by omega)
      have hd := isDec_of h hdig
      unfold parseE parseV at hk
      rw [hd] at hk
      simp only [if_true, true_and] at hk
      refine ⟨fun h5 => ?_, fun h5 => ?_⟩
      · simp only [decide_eq_true_eq] at h5
        rw [if_neg (by omega), if_pos (by omega)] at hk; exact hk
      · simp only [decide_eq_false_iff_not] at h5
        rw [if_pos (by omega), if_neg (by omega)] at hk
        refine ⟨fun v i => 0 ≤ i ∧ i ≤ s.length ∧ v = limbs (pv 0 (s.take i.toNat)), fun v i => s.length - i.toNat, ⟨by omega, by omega, by simp [pv, limbs_zero]⟩, ?_⟩
        rintro v i ⟨h6, h7, rfl⟩
        refine ⟨fun h8 => ?_, fun h8 => ?_⟩
        · simp only [decide_eq_true_eq] at h8
          obtain ⟨n, rfl⟩ : ∃ n : Nat, i = n := ⟨i.toNat, by omega⟩
          have hx := hdig n (by omega)
          have e1 : IntKind.wrap .i64 ((n : Int) + 1) = ((n + 1 : Nat) : Int) := by rw [w64 (by omega)]; omega
          rw [e1]
          simp only [Int.toNat_natCast, val_limbs]
          rw [wu8 (by omega), wu32 (by omega)]
          have hlt := pv_lt s hdig n (by omega)
          have hsz : Sz (pv 0 (s.take n)) 7 := Nat.lt_of_lt_of_le hlt (Nat.le_trans (Nat.pow_le_pow_right (by decide) (show n ≤ 60 by omega)) (by decide))
          have h10 : Sz 10 1 := by unfold Sz; decide
          have hval : val [s.getD n 0 - 48] = (s.getD n 0 - 48).toNat := by simp [val]
          rw [hval, ← pv_take s n (by omega)]
          exact ⟨⟨limbs_lim _, (few1 (by omega)).1, hsz.len (by decide), by omega⟩, by omega, by omega, ⟨limbs_lim _, (few1 (by omega)).1, (hsz.mul h10).len (by decide), by simp⟩, ⟨by omega, by omega, rfl⟩, by omega⟩
        · simp only [decide_eq_false_iff_not] at h8
          obtain rfl : i = s.length := by omega
          rw [Int.toNat_natCast, List.take_length]; exact hk

end Nt
end

section
/- NtSh: proofs of verification conditions: the specification's FromInt, Sub, shift, unshift. -/
open Go Go.Vc
namespace Nt

theorem p_nrefFromInt (n : Int) (K : TV → Prop) (h : crefFromInt.T [.d (.int .i64 n)] K) : vc_nrefFromInt n K := by
  obtain ⟨⟨h1, h2⟩, hk⟩ := h
  unfold vc_nrefFromInt
  refine ⟨fun h => ?_, fun h => ?_⟩
  · simp only [decide_eq_true_eq] at h
    rw [if_pos h, if_pos h] at hk; exact hk
  · simp only [decide_eq_false_iff_not] at h
    rw [if_neg h, if_neg h] at hk
    obtain ⟨q, rfl⟩ : ∃ q : Nat, n = q := ⟨n.toNat, by omega⟩
    have e : bitop .and .i64 (q : Int) 4294967295 = ((q % 4294967296 : Nat) : Int) := and64 q 32 (by omega) (by decide)
    have e2 : Int.fdiv (q : Int) 4294967296 = ((q / 4294967296 : Nat) : Int) := by rw [Int.fdiv_eq_ediv_of_nonneg _ (by omega)]; omega
    rw [e, e2, wu32 (x := ((q % 4294967296 : Nat) : Int)) (by omega), wu32 (x := ((q / 4294967296 : Nat) : Int)) (by omega)]
    have hl : Lim [((q % 4294967296 : Nat) : Int), ((q / 4294967296 : Nat) : Int)] := .mk (by omega) (.mk (by omega) .nil)
    refine ⟨⟨hl, by simp⟩, ?_⟩
    rw [val2 hl, Int.toNat_natCast, Int.toNat_natCast, Nat.mod_add_div]
    rw [Int.toNat_natCast] at hk; exact hk

theorem p_nrefSub (a b : List Int) (K : TV → Prop) (h : crefSub.T [.d (.ints .u32 a), .d (.ints .u32 b)] K) : vc_nrefSub a b K := by
  obtain ⟨⟨ha, hb⟩, hk⟩ := h
  have hal := few_len ha
  have hbl := few_len hb
  have ha2 := ha.2
  have hb2 := hb.2
  unfold vc_nrefSub
  have hcm : cmp (val a) (val b) < 0 ↔ val a < val b := by
    unfold cmp
    split
    · simp [*]
    · split <;> simp [*]
  refine ⟨⟨ha, hb⟩, fun h => ?_, fun h => ⟨ha, hb, ?_⟩⟩
  · simp only [decide_eq_true_eq] at h
    rw [if_pos (hcm.1 h), if_pos (hcm.1 h)] at hk; exact hk
  · simp only [decide_eq_false_iff_not] at h
    have hge : ¬ val a < val b := fun hx => h (hcm.2 hx)
    rw [if_neg hge, if_neg hge] at hk
    have hBA : (limbs (val b)).length ≤ (limbs (val a)).length := by
      rw [limbs_len]
      have := limbs_len.1 (Nat.le_refl (limbs (val a)).length)
      omega
    have hA := limbs_lim (val a)
    have hB := limbs_lim (val b)
    have hva := val_limbs (val a)
    have hvb := val_limbs (val b)
    rw [← hva, ← hvb] at hk hge
    generalize limbs (val a) = A at *
    generalize limbs (val b) = B at *
    refine ⟨fun c i o o1 => o1 = B ∧ Lim o ∧ o.length = A.length ∧ ∃ C i0 : Nat, c = C ∧ i = i0 ∧ i0 ≤ A.length ∧ C ≤ 1 ∧ val o + vt B i0 = val A + 4294967296 ^ i0 * C, fun c i o o1 => A.length - i.toNat, ⟨rfl, hA, rfl, 0, 0, rfl, rfl, by omega, by omega, by rw [vt_zero, Nat.mul_zero]⟩, ?_⟩
    rintro c i o o1 ⟨rfl, ho, hol, C, n, rfl, rfl, hn, hC, hs⟩
    rw [hol]
    refine ⟨fun h => ?_, fun h => ?_⟩
    · simp only [decide_eq_true_eq] at h
      have e1 : IntKind.wrap .i64 ((n : Int) + 1) = ((n + 1 : Nat) : Int) := by rw [w64 (by omega)]; omega
      simp only [e1, Int.toNat_natCast, lm_eq hB, lm_eq ho]
      have hx := lm_lt ho n
      have hy := lm_lt hB n
      have hyz : ¬ n < o1.length → lm o1 n = 0 := fun h => by unfold lm; rw [getD_out (by omega)]; rfl
      obtain ⟨x, hx'⟩ : ∃ x, lm o n = x := ⟨_, rfl⟩
      obtain ⟨y, hy'⟩ : ∃ x, lm o1 n = x := ⟨_, rfl⟩
      rw [hx'] at hx
      rw [hy'] at hy hyz
      simp only [hx', hy']
      refine ⟨fun v => v = ((C + y : Nat) : Int), ⟨fun h1 => ?_, fun h1 => ?_⟩, ?_⟩
      · simp only [decide_eq_true_eq] at h1
        refine ⟨by omega, h1, by first | rfl | trivial, by first | rfl | trivial, ?_⟩
        rw [wu64 (x := (y : Int)) (by omega), wu64 (by omega)]; omega
      · simp only [decide_eq_false_iff_not] at h1
        refine ⟨by first | rfl | trivial, by first | rfl | trivial, ?_⟩
        rw [hyz (by omega)]; rfl
      rintro v rfl
      have w1 : IntKind.wrap .u64 (x : Int) = (x : Int) := wu64 (by omega)
      have w2 : IntKind.wrap .u64 ((x : Int) + 4294967296) = (x : Int) + 4294967296 := wu64 (by omega)
      simp only [w1, w2]
      have key : ∀ st B2 : Nat, st < 4294967296 → B2 ≤ 1 → st + y + C = x + 4294967296 * B2 →
          val (o.set n (st : Int)) + vt o1 (n + 1) = val A + 4294967296 ^ (n + 1) * B2 := fun st B2 h1 h2 h3 => by
        have hvs := val_set o n (st : Int) (by omega)
        rw [show (o.getD n 0).toNat = x from hx', Int.toNat_natCast] at hvs
        have h4 := congrArg (4294967296 ^ n * ·) h3
        simp only [Nat.mul_add] at h4
        rw [vt_succ, show (o1.getD n 0).toNat = y from hy', Nat.pow_succ, Nat.mul_assoc]
        omega
      refine ⟨by omega, by omega, fun h2 => ⟨by omega, by omega, ?_, ?_⟩, fun h2 => ⟨by omega, by omega, ?_, ?_⟩⟩
      · simp only [decide_eq_true_eq] at h2
        have w3 : IntKind.wrap .u32 (IntKind.wrap .u64 ((x : Int) + 4294967296 - ((C + y : Nat) : Int))) = ((x + 4294967296 - C - y : Nat) : Int) := by
          rw [wu64 (by omega), wu32 (by omega)]; omega
        rw [w3]
        exact ⟨by first | rfl | trivial, ho.set _ ⟨by omega, by omega⟩, by rw [List.length_set]; exact hol, 1, n + 1, rfl, rfl, by omega, by omega, key _ 1 (by omega) (by omega) (by omega)⟩
      · show A.length - ((n + 1 : Nat) : Int).toNat < A.length - (n : Int).toNat
        omega
      · simp only [decide_eq_false_iff_not] at h2
        have w3 : IntKind.wrap .u32 (IntKind.wrap .u64 ((x : Int) - ((C + y : Nat) : Int))) = ((x - C - y : Nat) : Int) := by
          rw [wu64 (by omega), wu32 (by omega)]; omega
        rw [w3]
        exact ⟨by first | rfl | trivial, ho.set _ ⟨by omega, by omega⟩, by rw [List.length_set]; exact hol, 0, n + 1, rfl, rfl, by omega, by omega, key _ 0 (by omega) (by omega) (by omega)⟩
      · show A.length - ((n + 1 : Nat) : Int).toNat < A.length - (n : Int).toNat
        omega
    · simp only [decide_eq_false_iff_not] at h
      obtain rfl : n = A.length := by omega
      refine ⟨⟨ho, by omega⟩, ?_⟩
      rw [vt_all o1 hBA] at hs
      have hlt := val_lt ho
      rw [hol] at hlt
      have hC0 : C = 0 := by
        rcases Nat.eq_zero_or_pos C with h0 | h0
        · exact h0
        · obtain rfl : C = 1 := by omega
          rw [Nat.mul_one] at hs; omega
      rw [hC0, Nat.mul_zero, Nat.add_zero] at hs
      have : val o = val A - val o1 := by omega
      rw [this]; exact hk

theorem or64c (p q s : Nat) (hq : q < 2 ^ s) (h : p * 2 ^ s + q < 18446744073709551616) : bitop .or .u64 ((p * 2 ^ s : Nat) : Int) (q : Int) = ((p * 2 ^ s + q : Nat) : Int) := or64 p q s hq h
theorem p_nrefshift (a : List Int) (k : Int) (K : OB → Prop) (h : crefshift.T [.d (.ints .u32 a), .d (.int .i64 k)] K) : vc_nrefshift a k K := by
  obtain ⟨⟨ha, hk0, hk1⟩, hk⟩ := h
  have hal := ha.2
  obtain ⟨s, rfl⟩ : ∃ n : Nat, k = n := ⟨k.toNat, by omega⟩
  rw [Int.toNat_natCast] at hk
  unfold vc_nrefshift
  have e0 : IntKind.wrap .i64 ((Nat.cast : Nat → Int) a.length + 1) = ((a.length + 1 : Nat) : Int) := by rw [w64 (by omega)]; omega
  have ek : IntKind.wrap .u64 (s : Int) = (s : Int) := wu64 (by omega)
  rw [e0]
  simp only [ek, Int.toNat_natCast, show min s 64 = s by omega]
  have h31 : 2 ^ s ≤ 2147483648 := Nat.pow_le_pow_right (show 0 < 2 by decide) (show s ≤ 31 by omega)
  have hp := Nat.two_pow_pos s
  refine ⟨by omega, by omega, by omega, fun c i o => Lim o ∧ o.length = a.length + 1 ∧ ∃ C n : Nat, c = C ∧ i = n ∧ n ≤ a.length ∧ C < 2 ^ s ∧ vt o n + 4294967296 ^ n * C = vt a n * 2 ^ s, fun c i o => a.length - i.toNat, ⟨Lim.zeros _, by simp, 0, 0, rfl, rfl, by omega, hp, by rw [vt_zero, vt_zero, Nat.mul_zero, Nat.zero_mul]⟩, ?_⟩
  rintro c i o ⟨ho, hol, C, n, rfl, rfl, hn, hC, hs⟩
  refine ⟨fun h => ?_, fun h => ?_⟩
  · simp only [decide_eq_true_eq] at h
    have e1 : IntKind.wrap .i64 ((n : Int) + 1) = ((n + 1 : Nat) : Int) := by rw [w64 (by omega)]; omega
    simp only [e1, Int.toNat_natCast, lm_eq ha.1]
    have hd := lm_lt ha.1 n
    have hde : (a.getD n 0).toNat = lm a n := rfl
    obtain ⟨d, hd'⟩ : ∃ d, lm a n = d := ⟨_, rfl⟩
    rw [hd'] at hd hde
    simp only [hd']
    have hlt : d * 2 ^ s < 4294967296 * 2 ^ s := Nat.mul_lt_mul_of_pos_right hd hp
    have p1 : (2 : Int) ^ s = ((2 ^ s : Nat) : Int) := by simp
    have hsum : d * 2 ^ s + C < 4294967296 * 2 ^ s := by
      have := Nat.mul_le_mul_right (2 ^ s) (show d + 1 ≤ 4294967296 by omega)
      rw [Nat.add_mul, Nat.one_mul] at this
      omega
    have w1 : bitop .or .u64 (IntKind.wrap .u64 (IntKind.wrap .u64 (d : Int) * (2 : Int) ^ s)) (C : Int) = ((d * 2 ^ s + C : Nat) : Int) := by
      rw [wu64 (x := (d : Int)) (by omega), p1, ← Int.natCast_mul, wu64 ⟨Int.natCast_nonneg _, by omega⟩]
      exact or64c d C s hC (by omega)
    simp only [w1]
    obtain ⟨S, hS, hS2⟩ : ∃ S, d * 2 ^ s + C = S ∧ S < 4294967296 * 2 ^ s := ⟨_, rfl, hsum⟩
    simp only [hS]
    have w2 : IntKind.wrap .u32 (S : Int) = ((S % 4294967296 : Nat) : Int) := by rw [wu32m]; omega
    have w3 : Int.fdiv (S : Int) 4294967296 = ((S / 4294967296 : Nat) : Int) := by rw [Int.fdiv_eq_ediv_of_nonneg _ (by omega)]; omega
    simp only [w2, w3]
    have hT : S / 4294967296 < 2 ^ s := Nat.div_lt_of_lt_mul hS2
    refine ⟨by omega, by omega, by omega, by omega, by omega, ⟨ho.set _ ⟨by omega, by omega⟩, by rw [List.length_set]; exact hol, S / 4294967296, n + 1, rfl, rfl, by omega, hT, ?_⟩, by show a.length - ((n + 1 : Nat) : Int).toNat < a.length - (n : Int).toNat; omega⟩
    rw [vt_succ, vt_set _ _ _ _ (Nat.le_refl _), getD_set, if_pos ⟨rfl, by omega⟩, Int.toNat_natCast, vt_succ, hde, Nat.add_mul, ← hs, Nat.mul_assoc, Nat.pow_succ, Nat.mul_assoc]
    have h5 : 4294967296 ^ n * (d * 2 ^ s) + 4294967296 ^ n * C = 4294967296 ^ n * (S % 4294967296) + 4294967296 ^ n * (4294967296 * (S / 4294967296)) := by
      rw [← Nat.mul_add, ← Nat.mul_add, hS, Nat.mod_add_div]
    omega
  · simp only [decide_eq_false_iff_not] at h
    obtain rfl : n = a.length := by omega
    have w2 : IntKind.wrap .u32 (C : Int) = (C : Int) := wu32 (by omega)
    simp only [w2, Int.toNat_natCast]
    rw [vt_all a (Nat.le_refl _)] at hs
    have hv : val (o.set a.length (C : Int)) = val a * 2 ^ s := by
      rw [← vt_all (o.set a.length (C : Int)) (i := a.length + 1) (by rw [List.length_set]; omega), vt_succ, vt_set _ _ _ _ (Nat.le_refl _), getD_set, if_pos ⟨rfl, by omega⟩, Int.toNat_natCast]
      exact hs
    have hl : (o.set a.length (C : Int)).length = a.length + 1 := by rw [List.length_set]; exact hol
    rw [← hv, ← hl, lowl_of _ (ho.set _ ⟨by omega, by omega⟩) rfl] at hk
    exact ⟨by omega, by omega, hk⟩

theorem or64d (p q s : Nat) (hq : q < 2 ^ s) (h : p * 2 ^ s + q < 18446744073709551616) : bitop .or .u64 (q : Int) ((p * 2 ^ s : Nat) : Int) = ((p * 2 ^ s + q : Nat) : Int) := by
  rw [or_comm64]; exact or64 p q s hq h
theorem p_nrefunshift (a : List Int) (k : Int) (K : TV → Prop) (h : crefunshift.T [.d (.ints .u32 a), .d (.int .i64 k)] K) : vc_nrefunshift a k K := by
  obtain ⟨⟨hfa, hk0, hk1⟩, hk⟩ := h
  have ha := hfa.1
  have hal := hfa.2
  obtain ⟨s, rfl⟩ : ∃ n : Nat, k = n := ⟨k.toNat, by omega⟩
  rw [Int.toNat_natCast] at hk
  unfold vc_nrefunshift
  have ek : IntKind.wrap .u64 (s : Int) = (s : Int) := wu64 (by omega)
  have hs32 : s < 32 := by omega
  simp only [ek, Int.toNat_natCast, show min s 64 = s by omega, lm_eq ha]
  refine ⟨by omega, by omega, by omega, fun i o => Lim o ∧ o.length = a.length ∧ ∃ n : Nat, i = n ∧ n ≤ a.length ∧ vt o n = val a / 2 ^ s % 4294967296 ^ n, fun i o => a.length - i.toNat, ⟨Lim.zeros _, by simp, 0, rfl, by omega, by rw [vt_zero, Nat.pow_zero, Nat.mod_one]⟩, ?_⟩
  rintro i o ⟨ho, hol, n, rfl, hn, hv⟩
  refine ⟨fun h => ?_, fun h => ?_⟩
  · simp only [decide_eq_true_eq] at h
    have e1 : IntKind.wrap .i64 ((n : Int) + 1) = ((n + 1 : Nat) : Int) := by rw [w64 (by omega)]; omega
    simp only [e1, Int.toNat_natCast]
    have hx := lm_lt ha n
    have hy := lm_lt ha (n + 1)
    have hyz : ¬ n + 1 < a.length → lm a (n + 1) = 0 := fun h => by unfold lm; rw [getD_out (by omega)]; rfl
    have hvd : vd a n = lm a n + 4294967296 * (lm a (n + 1) + 4294967296 * vd a (n + 2)) := by rw [vd_lm a n, vd_lm a (n + 1)]
    obtain ⟨x, hx'⟩ : ∃ x, lm a n = x := ⟨_, rfl⟩
    obtain ⟨y, hy'⟩ : ∃ x, lm a (n + 1) = x := ⟨_, rfl⟩
    rw [hx'] at hx hvd
    rw [hy'] at hy hyz hvd
    simp only [hx', hy']
    have w0 : IntKind.wrap .u64 (x : Int) = (x : Int) := wu64 (by omega)
    have w1 : IntKind.wrap .u64 (IntKind.wrap .u64 (y : Int) * 4294967296) = ((y * 2 ^ 32 : Nat) : Int) := by
      have p32 : (2 : Nat) ^ 32 = 4294967296 := rfl
      rw [wu64 (x := (y : Int)) (by omega), wu64 (by omega), p32]; omega
    have w2 : bitop .or .u64 (x : Int) ((y * 2 ^ 32 : Nat) : Int) = ((y * 4294967296 + x : Nat) : Int) := or64d y x 32 (by have p32 : (2 : Nat) ^ 32 = 4294967296 := rfl; omega) (by have p32 : (2 : Nat) ^ 32 = 4294967296 := rfl; omega)
    simp only [w0, w1, w2]
    refine ⟨by omega, by omega, fun v => v = ((y * 4294967296 + x : Nat) : Int), ⟨fun h1 => ?_, fun h1 => ?_⟩, ?_⟩
    · simp only [decide_eq_true_eq] at h1
      exact ⟨by omega, h1, by first | rfl | trivial, rfl⟩
    · simp only [decide_eq_false_iff_not] at h1
      refine ⟨by first | rfl | trivial, ?_⟩
      rw [hyz (by omega), Nat.zero_mul, Nat.zero_add]
    rintro v rfl
    have p1 : (2 : Int) ^ s = ((2 ^ s : Nat) : Int) := by simp
    have w3 : Int.fdiv ((y * 4294967296 + x : Nat) : Int) ((2 : Int) ^ s) = (((y * 4294967296 + x) / 2 ^ s : Nat) : Int) := by
      rw [p1, Int.fdiv_eq_ediv_of_nonneg _ (Int.natCast_nonneg _), Int.natCast_ediv]
    have w4 : IntKind.wrap .u32 (((y * 4294967296 + x) / 2 ^ s : Nat) : Int) = (((y * 4294967296 + x) / 2 ^ s % 4294967296 : Nat) : Int) := by
      rw [wu32m, Int.natCast_emod]; rfl
    simp only [w3, w4]
    have hlimb : (y * 4294967296 + x) / 2 ^ s % 4294967296 = val a / 2 ^ s / 4294967296 ^ n % 4294967296 := by
      rw [unshift_limb (A := vd a (n + 2)) hs32, ← hvd, ← vd_div ha n, Nat.div_div_eq_div_mul, Nat.div_div_eq_div_mul, Nat.mul_comm]
    rw [hlimb]
    have hX : val a / 2 ^ s / 4294967296 ^ n % 4294967296 < 4294967296 := Nat.mod_lt _ (by decide)
    refine ⟨by omega, by omega, by omega, ⟨ho.set _ ⟨Int.natCast_nonneg _, by omega⟩, by rw [List.length_set]; exact hol, n + 1, rfl, by omega, ?_⟩, by show a.length - ((n + 1 : Nat) : Int).toNat < a.length - (n : Int).toNat; omega⟩
    rw [vt_succ, vt_set _ _ _ _ (Nat.le_refl _), getD_set, if_pos ⟨rfl, by omega⟩, Int.toNat_natCast, hv, Nat.pow_succ, Nat.mod_mul]
  · simp only [decide_eq_false_iff_not] at h
    obtain rfl : n = a.length := by omega
    rw [vt_all o (by omega), Nat.mod_eq_of_lt (Nat.lt_of_le_of_lt (Nat.div_le_self _ _) (val_lt ha))] at hv
    refine ⟨⟨ho, by omega⟩, ?_⟩
    rw [hv]; exact hk

end Nt
end

section
/- Verification conditions, printed. -/
open Go Go.Vc
namespace Nt
def vc_nrefdigit : List Int → List Int → Int → (OB → TV → Prop) → Prop :=
 fun (u v : List Int) (j : Int) (K : OB → TV → Prop) => (0 : Int) ≤ IntKind.wrap IntKind.i64 (j + (Nat.cast : Nat → Int) (List.length v)) ∧ IntKind.wrap IntKind.i64 (j + (Nat.cast : Nat → Int)
 (List.length v)) < (Nat.cast : Nat → Int) (List.length u) ∧ (0 : Int) ≤ IntKind.wrap IntKind.i64 (IntKind.wrap IntKind.i64 (j + (Nat.cast : Nat → Int) (List.length v)) - (1 : Int)) ∧ IntKind.wrap
 IntKind.i64 (IntKind.wrap IntKind.i64 (j + (Nat.cast : Nat → Int) (List.length v)) - (1 : Int)) < (Nat.cast : Nat → Int) (List.length u) ∧ (0 : Int) ≤ IntKind.wrap IntKind.i64 ((Nat.cast : Nat → Int)
 (List.length v) - (1 : Int)) ∧ IntKind.wrap IntKind.i64 ((Nat.cast : Nat → Int) (List.length v) - (1 : Int)) < (Nat.cast : Nat → Int) (List.length v) ∧ ¬IntKind.wrap IntKind.u64 (List.getD v
 (Int.toNat (IntKind.wrap IntKind.i64 ((Nat.cast : Nat → Int) (List.length v) - (1 : Int)))) (0 : Int)) = (0 : Int) ∧ (0 : Int) ≤ IntKind.wrap IntKind.i64 ((Nat.cast : Nat → Int) (List.length v) - (1 :
 Int)) ∧ IntKind.wrap IntKind.i64 ((Nat.cast : Nat → Int) (List.length v) - (1 : Int)) < (Nat.cast : Nat → Int) (List.length v) ∧ ¬IntKind.wrap IntKind.u64 (List.getD v (Int.toNat (IntKind.wrap
 IntKind.i64 ((Nat.cast : Nat → Int) (List.length v) - (1 : Int)))) (0 : Int)) = (0 : Int) ∧ ∃ (J : Int → Prop), (∃ (I : Int → Int → Prop), ∃ (m : Int → Int → Nat), ((false, OB.ints IntKind.u32 u) =
 (false, OB.ints IntKind.u32 u) ∧ I (IntKind.wrap IntKind.u64 (Int.tdiv (bitop BinOp.or IntKind.u64 (IntKind.wrap IntKind.u64 (IntKind.wrap IntKind.u64 (List.getD u (Int.toNat (IntKind.wrap IntKind.i64
 (j + (Nat.cast : Nat → Int) (List.length v)))) (0 : Int)) * (4294967296 : Int))) (IntKind.wrap IntKind.u64 (List.getD u (Int.toNat (IntKind.wrap IntKind.i64 (IntKind.wrap IntKind.i64 (j + (Nat.cast :
 Nat → Int) (List.length v)) - (1 : Int)))) (0 : Int)))) (IntKind.wrap IntKind.u64 (List.getD v (Int.toNat (IntKind.wrap IntKind.i64 ((Nat.cast : Nat → Int) (List.length v) - (1 : Int)))) (0 : Int)))))
 (Int.tmod (bitop BinOp.or IntKind.u64 (IntKind.wrap IntKind.u64 (IntKind.wrap IntKind.u64 (List.getD u (Int.toNat (IntKind.wrap IntKind.i64 (j + (Nat.cast : Nat → Int) (List.length v)))) (0 : Int)) *
 (4294967296 : Int))) (IntKind.wrap IntKind.u64 (List.getD u (Int.toNat (IntKind.wrap IntKind.i64 (IntKind.wrap IntKind.i64 (j + (Nat.cast : Nat → Int) (List.length v)) - (1 : Int)))) (0 : Int))))
 (IntKind.wrap IntKind.u64 (List.getD v (Int.toNat (IntKind.wrap IntKind.i64 ((Nat.cast : Nat → Int) (List.length v) - (1 : Int)))) (0 : Int))))) ∧ ∀ (v9 v10 : Int), I v9 v10 → (decide ((4294967296 :
 Int) ≤ v9) = true → (0 : Int) ≤ IntKind.wrap IntKind.i64 ((Nat.cast : Nat → Int) (List.length v) - (1 : Int)) ∧ IntKind.wrap IntKind.i64 ((Nat.cast : Nat → Int) (List.length v) - (1 : Int)) <
 (Nat.cast : Nat → Int) (List.length v) ∧ (decide ((4294967296 : Int) ≤ IntKind.wrap IntKind.u64 (v10 + IntKind.wrap IntKind.u64 (List.getD v (Int.toNat (IntKind.wrap IntKind.i64 ((Nat.cast : Nat →
 Int) (List.length v) - (1 : Int)))) (0 : Int)))) = true → (false, OB.ints IntKind.u32 u) = (false, OB.ints IntKind.u32 u) ∧ J (IntKind.wrap IntKind.u64 (v9 - (1 : Int)))) ∧ (decide ((4294967296 : Int)
 ≤ IntKind.wrap IntKind.u64 (v10 + IntKind.wrap IntKind.u64 (List.getD v (Int.toNat (IntKind.wrap IntKind.i64 ((Nat.cast : Nat → Int) (List.length v) - (1 : Int)))) (0 : Int)))) = false → (false,
 OB.ints IntKind.u32 u) = (false, OB.ints IntKind.u32 u) ∧ I (IntKind.wrap IntKind.u64 (v9 - (1 : Int))) (IntKind.wrap IntKind.u64 (v10 + IntKind.wrap IntKind.u64 (List.getD v (Int.toNat (IntKind.wrap
 IntKind.i64 ((Nat.cast : Nat → Int) (List.length v) - (1 : Int)))) (0 : Int)))) ∧ m (IntKind.wrap IntKind.u64 (v9 - (1 : Int))) (IntKind.wrap IntKind.u64 (v10 + IntKind.wrap IntKind.u64 (List.getD v
 (Int.toNat (IntKind.wrap IntKind.i64 ((Nat.cast : Nat → Int) (List.length v) - (1 : Int)))) (0 : Int)))) < m v9 v10)) ∧ (decide ((4294967296 : Int) ≤ v9) = false → (decide (v10 < (4294967296 : Int)) =
 true → (0 : Int) ≤ IntKind.wrap IntKind.i64 ((Nat.cast : Nat → Int) (List.length v) - (2 : Int)) ∧ IntKind.wrap IntKind.i64 ((Nat.cast : Nat → Int) (List.length v) - (2 : Int)) < (Nat.cast : Nat →
 Int) (List.length v) ∧ (0 : Int) ≤ IntKind.wrap IntKind.i64 (IntKind.wrap IntKind.i64 (j + (Nat.cast : Nat → Int) (List.length v)) - (2 : Int)) ∧ IntKind.wrap IntKind.i64 (IntKind.wrap IntKind.i64 (j
 + (Nat.cast : Nat → Int) (List.length v)) - (2 : Int)) < (Nat.cast : Nat → Int) (List.length u) ∧ (decide (bitop BinOp.or IntKind.u64 (IntKind.wrap IntKind.u64 (v10 * (4294967296 : Int)))
 (IntKind.wrap IntKind.u64 (List.getD u (Int.toNat (IntKind.wrap IntKind.i64 (IntKind.wrap IntKind.i64 (j + (Nat.cast : Nat → Int) (List.length v)) - (2 : Int)))) (0 : Int))) < IntKind.wrap IntKind.u64
 (v9 * IntKind.wrap IntKind.u64 (List.getD v (Int.toNat (IntKind.wrap IntKind.i64 ((Nat.cast : Nat → Int) (List.length v) - (2 : Int)))) (0 : Int)))) = true → (0 : Int) ≤ IntKind.wrap IntKind.i64
 ((Nat.cast : Nat → Int) (List.length v) - (1 : Int)) ∧ IntKind.wrap IntKind.i64 ((Nat.cast : Nat → Int) (List.length v) - (1 : Int)) < (Nat.cast : Nat → Int) (List.length v) ∧ (decide ((4294967296 :
 Int) ≤ IntKind.wrap IntKind.u64 (v10 + IntKind.wrap IntKind.u64 (List.getD v (Int.toNat (IntKind.wrap IntKind.i64 ((Nat.cast : Nat → Int) (List.length v) - (1 : Int)))) (0 : Int)))) = true → (false,
 OB.ints IntKind.u32 u) = (false, OB.ints IntKind.u32 u) ∧ J (IntKind.wrap IntKind.u64 (v9 - (1 : Int)))) ∧ (decide ((4294967296 : Int) ≤ IntKind.wrap IntKind.u64 (v10 + IntKind.wrap IntKind.u64
 (List.getD v (Int.toNat (IntKind.wrap IntKind.i64 ((Nat.cast : Nat → Int) (List.length v) - (1 : Int)))) (0 : Int)))) = false → (false, OB.ints IntKind.u32 u) = (false, OB.ints IntKind.u32 u) ∧ I
 (IntKind.wrap IntKind.u64 (v9 - (1 : Int))) (IntKind.wrap IntKind.u64 (v10 + IntKind.wrap IntKind.u64 (List.getD v (Int.toNat (IntKind.wrap IntKind.i64 ((Nat.cast : Nat → Int) (List.length v) - (1 :
 Int)))) (0 : Int)))) ∧ m (IntKind.wrap IntKind.u64 (v9 - (1 : Int))) (IntKind.wrap IntKind.u64 (v10 + IntKind.wrap IntKind.u64 (List.getD v (Int.toNat (IntKind.wrap IntKind.i64 ((Nat.cast : Nat → Int)
 (List.length v) - (1 : Int)))) (0 : Int)))) < m v9 v10)) ∧ (decide (bitop BinOp.or IntKind.u64 (IntKind.wrap IntKind.u64 (v10 * (4294967296 : Int))) (IntKind.wrap IntKind.u64 (List.getD u (Int.toNat
 (IntKind.wrap IntKind.i64 (IntKind.wrap IntKind.i64 (j + (Nat.cast : Nat → Int) (List.length v)) - (2 : Int)))) (0 : Int))) < IntKind.wrap IntKind.u64 (v9 * IntKind.wrap IntKind.u64 (List.getD v
 (Int.toNat (IntKind.wrap IntKind.i64 ((Nat.cast : Nat → Int) (List.length v) - (2 : Int)))) (0 : Int)))) = false → (false, OB.ints IntKind.u32 u) = (false, OB.ints IntKind.u32 u) ∧ J v9)) ∧ (decide
 (v10 < (4294967296 : Int)) = false → (false, OB.ints IntKind.u32 u) = (false, OB.ints IntKind.u32 u) ∧ J v9))) ∧ ∀ (v9 : Int), J v9 → ∃ (I : Int → Int → Int → List Int → Prop), ∃ (m : Int → Int → Int
 → List Int → Nat), I (0 : Int) (0 : Int) (0 : Int) u ∧ ∀ (v11 v12 v13 : Int) (o0 : List Int), I v11 v12 v13 o0 → (decide (v13 ≤ (Nat.cast : Nat → Int) (List.length v)) = true → ∃ (J : Int → Prop),
 ((decide (v13 < (Nat.cast : Nat → Int) (List.length v)) = true → (0 : Int) ≤ v13 ∧ v13 < (Nat.cast : Nat → Int) (List.length v) ∧ (false, OB.ints IntKind.u32 o0) = (false, OB.ints IntKind.u32 o0) ∧ J
 (IntKind.wrap IntKind.u64 (v12 + IntKind.wrap IntKind.u64 (v9 * IntKind.wrap IntKind.u64 (List.getD v (Int.toNat v13) (0 : Int)))))) ∧ (decide (v13 < (Nat.cast : Nat → Int) (List.length v)) = false →
 (false, OB.ints IntKind.u32 o0) = (false, OB.ints IntKind.u32 o0) ∧ J v12)) ∧ ∀ (v14 : Int), J v14 → (0 : Int) ≤ IntKind.wrap IntKind.i64 (j + v13) ∧ IntKind.wrap IntKind.i64 (j + v13) < (Nat.cast :
 Nat → Int) (List.length o0) ∧ ∃ (J : Int → Int → Prop), ((decide (IntKind.wrap IntKind.u64 (List.getD o0 (Int.toNat (IntKind.wrap IntKind.i64 (j + v13))) (0 : Int)) < IntKind.wrap IntKind.u64 (bitop
 BinOp.and IntKind.u64 v14 (4294967295 : Int) + v11)) = true → (false, OB.ints IntKind.u32 o0) = (false, OB.ints IntKind.u32 o0) ∧ J (1 : Int) (IntKind.wrap IntKind.u64 (IntKind.wrap IntKind.u64
 (List.getD o0 (Int.toNat (IntKind.wrap IntKind.i64 (j + v13))) (0 : Int)) + (4294967296 : Int)))) ∧ (decide (IntKind.wrap IntKind.u64 (List.getD o0 (Int.toNat (IntKind.wrap IntKind.i64 (j + v13))) (0
 : Int)) < IntKind.wrap IntKind.u64 (bitop BinOp.and IntKind.u64 v14 (4294967295 : Int) + v11)) = false → (false, OB.ints IntKind.u32 o0) = (false, OB.ints IntKind.u32 o0) ∧ J (0 : Int) (IntKind.wrap
 IntKind.u64 (List.getD o0 (Int.toNat (IntKind.wrap IntKind.i64 (j + v13))) (0 : Int))))) ∧ ∀ (v11_1 v16 : Int), J v11_1 v16 → (0 : Int) ≤ IntKind.wrap IntKind.i64 (j + v13) ∧ IntKind.wrap IntKind.i64
 (j + v13) < (Nat.cast : Nat → Int) (List.length o0) ∧ I v11_1 (Int.fdiv v14 (4294967296 : Int)) (IntKind.wrap IntKind.i64 (v13 + (1 : Int))) (List.set o0 (Int.toNat (IntKind.wrap IntKind.i64 (j +
 v13))) (IntKind.wrap IntKind.u32 (IntKind.wrap IntKind.u64 (v16 - IntKind.wrap IntKind.u64 (bitop BinOp.and IntKind.u64 v14 (4294967295 : Int) + v11))))) ∧ m v11_1 (Int.fdiv v14 (4294967296 : Int))
 (IntKind.wrap IntKind.i64 (v13 + (1 : Int))) (List.set o0 (Int.toNat (IntKind.wrap IntKind.i64 (j + v13))) (IntKind.wrap IntKind.u32 (IntKind.wrap IntKind.u64 (v16 - IntKind.wrap IntKind.u64 (bitop
 BinOp.and IntKind.u64 v14 (4294967295 : Int) + v11))))) < m v11 v12 v13 o0) ∧ (decide (v13 ≤ (Nat.cast : Nat → Int) (List.length v)) = false → (decide (v11 = (0 : Int)) = true → K (OB.ints IntKind.u32
 o0) (TV.d (AV.int IntKind.u32 (IntKind.wrap IntKind.u32 v9)))) ∧ (decide (v11 = (0 : Int)) = false → ∃ (I : Int → Int → List Int → Prop), ∃ (m : Int → Int → List Int → Nat), I (0 : Int) (0 : Int) o0 ∧
 ∀ (v12 v17 : Int) (o0 : List Int), I v12 v17 o0 → (decide (v17 ≤ (Nat.cast : Nat → Int) (List.length v)) = true → (0 : Int) ≤ IntKind.wrap IntKind.i64 (j + v17) ∧ IntKind.wrap IntKind.i64 (j + v17) <
 (Nat.cast : Nat → Int) (List.length o0) ∧ ∃ (J : Int → Prop), ((decide (v17 < (Nat.cast : Nat → Int) (List.length v)) = true → (0 : Int) ≤ v17 ∧ v17 < (Nat.cast : Nat → Int) (List.length v) ∧ (false,
 OB.ints IntKind.u32 o0) = (false, OB.ints IntKind.u32 o0) ∧ J (IntKind.wrap IntKind.u64 (IntKind.wrap IntKind.u64 (IntKind.wrap IntKind.u64 (List.getD o0 (Int.toNat (IntKind.wrap IntKind.i64 (j +
 v17))) (0 : Int)) + v12) + IntKind.wrap IntKind.u64 (List.getD v (Int.toNat v17) (0 : Int))))) ∧ (decide (v17 < (Nat.cast : Nat → Int) (List.length v)) = false → (false, OB.ints IntKind.u32 o0) =
 (false, OB.ints IntKind.u32 o0) ∧ J (IntKind.wrap IntKind.u64 (IntKind.wrap IntKind.u64 (List.getD o0 (Int.toNat (IntKind.wrap IntKind.i64 (j + v17))) (0 : Int)) + v12)))) ∧ ∀ (v18 : Int), J v18 → (0
 : Int) ≤ IntKind.wrap IntKind.i64 (j + v17) ∧ IntKind.wrap IntKind.i64 (j + v17) < (Nat.cast : Nat → Int) (List.length o0) ∧ I (Int.fdiv v18 (4294967296 : Int)) (IntKind.wrap IntKind.i64 (v17 + (1 :
 Int))) (List.set o0 (Int.toNat (IntKind.wrap IntKind.i64 (j + v17))) (IntKind.wrap IntKind.u32 v18)) ∧ m (Int.fdiv v18 (4294967296 : Int)) (IntKind.wrap IntKind.i64 (v17 + (1 : Int))) (List.set o0
 (Int.toNat (IntKind.wrap IntKind.i64 (j + v17))) (IntKind.wrap IntKind.u32 v18)) < m v12 v17 o0) ∧ (decide (v17 ≤ (Nat.cast : Nat → Int) (List.length v)) = false → K (OB.ints IntKind.u32 o0) (TV.d
 (AV.int IntKind.u32 (IntKind.wrap IntKind.u32 (IntKind.wrap IntKind.u64 (v9 - (1 : Int)))))))))

end Nt
end

section
/- NtDg: the proof of the verification condition of one digit of the specification's division. -/
open Go Go.Vc
namespace Nt

theorem dig_neg2 {v2 vu w G V wj l D : Nat} (h3 : v2 + wj * (G * V) = vu + w) (h2 : v2 < w) (hvu : vu = l + wj * D) (hGD : G * V ≤ D + V) :
    1 ≤ G ∧ vu < wj * (G * V) ∧ wj * ((G - 1) * V) ≤ vu ∧ wj * (G * V) = wj * ((G - 1) * V) + wj * V ∧ (G - 1) * V ≤ D := by
  have hG : 1 ≤ G := by
    rcases Nat.eq_zero_or_pos G with h0 | h0
    · rw [h0, Nat.zero_mul, Nat.mul_zero] at h3; omega
    · exact h0
  have h4 : G * V = (G - 1) * V + V := by rw [← Nat.succ_mul]; congr 1; omega
  have h5 : wj * (G * V) = wj * ((G - 1) * V) + wj * V := by rw [h4, Nat.mul_add]
  have h6 : (G - 1) * V ≤ D := by omega
  refine ⟨hG, by omega, ?_, h5, h6⟩
  have := Nat.mul_le_mul_left wj h6
  omega
theorem back_fin {v2 v3 vu w C G V wj : Nat} (ha : v3 + w * C = v2 + wj * V) (h3 : v2 + wj * (G * V) = vu + w) (h5 : wj * (G * V) = wj * ((G - 1) * V) + wj * V) (h6 : wj * ((G - 1) * V) ≤ vu) (h7 : vu < wj * (G * V)) (hv : v3 < w) (hw : wj * V ≤ w) :
    v3 + wj * ((G - 1) * V) = vu := by
  rcases Nat.lt_or_ge C 1 with h | h
  · obtain rfl : C = 0 := by omega
    rw [Nat.mul_zero] at ha; omega
  · rcases Nat.lt_or_ge C 2 with h2 | h2
    · obtain rfl : C = 1 := by omega
      rw [Nat.mul_one] at ha; omega
    · have := Nat.mul_le_mul_left w h2
      omega
theorem vt_out {v : List Int} {i : Nat} (h : v.length ≤ i) : lm v i = 0 := by unfold lm; rw [getD_out h]; rfl

set_option maxHeartbeats 1000000 in
theorem p_nrefdigit (u v : List Int) (j : Int) (K : OB → TV → Prop) (h : crefdigit.T (.vec 0) (.ints .u32 u) [.d (.ints .u32 v), .d (.int .i64 j)] K) : vc_nrefdigit u v j K := by
  obtain ⟨⟨hu', hv', hn2, hj0, hjn, hVt, hlt⟩, hk⟩ := h
  obtain ⟨j, rfl⟩ : ∃ i : Nat, j = i := ⟨j.toNat, by omega⟩
  simp only [Int.toNat_natCast] at hjn hlt hk
  have hul2 := hu'.2
  have hvl2 := hv'.2
  have hu := hu'.1
  have hvL := hv'.1
  obtain ⟨n, hvl⟩ : ∃ n, v.length = n := ⟨_, rfl⟩
  rw [hvl] at hn2 hjn hVt hvl2
  have hVn : val v < 4294967296 ^ n := hvl ▸ val_lt hvL
  -- the answer, told
  have fin : ∀ (u' : List Int) (Q : Nat), Lim u' → u'.length = u.length → val u' + 4294967296 ^ j * (Q * val v) = val u → Q * val v ≤ vd u j → vd u j < (Q + 1) * val v → Q < 4294967296 → K (.ints .u32 u') (.d (.int .u32 (IntKind.wrap .u32 (Q : Int)))) := fun u' Q h1 h2 h3 h4 h5 h6 => by
    have hq : val u / 4294967296 ^ j / val v = Q := by rw [vd_div hu]; exact Nat.div_eq_of_lt_le h4 h5
    rw [hq] at hk
    have hval : val u - 4294967296 ^ j * (Q * val v) = val u' := by omega
    rw [hval, ← h2, lowl_of _ h1 rfl] at hk
    rw [wu32 (by omega)]; exact hk
  unfold vc_nrefdigit
  rw [hvl]
  have e4 : IntKind.wrap .i64 ((n : Int) - 1) = ((n - 1 : Nat) : Int) := by rw [w64 (by omega)]; omega
  have e5 : IntKind.wrap .i64 ((n : Int) - 2) = ((n - 2 : Nat) : Int) := by rw [w64 (by omega)]; omega
  have e7 : IntKind.wrap .i64 ((j : Int) + (n : Int)) = ((j + n : Nat) : Int) := by rw [w64 (by omega)]; omega
  have e8 : IntKind.wrap .i64 (((j + n : Nat) : Int) - 1) = ((j + n - 1 : Nat) : Int) := by rw [w64 (by omega)]; omega
  have e9 : IntKind.wrap .i64 (((j + n : Nat) : Int) - 2) = ((j + n - 2 : Nat) : Int) := by rw [w64 (by omega)]; omega
  simp only [e4, e5, e7, e8, e9, Int.toNat_natCast]
  obtain ⟨p, lv, ld, hd⟩ := head_of (j := j) hu hvL hvl hn2 rfl hVt hlt
  simp only [lm_eq hu, lm_eq hvL, word2 (lm_lt hu (j + n)) (lm_lt hu (j + n - 1))]
  have htI : IntKind.wrap .u64 ((lm v (n - 1) : Nat) : Int) = ((lm v (n - 1) : Nat) : Int) := wu64 (by have := hd.htl; omega)
  have hsI : IntKind.wrap .u64 ((lm v (n - 2) : Nat) : Int) = ((lm v (n - 2) : Nat) : Int) := wu64 (by have := hd.hs; omega)
  simp only [htI, hsI]
  obtain ⟨F, hFe⟩ : ∃ F, lm u (j + n) * 4294967296 + lm u (j + n - 1) = F := ⟨_, rfl⟩
  rw [hFe] at hd
  simp only [hFe]
  obtain ⟨D, hDe⟩ : ∃ D, vd u j = D := ⟨_, rfl⟩
  rw [hDe] at hd fin
  obtain ⟨t, hte⟩ : ∃ t, lm v (n - 1) = t := ⟨_, rfl⟩
  obtain ⟨s, hse⟩ : ∃ s, lm v (n - 2) = s := ⟨_, rfl⟩
  obtain ⟨th, hthe⟩ : ∃ s, lm u (j + n - 2) = s := ⟨_, rfl⟩
  rw [hte, hse, hthe] at hd
  simp only [hte, hse, hthe]
  obtain ⟨hV, hDq, hlv, hld, ht, htl, hs, hth, hDV, hF⟩ := hd
  have eF : Int.tdiv (F : Int) (t : Int) = ((F / t : Nat) : Int) := by rw [Int.tdiv_eq_ediv_of_nonneg (by omega), Int.natCast_ediv]
  have eR : Int.tmod (F : Int) (t : Int) = ((F % t : Nat) : Int) := by rw [Int.tmod_eq_emod_of_nonneg (by omega), Int.natCast_emod]
  simp only [eF, eR]
  have hF2 : F < 18446744073709551616 := by omega
  have hFt : F / t ≤ F := Nat.div_le_self _ _
  have hRt : F % t < t := Nat.mod_lt _ ht
  have eW : ∀ G0 : Nat, G0 ≤ F → IntKind.wrap .u64 (G0 : Int) = (G0 : Int) := fun G0 h => wu64 (by omega)
  simp only [eW _ hFt]
  refine ⟨by omega, by omega, by omega, by omega, by omega, by omega, by omega, by omega, by omega, by omega, fun g => ∃ G : Nat, g = G ∧ G < 4294967296 ∧ D < (G + 1) * val v ∧ G * val v ≤ D + val v, ?_, ?_⟩
  · refine ⟨fun g r => ∃ G R : Nat, g = G ∧ r = R ∧ t * G + R = F ∧ R < 4294967296 ∧ D < (G + 1) * val v, fun g r => g.toNat, ⟨by first | rfl | trivial, F / t, F % t, rfl, rfl, Nat.div_add_mod F t, by omega, ?_⟩, ?_⟩
    · rw [hDq, hV]
      exact (est_init (lv := lv) (s := s) rfl rfl ht hld hth).1
    rintro g r ⟨G, R, rfl, rfl, hGR, hR, hDG⟩
    have hGF : G ≤ F := by
      have : 1 * G ≤ t * G := Nat.mul_le_mul_right _ ht
      omega
    have eRt : IntKind.wrap .u64 ((R : Int) + (t : Int)) = ((R + t : Nat) : Int) := by rw [wu64 (by omega)]; omega
    simp only [eRt]
    refine ⟨fun hG => ⟨by omega, by omega, ?_⟩, fun hG => ⟨fun hR2 => ⟨by omega, by omega, by omega, by omega, ?_⟩, fun hR2 => ?_⟩⟩
    · simp only [decide_eq_true_eq] at hG
      have hlt' : D < G * val v := Nat.lt_of_lt_of_le hDV (Nat.mul_le_mul_right _ (by omega))
      have hG1 : 1 ≤ G := by
        rcases Nat.eq_zero_or_pos G with h0 | h0
        · rw [h0, Nat.zero_mul] at hlt'; omega
        · exact h0
      have eG : IntKind.wrap .u64 ((G : Int) - 1) = ((G - 1 : Nat) : Int) := by rw [wu64 (by omega)]; omega
      have hGR' : t * (G - 1) + (R + t) = F := by
        have : t * G = t * (G - 1) + t := by rw [← Nat.mul_succ]; exact congrArg (t * ·) (show G = (G - 1) + 1 by omega)
        omega
      have hDG' : D < (G - 1 + 1) * val v := by rw [show G - 1 + 1 = G by omega]; exact hlt'
      simp only [eG]
      refine ⟨fun hr => ⟨by first | rfl | trivial, G - 1, rfl, ?_, hDG', ?_⟩, fun hr => ⟨by first | rfl | trivial, ⟨G - 1, R + t, rfl, rfl, hGR', ?_, hDG'⟩, ?_⟩⟩
      · simp only [decide_eq_true_eq] at hr
        refine Nat.lt_of_mul_lt_mul_left (a := t) ?_
        omega
      · simp only [decide_eq_true_eq] at hr
        have hg1 : G - 1 < 4294967296 := by
          refine Nat.lt_of_mul_lt_mul_left (a := t) ?_
          omega
        have hc1 : (G - 1) * s ≤ (R + t) * 4294967296 + th := by
          have h1 : (G - 1) * s ≤ 4294967296 * 4294967296 := Nat.mul_le_mul (by omega) (by omega)
          have h2 : 4294967296 * 4294967296 ≤ (R + t) * 4294967296 := Nat.mul_le_mul_right _ (by omega)
          omega
        rw [hDq, hV]
        exact est_exit hGR' ht hlv hg1 hc1
      · simp only [decide_eq_false_iff_not] at hr
        omega
      · show ((G - 1 : Nat) : Int).toNat < (G : Int).toNat
        omega
    · simp only [decide_eq_false_iff_not] at hG
      have eM : IntKind.wrap .u64 ((G : Int) * (s : Int)) = ((G * s : Nat) : Int) := by
        have : G * s ≤ 4294967295 * 4294967295 := Nat.mul_le_mul (by omega) (by omega)
        rw [← Int.natCast_mul, wu64 ⟨Int.natCast_nonneg _, by omega⟩]
      have eO := word2' (h := R) (l := th) hR hth
      simp only [eM, eO]
      refine ⟨fun hc => ⟨by omega, by omega, ?_⟩, fun hc => ⟨by first | rfl | trivial, G, rfl, by omega, hDG, ?_⟩⟩
      · simp only [decide_eq_true_eq, Int.ofNat_lt] at hc
        have hlt' : D < G * val v := by rw [hDq, hV]; exact est_cond hGR hld hc
        have hG1 : 1 ≤ G := by
          rcases Nat.eq_zero_or_pos G with h0 | h0
          · rw [h0, Nat.zero_mul] at hlt'; omega
          · exact h0
        have eG : IntKind.wrap .u64 ((G : Int) - 1) = ((G - 1 : Nat) : Int) := by rw [wu64 (by omega)]; omega
        have hGR' : t * (G - 1) + (R + t) = F := by
          have : t * G = t * (G - 1) + t := by rw [← Nat.mul_succ]; exact congrArg (t * ·) (show G = (G - 1) + 1 by omega)
          omega
        have hDG' : D < (G - 1 + 1) * val v := by rw [show G - 1 + 1 = G by omega]; exact hlt'
        simp only [eG]
        refine ⟨fun hr => ⟨by first | rfl | trivial, G - 1, rfl, ?_, hDG', ?_⟩, fun hr => ⟨by first | rfl | trivial, ⟨G - 1, R + t, rfl, rfl, hGR', ?_, hDG'⟩, ?_⟩⟩
        · simp only [decide_eq_true_eq] at hr
          refine Nat.lt_of_mul_lt_mul_left (a := t) ?_
          omega
        · simp only [decide_eq_true_eq] at hr
          have hg1 : G - 1 < 4294967296 := by
            refine Nat.lt_of_mul_lt_mul_left (a := t) ?_
            omega
          have hc1 : (G - 1) * s ≤ (R + t) * 4294967296 + th := by
            have h1 : (G - 1) * s ≤ 4294967296 * 4294967296 := Nat.mul_le_mul (by omega) (by omega)
            have h2 : 4294967296 * 4294967296 ≤ (R + t) * 4294967296 := Nat.mul_le_mul_right _ (by omega)
            omega
          rw [hDq, hV]
          exact est_exit hGR' ht hlv hg1 hc1
        · simp only [decide_eq_false_iff_not] at hr
          omega
        · show ((G - 1 : Nat) : Int).toNat < (G : Int).toNat
          omega
      · simp only [decide_eq_false_iff_not, Int.ofNat_lt] at hc
        rw [hDq, hV]
        exact est_exit hGR ht hlv (by omega) (by omega)
    · simp only [decide_eq_false_iff_not] at hR2
      omega
  · rintro g ⟨G, rfl, hGW, hDG, hGD⟩
    obtain ⟨l, hvu, hl⟩ : ∃ l, val u = l + 4294967296 ^ j * D ∧ l < 4294967296 ^ j := ⟨vt u j, by rw [← hDe]; exact vd_vt u j, vt_lt hu j⟩
    have hwV : 4294967296 ^ j * val v ≤ 4294967296 ^ (j + (n + 1)) := by
      rw [Nat.pow_add]
      exact Nat.mul_le_mul_left _ (Nat.le_trans (Nat.le_of_lt hVn) (Nat.pow_le_pow_right (by decide) (by omega)))
    have hz : ∀ p, j + n < p → u.getD p 0 = 0 := fun p hp => by
      refine hi_zero hu (m := j + n + 1) ?_ p (by omega)
      rw [show j + n + 1 = j + 1 + n by omega, Nat.pow_add]
      exact Nat.lt_of_lt_of_le hlt (Nat.mul_le_mul_left _ (Nat.le_of_lt hVn))
    refine ⟨fun bo c i u' => Lim u' ∧ u'.length = u.length ∧ ∃ C B i0 : Nat, bo = B ∧ c = C ∧ i = i0 ∧ i0 ≤ n + 1 ∧ B ≤ 1 ∧ C < 4294967296 ∧ (n < i0 → C = 0) ∧ val u' + 4294967296 ^ j * (G * vt v i0) = val u + 4294967296 ^ (j + i0) * (C + B) ∧ ∀ p, j + n < p → u'.getD p 0 = 0,
      fun _ _ i _ => n + 1 - i.toNat, ⟨hu, rfl, 0, 0, 0, rfl, rfl, rfl, by omega, by omega, by omega, fun _ => rfl, by rw [vt_zero, Nat.mul_zero, Nat.mul_zero, Nat.mul_zero], hz⟩, ?_⟩
    rintro bo c i u' ⟨hu', hul', C, B, i, rfl, rfl, rfl, hin, hB, hC, hCn, hval, hz'⟩
    refine ⟨fun h => ?_, fun h => ?_⟩
    · simp only [decide_eq_true_eq] at h
      have ei : IntKind.wrap .i64 ((j : Int) + (i : Int)) = ((j + i : Nat) : Int) := by rw [w64 (by omega)]; omega
      have ei1 : IntKind.wrap .i64 ((i : Int) + 1) = ((i + 1 : Nat) : Int) := by rw [w64 (by omega)]; omega
      simp only [ei, ei1, Int.toNat_natCast, lm_eq hu']
      have hdl := lm_lt hvL i
      have hul2' := lm_lt hu' (j + i)
      have hdz : ¬ i < n → lm v i = 0 := fun h => vt_out (by omega)
      obtain ⟨d, hde⟩ : ∃ d, lm v i = d := ⟨_, rfl⟩
      obtain ⟨ui, hui⟩ : ∃ d, lm u' (j + i) = d := ⟨_, rfl⟩
      rw [hde] at hdl hdz
      rw [hui] at hul2'
      simp only [hde, hui]
      obtain ⟨t1, lo, T2, st, B2, hlo2, hT2, hlo, t2, hst, hst2, hB2, hB3, t4⟩ := sub_step' (g := G) (d := d) (c := C) (b := B) (u := ui) hGW hdl hC hB hul2'
      have hGd := prod_lt hGW hdl
      have w1 : IntKind.wrap .u64 (d : Int) = (d : Int) := wu64 (by omega)
      have w2 : IntKind.wrap .u64 ((G : Int) * (d : Int)) = ((G * d : Nat) : Int) := by rw [← Int.natCast_mul, wu64 ⟨Int.natCast_nonneg _, by omega⟩]
      have w3 : IntKind.wrap .u64 ((C : Int) + ((G * d : Nat) : Int)) = ((C + G * d : Nat) : Int) := by rw [← Int.natCast_add, wu64 ⟨Int.natCast_nonneg _, by omega⟩]
      simp only [w1, w2, w3]
      refine ⟨fun x => x = ((C + G * d : Nat) : Int), ⟨fun h1 => ?_, fun h1 => ?_⟩, ?_⟩
      · simp only [decide_eq_true_eq] at h1
        exact ⟨by omega, h1, by first | rfl | trivial, rfl⟩
      · simp only [decide_eq_false_iff_not] at h1
        refine ⟨by first | rfl | trivial, ?_⟩
        rw [hdz (by omega), Nat.mul_zero, Nat.add_zero]
      rintro x rfl
      have w4 := andu64 t1
      rw [hlo2] at w4
      have w5 : ((C + G * d : Nat) : Int).fdiv 4294967296 = (T2 : Int) := by
        have e : ∀ q : Nat, (q : Int).fdiv 4294967296 = ((q / 4294967296 : Nat) : Int) := fun q => by rw [Int.fdiv_eq_ediv_of_nonneg _ (by omega)]; omega
        rw [e, hT2]
      have w6 : IntKind.wrap .u64 ((lo : Int) + (B : Int)) = ((lo + B : Nat) : Int) := by rw [wu64 (by omega)]; omega
      have w7 : IntKind.wrap .u64 (ui : Int) = (ui : Int) := wu64 (by omega)
      have w8 : IntKind.wrap .u64 ((ui : Int) + 4294967296) = ((ui + 4294967296 : Nat) : Int) := by rw [wu64 (by omega)]; omega
      simp only [w4, w5, w6, w7, w8]
      refine ⟨by omega, by omega, fun b x => b = (B2 : Int) ∧ IntKind.wrap .u32 (IntKind.wrap .u64 (x - ((lo + B : Nat) : Int))) = (st : Int), ⟨fun h2 => ⟨by first | rfl | trivial, ?_, ?_⟩, fun h2 => ⟨by first | rfl | trivial, ?_, ?_⟩⟩, ?_⟩
      · simp only [decide_eq_true_eq, Int.ofNat_lt] at h2
        rw [if_pos (by omega)] at hB2; exact hB2
      · simp only [decide_eq_true_eq, Int.ofNat_lt] at h2
        rw [wu64 (by omega), wu32m]; omega
      · simp only [decide_eq_false_iff_not, Int.ofNat_lt] at h2
        rw [if_neg (by omega)] at hB2; exact hB2
      · simp only [decide_eq_false_iff_not, Int.ofNat_lt] at h2
        rw [wu64 (by omega), wu32m]; omega
      rintro b x ⟨rfl, hx⟩
      simp only [hx]
      have hvs := val_set u' (j + i) (st : Int) (by omega)
      rw [show (u'.getD (j + i) 0).toNat = ui from hui, Int.toNat_natCast] at hvs
      have hvt : vt v (i + 1) = vt v i + 4294967296 ^ i * d := by rw [vt_succ, show (v.getD i 0).toNat = d from hde]
      have hfin := sub_fin hvs hval t4
      refine ⟨by omega, by omega, ⟨hu'.set _ ⟨by omega, by omega⟩, by rw [List.length_set]; exact hul', T2, B2, i + 1, rfl, rfl, rfl, by omega, hB3, t2, fun hi => ?_, ?_, fun p hp => ?_⟩, by show n + 1 - ((i + 1 : Nat) : Int).toNat < n + 1 - (i : Int).toNat; omega⟩
      · rw [hdz (by omega), Nat.mul_zero, Nat.add_zero] at hT2
        omega
      · have e10 : 4294967296 ^ j * (G * vt v (i + 1)) = 4294967296 ^ j * (G * vt v i) + 4294967296 ^ (j + i) * (G * d) := by
          rw [hvt, Nat.mul_add, Nat.mul_add, Nat.pow_add, Nat.mul_left_comm G, Nat.mul_assoc]
        have e11 : 4294967296 ^ (j + (i + 1)) * (T2 + B2) = 4294967296 ^ (j + i) * (4294967296 * (T2 + B2)) := by
          rw [← Nat.add_assoc, Nat.pow_succ, Nat.mul_assoc]
        rw [e10, e11]; exact hfin
      · rw [getD_set, if_neg (by omega)]; exact hz' p hp
    · simp only [decide_eq_false_iff_not] at h
      obtain rfl : i = n + 1 := by omega
      have hC0 := hCn (by omega)
      subst hC0
      rw [vt_all v (by omega), Nat.zero_add] at hval
      have hv2 : val u' < 4294967296 ^ (j + (n + 1)) := val_hi hu' fun p hp => hz' p (by omega)
      refine ⟨fun hb => ?_, fun hb => ?_⟩
      · simp only [decide_eq_true_eq] at hb
        obtain rfl : B = 0 := by omega
        rw [Nat.mul_zero, Nat.add_zero] at hval
        refine fin u' G hu' hul' hval ?_ hDG hGW
        refine Nat.le_of_lt_succ (Nat.lt_of_mul_lt_mul_left (a := 4294967296 ^ j) ?_)
        rw [Nat.mul_succ]
        omega
      · simp only [decide_eq_false_iff_not] at hb
        obtain rfl : B = 1 := by omega
        rw [Nat.mul_one] at hval
        obtain ⟨g1, g7, g6, g5, g4⟩ := dig_neg2 hval hv2 hvu hGD
        have eG : IntKind.wrap .u64 ((G : Int) - 1) = ((G - 1 : Nat) : Int) := by rw [wu64 (by omega)]; omega
        simp only [eG]
        refine ⟨fun c i3 u3 => Lim u3 ∧ u3.length = u.length ∧ ∃ C3 i0 : Nat, c = C3 ∧ i3 = i0 ∧ i0 ≤ n + 1 ∧ C3 ≤ 1 ∧ val u3 + 4294967296 ^ (j + i0) * C3 = val u' + 4294967296 ^ j * vt v i0 ∧ ∀ p, j + n < p → u3.getD p 0 = 0, fun _ i3 _ => n + 1 - i3.toNat,
          ⟨hu', hul', 0, 0, rfl, rfl, by omega, by omega, by rw [vt_zero, Nat.mul_zero, Nat.mul_zero], hz'⟩, ?_⟩
        rintro c i3 u3 ⟨hu3, hu3l, C3, i3, rfl, rfl, hi3, hC3, hval3, hz3⟩
        refine ⟨fun h3 => ?_, fun h3 => ?_⟩
        · simp only [decide_eq_true_eq] at h3
          have ej : IntKind.wrap .i64 ((j : Int) + (i3 : Int)) = ((j + i3 : Nat) : Int) := by rw [w64 (by omega)]; omega
          have ej1 : IntKind.wrap .i64 ((i3 : Int) + 1) = ((i3 + 1 : Nat) : Int) := by rw [w64 (by omega)]; omega
          simp only [ej, ej1, Int.toNat_natCast, lm_eq hu3]
          have hdl := lm_lt hvL i3
          have hul2' := lm_lt hu3 (j + i3)
          have hdz : ¬ i3 < n → lm v i3 = 0 := fun h => vt_out (by omega)
          obtain ⟨d, hde⟩ : ∃ d, lm v i3 = d := ⟨_, rfl⟩
          obtain ⟨ui, hui⟩ : ∃ d, lm u3 (j + i3) = d := ⟨_, rfl⟩
          rw [hde] at hdl hdz
          rw [hui] at hul2'
          simp only [hde, hui]
          have w0 : IntKind.wrap .u64 (IntKind.wrap .u64 (ui : Int) + (C3 : Int)) = ((ui + C3 : Nat) : Int) := by rw [wu64 (x := (ui : Int)) (by omega), wu64 (by omega)]; omega
          have w1 : IntKind.wrap .u64 (((ui + C3 : Nat) : Int) + IntKind.wrap .u64 (d : Int)) = ((ui + C3 + d : Nat) : Int) := by rw [wu64 (x := (d : Int)) (by omega), wu64 (by omega)]; omega
          simp only [w0, w1]
          refine ⟨by omega, by omega, fun x => x = ((ui + C3 + d : Nat) : Int), ⟨fun h1 => ?_, fun h1 => ?_⟩, ?_⟩
          · simp only [decide_eq_true_eq] at h1
            exact ⟨by omega, h1, by first | rfl | trivial, rfl⟩
          · simp only [decide_eq_false_iff_not] at h1
            refine ⟨by first | rfl | trivial, ?_⟩
            rw [hdz (by omega), Nat.add_zero]
          rintro x rfl
          obtain ⟨S, hS⟩ : ∃ S, ui + C3 + d = S := ⟨_, rfl⟩
          simp only [hS]
          have w2 : IntKind.wrap .u32 (S : Int) = ((S % 4294967296 : Nat) : Int) := by rw [wu32m]; omega
          have w3 : Int.fdiv (S : Int) 4294967296 = ((S / 4294967296 : Nat) : Int) := by rw [Int.fdiv_eq_ediv_of_nonneg _ (by omega)]; omega
          simp only [w2, w3]
          have hvs3 := val_set u3 (j + i3) ((S % 4294967296 : Nat) : Int) (by omega)
          rw [show (u3.getD (j + i3) 0).toNat = ui from hui, Int.toNat_natCast] at hvs3
          have hvt : vt v (i3 + 1) = vt v i3 + 4294967296 ^ i3 * d := by rw [vt_succ, show (v.getD i3 0).toNat = d from hde]
          have hfin := add_fin (T := S / 4294967296) (d := d) hvs3 hval3 (by omega)
          refine ⟨by omega, by omega, ⟨hu3.set _ ⟨by omega, by omega⟩, by rw [List.length_set]; exact hu3l, S / 4294967296, i3 + 1, rfl, rfl, by omega, by omega, ?_, fun p hp => ?_⟩, by show n + 1 - ((i3 + 1 : Nat) : Int).toNat < n + 1 - (i3 : Int).toNat; omega⟩
          · have e10 : 4294967296 ^ j * vt v (i3 + 1) = 4294967296 ^ j * vt v i3 + 4294967296 ^ (j + i3) * d := by
              rw [hvt, Nat.mul_add, Nat.pow_add, Nat.mul_assoc]
            have e11 : 4294967296 ^ (j + (i3 + 1)) * (S / 4294967296) = 4294967296 ^ (j + i3) * (4294967296 * (S / 4294967296)) := by
              rw [← Nat.add_assoc, Nat.pow_succ, Nat.mul_assoc]
            rw [e10, e11]; exact hfin
          · rw [getD_set, if_neg (by omega)]; exact hz3 p hp
        · simp only [decide_eq_false_iff_not] at h3
          obtain rfl : i3 = n + 1 := by omega
          rw [vt_all v (by omega)] at hval3
          have hv3 : val u3 < 4294967296 ^ (j + (n + 1)) := val_hi hu3 fun p hp => hz3 p (by omega)
          have hres := back_fin hval3 hval g5 g6 g7 hv3 hwV
          refine fin u3 (G - 1) hu3 hu3l hres g4 ?_ (by omega)
          rw [show G - 1 + 1 = G by omega]
          refine Nat.lt_of_mul_lt_mul_left (a := 4294967296 ^ j) ?_
          omega
end Nt
end

section
/- Verification conditions, printed. -/
open Go Go.Vc
namespace Nt
def vc_nrefDivModW : List Int → List Int → (TV → Prop) → Prop :=
 fun (a b : List Int) (K : TV → Prop) => Nt.Few a ∧ ∀ (x : List Int), x = Nt.limbs (Nt.val a) → Nt.Few b ∧ ∀ (x_1 : List Int), x_1 = Nt.limbs (Nt.val b) → (decide ((Nat.cast : Nat → Int) (List.length
 x_1) = (0 : Int)) = true → K (TV.tup [TV.d (AV.ints IntKind.u32 []), TV.d (AV.ints IntKind.u32 []), TV.d (AV.int IntKind.i64 (3 : Int))])) ∧ (decide ((Nat.cast : Nat → Int) (List.length x_1) = (0 :
 Int)) = false → (Nt.Few x ∧ Nt.Few x_1) ∧ ∀ (x_2 : Int), x_2 = Nt.cmp (Nt.val x) (Nt.val x_1) → (decide (x_2 < (0 : Int)) = true → K (TV.tup [TV.d (AV.ints IntKind.u32 []), TV.d (AV.ints IntKind.u32
 x), TV.d (AV.int IntKind.i64 (0 : Int))])) ∧ (decide (x_2 < (0 : Int)) = false → (decide ((Nat.cast : Nat → Int) (List.length x_1) = (1 : Int)) = true → (0 : Int) ≤ (0 : Int) ∧ (0 : Int) < (Nat.cast :
 Nat → Int) (List.length x_1) ∧ (Nt.Few x ∧ Nt.L (List.getD x_1 (0 : Nat) (0 : Int)) ∧ (0 : Int) < List.getD x_1 (0 : Nat) (0 : Int)) ∧ ∀ (x_3 : List Int), x_3 = Nt.limbs (Nt.val x / Int.toNat
 (List.getD x_1 (0 : Nat) (0 : Int))) → ∀ (x_4 : Int), x_4 = (Nat.cast : Nat → Int) (Nt.val x % Int.toNat (List.getD x_1 (0 : Nat) (0 : Int))) → Nt.Few [x_4] ∧ ∀ (x : List Int), x = Nt.limbs (Nt.val
 [x_4]) → K (TV.tup [TV.d (AV.ints IntKind.u32 x_3), TV.d (AV.ints IntKind.u32 x), TV.d (AV.int IntKind.i64 (0 : Int))])) ∧ (decide ((Nat.cast : Nat → Int) (List.length x_1) = (1 : Int)) = false → ∃ (I
 : Int → Prop), ∃ (m : Int → Nat), ((true, OB.ints IntKind.u32 x) = (true, OB.ints IntKind.u32 x) ∧ (true, OB.ints IntKind.u32 x_1) = (true, OB.ints IntKind.u32 x_1) ∧ I (0 : Int)) ∧ ∀ (v9 : Int), I v9
 → (0 : Int) ≤ IntKind.wrap IntKind.i64 ((Nat.cast : Nat → Int) (List.length x_1) - (1 : Int)) ∧ IntKind.wrap IntKind.i64 ((Nat.cast : Nat → Int) (List.length x_1) - (1 : Int)) < (Nat.cast : Nat → Int)
 (List.length x_1) ∧ (0 : Int) ≤ IntKind.wrap IntKind.u64 v9 ∧ (decide (IntKind.wrap IntKind.u32 (List.getD x_1 (Int.toNat (IntKind.wrap IntKind.i64 ((Nat.cast : Nat → Int) (List.length x_1) - (1 :
 Int)))) (0 : Int) * (2 : Int) ^ min (Int.toNat (IntKind.wrap IntKind.u64 v9)) (32 : Nat)) < (2147483648 : Int)) = true → (true, OB.ints IntKind.u32 x) = (true, OB.ints IntKind.u32 x) ∧ (true, OB.ints
 IntKind.u32 x_1) = (true, OB.ints IntKind.u32 x_1) ∧ I (IntKind.wrap IntKind.i64 (v9 + (1 : Int))) ∧ m (IntKind.wrap IntKind.i64 (v9 + (1 : Int))) < m v9) ∧ (decide (IntKind.wrap IntKind.u32
 (List.getD x_1 (Int.toNat (IntKind.wrap IntKind.i64 ((Nat.cast : Nat → Int) (List.length x_1) - (1 : Int)))) (0 : Int) * (2 : Int) ^ min (Int.toNat (IntKind.wrap IntKind.u64 v9)) (32 : Nat)) <
 (2147483648 : Int)) = false → (Nt.Few x ∧ (0 : Int) ≤ v9 ∧ v9 < (32 : Int)) ∧ ∀ (x_3 : List Int), x_3 = Nt.lowl (Nt.val x * (2 : Nat) ^ Int.toNat v9) (List.length x + (1 : Nat)) → (Nt.Few x_1 ∧ (0 :
 Int) ≤ v9 ∧ v9 < (32 : Int)) ∧ ∀ (x_4 : List Int), x_4 = Nt.lowl (Nt.val x_1 * (2 : Nat) ^ Int.toNat v9) (List.length x_1 + (1 : Nat)) → Nt.Few x_4 ∧ ∀ (x_5 : List Int), x_5 = Nt.limbs (Nt.val x_4) →
 (0 : Int) ≤ IntKind.wrap IntKind.i64 (IntKind.wrap IntKind.i64 ((Nat.cast : Nat → Int) (List.length x) - (Nat.cast : Nat → Int) (List.length x_1)) + (1 : Int)) ∧ IntKind.wrap IntKind.i64 (IntKind.wrap
 IntKind.i64 ((Nat.cast : Nat → Int) (List.length x) - (Nat.cast : Nat → Int) (List.length x_1)) + (1 : Int)) ≤ IntKind.wrap IntKind.i64 (IntKind.wrap IntKind.i64 ((Nat.cast : Nat → Int) (List.length
 x) - (Nat.cast : Nat → Int) (List.length x_1)) + (1 : Int)) ∧ IntKind.wrap IntKind.i64 (IntKind.wrap IntKind.i64 ((Nat.cast : Nat → Int) (List.length x) - (Nat.cast : Nat → Int) (List.length x_1)) +
 (1 : Int)) * (4 : Int) ≤ (281474976710656 : Int) ∧ ∃ (I : List Int → Int → List Int → List Int → Prop), ∃ (m : List Int → Int → List Int → List Int → Nat), ((true, OB.ints IntKind.u32 x) = (true,
 OB.ints IntKind.u32 x) ∧ (true, OB.ints IntKind.u32 x_1) = (true, OB.ints IntKind.u32 x_1) ∧ (true, OB.ints IntKind.u32 x_4) = (true, OB.ints IntKind.u32 x_4) ∧ (true, OB.ints IntKind.u32 x_5) =
 (true, OB.ints IntKind.u32 x_5) ∧ I x_5 (IntKind.wrap IntKind.i64 ((Nat.cast : Nat → Int) (List.length (List.replicate (Int.toNat (IntKind.wrap IntKind.i64 (IntKind.wrap IntKind.i64 ((Nat.cast : Nat →
 Int) (List.length x) - (Nat.cast : Nat → Int) (List.length x_1)) + (1 : Int)))) (0 : Int))) - (1 : Int))) x_3 (List.replicate (Int.toNat (IntKind.wrap IntKind.i64 (IntKind.wrap IntKind.i64 ((Nat.cast
 : Nat → Int) (List.length x) - (Nat.cast : Nat → Int) (List.length x_1)) + (1 : Int)))) (0 : Int))) ∧ ∀ (v11 : List Int) (v13 : Int) (o2 o5 : List Int), I v11 v13 o2 o5 → (decide ((0 : Int) ≤ v13) =
 true → (0 : Nat) < List.length o2 ∧ (Nt.Few o2 ∧ Nt.Few v11 ∧ (2 : Nat) ≤ List.length v11 ∧ (0 : Int) ≤ v13 ∧ Int.toNat v13 + List.length v11 < List.length o2 ∧ (2147483648 : Nat) * (4294967296 : Nat)
 ^ (List.length v11 - (1 : Nat)) ≤ Nt.val v11 ∧ Nt.val o2 < (4294967296 : Nat) ^ (Int.toNat v13 + (1 : Nat)) * Nt.val v11) ∧ (0 : Int) ≤ v13 ∧ v13 < (Nat.cast : Nat → Int) (List.length o5) ∧ (true,
 OB.ints IntKind.u32 x) = (true, OB.ints IntKind.u32 x) ∧ (true, OB.ints IntKind.u32 x_1) = (true, OB.ints IntKind.u32 x_1) ∧ (true, OB.ints IntKind.u32 x_4) = (true, OB.ints IntKind.u32 x_4) ∧ (true,
 OB.ints IntKind.u32 x_5) = (true, OB.ints IntKind.u32 x_5) ∧ I v11 (IntKind.wrap IntKind.i64 (v13 - (1 : Int))) (Nt.lowl (Nt.val o2 - (4294967296 : Nat) ^ Int.toNat v13 * (Nt.val o2 / (4294967296 :
 Nat) ^ Int.toNat v13 / Nt.val v11 * Nt.val v11)) (List.length o2)) (List.set o5 (Int.toNat v13) ((Nat.cast : Nat → Int) (Nt.val o2 / (4294967296 : Nat) ^ Int.toNat v13 / Nt.val v11))) ∧ m v11
 (IntKind.wrap IntKind.i64 (v13 - (1 : Int))) (Nt.lowl (Nt.val o2 - (4294967296 : Nat) ^ Int.toNat v13 * (Nt.val o2 / (4294967296 : Nat) ^ Int.toNat v13 / Nt.val v11 * Nt.val v11)) (List.length o2))
 (List.set o5 (Int.toNat v13) ((Nat.cast : Nat → Int) (Nt.val o2 / (4294967296 : Nat) ^ Int.toNat v13 / Nt.val v11))) < m v11 v13 o2 o5) ∧ (decide ((0 : Int) ≤ v13) = false → Nt.Few o5 ∧ ∀ (x : List
 Int), x = Nt.limbs (Nt.val o5) → (Nt.Few o2 ∧ (0 : Int) ≤ v9 ∧ v9 < (32 : Int)) ∧ ∀ (x_6 : List Int), x_6 = Nt.limbs (Nt.val o2 / (2 : Nat) ^ Int.toNat v9) → K (TV.tup [TV.d (AV.ints IntKind.u32 x),
 TV.d (AV.ints IntKind.u32 x_6), TV.d (AV.int IntKind.i64 (0 : Int))]))))))

def vc_nrefGCDW : List Int → List Int → (TV → Prop) → Prop :=
 fun (a b : List Int) (K : TV → Prop) => Nt.Few a ∧ ∀ (x : List Int), x = Nt.limbs (Nt.val a) → Nt.Few b ∧ ∀ (x_1 : List Int), x_1 = Nt.limbs (Nt.val b) → ∃ (I : List Int → List Int → Prop), ∃ (m :
 List Int → List Int → Nat), ((true, OB.ints IntKind.u32 x) = (true, OB.ints IntKind.u32 x) ∧ (true, OB.ints IntKind.u32 x_1) = (true, OB.ints IntKind.u32 x_1) ∧ I x x_1) ∧ ∀ (v0 v1 : List Int), I v0
 v1 → (decide ((0 : Int) < (Nat.cast : Nat → Int) (List.length v1)) = true → (Nt.Lim v0 ∧ List.length v0 ≤ (90000000 : Nat) ∧ Nt.Lim v1 ∧ List.length v1 ≤ (90000000 : Nat)) ∧ ∀ (x_2 : List Int), (x_2 =
 if Nt.val v1 = (0 : Nat) then [] else Nt.limbs (Nt.val v0 / Nt.val v1)) → ∀ (x_3 : List Int), (x_3 = if Nt.val v1 = (0 : Nat) then [] else Nt.limbs (Nt.val v0 % Nt.val v1)) → ∀ (x_4 : Int), (x_4 = if
 Nt.val v1 = (0 : Nat) then (3 : Int) else (0 : Int)) → (true, OB.ints IntKind.u32 x) = (true, OB.ints IntKind.u32 x) ∧ (true, OB.ints IntKind.u32 x_1) = (true, OB.ints IntKind.u32 x_1) ∧ I v1 x_3 ∧ m
 v1 x_3 < m v0 v1) ∧ (decide ((0 : Int) < (Nat.cast : Nat → Int) (List.length v1)) = false → K (TV.d (AV.ints IntKind.u32 v0)))

end Nt
end

section
/- NtEw: proofs of verification conditions: the specification's DivMod, GCD. -/
open Go Go.Vc
namespace Nt

theorem dig_next {vu l wj D V Q : Nat} (hvu : vu = wj * D + l) (hl : l < wj) (hQ : D / V = Q) (hV : 0 < V) : wj * (Q * V) ≤ vu ∧ vu - wj * (Q * V) < wj * V := by
  have h1 := Nat.div_add_mod D V
  rw [hQ] at h1
  have h2 := Nat.mod_lt D hV
  have h3 : wj * D = wj * (Q * V) + wj * (D % V) := by rw [← Nat.mul_add, Nat.mul_comm Q V, h1]
  have h4 := Nat.mul_le_mul_left wj (show D % V + 1 ≤ V from h2)
  rw [Nat.mul_add, Nat.mul_one] at h4
  omega

set_option maxHeartbeats 1000000 in
theorem p_nrefDivModW (a b : List Int) (K : TV → Prop) (h : crefDivMod.T [.d (.ints .u32 a), .d (.ints .u32 b)] K) : vc_nrefDivModW a b K := by
  obtain ⟨⟨ha, hal, hb, hbl⟩, hk⟩ := h
  have fa0 : Few a := ⟨ha, by omega⟩
  have fb0 : Few b := ⟨hb, by omega⟩
  have hA1 := few_len fa0
  have hB1 := few_len fb0
  unfold vc_nrefDivModW
  refine ⟨fa0, ?_⟩
  rintro x hx
  refine ⟨fb0, ?_⟩
  rintro y hy
  have fa : Few x := hx ▸ ⟨limbs_lim _, by omega⟩
  have fb : Few y := hy ▸ ⟨limbs_lim _, by omega⟩
  have hvx : val x = val a := by rw [hx, val_limbs]
  have hvy : val y = val b := by rw [hy, val_limbs]
  have hxl : x.length ≤ 90000000 := by rw [hx]; omega
  have hyl : y.length ≤ 90000000 := by rw [hy]; omega
  have hny : Norm y := hy ▸ limbs_norm _
  have hx1 : limbs (val x) = x := by rw [hvx, hx]
  rw [← hvx, ← hvy] at hk
  clear hx hA1 hB1 fa0 fb0 ha hb hal hbl
  have hy0 : y.length = 0 ↔ val y = 0 := ⟨fun h => by rw [List.length_eq_zero_iff.1 h]; rfl, fun h => by
    have e : y = [] := by rw [hy, ← hvy, h, limbs_zero]
    rw [e]; rfl⟩
  clear hy hvx hvy a b
  refine ⟨fun h => ?_, fun h => ⟨⟨fa, fb⟩, ?_⟩⟩
  · simp only [decide_eq_true_eq] at h
    have h0 : val y = 0 := hy0.1 (by omega)
    simp only [h0, if_true] at hk; exact hk
  rintro c rfl
  simp only [decide_eq_false_iff_not] at h
  have h0 : val y ≠ 0 := fun e => h (by rw [hy0.2 e]; rfl)
  simp only [if_neg h0] at hk
  refine ⟨fun h1 => ?_, fun h1 => ⟨fun h2 => ?_, fun h2 => ?_⟩⟩
  · simp only [decide_eq_true_eq] at h1
    have hlt : val x < val y := by
      unfold cmp at h1
      split at h1
      · assumption
      · split at h1 <;> omega
    rw [Nat.div_eq_of_lt hlt, Nat.mod_eq_of_lt hlt, limbs_zero, hx1] at hk; exact hk
  · simp only [decide_eq_true_eq] at h2
    have hB : (y.getD 0 0).toNat = val y := by
      have := vt_all y (i := 1) (by omega)
      rw [vt_succ, vt_zero, Nat.pow_zero, Nat.one_mul, Nat.zero_add] at this
      exact this
    have hB' := fb.1 0
    rw [hB]
    have hm : val x % val y < val y := Nat.mod_lt _ (by omega)
    refine ⟨by omega, by omega, ⟨fa, hB', by omega⟩, ?_⟩
    rintro q rfl r rfl
    refine ⟨few1 (by omega), ?_⟩
    rintro t rfl
    have hv : val [((val x % val y : Nat) : Int)] = val x % val y := by simp only [val, Nat.mul_zero, Nat.add_zero, Int.toNat_natCast]
    rw [hv]; exact hk
  · simp only [decide_eq_false_iff_not] at h1 h2
    have hge : val y ≤ val x := by
      unfold cmp at h1
      split at h1
      · exact absurd (by decide) h1
      · omega
    have hb2 : 2 ≤ y.length := by omega
    obtain ⟨n1, n2, n3, n4, n5⟩ := norm_top fb.1 hny hb2
    have e1 : IntKind.wrap .i64 ((Nat.cast : Nat → Int) y.length - 1) = ((y.length - 1 : Nat) : Int) := by rw [w64 (by omega)]; omega
    simp only [e1, Int.toNat_natCast, lm_eq fb.1]
    have hlb := lm_lt fb.1 (y.length - 1)
    obtain ⟨t, hte⟩ : ∃ t, lm y (y.length - 1) = t := ⟨_, rfl⟩
    rw [hte] at n1 n2 n3 n4 n5 hlb
    simp only [hte]
    obtain ⟨bb1, bb2, _⟩ := blen_bounds (n := t) (by omega)
    refine ⟨fun i => ∃ k : Nat, i = k ∧ k ≤ 32 - blen t, fun i => 32 - i.toNat, ⟨by first | rfl | trivial, by first | rfl | trivial, 0, rfl, by omega⟩, ?_⟩
    rintro i ⟨k, rfl, hkb⟩
    have ek : IntKind.wrap .u64 (k : Int) = (k : Int) := wu64 (by omega)
    have ek1 : IntKind.wrap .i64 ((k : Int) + 1) = ((k + 1 : Nat) : Int) := by rw [w64 (by omega)]; omega
    have p1 : (2 : Int) ^ k = ((2 ^ k : Nat) : Int) := by simp
    have hprod : t * 2 ^ k < 4294967296 := by
      have h3 : t * 2 ^ k < 2 ^ blen t * 2 ^ k := Nat.mul_lt_mul_of_pos_right bb2 (Nat.two_pow_pos k)
      rw [← Nat.pow_add] at h3
      have h4 := Nat.pow_le_pow_right (show 0 < 2 by decide) (show blen t + k ≤ 32 by omega)
      have p32 : (2 : Nat) ^ 32 = 4294967296 := rfl
      omega
    have eW : IntKind.wrap .u32 ((t : Int) * (2 : Int) ^ k) = ((t * 2 ^ k : Nat) : Int) := by
      rw [p1, ← Int.natCast_mul, wu32 ⟨Int.natCast_nonneg _, by omega⟩]
    simp only [ek, ek1, Int.toNat_natCast, show min k 32 = k by omega, eW]
    have p31 : (2 : Nat) ^ 31 = 2147483648 := rfl
    refine ⟨by omega, by omega, by omega, fun h3 => ?_, fun h3 => ?_⟩
    · simp only [decide_eq_true_eq] at h3
      have hkn : k ≠ 32 - blen t := by
        rintro rfl
        have h4 := Nat.mul_le_mul_right (2 ^ (32 - blen t)) bb1
        rw [← Nat.pow_add, show blen t - 1 + (32 - blen t) = 31 by omega, p31] at h4
        omega
      exact ⟨by first | rfl | trivial, by first | rfl | trivial, ⟨k + 1, rfl, by omega⟩, by show 32 - ((k + 1 : Nat) : Int).toNat < 32 - (k : Int).toNat; omega⟩
    · simp only [decide_eq_false_iff_not] at h3
      have hk0 : 32 - blen t = k := by
        rcases Nat.lt_or_ge k (32 - blen t) with h4 | h4
        · exfalso
          have h5 : t * 2 ^ k < 2 ^ blen t * 2 ^ k := Nat.mul_lt_mul_of_pos_right bb2 (Nat.two_pow_pos k)
          rw [← Nat.pow_add] at h5
          have h6 := Nat.pow_le_pow_right (show 0 < 2 by decide) (show blen t + k ≤ 31 by omega)
          omega
        · omega
      rw [hk0] at n4 n5
      have hk32 : k < 32 := by omega
      have hp31 : 2 ^ k ≤ 2147483648 := by
        have := Nat.pow_le_pow_right (show 0 < 2 by decide) (show k ≤ 31 by omega)
        omega
      have hbval : 4294967296 ^ (y.length - 1) ≤ val y := by
        have h1 := vd_vt y (y.length - 1)
        rw [vd_lm] at h1
        have h2 := Nat.mul_le_mul_left (4294967296 ^ (y.length - 1)) (show 1 ≤ lm y (y.length - 1) + 4294967296 * vd y (y.length - 1 + 1) by omega)
        omega
      have hlen : y.length ≤ x.length := by
        have h1 := val_lt fa.1
        have h2 : 4294967296 ^ (y.length - 1) < 4294967296 ^ x.length := by omega
        have := (Nat.pow_lt_pow_iff_right (by decide : 1 < 4294967296)).1 h2
        omega
      refine ⟨⟨fa, by omega, by omega⟩, ?_⟩
      rintro u0 hu0
      refine ⟨⟨fb, by omega, by omega⟩, ?_⟩
      rintro v0 hv0
      have hv0v : val v0 = val y * 2 ^ k := by
        rw [hv0]
        refine lowl_val _ _ (Nat.lt_of_lt_of_le n4 (Nat.pow_le_pow_right (by decide) (by omega)))
      have hu0v : val u0 = val x * 2 ^ k := by
        rw [hu0]
        refine lowl_val _ _ ?_
        rw [Nat.pow_succ]
        exact Nat.mul_lt_mul'' (val_lt fa.1) (by omega)
      have hu0L : Lim u0 := hu0 ▸ lowl_lim _ _
      have hv0L : Lim v0 := hv0 ▸ lowl_lim _ _
      have hu0l : u0.length = x.length + 1 := by rw [hu0, lowl_len]
      have hv0l : v0.length = y.length + 1 := by rw [hv0, lowl_len]
      refine ⟨⟨hv0L, by omega⟩, ?_⟩
      rintro v hv
      have hvv : val v = val y * 2 ^ k := by rw [hv, val_limbs, hv0v]
      have hvL : Lim v := hv ▸ limbs_lim _
      have hvl : v.length = y.length := by
        rw [hv, hv0v]
        refine Nat.le_antisymm (limbs_len.2 n4) ?_
        refine Nat.le_of_not_lt fun hx => ?_
        have h1 := limbs_len.1 (show (limbs (val y * 2 ^ k)).length ≤ y.length - 1 by omega)
        have h2 : 1 * 4294967296 ^ (y.length - 1) ≤ 2147483648 * 4294967296 ^ (y.length - 1) := Nat.mul_le_mul_right _ (by decide)
        omega
      have hd1 : val x / val y = val u0 / val v := by rw [hu0v, hvv, Nat.mul_div_mul_right _ _ (Nat.two_pow_pos k)]
      have hd2 : (val x % val y) * 2 ^ k = val u0 % val v := by rw [hu0v, hvv, Nat.mul_mod_mul_right]
      have hVt : 2147483648 * 4294967296 ^ (y.length - 1) ≤ val v := by rw [hvv]; exact n5
      have hVn : val v < 4294967296 ^ y.length := by rw [hvv]; exact n4
      have hV0 : 0 < val v := by rw [hvv]; exact Nat.mul_pos (by omega) (Nat.two_pow_pos k)
      have hU : val u0 < 4294967296 ^ (x.length + 1 - y.length) * val v := by
        rw [hu0v]
        have h1 : val x * 2 ^ k < 4294967296 ^ x.length * 2147483648 := Nat.lt_of_lt_of_le (Nat.mul_lt_mul_of_pos_right (val_lt fa.1) (Nat.two_pow_pos k)) (Nat.mul_le_mul_left _ hp31)
        have h2 := Nat.mul_le_mul_left (4294967296 ^ (x.length + 1 - y.length)) hVt
        rw [Nat.mul_left_comm, ← Nat.pow_add, show x.length + 1 - y.length + (y.length - 1) = x.length by omega, Nat.mul_comm 2147483648] at h2
        exact Nat.lt_of_lt_of_le h1 h2
      obtain ⟨m, hm⟩ : ∃ m, x.length + 1 - y.length = m := ⟨_, rfl⟩
      obtain ⟨n, hn⟩ : ∃ n, y.length = n := ⟨_, rfl⟩
      have hm1 : 1 ≤ m := by omega
      rw [hm] at hU
      rw [hn] at hVt hVn hvl hb2 hlen hyl ⊢
      have e6 : IntKind.wrap .i64 (IntKind.wrap .i64 ((Nat.cast : Nat → Int) x.length - (n : Int)) + 1) = (m : Int) := by
        rw [w64 (x := (Nat.cast : Nat → Int) x.length - (n : Int)) (by omega), w64 (by omega)]; omega
      rw [e6]
      simp only [Int.toNat_natCast, List.length_replicate]
      refine ⟨by omega, by omega, by omega, fun v' j u q => v' = v ∧ -1 ≤ j ∧ j < m ∧ Lim u ∧ u.length = m + n ∧ Lim q ∧ q.length = m ∧ val u0 = val q * val v + val u ∧ val u < 4294967296 ^ (j + 1).toNat * val v ∧ ∀ p : Nat, (p : Int) ≤ j → q.getD p 0 = 0,
        fun v' j u q => (j + 1).toNat, ⟨by first | rfl | trivial, by first | rfl | trivial, by first | rfl | trivial, by first | rfl | trivial, ?_⟩, ?_⟩
      · rw [w64 (by omega)]
        refine ⟨rfl, by omega, by omega, hu0L, by omega, Lim.zeros _, by simp, by rw [val_zeros, Nat.zero_mul, Nat.zero_add], ?_, fun p _ => by simp [List.getD_eq_getElem?_getD, List.getElem?_replicate]; split <;> rfl⟩
        rw [show ((m : Int) - 1 + 1).toNat = m by omega]; exact hU
      rintro v' j u q ⟨rfl, hj0, hj1, hu, hul, hq, hql, heq, hlt, hqz⟩
      refine ⟨fun hj => ?_, fun hj => ?_⟩
      · simp only [decide_eq_true_eq] at hj
        obtain ⟨j, rfl⟩ : ∃ i : Nat, j = i := ⟨j.toNat, by omega⟩
        rw [show ((j : Int) + 1).toNat = j + 1 by omega] at hlt
        simp only [Int.toNat_natCast]
        have wj : IntKind.wrap .i64 ((j : Int) - 1) = (j : Int) - 1 := w64 (by omega)
        rw [wj]
        obtain ⟨D, hD⟩ : ∃ D, val u / 4294967296 ^ j = D := ⟨_, rfl⟩
        obtain ⟨Q, hQ⟩ : ∃ Q, D / val v' = Q := ⟨_, rfl⟩
        simp only [hD, hQ]
        have hvu : val u = 4294967296 ^ j * D + val u % 4294967296 ^ j := by rw [← hD, Nat.div_add_mod]
        obtain ⟨f1, f2⟩ := dig_next hvu (Nat.mod_lt _ (Nat.pow_pos (by decide))) hQ hV0
        have hQW : Q < 4294967296 := by
          rw [← hQ, ← hD]
          refine Nat.div_lt_of_lt_mul (Nat.div_lt_of_lt_mul ?_)
          rw [Nat.pow_succ, Nat.mul_assoc] at hlt
          rw [Nat.mul_comm (val v')]
          exact hlt
        have hu'v : val (lowl (val u - 4294967296 ^ j * (Q * val v')) u.length) = val u - 4294967296 ^ j * (Q * val v') :=
          lowl_val _ _ (Nat.lt_of_le_of_lt (Nat.sub_le _ _) (val_lt hu))
        have hqj := hqz j (by omega)
        have hqs := val_set q j (Q : Int) (by omega)
        rw [hqj, show Int.toNat 0 = 0 from rfl, Nat.mul_zero, Nat.add_zero, Int.toNat_natCast] at hqs
        refine ⟨by omega, ⟨⟨hu, by omega⟩, ⟨hvL, by omega⟩, by omega, by omega, by omega, by rw [hvl]; exact hVt, hlt⟩, by omega, by omega, by first | rfl | trivial, by first | rfl | trivial, by first | rfl | trivial, by first | rfl | trivial,
          ⟨by first | rfl | trivial, by omega, by omega, lowl_lim _ _, by rw [lowl_len]; exact hul, hq.set _ ⟨by omega, by omega⟩, by rw [List.length_set]; exact hql, ?_, ?_, fun p hp => ?_⟩, ?_⟩
        · rw [hqs, hu'v, heq, Nat.add_mul, Nat.mul_assoc]; omega
        · rw [hu'v, show ((j : Int) - 1 + 1).toNat = j by omega]; exact f2
        · rw [getD_set, if_neg (by omega)]; exact hqz p (by omega)
        · show ((j : Int) - 1 + 1).toNat < ((j : Int) + 1).toNat
          omega
      · simp only [decide_eq_false_iff_not] at hj
        obtain rfl : j = -1 := by omega
        rw [show ((-1 : Int) + 1).toNat = 0 from rfl, Nat.pow_zero, Nat.one_mul] at hlt
        have hq1 : val u0 / val v' = val q := by
          rw [heq, Nat.mul_comm, Nat.mul_add_div (by omega), Nat.div_eq_of_lt hlt, Nat.add_zero]
        have hq2 : val u0 % val v' = val u := by
          rw [heq, Nat.mul_comm, Nat.mul_add_mod, Nat.mod_eq_of_lt hlt]
        have hR : val u / 2 ^ k = val x % val y := by rw [← hq2, ← hd2, Nat.mul_div_cancel _ (Nat.two_pow_pos k)]
        refine ⟨⟨hq, by omega⟩, ?_⟩
        rintro r rfl
        refine ⟨⟨⟨hu, by omega⟩, by omega, by omega⟩, ?_⟩
        rintro s rfl
        rw [hR, ← hq1, ← hd1]; exact hk

theorem p_nrefGCDW (a b : List Int) (K : TV → Prop) (h : crefGCD.T [.d (.ints .u32 a), .d (.ints .u32 b)] K) : vc_nrefGCDW a b K := by
  obtain ⟨⟨ha, hal, hb, hbl⟩, hk⟩ := h
  have fa0 : Few a := ⟨ha, by omega⟩
  have fb0 : Few b := ⟨hb, by omega⟩
  have hA1 := few_len fa0
  have hB1 := few_len fb0
  unfold vc_nrefGCDW
  obtain ⟨G, hG⟩ : ∃ G, Nat.gcd (val a) (val b) = G := ⟨_, rfl⟩
  rw [hG] at hk
  refine ⟨fa0, ?_⟩
  rintro x rfl
  refine ⟨fb0, ?_⟩
  rintro y rfl
  refine ⟨fun u v => ∃ A B : Nat, u = limbs A ∧ v = limbs B ∧ Nat.gcd A B = G ∧ (limbs A).length ≤ 90000000 ∧ (limbs B).length ≤ 90000000, fun u v => val v, ⟨by first | rfl | trivial, by first | rfl | trivial, val a, val b, rfl, rfl, hG, by omega, by omega⟩, ?_⟩
  rintro u v ⟨A, B, rfl, rfl, hAB, hA, hB⟩
  simp only [val_limbs]
  refine ⟨fun h => ⟨⟨limbs_lim _, hA, limbs_lim _, hB⟩, ?_⟩, fun h => ?_⟩
  · simp only [decide_eq_true_eq] at h
    have hB0 : B ≠ 0 := fun e => by
      subst e
      rw [limbs_zero] at h; simp at h
    have hlt : A % B < B := Nat.mod_lt _ (by omega)
    rintro q rfl r rfl e rfl
    rw [if_neg hB0]
    refine ⟨by first | rfl | trivial, by first | rfl | trivial, ⟨B, A % B, rfl, rfl, by rw [gcd_step]; exact hAB, hB, ?_⟩, by rw [val_limbs]; exact hlt⟩
    refine Nat.le_trans (limbs_len.2 ?_) hB
    exact Nat.lt_trans hlt (limbs_len.1 (Nat.le_refl _))
  · simp only [decide_eq_false_iff_not] at h
    have hB0 : B = 0 := limbs0 (by omega)
    subst hB0
    rw [Nat.gcd_zero_right] at hAB
    rw [hAB]; exact hk
end Nt
end

section
/- Verification conditions, printed. -/
open Go Go.Vc
namespace Nt


end Nt
end

section
/- NtRw: proofs of verification conditions: the specification's Format, agrees, NaturalRaw. -/
open Go Go.Vc
namespace Nt

theorem p_nrefFormat (a : List Int) (K : TV → Prop) (h : crefFormat.T [.d (.ints .u32 a)] K) : vc_nrefFormat a K := by
  obtain ⟨ha, hk⟩ := h
  have hal := few_len ha
  have ha2 := ha.2
  have hfew := dec_few ha.1
  unfold vc_nrefFormat
  generalize hA : val a = A at *
  have hlen : ∀ {o : List Int} {n : Nat}, decR A = o ++ decR n → o.length ≤ 1000000000 := fun {o n} h => by
    have := congrArg List.length h
    rw [List.length_append] at this
    omega
  refine ⟨ha, fun h => ?_, fun h => ?_⟩
  · simp only [decide_eq_true_eq] at h
    have h0 : A = 0 := limbs0 (by omega)
    rw [h0] at hk; exact hk
  · simp only [decide_eq_false_iff_not] at h
    have hA0 : A ≠ 0 := fun e => h (by rw [e, limbs_zero]; rfl)
    refine ⟨fun v o => ∃ V, v = limbs V ∧ V ≤ A ∧ decR A = o ++ decR V, fun v o => val v, ⟨by first | rfl | trivial, A, rfl, Nat.le_refl _, rfl⟩, ?_⟩
    rintro v o ⟨V, rfl, hV, hd⟩
    refine ⟨fun h => ?_, fun h => ?_⟩
    · simp only [decide_eq_true_eq] at h
      have hV0 : V ≠ 0 := by
        rintro rfl
        rw [limbs_zero] at h; simp at h
      have hVl : (limbs V).length ≤ 100000000 := by
        have : (limbs V).length ≤ a.length := by
          rw [limbs_len]
          have := val_lt ha.1
          omega
        omega
      have hol := hlen hd
      simp only [val_limbs]
      have hb : IntKind.wrap .u8 (IntKind.wrap .u32 (48 + ((V % 10 : Nat) : Int))) = ((48 + V % 10 : Nat) : Int) := by
        rw [wu32 (by omega), wu8 (by omega)]; omega
      simp only [hb]
      refine ⟨⟨⟨limbs_lim _, hVl⟩, by unfold L; omega, by omega⟩, by simp; omega, by first | rfl | trivial, ⟨V / 10, rfl, by omega, ?_⟩, ?_⟩
      · rw [hd, decR_pos hV0]
        show o ++ _ :: _ = o ++ [_] ++ _
        rw [List.append_assoc]; rfl
      · exact Nat.div_lt_self (by omega) (by decide)
    · simp only [decide_eq_false_iff_not] at h
      have hV0 : V = 0 := limbs0 (by omega)
      subst hV0
      rw [decR_zero, List.append_nil] at hd
      have hol := hlen (o := o) (n := 0) (by rw [decR_zero, List.append_nil]; exact hd)
      have hkk : K (.d (.str o.reverse)) := by
        unfold dec at hk
        rw [if_neg hA0, hd] at hk; exact hk
      have hmem : ∀ x ∈ o, 0 ≤ x ∧ x < 256 := fun x hx => by
        have := decR_mem (n := A) (by rw [hd]; exact hx)
        omega
      generalize o = l at *
      refine ⟨fun i j o => o.length = l.length ∧ 0 ≤ i ∧ i + j = l.length - 1 ∧ i ≤ j + 1 ∧
        ∀ p : Nat, p < l.length → o.getD p 0 = if (p : Int) < i ∨ j < (p : Int) then l.getD (l.length - 1 - p) 0 else l.getD p 0, fun i j o => (j + 1 - i).toNat, ⟨by first | rfl | trivial, rfl, by omega, ?_, ?_, ?_⟩, ?_⟩
      · rw [w64 (by omega)]; omega
      · rw [w64 (by omega)]; omega
      · intro p hp
        rw [w64 (by omega), if_neg (by omega)]
      rintro i j o ⟨h1, h2, h3, h4, h5⟩
      refine ⟨fun h => ?_, fun h => ?_⟩
      · simp only [decide_eq_true_eq] at h
        rw [w64 (by omega), w64 (by omega)]
        simp only [List.length_set]
        refine ⟨by omega, by omega, by omega, by omega, by omega, by omega, by omega, by omega, by first | rfl | trivial, ⟨by omega, by omega, by omega, by omega, fun p hp => ?_⟩, by show (j - 1 + 1 - (i + 1)).toNat < (j + 1 - i).toNat; omega⟩
        rw [getD_set, getD_set]
        simp only [List.length_set]
        have hi := h5 i.toNat (by omega)
        have hj := h5 j.toNat (by omega)
        rw [if_neg (by omega)] at hi hj
        have hp5 := h5 p hp
        by_cases e1 : p = j.toNat
        · rw [if_pos ⟨e1.symm, by omega⟩, if_pos (by omega), hi, e1]
          congr 1; omega
        · rw [if_neg (fun h => e1 h.1.symm)]
          by_cases e2 : p = i.toNat
          · rw [if_pos ⟨e2.symm, by omega⟩, if_pos (by omega), hj, e2]
            congr 1; omega
          · rw [if_neg (fun h => e2 h.1.symm), hp5]
            by_cases e3 : (p : Int) < i ∨ j < (p : Int)
            · rw [if_pos e3, if_pos (by omega)]
            · rw [if_neg e3, if_neg (by omega)]
      · simp only [decide_eq_false_iff_not] at h
        have : o = l.reverse := by
          refine ext_getD (by simpa using h1) fun p hp => ?_
          rw [getD_rev l p (by omega), h5 p (by omega)]
          by_cases e3 : (p : Int) < i ∨ j < (p : Int)
          · rw [if_pos e3]
          · rw [if_neg e3]
            congr 1; omega
        rw [this]
        exact ⟨fun x hx => hmem x (List.mem_reverse.1 hx), hkk⟩


end Nt
end

section
/- NtMk: contracts of the reader of numbers of the statements. -/
namespace Nt
open Go Go.Vc
/-! ### the reader of numbers of the statements -/
def i64 (x : Int) : Prop := -9223372036854775808 ≤ x ∧ x < 9223372036854775808
def StOk (l : List Int) (a : Int) : Prop := 0 ≤ a ∧ l.length ≤ 1000 ∧ ∀ x ∈ l, i64 x
def rawA (l : List Int) (a : Int) : Int := if (l.length : Int) ≤ a then a else a + 1
def rawV (l : List Int) (a : Int) : Int := if (l.length : Int) ≤ a then 0 else l.getD a.toNat 0
def numA (l : List Int) (a n : Int) : Int := if n < 1 then a else rawA l a
def numV (l : List Int) (a n : Int) : Int := if n < 1 then 0 else rawV l a % n
def pickV (l : List Int) (a : Int) (m : List Int) : Int := m.getD (numV l a m.length).toNat 0
def limbChoice : List Int := [0, 1, 2, 3, 10, 97, 65536, 2147483648, 4294967295, 4294967291, 123456789, 4000000007]
def limbsGo (l : List Int) : Nat → Int → List Int → List Int × Int
  | 0, a, out => (out, a)
  | i + 1, a, out => limbsGo l i (numA l a 12) (out ++ [pickV l a limbChoice])
def limbsF (l : List Int) (a : Int) : List Int × Int := limbsGo l (numV l a 5).toNat (numA l a 5) []
abbrev st (l : List Int) (a s : Int) : OB := .cells [.d (.ints .i64 l), .d (.int .i64 a), .d (.int .i64 s)]
def cmkNew.T := fspec fun | [.d (.ints .i64 l)] => some (True, .cells [.d (.ints .i64 (l.take 1000)), .d (.int .i64 0), .d (.int .i64 0)]) | _ => none
def cmkRaw.T := lspec fun | .ptr z o, .cells [.d (.ints .i64 l), .d (.int .i64 a), .d (.int .i64 s)], [] => (match Nat.beq z 0, Nat.beq o 0 with | true, true => some (StOk l a, .cells [.d (.ints .i64 l), .d (.int .i64 (rawA l a)), .d (.int .i64 s)], .d (.int .i64 (rawV l a))) | _, _ => none) | _, _, _ => none
def cmkN.T := lspec fun | .ptr z o, .cells [.d (.ints .i64 l), .d (.int .i64 a), .d (.int .i64 s)], [.d (.int .i64 n)] => (match Nat.beq z 0, Nat.beq o 0 with | true, true => some (StOk l a ∧ i64 n, .cells [.d (.ints .i64 l), .d (.int .i64 (numA l a n)), .d (.int .i64 s)], .d (.int .i64 (numV l a n))) | _, _ => none) | _, _, _ => none
def cmkPick.T := lspec fun | .ptr z o, .cells [.d (.ints .i64 l), .d (.int .i64 a), .d (.int .i64 s)], [.d (.ints .i64 m)] => (match Nat.beq z 0, Nat.beq o 0 with | true, true => some (StOk l a ∧ 0 < m.length ∧ m.length ≤ 1000, .cells [.d (.ints .i64 l), .d (.int .i64 (numA l a m.length)), .d (.int .i64 s)], .d (.int .i64 (pickV l a m))) | _, _ => none) | _, _, _ => none
def cmkLimbs.T := lspec fun | .ptr z o, .cells [.d (.ints .i64 l), .d (.int .i64 a), .d (.int .i64 s)], [] => (match Nat.beq z 0, Nat.beq o 0 with | true, true => some (StOk l a, .cells [.d (.ints .i64 l), .d (.int .i64 (limbsF l a).2), .d (.int .i64 s)], .d (.ints .u32 (limbsF l a).1)) | _, _ => none) | _, _, _ => none
def cNaturalBuilt.T := spec fun | [.d (.ints .i64 l)] => some (∀ x ∈ l, i64 x, .d (.bool true)) | _ => none
end Nt
end

section
/- The shapes of arguments, printed. -/
open Go Go.Vc
theorem Nt.cmkNew_el {M : List TV → (OB → Prop) → Prop} (H : ∀ l K, Nt.cmkNew.T [.d (.ints .i64 l)] K → M [.d (.ints .i64 l)] K) (args : List TV) (K : OB → Prop) (hyp : Nt.cmkNew.T args K) : M args K := by
  have e : ∃ l, args = [.d (.ints .i64 l)] := by
    unfold Nt.cmkNew.T fspec at hyp
    split at hyp
    · rename_i he
      simp only at he
      split at he
      · exact ⟨_, rfl⟩
      · cases he
    · exact hyp.elim
  obtain ⟨l, eqn⟩ := e
  subst eqn
  exact H l K hyp
theorem Nt.cmkRaw_el {M : TV → OB → List TV → (OB → TV → Prop) → Prop} (H : ∀ l a s K, Nt.cmkRaw.T (.ptr 0 0) (.cells [.d (.ints .i64 l), .d (.int .i64 a), .d (.int .i64 s)]) [] K → M (.ptr 0 0) (.cells [.d (.ints .i64 l), .d (.int .i64 a), .d (.int .i64 s)]) [] K) (a0 : TV) (b0 : OB) (args : List TV) (K : OB → TV → Prop) (hyp : Nt.cmkRaw.T a0 b0 args K) : M a0 b0 args K := by
  have e : ∃ l a s, a0 = .ptr 0 0 ∧ b0 = .cells [.d (.ints .i64 l), .d (.int .i64 a), .d (.int .i64 s)] ∧ args = [] := by
    unfold Nt.cmkRaw.T lspec at hyp
    split at hyp
    · rename_i he
      simp only at he
      split at he
      · split at he
        · rename_i hb hc
          obtain rfl := Nat.eq_of_beq_eq_true hb
          obtain rfl := Nat.eq_of_beq_eq_true hc
          exact ⟨_, _, _, rfl, rfl, rfl⟩
        · cases he
      · cases he
    · exact hyp.elim
  obtain ⟨l, a, s, e0, e1, e2⟩ := e
  subst e0 e1 e2
  exact H l a s K hyp
theorem Nt.cmkN_el {M : TV → OB → List TV → (OB → TV → Prop) → Prop} (H : ∀ l a s n K, Nt.cmkN.T (.ptr 0 0) (.cells [.d (.ints .i64 l), .d (.int .i64 a), .d (.int .i64 s)]) [.d (.int .i64 n)] K → M (.ptr 0 0) (.cells [.d (.ints .i64 l), .d (.int .i64 a), .d (.int .i64 s)]) [.d (.int .i64 n)] K) (a0 : TV) (b0 : OB) (args : List TV) (K : OB → TV → Prop) (hyp : Nt.cmkN.T a0 b0 args K) : M a0 b0 args K := by
  have e : ∃ l a s n, a0 = .ptr 0 0 ∧ b0 = .cells [.d (.ints .i64 l), .d (.int .i64 a), .d (.int .i64 s)] ∧ args = [.d (.int .i64 n)] := by
    unfold Nt.cmkN.T lspec at hyp
    split at hyp
    · rename_i he
      simp only at he
      split at he
      · split at he
        · rename_i hb hc
          obtain rfl := Nat.eq_of_beq_eq_true hb
          obtain rfl := Nat.eq_of_beq_eq_true hc
          exact ⟨_, _, _, _, rfl, rfl, rfl⟩
        · cases he
      · cases he
    · exact hyp.elim
  obtain ⟨l, a, s, n, e0, e1, e2⟩ := e
  subst e0 e1 e2
  exact H l a s n K hyp
theorem Nt.cmkPick_el {M : TV → OB → List TV → (OB → TV → Prop) → Prop} (H : ∀ l a s m K, Nt.cmkPick.T (.ptr 0 0) (.cells [.d (.ints .i64 l), .d (.int .i64 a), .d (.int .i64 s)]) [.d (.ints .i64 m)] K → M (.ptr 0 0) (.cells [.d (.ints .i64 l), .d (.int .i64 a), .d (.int .i64 s)]) [.d (.ints .i64 m)] K) (a0 : TV) (b0 : OB) (args : List TV) (K : OB → TV → Prop) (hyp : Nt.cmkPick.T a0 b0 args K) : M a0 b0 args K := by
  have e : ∃ l a s m, a0 = .ptr 0 0 ∧ b0 = .cells [.d (.ints .i64 l), .d (.int .i64 a), .d (.int .i64 s)] ∧ args = [.d (.ints .i64 m)] := by
    unfold Nt.cmkPick.T lspec at hyp
    split at hyp
    · rename_i he
      simp only at he
      split at he
      · split at he
        · rename_i hb hc
          obtain rfl := Nat.eq_of_beq_eq_true hb
          obtain rfl := Nat.eq_of_beq_eq_true hc
          exact ⟨_, _, _, _, rfl, rfl, rfl⟩
        · cases he
      · cases he
    · exact hyp.elim
  obtain ⟨l, a, s, m, e0, e1, e2⟩ := e
  subst e0 e1 e2
  exact H l a s m K hyp
theorem Nt.cmkLimbs_el {M : TV → OB → List TV → (OB → TV → Prop) → Prop} (H : ∀ l a s K, Nt.cmkLimbs.T (.ptr 0 0) (.cells [.d (.ints .i64 l), .d (.int .i64 a), .d (.int .i64 s)]) [] K → M (.ptr 0 0) (.cells [.d (.ints .i64 l), .d (.int .i64 a), .d (.int .i64 s)]) [] K) (a0 : TV) (b0 : OB) (args : List TV) (K : OB → TV → Prop) (hyp : Nt.cmkLimbs.T a0 b0 args K) : M a0 b0 args K := by
  have e : ∃ l a s, a0 = .ptr 0 0 ∧ b0 = .cells [.d (.ints .i64 l), .d (.int .i64 a), .d (.int .i64 s)] ∧ args = [] := by
    unfold Nt.cmkLimbs.T lspec at hyp
    split at hyp
    · rename_i he
      simp only at he
      split at he
      · split at he
        · rename_i hb hc
          obtain rfl := Nat.eq_of_beq_eq_true hb
          obtain rfl := Nat.eq_of_beq_eq_true hc
          exact ⟨_, _, _, rfl, rfl, rfl⟩
        · cases he
      · cases he
    · exact hyp.elim
  obtain ⟨l, a, s, e0, e1, e2⟩ := e
  subst e0 e1 e2
  exact H l a s K hyp
end

section
/- Verification conditions, printed. -/
open Go Go.Vc
namespace Nt
def vc_nmkNew : List Int → (OB → Prop) → Prop :=
 fun (l : List Int) (K : OB → Prop) => (decide ((1000 : Int) < (Nat.cast : Nat → Int) (List.length l)) = true → (0 : Int) ≤ (1000 : Int) ∧ (1000 : Int) ≤ (Nat.cast : Nat → Int) (List.length l) ∧ K
 (OB.cells [TV.d (AV.ints IntKind.i64 (List.take (1000 : Nat) l)), TV.d (AV.int IntKind.i64 (0 : Int)), TV.d (AV.int IntKind.i64 (0 : Int))])) ∧ (decide ((1000 : Int) < (Nat.cast : Nat → Int)
 (List.length l)) = false → K (OB.cells [TV.d (AV.ints IntKind.i64 l), TV.d (AV.int IntKind.i64 (0 : Int)), TV.d (AV.int IntKind.i64 (0 : Int))]))

def vc_n__mkSrc__Raw : List Int → Int → Int → (OB → TV → Prop) → Prop :=
 fun (l : List Int) (a s : Int) (K : OB → TV → Prop) => (decide ((Nat.cast : Nat → Int) (List.length l) ≤ a) = true → K (OB.cells [TV.d (AV.ints IntKind.i64 l), TV.d (AV.int IntKind.i64 a), TV.d
 (AV.int IntKind.i64 s)]) (TV.d (AV.int IntKind.i64 (0 : Int)))) ∧ (decide ((Nat.cast : Nat → Int) (List.length l) ≤ a) = false → (0 : Int) ≤ IntKind.wrap IntKind.i64 (IntKind.wrap IntKind.i64 (a + (1
 : Int)) - (1 : Int)) ∧ IntKind.wrap IntKind.i64 (IntKind.wrap IntKind.i64 (a + (1 : Int)) - (1 : Int)) < (Nat.cast : Nat → Int) (List.length l) ∧ K (OB.cells [TV.d (AV.ints IntKind.i64 l), TV.d
 (AV.int IntKind.i64 (IntKind.wrap IntKind.i64 (a + (1 : Int)))), TV.d (AV.int IntKind.i64 s)]) (TV.d (AV.int IntKind.i64 (List.getD l (Int.toNat (IntKind.wrap IntKind.i64 (IntKind.wrap IntKind.i64 (a
 + (1 : Int)) - (1 : Int)))) (0 : Int)))))

def vc_n__mkSrc__N : List Int → Int → Int → Int → (OB → TV → Prop) → Prop :=
 fun (l : List Int) (a s n : Int) (K : OB → TV → Prop) => (decide (n < (1 : Int)) = true → K (OB.cells [TV.d (AV.ints IntKind.i64 l), TV.d (AV.int IntKind.i64 a), TV.d (AV.int IntKind.i64 s)]) (TV.d
 (AV.int IntKind.i64 (0 : Int)))) ∧ (decide (n < (1 : Int)) = false → Nt.StOk l a ∧ ¬n = (0 : Int) ∧ (decide (Int.tmod (Nt.rawV l a) n < (0 : Int)) = true → K (OB.cells [TV.d (AV.ints IntKind.i64 l),
 TV.d (AV.int IntKind.i64 (Nt.rawA l a)), TV.d (AV.int IntKind.i64 s)]) (TV.d (AV.int IntKind.i64 (IntKind.wrap IntKind.i64 (Int.tmod (Nt.rawV l a) n + n))))) ∧ (decide (Int.tmod (Nt.rawV l a) n < (0 :
 Int)) = false → K (OB.cells [TV.d (AV.ints IntKind.i64 l), TV.d (AV.int IntKind.i64 (Nt.rawA l a)), TV.d (AV.int IntKind.i64 s)]) (TV.d (AV.int IntKind.i64 (Int.tmod (Nt.rawV l a) n)))))

def vc_n__mkSrc__Pick : List Int → Int → Int → List Int → (OB → TV → Prop) → Prop :=
 fun (l : List Int) (a s : Int) (m : List Int) (K : OB → TV → Prop) => (Nt.StOk l a ∧ Nt.i64 ((Nat.cast : Nat → Int) (List.length m))) ∧ (0 : Int) ≤ Nt.numV l a ((Nat.cast : Nat → Int) (List.length m))
 ∧ Nt.numV l a ((Nat.cast : Nat → Int) (List.length m)) < (Nat.cast : Nat → Int) (List.length m) ∧ K (OB.cells [TV.d (AV.ints IntKind.i64 l), TV.d (AV.int IntKind.i64 (Nt.numA l a ((Nat.cast : Nat →
 Int) (List.length m)))), TV.d (AV.int IntKind.i64 s)]) (TV.d (AV.int IntKind.i64 (List.getD m (Int.toNat (Nt.numV l a ((Nat.cast : Nat → Int) (List.length m)))) (0 : Int))))

def vc_n__mkSrc__Limbs : List Int → Int → Int → (OB → TV → Prop) → Prop :=
 fun (l : List Int) (a s : Int) (K : OB → TV → Prop) => (Nt.StOk l a ∧ Nt.i64 (5 : Int)) ∧ ∃ (I : Int → List Int → Int → Int → List Int → Prop), ∃ (m : Int → List Int → Int → Int → List Int → Nat), I
 (Nt.numV l a (5 : Int)) l (Nt.numA l a (5 : Int)) s [] ∧ ∀ (v4 : Int) (l : List Int) (a s : Int) (o1 : List Int), I v4 l a s o1 → (decide ((0 : Int) < v4) = true → (Nt.StOk l a ∧ (0 : Nat) < (12 :
 Nat) ∧ (12 : Nat) ≤ (1000 : Nat)) ∧ ((Nat.cast : Nat → Int) (List.length o1) + (Nat.cast : Nat → Int) (List.length [IntKind.wrap IntKind.u32 (Nt.pickV l a [(0 : Int), (1 : Int), (2 : Int), (3 : Int),
 (10 : Int), (97 : Int), (65536 : Int), (2147483648 : Int), (4294967295 : Int), (4294967291 : Int), (123456789 : Int), (4000000007 : Int)])])) * (4 : Int) ≤ (70368744177664 : Int) ∧ I (IntKind.wrap
 IntKind.i64 (v4 - (1 : Int))) l (Nt.numA l a (12 : Int)) s (instHAppendOfAppend.1 o1 [IntKind.wrap IntKind.u32 (Nt.pickV l a [(0 : Int), (1 : Int), (2 : Int), (3 : Int), (10 : Int), (97 : Int), (65536
 : Int), (2147483648 : Int), (4294967295 : Int), (4294967291 : Int), (123456789 : Int), (4000000007 : Int)])]) ∧ m (IntKind.wrap IntKind.i64 (v4 - (1 : Int))) l (Nt.numA l a (12 : Int)) s
 (instHAppendOfAppend.1 o1 [IntKind.wrap IntKind.u32 (Nt.pickV l a [(0 : Int), (1 : Int), (2 : Int), (3 : Int), (10 : Int), (97 : Int), (65536 : Int), (2147483648 : Int), (4294967295 : Int),
 (4294967291 : Int), (123456789 : Int), (4000000007 : Int)])]) < m v4 l a s o1) ∧ (decide ((0 : Int) < v4) = false → K (OB.cells [TV.d (AV.ints IntKind.i64 l), TV.d (AV.int IntKind.i64 a), TV.d (AV.int
 IntKind.i64 s)]) (TV.d (AV.ints IntKind.u32 o1)))


end Nt
end

section
/- NtMp: proofs of verification conditions: the reader of numbers of the statements. -/
open Go Go.Vc
namespace Nt

theorem StOk.getD {l : List Int} {a : Int} (h : StOk l a) (n : Nat) : i64 (l.getD n 0) := by
  rw [List.getD_eq_getElem?_getD]
  cases e : l[n]? with
  | none => simp [i64]
  | some x => exact h.2.2 x (List.mem_of_getElem? e)
theorem StOk.raw {l : List Int} {a : Int} (h : StOk l a) : StOk l (rawA l a) ∧ i64 (rawV l a) := by
  refine ⟨⟨?_, h.2⟩, ?_⟩
  · have := h.1; unfold rawA; split <;> omega
  · unfold rawV; split
    · simp [i64]
    · exact h.getD _
theorem StOk.num {l : List Int} {a : Int} (h : StOk l a) (n : Int) : StOk l (numA l a n) ∧ 0 ≤ numV l a n ∧ (1 ≤ n → numV l a n < n) ∧ (n < 1 → numV l a n = 0) := by
  unfold numA numV
  split
  · exact ⟨h, by omega, by omega, by omega⟩
  · exact ⟨h.raw.1, Int.emod_nonneg _ (by omega), fun _ => Int.emod_lt_of_pos _ (by omega), by omega⟩

theorem p_nmkNew (l : List Int) (K : OB → Prop) (h : cmkNew.T [.d (.ints .i64 l)] K) : vc_nmkNew l K := by
  obtain ⟨_, hk⟩ := h
  unfold vc_nmkNew
  refine ⟨fun h => ?_, fun h => ?_⟩
  · simp only [decide_eq_true_eq] at h
    exact ⟨by omega, by omega, hk⟩
  · simp only [decide_eq_false_iff_not] at h
    rw [List.take_of_length_le (by omega)] at hk
    exact hk

theorem p_n__mkSrc__Raw (l : List Int) (a s : Int) (K : OB → TV → Prop) (h : cmkRaw.T (.ptr 0 0) (st l a s) [] K) : vc_n__mkSrc__Raw l a s K := by
  obtain ⟨ho, hk⟩ := h
  unfold vc_n__mkSrc__Raw
  unfold rawA rawV at hk
  have h0 := ho.1
  have h1 := ho.2.1
  refine ⟨fun h => ?_, fun h => ?_⟩
  · simp only [decide_eq_true_eq] at h
    rw [if_pos h, if_pos h] at hk; exact hk
  · simp only [decide_eq_false_iff_not] at h
    rw [if_neg h, if_neg h] at hk
    rw [w64 (x := a + 1) (by omega), w64 (by omega)]
    refine ⟨by omega, by omega, ?_⟩
    rw [Int.add_sub_cancel]; exact hk

theorem tmod_fix {x n : Int} (h : 1 ≤ n) : (x.tmod n < 0 → x.tmod n + n = x % n) ∧ (¬ x.tmod n < 0 → x.tmod n = x % n) ∧ -n < x.tmod n ∧ x.tmod n < n := by
  have h1 : -n < x.tmod n := by have := Int.lt_tmod_of_pos x (show 0 < n by omega); omega
  have h2 : x.tmod n < n := Int.tmod_lt_of_pos x (by omega)
  have h3 : (x.tmod n) % n = x % n := by rw [Int.tmod_def, Int.sub_mul_emod_self_left]
  refine ⟨fun h => ?_, fun h => ?_, h1, h2⟩
  · rw [← h3, ← Int.add_emod_right]
    exact (Int.emod_eq_of_lt (by omega) (by omega)).symm
  · rw [← h3]
    exact (Int.emod_eq_of_lt (by omega) (by omega)).symm

theorem p_n__mkSrc__N (l : List Int) (a s n : Int) (K : OB → TV → Prop) (h : cmkN.T (.ptr 0 0) (st l a s) [.d (.int .i64 n)] K) : vc_n__mkSrc__N l a s n K := by
  obtain ⟨⟨ho, hn⟩, hk⟩ := h
  unfold vc_n__mkSrc__N
  unfold numA numV at hk
  refine ⟨fun h => ?_, fun h => ?_⟩
  · simp only [decide_eq_true_eq] at h
    rw [if_pos h, if_pos h] at hk; exact hk
  · simp only [decide_eq_false_iff_not] at h
    rw [if_neg h, if_neg h] at hk
    obtain ⟨t1, t2, t3, t4⟩ := tmod_fix (x := rawV l a) (n := n) (by omega)
    unfold i64 at hn
    refine ⟨ho, by omega, fun h => ?_, fun h => ?_⟩
    · simp only [decide_eq_true_eq] at h
      rw [w64 (by omega), t1 h]; exact hk
    · simp only [decide_eq_false_iff_not] at h
      rw [t2 h]; exact hk

theorem p_n__mkSrc__Pick (l : List Int) (a s : Int) (m : List Int) (K : OB → TV → Prop) (h : cmkPick.T (.ptr 0 0) (st l a s) [.d (.ints .i64 m)] K) : vc_n__mkSrc__Pick l a s m K := by
  obtain ⟨⟨ho, hm, hm'⟩, hk⟩ := h
  unfold vc_n__mkSrc__Pick
  obtain ⟨_, h1, h2, _⟩ := ho.num (m.length : Int)
  exact ⟨⟨ho, by unfold i64; omega⟩, h1, h2 (by omega), hk⟩

theorem choice_lim (n : Nat) : 0 ≤ limbChoice.getD n 0 ∧ limbChoice.getD n 0 < 4294967296 := by
  have : ∀ x ∈ limbChoice, 0 ≤ x ∧ x < 4294967296 := by decide
  rw [List.getD_eq_getElem?_getD]
  cases e : limbChoice[n]? with
  | none => simp
  | some x => exact this x (List.mem_of_getElem? e)
theorem pick_lim (l : List Int) (a : Int) : 0 ≤ pickV l a limbChoice ∧ pickV l a limbChoice < 4294967296 := choice_lim _

theorem p_n__mkSrc__Limbs (l : List Int) (a s : Int) (K : OB → TV → Prop) (h : cmkLimbs.T (.ptr 0 0) (st l a s) [] K) : vc_n__mkSrc__Limbs l a s K := by
  obtain ⟨ho, hk⟩ := h
  unfold vc_n__mkSrc__Limbs
  obtain ⟨o5, v1, v2, _⟩ := ho.num 5
  have v2 := v2 (by decide)
  refine ⟨⟨ho, by unfold i64; decide⟩, fun i l' a' s' o => l' = l ∧ s' = s ∧ 0 ≤ i ∧ i ≤ 4 ∧ StOk l a' ∧ (o.length : Int) + i ≤ 4 ∧ limbsGo l i.toNat a' o = limbsF l a, fun i _ _ _ _ => i.toNat,
    ⟨rfl, rfl, v1, by omega, o5, by simp; omega, rfl⟩, ?_⟩
  rintro i l' a' s' o ⟨rfl, rfl, i0, i4, ho', hl, hgo⟩
  refine ⟨fun h => ?_, fun h => ?_⟩
  · simp only [decide_eq_true_eq] at h
    obtain ⟨o12, _, _, _⟩ := ho'.num 12
    rw [w64 (by omega)]
    refine ⟨⟨ho', by decide, by decide⟩, by simp; omega, ⟨rfl, rfl, by omega, by omega, o12, by show ((o ++ [_]).length : Int) + _ ≤ 4; simp; omega, ?_⟩, by show (i - 1).toNat < i.toNat; omega⟩
    rw [← hgo]
    obtain ⟨n, hn⟩ : ∃ n : Nat, i.toNat = n + 1 := ⟨i.toNat - 1, by omega⟩
    rw [show (i - 1).toNat = n by omega, hn]
    show limbsGo l' n _ (o ++ [IntKind.wrap .u32 (pickV l' a' limbChoice)]) = limbsGo l' n _ (o ++ [_])
    rw [wu32 (pick_lim l' a')]
  · simp only [decide_eq_false_iff_not] at h
    rw [show i.toNat = 0 by omega] at hgo
    rw [← hgo] at hk
    exact hk

theorem limbsGo_ok {l : List Int} : ∀ (n : Nat) (a : Int) (o : List Int), StOk l a → Lim o → StOk l (limbsGo l n a o).2 ∧ Lim (limbsGo l n a o).1 ∧ (limbsGo l n a o).1.length = o.length + n
  | 0, a, o, h, ho => ⟨h, ho, rfl⟩
  | n + 1, a, o, h, ho => by
    have := limbsGo_ok n (numA l a 12) (o ++ [pickV l a limbChoice]) (h.num 12).1 (ho.append (.mk (pick_lim l a) .nil))
    refine ⟨this.1, this.2.1, ?_⟩
    have h3 := this.2.2
    rw [List.length_append, List.length_singleton] at h3
    show (limbsGo l n _ _).1.length = _
    rw [h3]; omega
theorem StOk.limbs {l : List Int} {a : Int} (h : StOk l a) : StOk l (limbsF l a).2 ∧ Lim (limbsF l a).1 ∧ (limbsF l a).1.length ≤ 4 := by
  obtain ⟨o5, v1, v2, _⟩ := h.num 5
  have v2 := v2 (by decide)
  obtain ⟨h1, h2, h3⟩ := limbsGo_ok (numV l a 5).toNat (numA l a 5) [] o5 .nil
  exact ⟨h1, h2, by unfold limbsF; rw [h3]; simp; omega⟩
theorem StOk.new {l : List Int} (h : ∀ x ∈ l, i64 x) : StOk (l.take 1000) 0 := ⟨by omega, by simp; omega, fun x hx => h x (List.mem_of_mem_take hx)⟩

theorem i64s_of {l : List Int} (h : ∀ n ∈ l, IntKind.min .i64 ≤ n ∧ n ≤ IntKind.max .i64) : ∀ x ∈ l, i64 x := fun x hx => by
  have h := h x hx
  have e1 : IntKind.i64.min = -9223372036854775808 := by decide
  have e2 : IntKind.i64.max = 9223372036854775807 := by decide
  unfold i64
  omega
end Nt
end

section
/- RtB: contracts of the functions over fractions. -/
namespace Nt
open Go Go.Vc

/-- The number that a fraction denotes. -/
def sg (s : Bool) (n : Nat) : Int := if s then -(n : Int) else n
def rv (s : Bool) (a b : List Int) : Rat := mkRat (sg s (val a)) (val b)
def rneg (r : Rat) : Bool := decide (r.num < 0)
def rnum (r : Rat) : List Int := limbs r.num.natAbs
def rden (r : Rat) : List Int := limbs r.den
/-- Limbs, so many at most. -/
def Sm (k : Nat) (a : List Int) : Prop := Lim a ∧ a.length ≤ k
def rz (r : Rat) : Bool := decide (r = 0)
def sgn (r : Rat) : Int := if r = 0 then 0 else if r < 0 then -1 else 1
/-- An own text. -/
def rfmt (r : Rat) : List Int := (if rneg r then [45] else []) ++ dec r.num.natAbs ++ (if r.den = 1 then [] else 47 :: dec r.den)
/-- The text before a slash, the one behind it, whether there is one. -/
def cutA : List Int → List Int
  | [] => []
  | x :: r => if x = 47 then [] else x :: cutA r
def cutB : List Int → List Int
  | [] => []
  | x :: r => if x = 47 then r else cutB r
def cutO : List Int → Bool
  | [] => false
  | x :: r => if x = 47 then true else cutO r
def preO (s : List Int) : Bool := decide (s.getD 0 0 = 45)
def preS (s : List Int) : List Int := if preO s then s.drop 1 else s
/-- The two texts of a fraction. -/
def pnE (s : List Int) : Int := parseE (cutA (preS s))
def pdE (s : List Int) : Int := if cutO (preS s) then parseE (cutB (preS s)) else 0
def pnV (s : List Int) : Nat := val (parseV (cutA (preS s)))
def pdV (s : List Int) : Nat := if cutO (preS s) then val (parseV (cutB (preS s))) else 1
def rpE (s : List Int) : Int := if pnE s = 4 ∨ pdE s = 4 then 4 else if pnE s ≠ 0 ∨ pdE s ≠ 0 then 9 else if pdV s = 0 then 3 else 0
def rpR (s : List Int) : Rat := mkRat (sg (preO s) (pnV s)) (pdV s)
/-- A fraction that is given or the empty one. -/
def oneg (c : Bool) (r : Rat) : Bool := if c then rneg r else false
def onum (c : Bool) (r : Rat) : List Int := if c then rnum r else []
def oden (c : Bool) (r : Rat) : List Int := if c then rden r else []

def crat.T := spec fun | [.agg [.d (.bool s), .d (.ints .u32 a), .d (.ints .u32 b)]] => some (True, .agg [.d (.bool s), .d (.ints .u32 a), .d (.ints .u32 b)]) | _ => none
def creduce.T := spec fun | [.d (.bool s), .d (.ints .u32 a), .d (.ints .u32 b)] => some (Few a ∧ Few b ∧ val b ≠ 0, .agg [.d (.bool (rneg (rv s a b))), .d (.ints .u32 (rnum (rv s a b))), .d (.ints .u32 (rden (rv s a b)))]) | _ => none
def cisZero.T := spec fun | [.d (.ints .u32 a)] => some (Few a, .d (.bool (decide (val a = 0)))) | _ => none
def cnumber.T := spec fun | [.agg [.d (.bool s), .d (.ints .u32 a), .d (.ints .u32 b)]] => some (Few a ∧ Few b, .agg [.d (.bool (rneg (rv s a b))), .d (.ints .u32 (rnum (rv s a b))), .d (.ints .u32 (rden (rv s a b)))]) | _ => none
def cone.T := spec fun | [.d (.ints .u32 a)] => some (True, .d (.bool (decide (a = [1])))) | _ => none
def cmagnitude.T := spec fun | [.d (.int .i64 n)] => some (i64 n, .tup [.d (.bool (decide (n < 0))), .d (.ints .u32 (limbs n.natAbs))]) | _ => none
def crInt.T := spec fun | [.d (.int .i64 n)] => some (i64 n, .agg [.d (.bool (rneg (n : Rat))), .d (.ints .u32 (rnum (n : Rat))), .d (.ints .u32 (rden (n : Rat)))]) | _ => none
def crNew.T := spec fun | [.d (.int .i64 n), .d (.int .i64 d)] => some (i64 n ∧ i64 d, .tup [.agg [.d (.bool (oneg (!decide (d = 0)) (Rat.divInt n d))), .d (.ints .u32 (onum (!decide (d = 0)) (Rat.divInt n d))), .d (.ints .u32 (oden (!decide (d = 0)) (Rat.divInt n d)))], .d (.int .i64 (if d = 0 then 3 else 0))]) | _ => none
def crMake.T := spec fun | [.d (.bool s), .d (.ints .u32 a), .d (.ints .u32 b)] => some (Few a ∧ Few b, .tup [.agg [.d (.bool (oneg (!decide (val b = 0)) (rv s a b))), .d (.ints .u32 (onum (!decide (val b = 0)) (rv s a b))), .d (.ints .u32 (oden (!decide (val b = 0)) (rv s a b)))], .d (.int .i64 (if val b = 0 then 3 else 0))]) | _ => none
def ccombine.T := spec fun | [.d (.bool s), .d (.ints .u32 a), .d (.bool t), .d (.ints .u32 b), .d (.ints .u32 d)] => some (Sm 50000000 a ∧ Sm 50000000 b ∧ Few d ∧ val d ≠ 0, .agg [.d (.bool (rneg (mkRat (sg s (val a) + sg t (val b)) (val d)))), .d (.ints .u32 (rnum (mkRat (sg s (val a) + sg t (val b)) (val d)))), .d (.ints .u32 (rden (mkRat (sg s (val a) + sg t (val b)) (val d))))]) | _ => none
def crAdd.T := spec fun | [.agg [.d (.bool s), .d (.ints .u32 a), .d (.ints .u32 b)], .agg [.d (.bool t), .d (.ints .u32 c), .d (.ints .u32 d)]] => some (Sm 1000000 a ∧ Sm 1000000 b ∧ Sm 1000000 c ∧ Sm 1000000 d, .agg [.d (.bool (rneg (rv s a b + rv t c d))), .d (.ints .u32 (rnum (rv s a b + rv t c d))), .d (.ints .u32 (rden (rv s a b + rv t c d)))]) | _ => none
def crNeg.T := spec fun | [.agg [.d (.bool s), .d (.ints .u32 a), .d (.ints .u32 b)]] => some (Sm 1000000 a ∧ Sm 1000000 b, .agg [.d (.bool (rneg (-rv s a b))), .d (.ints .u32 (rnum (-rv s a b))), .d (.ints .u32 (rden (-rv s a b)))]) | _ => none
def crSub.T := spec fun | [.agg [.d (.bool s), .d (.ints .u32 a), .d (.ints .u32 b)], .agg [.d (.bool t), .d (.ints .u32 c), .d (.ints .u32 d)]] => some (Sm 1000000 a ∧ Sm 1000000 b ∧ Sm 1000000 c ∧ Sm 1000000 d, .agg [.d (.bool (rneg (rv s a b - rv t c d))), .d (.ints .u32 (rnum (rv s a b - rv t c d))), .d (.ints .u32 (rden (rv s a b - rv t c d)))]) | _ => none
def crMul.T := spec fun | [.agg [.d (.bool s), .d (.ints .u32 a), .d (.ints .u32 b)], .agg [.d (.bool t), .d (.ints .u32 c), .d (.ints .u32 d)]] => some (Sm 1000000 a ∧ Sm 1000000 b ∧ Sm 1000000 c ∧ Sm 1000000 d, .agg [.d (.bool (rneg (rv s a b * rv t c d))), .d (.ints .u32 (rnum (rv s a b * rv t c d))), .d (.ints .u32 (rden (rv s a b * rv t c d)))]) | _ => none
def crDiv.T := spec fun | [.agg [.d (.bool s), .d (.ints .u32 a), .d (.ints .u32 b)], .agg [.d (.bool t), .d (.ints .u32 c), .d (.ints .u32 d)]] => some (Sm 1000000 a ∧ Sm 1000000 b ∧ Sm 1000000 c ∧ Sm 1000000 d, .tup [.agg [.d (.bool (oneg (!rz (rv t c d)) (rv s a b / rv t c d))), .d (.ints .u32 (onum (!rz (rv t c d)) (rv s a b / rv t c d))), .d (.ints .u32 (oden (!rz (rv t c d)) (rv s a b / rv t c d)))], .d (.int .i64 (if rz (rv t c d) = true then 3 else 0))]) | _ => none
def crSign.T := spec fun | [.agg [.d (.bool s), .d (.ints .u32 a), .d (.ints .u32 b)]] => some (Few a ∧ Few b, .d (.int .i64 (sgn (rv s a b)))) | _ => none
def crCmp.T := spec fun | [.agg [.d (.bool s), .d (.ints .u32 a), .d (.ints .u32 b)], .agg [.d (.bool t), .d (.ints .u32 c), .d (.ints .u32 d)]] => some (Sm 1000000 a ∧ Sm 1000000 b ∧ Sm 1000000 c ∧ Sm 1000000 d, .d (.int .i64 (sgn (rv s a b - rv t c d)))) | _ => none
def crEqual.T := spec fun | [.agg [.d (.bool s), .d (.ints .u32 a), .d (.ints .u32 b)], .agg [.d (.bool t), .d (.ints .u32 c), .d (.ints .u32 d)]] => some (Sm 1000000 a ∧ Sm 1000000 b ∧ Sm 1000000 c ∧ Sm 1000000 d, .d (.bool (decide (rv s a b = rv t c d)))) | _ => none
def crPow.T := spec fun | [.agg [.d (.bool s), .d (.ints .u32 a), .d (.ints .u32 b)], .d (.int .i64 n)] => some (Sm 10000 a ∧ Sm 10000 b, .tup [.agg [.d (.bool (oneg (decide (0 ≤ n ∧ n ≤ 64)) (rv s a b ^ n.toNat))), .d (.ints .u32 (onum (decide (0 ≤ n ∧ n ≤ 64)) (rv s a b ^ n.toNat))), .d (.ints .u32 (oden (decide (0 ≤ n ∧ n ≤ 64)) (rv s a b ^ n.toNat)))], .d (.int .i64 (if 0 ≤ n ∧ n ≤ 64 then 0 else 1))]) | _ => none
def crParse.T := spec fun | [.d (.str s)] => some (s.length ≤ 1000000, .tup [.agg [.d (.bool (oneg (decide (rpE s = 0)) (rpR s))), .d (.ints .u32 (onum (decide (rpE s = 0)) (rpR s))), .d (.ints .u32 (oden (decide (rpE s = 0)) (rpR s)))], .d (.int .i64 (rpE s))]) | _ => none
def crFormat.T := spec fun | [.agg [.d (.bool s), .d (.ints .u32 a), .d (.ints .u32 b)]] => some (Sm 1000000 a ∧ Sm 1000000 b, .d (.str (rfmt (rv s a b)))) | _ => none
def ccutPrefix.T := spec fun | [.d (.str s), .d (.str p)] => some (p = [45] ∧ s.length ≤ 1000000000000, .tup [.d (.str (preS s)), .d (.bool (preO s))]) | _ => none
def ccut.T := spec fun | [.d (.str s), .d (.str p)] => some (p = [47] ∧ s.length ≤ 1000000000000, .tup [.d (.str (cutA s)), .d (.str (if cutO s then cutB s else [])), .d (.bool (cutO s))]) | _ => none
def crSame.T := spec fun | [.agg [.d (.bool s), .d (.ints .u32 a), .d (.ints .u32 b)], .agg [.d (.bool t), .d (.ints .u32 c), .d (.ints .u32 d)]] => some (a.length ≤ 1000000000 ∧ b.length ≤ 1000000000 ∧ c.length ≤ 1000000000 ∧ d.length ≤ 1000000000, .d (.bool (decide (s = t ∧ a = c ∧ b = d)))) | _ => none
def crPower.T := spec fun | [.agg [.d (.bool s), .d (.ints .u32 a), .d (.ints .u32 b)], .d (.int .i64 n)] => some (Sm 10000 a ∧ Sm 10000 b ∧ n ≤ 64, .agg [.d (.bool (rneg (rv s a b ^ n.toNat))), .d (.ints .u32 (rnum (rv s a b ^ n.toNat))), .d (.ints .u32 (rden (rv s a b ^ n.toNat)))]) | _ => none
end Nt
end

section
/- RtC: contracts of strings.Cut and its like, of the reader of fractions, and of the statements about fractions. -/
namespace Nt
open Go Go.Vc

abbrev rg (r : Rat) : TV := .agg [.d (.bool (rneg r)), .d (.ints .u32 (rnum r)), .d (.ints .u32 (rden r))]
abbrev r3 (s : Bool) (a b : List Int) : TV := .agg [.d (.bool s), .d (.ints .u32 a), .d (.ints .u32 b)]

def hasPre (s p : List Int) : Bool := decide (p.length ≤ s.length ∧ s.take p.length = p)
def chasPrefix.T := spec fun | [.d (.str s), .d (.str p)] => some (s.length ≤ 1000000000000 ∧ p.length ≤ 1000000000000, .d (.bool (hasPre s p))) | _ => none
def ccutPrefixL.T := spec fun | [.d (.str s), .d (.str p)] => some (s.length ≤ 1000000000000 ∧ p.length ≤ 1000000000000, .tup [.d (.str (if hasPre s p then s.drop p.length else s)), .d (.bool (hasPre s p))]) | _ => none
def cindexL.T := spec fun | [.d (.str s), .d (.str p)] => some (p.length = 1 ∧ 0 ≤ p.getD 0 0 ∧ p.getD 0 0 < 256 ∧ s.length ≤ 1000000000000, .d (.int .i64 (idx (p.getD 0 0) s))) | _ => none
def ccutL.T := spec fun | [.d (.str s), .d (.str p)] => some (p.length = 1 ∧ 0 ≤ p.getD 0 0 ∧ p.getD 0 0 < 256 ∧ s.length ≤ 1000000000000, .tup [.d (.str (if idx (p.getD 0 0) s < 0 then s else s.take (idx (p.getD 0 0) s).toNat)), .d (.str (if idx (p.getD 0 0) s < 0 then [] else s.drop ((idx (p.getD 0 0) s).toNat + 1))), .d (.bool (!decide (idx (p.getD 0 0) s < 0)))]) | _ => none

/-! ### contracts of the slow functions -/
def clowest.T := spec fun | [.d (.bool s), .d (.ints .u32 a), .d (.ints .u32 b)] => some (Sm 90000000 a ∧ Sm 90000000 b ∧ val b ≠ 0, .agg [.d (.bool (rneg (rv s a b))), .d (.ints .u32 (rnum (rv s a b))), .d (.ints .u32 (rden (rv s a b)))]) | _ => none
def cqNumber.T := spec fun | [.agg [.d (.bool s), .d (.ints .u32 a), .d (.ints .u32 b)]] => some (Sm 90000000 a ∧ Sm 90000000 b, .agg [.d (.bool (rneg (rv s a b))), .d (.ints .u32 (rnum (rv s a b))), .d (.ints .u32 (rden (rv s a b)))]) | _ => none
def cqMake.T := spec fun | [.d (.bool s), .d (.ints .u32 a), .d (.ints .u32 b)] => some (Sm 90000000 a ∧ Sm 90000000 b, .tup [.agg [.d (.bool (oneg (!decide (val b = 0)) (rv s a b))), .d (.ints .u32 (onum (!decide (val b = 0)) (rv s a b))), .d (.ints .u32 (oden (!decide (val b = 0)) (rv s a b)))], .d (.int .i64 (if val b = 0 then 3 else 0))]) | _ => none
def cqSign.T := spec fun | [.agg [.d (.bool s), .d (.ints .u32 a), .d (.ints .u32 b)]] => some (Sm 90000000 a ∧ Sm 90000000 b, .d (.int .i64 (sgn (rv s a b)))) | _ => none

/-! ### the reader -/
def rangeV (l : List Int) (a lo hi : Int) : Int := lo + numV l a (hi - lo + 1)
def ratN (l : List Int) (a : Int) : Int := rangeV l a (-6) 6
def ratD (l : List Int) (a : Int) : Int := rangeV l (numA l a 13) 1 5
def ratV (l : List Int) (a : Int) : Rat := Rat.divInt (ratN l a) (ratD l a)
def ratA (l : List Int) (a : Int) : Int := numA l (numA l a 13) 5
def looseK (l : List Int) (a : Int) : Int := numV l a 4
def looseS (l : List Int) (a : Int) : Bool :=
  if looseK l a = 0 then rneg (ratV l (numA l a 4)) else if looseK l a = 1 then decide (numV l (numA l a 4) 2 = 0) else decide (numV l (numA l (numA l a 4) 6) 2 = 0)
def looseN (l : List Int) (a : Int) : List Int :=
  if looseK l a = 0 then rnum (ratV l (numA l a 4)) else if looseK l a = 1 then (limbsF l (numA l (numA l a 4) 2)).1 else
    [rangeV l (numA l a 4) 1 6 * numV l (numA l (numA l (numA l a 4) 6) 2) 9, 0]
def looseD (l : List Int) (a : Int) : List Int :=
  if looseK l a = 0 then rden (ratV l (numA l a 4)) else if looseK l a = 1 then (limbsF l (limbsF l (numA l (numA l a 4) 2)).2).1 else
    [rangeV l (numA l a 4) 1 6 * numV l (numA l (numA l (numA l (numA l a 4) 6) 2) 9) 6]
def looseA (l : List Int) (a : Int) : Int :=
  if looseK l a = 0 then ratA l (numA l a 4) else if looseK l a = 1 then (limbsF l (limbsF l (numA l (numA l a 4) 2)).2).2 else
    numA l (numA l (numA l (numA l (numA l a 4) 6) 2) 9) 6
def cmkRange.T := lspec fun | .ptr z o, .cells [.d (.ints .i64 l), .d (.int .i64 a), .d (.int .i64 s)], [.d (.int .i64 lo), .d (.int .i64 hi)] => (match Nat.beq z 0, Nat.beq o 0 with | true, true => some (StOk l a ∧ -1000000000 ≤ lo ∧ lo ≤ hi ∧ hi ≤ 1000000000, .cells [.d (.ints .i64 l), .d (.int .i64 (numA l a (hi - lo + 1))), .d (.int .i64 s)], .d (.int .i64 (rangeV l a lo hi))) | _, _ => none) | _, _, _ => none
def cmkRat.T := lspec fun | .ptr z o, .cells [.d (.ints .i64 l), .d (.int .i64 a), .d (.int .i64 s)], [] => (match Nat.beq z 0, Nat.beq o 0 with | true, true => some (StOk l a, .cells [.d (.ints .i64 l), .d (.int .i64 (ratA l a)), .d (.int .i64 s)], rg (ratV l a)) | _, _ => none) | _, _, _ => none
def cmkLoose.T := lspec fun | .ptr z o, .cells [.d (.ints .i64 l), .d (.int .i64 a), .d (.int .i64 s)], [] => (match Nat.beq z 0, Nat.beq o 0 with | true, true => some (StOk l a, .cells [.d (.ints .i64 l), .d (.int .i64 (looseA l a)), .d (.int .i64 s)], r3 (looseS l a) (looseN l a) (looseD l a)) | _, _ => none) | _, _, _ => none

/-! ### the statements -/
def crefNormal.T := spec fun | [.d (.ints .u32 a)] => some (Few a, .d (.bool (decide (a = limbs (val a))))) | _ => none
def cl2short.T := spec fun | [.agg [.d (.bool _s), .d (.ints .u32 a), .d (.ints .u32 b)]] => some (True, .d (.bool (decide (a.length ≤ 12 ∧ b.length ≤ 12)))) | _ => none
def cl2awake.T := spec fun | [] => some (True, .d (.bool true)) | _ => none
def cl2agrees.T := spec fun | [.agg [.d (.bool _s), .d (.ints .u32 a), .d (.ints .u32 b)], .agg [.d (.bool _t), .d (.ints .u32 c), .d (.ints .u32 d)]] => some (Sm 100000 a ∧ Sm 100000 b ∧ Sm 100000 c ∧ Sm 100000 d, .d (.bool true)) | _ => none
def cRationalNormal.T := spec fun | [.agg [.d (.bool _s), .d (.ints .u32 a), .d (.ints .u32 b)], .agg [.d (.bool _t), .d (.ints .u32 c), .d (.ints .u32 d)]] => some (Lim a ∧ Lim b ∧ Lim c ∧ Lim d, .d (.bool true)) | _ => none
def cRationalList.T := spec fun | [.d (.ints .i64 l)] => some (∀ x ∈ l, i64 x, .d (.bool true)) | _ => none
def crefMulF.T := fspec fun | [.d (.ints .u32 a), .d (.ints .u32 b)] => some (Lim a ∧ Lim b ∧ a.length ≤ 40000000 ∧ b.length ≤ 40000000, .ints .u32 (limbs (val a * val b))) | _ => none
def cRationalDenotes.T := spec fun | [.d (.ints .i64 l), .d (.int .u32 k), .d (.int .u8 z)] => some ((∀ x ∈ l, i64 x) ∧ L k ∧ 0 ≤ z ∧ z < 256, .d (.bool true)) | _ => none
def cRationalTexts.T := spec fun | [.agg [.d (.bool _s), .d (.ints .u32 a), .d (.ints .u32 b)]] => some (Lim a ∧ Lim b, .d (.bool true)) | _ => none
def cRationalRaw.T := spec fun | [.agg [.d (.bool _s), .d (.ints .u32 a), .d (.ints .u32 b)], .agg [.d (.bool _t), .d (.ints .u32 c), .d (.ints .u32 d)], .d (.int .i64 x), .d (.int .i64 y), .d (.int .i64 n), .d (.str _u)] => some (Lim a ∧ Lim b ∧ Lim c ∧ Lim d ∧ i64 x ∧ i64 y ∧ i64 n, .d (.bool true)) | _ => none
def cRationalBuilt.T := spec fun | [.d (.ints .i64 l), .d (.str t), .d (.int .i64 n)] => some ((∀ x ∈ l, i64 x) ∧ (∀ x ∈ t, 0 ≤ x ∧ x < 256) ∧ i64 n, .d (.bool true)) | _ => none
end Nt
end

section
/- RtA: fractions as numbers. -/
namespace Nt
open Go Go.Vc

theorem sg_natAbs (s : Bool) (n : Nat) : (sg s n).natAbs = n := by unfold sg; split <;> omega
theorem sg_zero (s : Bool) : sg s 0 = 0 := by unfold sg; split <;> rfl
theorem sg_add (s : Bool) (n m : Nat) : sg s n + sg s m = sg s (n + m) := by unfold sg; split <;> omega
theorem sg_self (n : Int) : sg (decide (n < 0)) n.natAbs = n := by
  unfold sg
  by_cases h : n < 0
  · simp only [h, decide_true, if_true]; omega
  · simp only [h, decide_false, Bool.false_eq_true, if_false]; omega
theorem sg_mul (s t : Bool) (n m : Nat) : sg s n * sg t m = sg (s != t) (n * m) := by
  unfold sg
  cases s <;> cases t <;> simp [Int.natCast_mul, Int.neg_mul, Int.mul_neg]
theorem sg_sub_le {s t : Bool} {n m : Nat} (h : s ≠ t) (hm : m ≤ n) : sg s n + sg t m = sg s (n - m) := by
  unfold sg; cases s <;> cases t <;> simp at h ⊢ <;> omega

/-! ### a fraction in lowest terms -/
theorem mk_num {s : Bool} {n d : Nat} (hd : d ≠ 0) : (mkRat (sg s n) d).num.natAbs = n / Nat.gcd n d := by
  rw [Rat.num_mkRat, if_neg hd, sg_natAbs, Nat.gcd_comm, Int.natAbs_ediv_of_dvd, sg_natAbs]
  · rfl
  · rw [← Int.dvd_natAbs, sg_natAbs]
    exact Int.natCast_dvd_natCast.2 (Nat.gcd_dvd_left n d)
theorem mk_den {s : Bool} {n d : Nat} (hd : d ≠ 0) : (mkRat (sg s n) d).den = d / Nat.gcd n d := by
  rw [Rat.den_mkRat, if_neg hd, sg_natAbs, Nat.gcd_comm]
theorem mk_neg {s : Bool} {n d : Nat} (hd : d ≠ 0) : rneg (mkRat (sg s n) d) = (s && decide (n ≠ 0)) := by
  unfold rneg
  rw [Rat.num_mkRat, if_neg hd, sg_natAbs]
  have hg : 0 < d.gcd n := Nat.gcd_pos_of_pos_left _ (by omega)
  cases s with
  | false =>
    have : ¬ sg false n / (d.gcd n : Int) < 0 := by
      have : 0 ≤ sg false n / (d.gcd n : Int) := Int.ediv_nonneg (by unfold sg; simp) (by omega)
      omega
    simp [this]
  | true =>
    by_cases h0 : n = 0
    · subst h0; simp [sg_zero]
    · have : sg true n / (d.gcd n : Int) < 0 := Int.ediv_neg_of_neg_of_pos (by unfold sg; simp; omega) (by omega)
      simp [this, h0]
theorem rv_num {s : Bool} {a b : List Int} (h : val b ≠ 0) : rnum (rv s a b) = limbs (val a / Nat.gcd (val a) (val b)) := by unfold rnum rv; rw [mk_num h]
theorem rv_den {s : Bool} {a b : List Int} (h : val b ≠ 0) : rden (rv s a b) = limbs (val b / Nat.gcd (val a) (val b)) := by unfold rden rv; rw [mk_den h]
theorem rv_neg {s : Bool} {a b : List Int} (h : val b ≠ 0) : rneg (rv s a b) = (s && decide (val a ≠ 0)) := mk_neg h
theorem rv_zero {s : Bool} {a b : List Int} (h : val b = 0) : rv s a b = 0 := by unfold rv; rw [h, Rat.mkRat_zero]
theorem rv_zero' {s : Bool} {a b : List Int} (h : val a = 0) : rv s a b = 0 := by unfold rv; rw [h, sg_zero, Rat.zero_mkRat]
theorem rneg0 : rneg 0 = false := rfl
theorem limbs_one : limbs 1 = [1] := by
  rw [limbs_pos (by decide), show 1 / 4294967296 = 0 by decide, limbs_zero]; rfl
theorem rnum0 : rnum 0 = [] := by unfold rnum; exact limbs_zero
theorem rden0 : rden 0 = [1] := by unfold rden; exact limbs_one
theorem val_one : val [1] = 1 := by rw [← limbs_one, val_limbs]
/-- The parts make up the number. -/
theorem rv_parts (r : Rat) : rv (rneg r) (rnum r) (rden r) = r := by
  unfold rv rneg rnum rden
  rw [val_limbs, val_limbs, sg_self, Rat.mkRat_self]
theorem rnum_lim (r : Rat) : Lim (rnum r) := limbs_lim _
theorem rden_lim (r : Rat) : Lim (rden r) := limbs_lim _
theorem val_rnum (r : Rat) : val (rnum r) = r.num.natAbs := val_limbs _
theorem val_rden (r : Rat) : val (rden r) = r.den := val_limbs _
theorem rden_ne (r : Rat) : val (rden r) ≠ 0 := by rw [val_rden]; exact r.den_nz
theorem rden_one (r : Rat) : rden r = [1] ↔ r.den = 1 := by rw [← limbs_one]; exact limbs_inj
theorem rnum_nil (r : Rat) : rnum r = [] ↔ r = 0 := by
  unfold rnum
  rw [limbs_nil, Int.natAbs_eq_zero, Rat.num_eq_zero]

/-! ### sizes -/
theorem Sm.few {k : Nat} {a : List Int} (h : Sm k a) (hk : k ≤ 100000000 := by decide) : Few a := ⟨h.1, by have := h.2; omega⟩
theorem Sm.mono {k j : Nat} {a : List Int} (h : Sm k a) (hk : k ≤ j) : Sm j a := ⟨h.1, by have := h.2; omega⟩
/-- Numerator and denominator have so many limbs at most. -/
def RS (k : Nat) (r : Rat) : Prop := r.num.natAbs < 4294967296 ^ k ∧ r.den < 4294967296 ^ k
theorem RS.num {k : Nat} {r : Rat} (h : RS k r) : Sm k (rnum r) := ⟨rnum_lim r, limbs_len.2 h.1⟩
theorem RS.den {k : Nat} {r : Rat} (h : RS k r) : Sm k (rden r) := ⟨rden_lim r, limbs_len.2 h.2⟩
theorem RS.mono {k j : Nat} {r : Rat} (h : RS k r) (hk : k ≤ j) : RS j r := ⟨Nat.lt_of_lt_of_le h.1 (Nat.pow_le_pow_right (by decide) hk), Nat.lt_of_lt_of_le h.2 (Nat.pow_le_pow_right (by decide) hk)⟩
theorem RS.mk {k : Nat} {n : Int} {d : Nat} (h1 : n.natAbs < 4294967296 ^ k) (h2 : d < 4294967296 ^ k) (hk : 1 ≤ k := by omega) : RS k (mkRat n d) := by
  by_cases hd : d = 0
  · subst hd
    rw [Rat.mkRat_zero]
    have : (4294967296 : Nat) ^ 1 ≤ 4294967296 ^ k := Nat.pow_le_pow_right (by decide) hk
    exact ⟨by show 0 < _; omega, by show 1 < _; omega⟩
  · rw [show n = sg (decide (n < 0)) n.natAbs from (sg_self n).symm]
    exact ⟨by rw [mk_num hd]; exact Nat.lt_of_le_of_lt (Nat.div_le_self _ _) h1, by rw [mk_den hd]; exact Nat.lt_of_le_of_lt (Nat.div_le_self _ _) h2⟩
theorem Sm.val {k : Nat} {a : List Int} (h : Sm k a) : val a < 4294967296 ^ k := Nat.lt_of_lt_of_le (val_lt h.1) (Nat.pow_le_pow_right (by decide) h.2)
theorem RS.of {k : Nat} {s : Bool} {a b : List Int} (ha : Sm k a) (hb : Sm k b) (hk : 1 ≤ k := by omega) : RS k (rv s a b) := .mk (by rw [sg_natAbs]; exact ha.val) hb.val hk
theorem RS.neg {k : Nat} {r : Rat} (h : RS k r) : RS k (-r) := ⟨by rw [Rat.neg_num, Int.natAbs_neg]; exact h.1, h.2⟩
theorem pow_two_mul {k j : Nat} {x y : Nat} (hx : x < 4294967296 ^ k) (hy : y < 4294967296 ^ j) : x * y < 4294967296 ^ (k + j) := by
  rw [Nat.pow_add]; exact Nat.mul_lt_mul'' hx hy
theorem RS.mul {k j : Nat} {r q : Rat} (h : RS k r) (g : RS j q) (hk : 1 ≤ k + j := by omega) : RS (k + j) (r * q) := by
  rw [Rat.mul_def']
  exact .mk (by rw [Int.natAbs_mul]; exact pow_two_mul h.1 g.1) (pow_two_mul h.2 g.2) hk
theorem RS.add {k j : Nat} {r q : Rat} (h : RS k r) (g : RS j q) : RS (k + j + 1) (r + q) := by
  rw [Rat.add_def']
  refine .mk ?_ ?_
  · have h1 := pow_two_mul h.1 g.2
    have h2 := pow_two_mul g.1 h.2
    rw [Nat.add_comm j k] at h2
    have h3 := Int.natAbs_add_le (r.num * q.den) (q.num * r.den)
    rw [Int.natAbs_mul, Int.natAbs_mul] at h3
    have e1 : (q.den : Int).natAbs = q.den := rfl
    have e2 : (r.den : Int).natAbs = r.den := rfl
    rw [e1, e2] at h3
    rw [Nat.pow_succ]
    generalize (4294967296 : Nat) ^ (k + j) = W at *
    omega
  · have h1 := pow_two_mul h.2 g.2
    rw [Nat.pow_succ]
    generalize (4294967296 : Nat) ^ (k + j) = W at *
    omega
theorem RS.sub {k j : Nat} {r q : Rat} (h : RS k r) (g : RS j q) : RS (k + j + 1) (r - q) := by rw [Rat.sub_eq_add_neg]; exact h.add g.neg
theorem RS.inv {k : Nat} {r : Rat} (h : RS k r) (hk : 1 ≤ k := by omega) : RS k r⁻¹ := by
  refine ⟨?_, ?_⟩
  · rw [Rat.num_inv, Int.natAbs_mul]
    have : r.num.sign.natAbs ≤ 1 := by rw [Int.natAbs_sign]; split <;> omega
    have h2 := h.2
    have e2 : (r.den : Int).natAbs = r.den := rfl
    rw [e2]
    calc _ ≤ 1 * r.den := Nat.mul_le_mul_right _ this
      _ < _ := by omega
  · rw [Rat.den_inv]
    split
    · have : (4294967296 : Nat) ^ 1 ≤ 4294967296 ^ k := Nat.pow_le_pow_right (by decide) hk
      omega
    · exact h.1
theorem RS.div {k j : Nat} {r q : Rat} (h : RS k r) (g : RS j q) (hk : 1 ≤ j := by omega) : RS (k + j) (r / q) := by rw [Rat.div_def]; exact h.mul (g.inv hk) (by omega)
theorem RS.zero : RS 1 0 := ⟨by decide, by decide⟩
theorem RS.one : RS 1 1 := ⟨by decide, by decide⟩
theorem RS.pow {k : Nat} {r : Rat} (h : RS k r) (hk : 1 ≤ k := by omega) : ∀ n, RS (k * n + 1) (r ^ n)
  | 0 => by rw [Rat.pow_zero]; exact RS.one.mono (by omega)
  | n + 1 => by
    rw [Rat.pow_succ]
    exact ((RS.pow h hk n).mul h).mono (by rw [Nat.mul_succ]; omega)

/-! ### signs -/
theorem rneg_iff (r : Rat) : rneg r = true ↔ r < 0 := by
  unfold rneg
  rw [decide_eq_true_iff, Rat.lt_iff]
  simp
theorem sgn_zero {r : Rat} : sgn r = 0 ↔ r = 0 := by
  unfold sgn
  split
  · simp_all
  · split <;> simp_all
end Nt
end
