/- Helpers for the statements: facts about numbers as lists of limbs, and the proofs of the conditions. Condition: none. -/
import Derived.Test.YtcnaceleinmbcaaA1
section
/- NtA: numbers as lists of limbs of 32 bits: their value, and the list of a value. -/
namespace Nt


/-- The value of limbs. -/
def val : List Int → Nat
  | [] => 0
  | x :: r => x.toNat + 4294967296 * val r
/-- Limbs that are limbs. -/
def Lim (a : List Int) : Prop := ∀ i, 0 ≤ a.getD i 0 ∧ a.getD i 0 < 4294967296

/-- The limbs of a value, without zeros at the end. -/
def limbs (n : Nat) : List Int := if h : n = 0 then [] else ((n % 4294967296 : Nat) : Int) :: limbs (n / 4294967296)
  termination_by n
  decreasing_by exact Nat.div_lt_self (Nat.pos_of_ne_zero h) (by decide)

/-- The value of the first i limbs. -/
def vt (a : List Int) (i : Nat) : Nat := val (a.take i)

theorem Lim.mem {a : List Int} (h : Lim a) {x : Int} (hx : x ∈ a) : 0 ≤ x ∧ x < 4294967296 := by
  obtain ⟨i, hi, rfl⟩ := List.mem_iff_getElem.1 hx
  have := h i
  simpa [List.getD_eq_getElem?_getD, hi] using this
theorem Lim.of {a : List Int} (h : ∀ x ∈ a, 0 ≤ x ∧ x < 4294967296) : Lim a := fun i => by
  by_cases hi : i < a.length
  · have := h _ (List.getElem_mem hi)
    simpa [List.getD_eq_getElem?_getD, hi] using this
  · simp [List.getD_eq_getElem?_getD, hi]
theorem Lim.nil : Lim [] := .of (by simp)
theorem Lim.cons {x : Int} {r : List Int} (h : Lim (x :: r)) : (0 ≤ x ∧ x < 4294967296) ∧ Lim r := ⟨h.mem (by simp), .of fun y hy => h.mem (by simp [hy])⟩
theorem Lim.mk {x : Int} {r : List Int} (hx : 0 ≤ x ∧ x < 4294967296) (h : Lim r) : Lim (x :: r) := .of fun y hy => by
  rcases List.mem_cons.1 hy with rfl | hy
  · exact hx
  · exact h.mem hy
theorem Lim.take {a : List Int} (h : Lim a) (n : Nat) : Lim (a.take n) := .of fun _ hx => h.mem (List.mem_of_mem_take hx)
theorem Lim.drop {a : List Int} (h : Lim a) (n : Nat) : Lim (a.drop n) := .of fun _ hx => h.mem (List.mem_of_mem_drop hx)
theorem Lim.append {a b : List Int} (h : Lim a) (k : Lim b) : Lim (a ++ b) := .of fun x hx => by
  rcases List.mem_append.1 hx with hx | hx
  · exact h.mem hx
  · exact k.mem hx
theorem Lim.set {a : List Int} (h : Lim a) (i : Nat) {x : Int} (hx : 0 ≤ x ∧ x < 4294967296) : Lim (a.set i x) := .of fun y hy => by
  rcases List.mem_or_eq_of_mem_set hy with hy | rfl
  · exact h.mem hy
  · exact hx
theorem Lim.zeros (n : Nat) : Lim (List.replicate n 0) := .of fun x hx => by rw [List.eq_of_mem_replicate hx]; decide

theorem val_append (a b : List Int) : val (a ++ b) = val a + 4294967296 ^ a.length * val b := by
  induction a with
  | nil => simp [val]
  | cons x r ih =>
    simp only [List.cons_append, val, ih, List.length_cons, Nat.pow_succ, Nat.mul_add]
    rw [Nat.mul_comm (4294967296 ^ r.length) 4294967296, Nat.mul_assoc]; omega
theorem val_zeros (n : Nat) : val (List.replicate n 0) = 0 := by
  induction n with
  | zero => rfl
  | succ n ih => simp [List.replicate_succ, val, ih]
theorem val_lt {a : List Int} (h : Lim a) : val a < 4294967296 ^ a.length := by
  induction a with
  | nil => simp [val]
  | cons x r ih =>
    obtain ⟨⟨h1, h2⟩, hr⟩ := h.cons
    have := ih hr
    simp only [val, List.length_cons, Nat.pow_succ]
    have hx : x.toNat < 4294967296 := by omega
    omega

theorem vt_zero (a : List Int) : vt a 0 = 0 := by simp [vt, val]
theorem vt_succ (a : List Int) (i : Nat) : vt a (i + 1) = vt a i + 4294967296 ^ i * (a.getD i 0).toNat := by
  unfold vt
  by_cases h : i < a.length
  · rw [List.take_succ_eq_append_getElem h, val_append]
    simp only [val, List.length_take, Nat.min_eq_left (Nat.le_of_lt h), Nat.mul_zero, Nat.add_zero]
    simp [List.getD_eq_getElem?_getD, h]
  · rw [List.take_of_length_le (by omega), List.take_of_length_le (by omega)]
    simp [List.getD_eq_getElem?_getD, h]
theorem vt_all (a : List Int) {i : Nat} (h : a.length ≤ i) : vt a i = val a := by unfold vt; rw [List.take_of_length_le h]
theorem vt_set (a : List Int) (i j : Nat) (v : Int) (h : i ≤ j) : vt (a.set j v) i = vt a i := by
  unfold vt; rw [List.take_set_of_le h]
theorem vt_lt {a : List Int} (h : Lim a) (i : Nat) : vt a i < 4294967296 ^ i := by
  unfold vt
  have := val_lt (h.take i)
  refine Nat.lt_of_lt_of_le this (Nat.pow_le_pow_right (by decide) ?_)
  simp; omega
theorem vt_zeros (n i : Nat) : vt (List.replicate n 0) i = 0 := by
  unfold vt; rw [List.take_replicate, val_zeros]

theorem limbs_zero : limbs 0 = [] := by unfold limbs; simp
theorem limbs_pos {n : Nat} (h : n ≠ 0) : limbs n = ((n % 4294967296 : Nat) : Int) :: limbs (n / 4294967296) := by rw [limbs]; simp [h]
theorem val_limbs (n : Nat) : val (limbs n) = n := by
  induction n using Nat.strongRecOn with
  | _ n ih =>
    by_cases h : n = 0
    · subst h; rw [limbs_zero]; rfl
    · rw [limbs_pos h, val, ih _ (Nat.div_lt_self (Nat.pos_of_ne_zero h) (by decide))]
      omega
theorem limbs_lim (n : Nat) : Lim (limbs n) := by
  induction n using Nat.strongRecOn with
  | _ n ih =>
    by_cases h : n = 0
    · subst h; rw [limbs_zero]; exact .nil
    · rw [limbs_pos h]
      have : n % 4294967296 < 4294967296 := Nat.mod_lt _ (by decide)
      exact .mk ⟨by omega, by omega⟩ (ih _ (Nat.div_lt_self (Nat.pos_of_ne_zero h) (by decide)))
theorem limbs_inj {a b : Nat} : limbs a = limbs b ↔ a = b := ⟨fun h => by rw [← val_limbs a, ← val_limbs b, h], fun h => h ▸ rfl⟩
theorem limbs_nil {n : Nat} : limbs n = [] ↔ n = 0 := by
  rw [← limbs_zero, limbs_inj]
theorem limbs_len {n k : Nat} : (limbs n).length ≤ k ↔ n < 4294967296 ^ k := by
  induction k generalizing n with
  | zero =>
    simp only [Nat.le_zero, List.length_eq_zero_iff, limbs_nil, Nat.pow_zero]; omega
  | succ k ih =>
    by_cases h : n = 0
    · subst h; rw [limbs_zero]; simp [Nat.pow_pos]
    · rw [limbs_pos h, List.length_cons, Nat.add_le_add_iff_right, ih, Nat.pow_succ]
      exact Nat.div_lt_iff_lt_mul (by decide)
/-- No zero at the end. -/
def Norm (a : List Int) : Prop := a.getLast? ≠ some 0
theorem limbs_norm (n : Nat) : Norm (limbs n) := by
  induction n using Nat.strongRecOn with
  | _ n ih =>
    by_cases h : n = 0
    · subst h; rw [limbs_zero]; simp [Norm]
    · have hl := ih _ (Nat.div_lt_self (Nat.pos_of_ne_zero h) (by decide : 1 < 4294967296))
      rw [limbs_pos h]
      unfold Norm at hl ⊢
      rw [List.getLast?_cons]
      cases hx : (limbs (n / 4294967296)).getLast? with
      | none =>
        have : limbs (n / 4294967296) = [] := by simpa using hx
        rw [limbs_nil] at this
        have h2 := Nat.mod_add_div n 4294967296
        rw [this] at h2
        simp only [Option.getD_none, ne_eq, Option.some.injEq]
        omega
      | some y => rw [hx] at hl; simpa using hl
/-- Limbs without a zero at the end are the limbs of their value. -/
theorem limbs_val : ∀ {a : List Int}, Lim a → Norm a → limbs (val a) = a
  | [], _, _ => limbs_zero
  | x :: r, h, hn => by
    obtain ⟨⟨h1, h2⟩, hr⟩ := h.cons
    have hnr : Norm r := by
      unfold Norm at hn ⊢
      rw [List.getLast?_cons] at hn
      intro hx; rw [hx] at hn; simp at hn
    have ih := limbs_val hr hnr
    have hm : val (x :: r) % 4294967296 = x.toNat := by
      rw [val, Nat.add_mul_mod_self_left, Nat.mod_eq_of_lt (by omega)]
    have hd : val (x :: r) / 4294967296 = val r := by
      rw [val, Nat.add_mul_div_left _ _ (by decide), Nat.div_eq_of_lt (by omega), Nat.zero_add]
    have hne : val (x :: r) ≠ 0 := by
      intro h0
      rw [h0] at hm hd
      simp at hm hd
      have : r = [] := by rw [← ih, ← hd]; exact limbs_zero
      subst this
      unfold Norm at hn
      simp at hn
      omega
    rw [limbs_pos hne, hm, hd, ih, Int.toNat_of_nonneg h1]
/-- A zero at the end may go. -/
theorem val_dropLast {a : List Int} (h : a.getD (a.length - 1) 0 = 0) : val (a.take (a.length - 1)) = val a := by
  by_cases he : a.length = 0
  · have : a = [] := List.length_eq_zero_iff.1 he
    subst this; rfl
  · have := vt_succ a (a.length - 1)
    rw [h, show a.length - 1 + 1 = a.length by omega, vt_all a (Nat.le_refl _)] at this
    simpa [vt] using this.symm
theorem norm_of_last {a : List Int} (h : a = [] ∨ a.getD (a.length - 1) 0 ≠ 0) : Norm a := by
  unfold Norm
  rcases h with rfl | h
  · simp
  · rw [List.getLast?_eq_getElem?]
    intro hx
    apply h
    rw [List.getD_eq_getElem?_getD, hx]; rfl

end Nt
end

section
/- NtD: decimal texts of numbers. -/
namespace Nt

/-- The digits of a number, as bytes, the last one first; none for 0. -/
def decR (n : Nat) : List Int := if h : n = 0 then [] else ((48 + n % 10 : Nat) : Int) :: decR (n / 10)
  termination_by n
  decreasing_by exact Nat.div_lt_self (Nat.pos_of_ne_zero h) (by decide)
/-- The decimal text. -/
def dec (n : Nat) : List Int := if n = 0 then [48] else (decR n).reverse

theorem decR_zero : decR 0 = [] := by unfold decR; simp
theorem decR_pos {n : Nat} (h : n ≠ 0) : decR n = ((48 + n % 10 : Nat) : Int) :: decR (n / 10) := by rw [decR]; simp [h]
theorem decR_nil {n : Nat} : decR n = [] ↔ n = 0 := by
  by_cases h : n = 0
  · subst h; simp [decR_zero]
  · rw [decR_pos h]; simp [h]
theorem decR_len {n k : Nat} : (decR n).length ≤ k ↔ n < 10 ^ k := by
  induction k generalizing n with
  | zero =>
    simp only [Nat.le_zero, List.length_eq_zero_iff, decR_nil, Nat.pow_zero]; omega
  | succ k ih =>
    by_cases h : n = 0
    · subst h; rw [decR_zero]; simp [Nat.pow_pos]
    · rw [decR_pos h, List.length_cons, Nat.add_le_add_iff_right, ih, Nat.pow_succ]
      exact Nat.div_lt_iff_lt_mul (by decide)
theorem decR_mem {n : Nat} {x : Int} (h : x ∈ decR n) : 48 ≤ x ∧ x < 58 := by
  induction n using Nat.strongRecOn with
  | _ n ih =>
    by_cases h0 : n = 0
    · subst h0; rw [decR_zero] at h; cases h
    · rw [decR_pos h0, List.mem_cons] at h
      rcases h with rfl | h
      · omega
      · exact ih _ (Nat.div_lt_self (Nat.pos_of_ne_zero h0) (by decide)) h
theorem dec_mem {n : Nat} {x : Int} (h : x ∈ dec n) : 48 ≤ x ∧ x < 58 := by
  unfold dec at h
  split at h
  · simp at h; omega
  · exact decR_mem (List.mem_reverse.1 h)
/-- So many digits at most. -/
theorem dec_few {a : List Int} (h : Lim a) : (decR (val a)).length ≤ 10 * a.length := by
  rw [decR_len]
  refine Nat.lt_of_lt_of_le (val_lt h) ?_
  rw [Nat.pow_mul]
  exact Nat.pow_le_pow_left (by decide) _

/-- The number that digits spell, behind a number. -/
def pv (acc : Nat) : List Int → Nat
  | [] => acc
  | x :: r => pv (acc * 10 + (x - 48).toNat) r
/-- Is it digits alone, at least one? -/
def isDec (s : List Int) : Bool := decide (s ≠ []) && s.all fun x => decide (48 ≤ x ∧ x ≤ 57)
/-- The error of a text that is read as a number. -/
def parseE (s : List Int) : Int := if isDec s = true then (if 60 < s.length then 9 else 0) else 4
/-- The limbs of the number. -/
def parseV (s : List Int) : List Int := if isDec s = true ∧ s.length ≤ 60 then limbs (pv 0 s) else []
theorem pv_append (acc : Nat) (a b : List Int) : pv acc (a ++ b) = pv (pv acc a) b := by
  induction a generalizing acc with
  | nil => rfl
  | cons x r ih => exact ih _
theorem pv_rev (n : Nat) : pv 0 (decR n).reverse = n := by
  induction n using Nat.strongRecOn with
  | _ n ih =>
    by_cases h : n = 0
    · subst h; rw [decR_zero]; rfl
    · rw [decR_pos h, List.reverse_cons, pv_append, ih _ (Nat.div_lt_self (Nat.pos_of_ne_zero h) (by decide))]
      show n / 10 * 10 + (((48 + n % 10 : Nat) : Int) - 48).toNat = n
      omega
theorem pv_dec (n : Nat) : pv 0 (dec n) = n := by
  unfold dec
  split
  · rename_i h; rw [h]; rfl
  · exact pv_rev n
theorem pv_zero (l : List Int) : pv 0 (48 :: l) = pv 0 l := rfl
theorem dec_ne (n : Nat) : dec n ≠ [] := by
  unfold dec
  split
  · simp
  · rename_i h
    intro e
    rw [List.reverse_eq_nil_iff, decR_nil] at e
    exact h e
theorem decR_last {n : Nat} (h : n ≠ 0) : ∃ l x, decR n = l ++ [x] ∧ x ≠ 48 := by
  induction n using Nat.strongRecOn with
  | _ n ih =>
    rw [decR_pos h]
    by_cases h2 : n / 10 = 0
    · rw [h2, decR_zero]
      refine ⟨[], _, rfl, ?_⟩
      omega
    · obtain ⟨l, x, e1, e2⟩ := ih _ (Nat.div_lt_self (Nat.pos_of_ne_zero h) (by decide)) h2
      exact ⟨_ :: l, x, by rw [e1]; rfl, e2⟩
/-- No zero in front, but of 0 itself. -/
theorem dec_head (n : Nat) (h : (dec n).getD 0 0 = 48) : dec n = [48] := by
  unfold dec at h ⊢
  split
  · rfl
  · rename_i h0
    rw [if_neg h0] at h
    obtain ⟨l, x, e1, e2⟩ := decR_last h0
    rw [e1, List.reverse_append] at h
    simp at h
    exact absurd h e2
theorem isDec_dec (n : Nat) : isDec (dec n) = true := by
  unfold isDec
  rw [Bool.and_eq_true, decide_eq_true_eq, List.all_eq_true]
  refine ⟨dec_ne n, fun x hx => ?_⟩
  have := dec_mem hx
  simp only [decide_eq_true_eq]
  omega
theorem isDec_zero {l : List Int} (h : isDec l = true) : isDec (48 :: l) = true := by
  unfold isDec at h ⊢
  rw [Bool.and_eq_true] at h ⊢
  refine ⟨by simp, ?_⟩
  rw [List.all_cons, h.2]; rfl
end Nt
end

section
/- NtB: contracts of the functions over natural numbers. -/

namespace Go.Vc
def spec (S : List TV → Option (Prop × TV)) : List TV → (TV → Prop) → Prop := fun args K => match S args with | some (p, r) => p ∧ K r | none => False
theorem spec_ok (S : List TV → Option (Prop × TV)) : TOk (spec S) := by
  refine ⟨fun args K K' hk h => ?_, fun args K h => ?_⟩
  · unfold spec at h ⊢
    split
    · rename_i he; rw [he] at h; exact ⟨h.1, hk _ h.2⟩
    · rename_i he; rw [he] at h; exact h
  · unfold spec at h
    split at h
    · exact ⟨_, h.2⟩
    · exact h.elim
/-- The same for a function whose first argument is lent. -/
def lspec (S : TV → OB → List TV → Option (Prop × OB × TV)) : TV → OB → List TV → (OB → TV → Prop) → Prop := fun a o args K => match S a o args with | some (p, o', r) => p ∧ K o' r | none => False
theorem lspec_ok (S : TV → OB → List TV → Option (Prop × OB × TV)) : LOk (lspec S) := by
  refine ⟨fun a o args K K' hk h => ?_, fun a o args K h => ?_⟩
  · unfold lspec at h ⊢
    split
    · rename_i he; rw [he] at h; exact ⟨h.1, hk _ _ h.2⟩
    · rename_i he; rw [he] at h; exact h
  · unfold lspec at h
    split at h
    · exact ⟨_, _, h.2⟩
    · exact h.elim
end Go.Vc

namespace Nt
open Go Go.Vc
/-- A limb. -/
def L (x : Int) : Prop := 0 ≤ x ∧ x < 4294967296
/-- Few limbs. -/
def Few (a : List Int) : Prop := Lim a ∧ a.length ≤ 100000000
/-- A list of limbs as a value. -/
abbrev vl (a : List Int) : TV := .d (.ints .u32 a)
abbrev vu (x : Int) : TV := .d (.int .u32 x)
abbrev vi (x : Int) : TV := .d (.int .i64 x)

def cMul32.T := spec fun | [.d (.int .u32 x), .d (.int .u32 y)] => some (L x ∧ L y, .tup [.d (.int .u32 (x * y / 4294967296)), .d (.int .u32 (x * y % 4294967296))]) | _ => none
def cAdd32.T := spec fun | [.d (.int .u32 x), .d (.int .u32 y), .d (.int .u32 c)] => some (L x ∧ L y ∧ 0 ≤ c ∧ c ≤ 1, .tup [.d (.int .u32 ((x + y + c) % 4294967296)), .d (.int .u32 ((x + y + c) / 4294967296))]) | _ => none
def cSub32.T := spec fun | [.d (.int .u32 x), .d (.int .u32 y), .d (.int .u32 c)] => some (L x ∧ L y ∧ 0 ≤ c ∧ c ≤ 1, .tup [.d (.int .u32 ((x - y - c) % 4294967296)), .d (.int .u32 (if x - y - c < 0 then 1 else 0))]) | _ => none
def cDiv32.T := spec fun | [.d (.int .u32 h), .d (.int .u32 l), .d (.int .u32 y)] => some (L h ∧ L l ∧ L y ∧ h < y, .tup [.d (.int .u32 ((h * 4294967296 + l) / y)), .d (.int .u32 ((h * 4294967296 + l) % y))]) | _ => none
def ctrim.T := spec fun | [.d (.ints .u32 a)] => some (Lim a ∧ a.length ≤ 1000000000, .d (.ints .u32 (limbs (val a)))) | _ => none
def cClone.T := spec fun | [.d (.ints .u32 a)] => some (a.length ≤ 100000000, .d (.ints .u32 a)) | _ => none
def cTrim.T := spec fun | [.d (.ints .u32 a)] => some (Few a, .d (.ints .u32 (limbs (val a)))) | _ => none
def cfromUint.T := spec fun | [.d (.int .u64 u)] => some (0 ≤ u ∧ u < 18446744073709551616, .d (.ints .u32 (limbs u.toNat))) | _ => none
def ctoUint.T := spec fun | [.d (.ints .u32 a)] => some (Lim a ∧ a.length ≤ 2, .d (.int .u64 (val a))) | _ => none
def cmp (a b : Nat) : Int := if a < b then -1 else if a = b then 0 else 1
def cCmp.T := spec fun | [.d (.ints .u32 a), .d (.ints .u32 b)] => some (Few a ∧ Few b, .d (.int .i64 (cmp (val a) (val b)))) | _ => none
def cAdd.T := spec fun | [.d (.ints .u32 a), .d (.ints .u32 b)] => some (Few a ∧ Few b, .d (.ints .u32 (limbs (val a + val b)))) | _ => none
def cMul.T := spec fun | [.d (.ints .u32 a), .d (.ints .u32 b)] => some (Few a ∧ Few b, .d (.ints .u32 (limbs (val a * val b)))) | _ => none
def cSub.T := spec fun | [.d (.ints .u32 a), .d (.ints .u32 b)] => some (Few a ∧ Few b, .tup [.d (.ints .u32 (if val a < val b then [] else limbs (val a - val b))), .d (.int .i64 (if val a < val b then 1 else 0))]) | _ => none
def cshort.T := spec fun | [.d (.ints .u32 a), .d (.int .u32 d)] => some (Few a ∧ L d ∧ 0 < d, .tup [.d (.ints .u32 (limbs (val a / d.toNat))), .d (.int .u32 (val a % d.toNat : Nat))]) | _ => none
def cDivMod.T := spec fun | [.d (.ints .u32 a), .d (.ints .u32 b)] => some (Few a ∧ Few b, .tup [.d (.ints .u32 (if val b = 0 then [] else limbs (val a / val b))), .d (.ints .u32 (if val b = 0 then [] else limbs (val a % val b))), .d (.int .i64 (if val b = 0 then 3 else 0))]) | _ => none
def cPow.T := spec fun | [.d (.ints .u32 a), .d (.int .i64 n)] => some (Lim a ∧ a.length ≤ 1000000, .tup [.d (.ints .u32 (if 0 ≤ n ∧ n ≤ 64 then limbs (val a ^ n.toNat) else [])), .d (.int .i64 (if 0 ≤ n ∧ n ≤ 64 then 0 else 1))]) | _ => none
def cSame.T := spec fun | [.d (.ints .u32 a), .d (.ints .u32 b)] => some (a.length ≤ 1000000000 ∧ b.length ≤ 1000000000, .d (.bool (decide (a = b)))) | _ => none
/-- A quotient by at most one limb. -/
def cDivMod1.T := spec fun | [.d (.ints .u32 a), .d (.ints .u32 b)] => some (Few a ∧ Few b ∧ val b < 4294967296, .tup [.d (.ints .u32 (if val b = 0 then [] else limbs (val a / val b))), .d (.ints .u32 (if val b = 0 then [] else limbs (val a % val b))), .d (.int .i64 (if val b = 0 then 3 else 0))]) | _ => none
def cReverse.T := lspec fun | .vec n, .ints .u8 l, [] => (match Nat.beq n 0 with | true => some (l.length ≤ 1000000000000, .ints .u8 l.reverse, .tup []) | false => none) | _, _, _ => none
def cFormat.T := spec fun | [.d (.ints .u32 a)] => some (Few a, .d (.str (dec (val a)))) | _ => none
def cawake.T := spec fun | [] => some (True, .d (.bool true)) | _ => none
def cNaturalPowers.T := spec fun | [.d (.ints .u32 a), .d (.int .u8 m), .d (.int .u8 n)] => some (Lim a ∧ 0 ≤ m ∧ 0 ≤ n, .d (.bool true)) | _ => none
def cFromInt.T := spec fun | [.d (.int .i64 n)] => some (-9223372036854775808 ≤ n ∧ n < 9223372036854775808, .tup [.d (.ints .u32 (if n < 0 then [] else limbs n.toNat)), .d (.int .i64 (if n < 0 then 1 else 0))]) | _ => none
def cInt.T := spec fun | [.d (.ints .u32 a)] => some (Few a, .tup [.d (.int .i64 (if val a < 9223372036854775808 then val a else 0)), .d (.int .i64 (if val a < 9223372036854775808 then 0 else 1))]) | _ => none
def cParse.T := spec fun | [.d (.str s)] => some (s.length ≤ 1000000000000, .tup [.d (.ints .u32 (parseV s)), .d (.int .i64 (parseE s))]) | _ => none
def clawshort.T := spec fun | [.d (.ints .u32 a)] => some (True, .d (.bool (decide (a.length ≤ 24)))) | _ => none
def cNaturalRing.T := spec fun | [.d (.ints .u32 a), .d (.ints .u32 b), .d (.ints .u32 c)] => some (Lim a ∧ Lim b ∧ Lim c, .d (.bool true)) | _ => none
def cNaturalInts.T := spec fun | [.d (.int .i64 m), .d (.int .i64 n)] => some (-9223372036854775808 ≤ m ∧ m < 9223372036854775808 ∧ -9223372036854775808 ≤ n ∧ n < 9223372036854775808, .d (.bool true)) | _ => none
def cNaturalDigits.T := spec fun | [.d (.ints .u32 a), .d (.int .u8 z)] => some (Lim a ∧ 0 ≤ z ∧ z < 256, .d (.bool true)) | _ => none
end Nt
end

section
/- The shapes of arguments, printed. -/
open Go Go.Vc
theorem Nt.cMul32_el {M : List TV → (TV → Prop) → Prop} (H : ∀ x y K, Nt.cMul32.T [.d (.int .u32 x), .d (.int .u32 y)] K → M [.d (.int .u32 x), .d (.int .u32 y)] K) (args : List TV) (K : TV → Prop) (hyp : Nt.cMul32.T args K) : M args K := by
  have e : ∃ x y, args = [.d (.int .u32 x), .d (.int .u32 y)] := by
    unfold Nt.cMul32.T spec at hyp
    split at hyp
    · rename_i he
      simp only at he
      split at he
      · exact ⟨_, _, rfl⟩
      · cases he
    · exact hyp.elim
  obtain ⟨x, y, eqn⟩ := e
  subst eqn
  exact H x y K hyp
theorem Nt.cAdd32_el {M : List TV → (TV → Prop) → Prop} (H : ∀ x y c K, Nt.cAdd32.T [.d (.int .u32 x), .d (.int .u32 y), .d (.int .u32 c)] K → M [.d (.int .u32 x), .d (.int .u32 y), .d (.int .u32 c)] K) (args : List TV) (K : TV → Prop) (hyp : Nt.cAdd32.T args K) : M args K := by
  have e : ∃ x y c, args = [.d (.int .u32 x), .d (.int .u32 y), .d (.int .u32 c)] := by
    unfold Nt.cAdd32.T spec at hyp
    split at hyp
    · rename_i he
      simp only at he
      split at he
      · exact ⟨_, _, _, rfl⟩
      · cases he
    · exact hyp.elim
  obtain ⟨x, y, c, eqn⟩ := e
  subst eqn
  exact H x y c K hyp
theorem Nt.cSub32_el {M : List TV → (TV → Prop) → Prop} (H : ∀ x y c K, Nt.cSub32.T [.d (.int .u32 x), .d (.int .u32 y), .d (.int .u32 c)] K → M [.d (.int .u32 x), .d (.int .u32 y), .d (.int .u32 c)] K) (args : List TV) (K : TV → Prop) (hyp : Nt.cSub32.T args K) : M args K := by
  have e : ∃ x y c, args = [.d (.int .u32 x), .d (.int .u32 y), .d (.int .u32 c)] := by
    unfold Nt.cSub32.T spec at hyp
    split at hyp
    · rename_i he
      simp only at he
      split at he
      · exact ⟨_, _, _, rfl⟩
      · cases he
    · exact hyp.elim
  obtain ⟨x, y, c, eqn⟩ := e
  subst eqn
  exact H x y c K hyp
theorem Nt.cDiv32_el {M : List TV → (TV → Prop) → Prop} (H : ∀ h l y K, Nt.cDiv32.T [.d (.int .u32 h), .d (.int .u32 l), .d (.int .u32 y)] K → M [.d (.int .u32 h), .d (.int .u32 l), .d (.int .u32 y)] K) (args : List TV) (K : TV → Prop) (hyp : Nt.cDiv32.T args K) : M args K := by
  have e : ∃ h l y, args = [.d (.int .u32 h), .d (.int .u32 l), .d (.int .u32 y)] := by
    unfold Nt.cDiv32.T spec at hyp
    split at hyp
    · rename_i he
      simp only at he
      split at he
      · exact ⟨_, _, _, rfl⟩
      · cases he
    · exact hyp.elim
  obtain ⟨h, l, y, eqn⟩ := e
  subst eqn
  exact H h l y K hyp
theorem Nt.ctrim_el {M : List TV → (TV → Prop) → Prop} (H : ∀ a K, Nt.ctrim.T [.d (.ints .u32 a)] K → M [.d (.ints .u32 a)] K) (args : List TV) (K : TV → Prop) (hyp : Nt.ctrim.T args K) : M args K := by
  have e : ∃ a, args = [.d (.ints .u32 a)] := by
    unfold Nt.ctrim.T spec at hyp
    split at hyp
    · rename_i he
      simp only at he
      split at he
      · exact ⟨_, rfl⟩
      · cases he
    · exact hyp.elim
  obtain ⟨a, eqn⟩ := e
  subst eqn
  exact H a K hyp
theorem Nt.cClone_el {M : List TV → (TV → Prop) → Prop} (H : ∀ a K, Nt.cClone.T [.d (.ints .u32 a)] K → M [.d (.ints .u32 a)] K) (args : List TV) (K : TV → Prop) (hyp : Nt.cClone.T args K) : M args K := by
  have e : ∃ a, args = [.d (.ints .u32 a)] := by
    unfold Nt.cClone.T spec at hyp
    split at hyp
    · rename_i he
      simp only at he
      split at he
      · exact ⟨_, rfl⟩
      · cases he
    · exact hyp.elim
  obtain ⟨a, eqn⟩ := e
  subst eqn
  exact H a K hyp
theorem Nt.cTrim_el {M : List TV → (TV → Prop) → Prop} (H : ∀ a K, Nt.cTrim.T [.d (.ints .u32 a)] K → M [.d (.ints .u32 a)] K) (args : List TV) (K : TV → Prop) (hyp : Nt.cTrim.T args K) : M args K := by
  have e : ∃ a, args = [.d (.ints .u32 a)] := by
    unfold Nt.cTrim.T spec at hyp
    split at hyp
    · rename_i he
      simp only at he
      split at he
      · exact ⟨_, rfl⟩
      · cases he
    · exact hyp.elim
  obtain ⟨a, eqn⟩ := e
  subst eqn
  exact H a K hyp
theorem Nt.cfromUint_el {M : List TV → (TV → Prop) → Prop} (H : ∀ u K, Nt.cfromUint.T [.d (.int .u64 u)] K → M [.d (.int .u64 u)] K) (args : List TV) (K : TV → Prop) (hyp : Nt.cfromUint.T args K) : M args K := by
  have e : ∃ u, args = [.d (.int .u64 u)] := by
    unfold Nt.cfromUint.T spec at hyp
    split at hyp
    · rename_i he
      simp only at he
      split at he
      · exact ⟨_, rfl⟩
      · cases he
    · exact hyp.elim
  obtain ⟨u, eqn⟩ := e
  subst eqn
  exact H u K hyp
theorem Nt.ctoUint_el {M : List TV → (TV → Prop) → Prop} (H : ∀ a K, Nt.ctoUint.T [.d (.ints .u32 a)] K → M [.d (.ints .u32 a)] K) (args : List TV) (K : TV → Prop) (hyp : Nt.ctoUint.T args K) : M args K := by
  have e : ∃ a, args = [.d (.ints .u32 a)] := by
    unfold Nt.ctoUint.T spec at hyp
    split at hyp
    · rename_i he
      simp only at he
      split at he
      · exact ⟨_, rfl⟩
      · cases he
    · exact hyp.elim
  obtain ⟨a, eqn⟩ := e
  subst eqn
  exact H a K hyp
theorem Nt.cCmp_el {M : List TV → (TV → Prop) → Prop} (H : ∀ a b K, Nt.cCmp.T [.d (.ints .u32 a), .d (.ints .u32 b)] K → M [.d (.ints .u32 a), .d (.ints .u32 b)] K) (args : List TV) (K : TV → Prop) (hyp : Nt.cCmp.T args K) : M args K := by
  have e : ∃ a b, args = [.d (.ints .u32 a), .d (.ints .u32 b)] := by
    unfold Nt.cCmp.T spec at hyp
    split at hyp
    · rename_i he
      simp only at he
      split at he
      · exact ⟨_, _, rfl⟩
      · cases he
    · exact hyp.elim
  obtain ⟨a, b, eqn⟩ := e
  subst eqn
  exact H a b K hyp
theorem Nt.cAdd_el {M : List TV → (TV → Prop) → Prop} (H : ∀ a b K, Nt.cAdd.T [.d (.ints .u32 a), .d (.ints .u32 b)] K → M [.d (.ints .u32 a), .d (.ints .u32 b)] K) (args : List TV) (K : TV → Prop) (hyp : Nt.cAdd.T args K) : M args K := by
  have e : ∃ a b, args = [.d (.ints .u32 a), .d (.ints .u32 b)] := by
    unfold Nt.cAdd.T spec at hyp
    split at hyp
    · rename_i he
      simp only at he
      split at he
      · exact ⟨_, _, rfl⟩
      · cases he
    · exact hyp.elim
  obtain ⟨a, b, eqn⟩ := e
  subst eqn
  exact H a b K hyp
theorem Nt.cMul_el {M : List TV → (TV → Prop) → Prop} (H : ∀ a b K, Nt.cMul.T [.d (.ints .u32 a), .d (.ints .u32 b)] K → M [.d (.ints .u32 a), .d (.ints .u32 b)] K) (args : List TV) (K : TV → Prop) (hyp : Nt.cMul.T args K) : M args K := by
  have e : ∃ a b, args = [.d (.ints .u32 a), .d (.ints .u32 b)] := by
    unfold Nt.cMul.T spec at hyp
    split at hyp
    · rename_i he
      simp only at he
      split at he
      · exact ⟨_, _, rfl⟩
      · cases he
    · exact hyp.elim
  obtain ⟨a, b, eqn⟩ := e
  subst eqn
  exact H a b K hyp
theorem Nt.cSub_el {M : List TV → (TV → Prop) → Prop} (H : ∀ a b K, Nt.cSub.T [.d (.ints .u32 a), .d (.ints .u32 b)] K → M [.d (.ints .u32 a), .d (.ints .u32 b)] K) (args : List TV) (K : TV → Prop) (hyp : Nt.cSub.T args K) : M args K := by
  have e : ∃ a b, args = [.d (.ints .u32 a), .d (.ints .u32 b)] := by
    unfold Nt.cSub.T spec at hyp
    split at hyp
    · rename_i he
      simp only at he
      split at he
      · exact ⟨_, _, rfl⟩
      · cases he
    · exact hyp.elim
  obtain ⟨a, b, eqn⟩ := e
  subst eqn
  exact H a b K hyp
theorem Nt.cshort_el {M : List TV → (TV → Prop) → Prop} (H : ∀ a d K, Nt.cshort.T [.d (.ints .u32 a), .d (.int .u32 d)] K → M [.d (.ints .u32 a), .d (.int .u32 d)] K) (args : List TV) (K : TV → Prop) (hyp : Nt.cshort.T args K) : M args K := by
  have e : ∃ a d, args = [.d (.ints .u32 a), .d (.int .u32 d)] := by
    unfold Nt.cshort.T spec at hyp
    split at hyp
    · rename_i he
      simp only at he
      split at he
      · exact ⟨_, _, rfl⟩
      · cases he
    · exact hyp.elim
  obtain ⟨a, d, eqn⟩ := e
  subst eqn
  exact H a d K hyp
theorem Nt.cDivMod1_el {M : List TV → (TV → Prop) → Prop} (H : ∀ a b K, Nt.cDivMod1.T [.d (.ints .u32 a), .d (.ints .u32 b)] K → M [.d (.ints .u32 a), .d (.ints .u32 b)] K) (args : List TV) (K : TV → Prop) (hyp : Nt.cDivMod1.T args K) : M args K := by
  have e : ∃ a b, args = [.d (.ints .u32 a), .d (.ints .u32 b)] := by
    unfold Nt.cDivMod1.T spec at hyp
    split at hyp
    · rename_i he
      simp only at he
      split at he
      · exact ⟨_, _, rfl⟩
      · cases he
    · exact hyp.elim
  obtain ⟨a, b, eqn⟩ := e
  subst eqn
  exact H a b K hyp
theorem Nt.cPow_el {M : List TV → (TV → Prop) → Prop} (H : ∀ a n K, Nt.cPow.T [.d (.ints .u32 a), .d (.int .i64 n)] K → M [.d (.ints .u32 a), .d (.int .i64 n)] K) (args : List TV) (K : TV → Prop) (hyp : Nt.cPow.T args K) : M args K := by
  have e : ∃ a n, args = [.d (.ints .u32 a), .d (.int .i64 n)] := by
    unfold Nt.cPow.T spec at hyp
    split at hyp
    · rename_i he
      simp only at he
      split at he
      · exact ⟨_, _, rfl⟩
      · cases he
    · exact hyp.elim
  obtain ⟨a, n, eqn⟩ := e
  subst eqn
  exact H a n K hyp
theorem Nt.cReverse_el {M : TV → OB → List TV → (OB → TV → Prop) → Prop} (H : ∀ l K, Nt.cReverse.T (.vec 0) (.ints .u8 l) [] K → M (.vec 0) (.ints .u8 l) [] K) (a0 : TV) (b0 : OB) (args : List TV) (K : OB → TV → Prop) (hyp : Nt.cReverse.T a0 b0 args K) : M a0 b0 args K := by
  have e : ∃ l, a0 = .vec 0 ∧ b0 = .ints .u8 l ∧ args = [] := by
    unfold Nt.cReverse.T lspec at hyp
    split at hyp
    · rename_i he
      simp only at he
      split at he
      · split at he
        · rename_i hb
          obtain rfl := Nat.eq_of_beq_eq_true hb
          exact ⟨_, rfl, rfl, rfl⟩
        · cases he
      · cases he
    · exact hyp.elim
  obtain ⟨l, e0, e1, e2⟩ := e
  subst e0 e1 e2
  exact H l K hyp
theorem Nt.cFormat_el {M : List TV → (TV → Prop) → Prop} (H : ∀ a K, Nt.cFormat.T [.d (.ints .u32 a)] K → M [.d (.ints .u32 a)] K) (args : List TV) (K : TV → Prop) (hyp : Nt.cFormat.T args K) : M args K := by
  have e : ∃ a, args = [.d (.ints .u32 a)] := by
    unfold Nt.cFormat.T spec at hyp
    split at hyp
    · rename_i he
      simp only at he
      split at he
      · exact ⟨_, rfl⟩
      · cases he
    · exact hyp.elim
  obtain ⟨a, eqn⟩ := e
  subst eqn
  exact H a K hyp
theorem Nt.cawake_el {M : List TV → (TV → Prop) → Prop} (H : ∀ K, Nt.cawake.T [] K → M [] K) (args : List TV) (K : TV → Prop) (hyp : Nt.cawake.T args K) : M args K := by
  have e : args = [] := by
    unfold Nt.cawake.T spec at hyp
    split at hyp
    · rename_i he
      simp only at he
      split at he
      · exact rfl
      · cases he
    · exact hyp.elim
  have eqn := e
  subst eqn
  exact H  K hyp
theorem Nt.cNaturalPowers_el {M : List TV → (TV → Prop) → Prop} (H : ∀ a m n K, Nt.cNaturalPowers.T [.d (.ints .u32 a), .d (.int .u8 m), .d (.int .u8 n)] K → M [.d (.ints .u32 a), .d (.int .u8 m), .d (.int .u8 n)] K) (args : List TV) (K : TV → Prop) (hyp : Nt.cNaturalPowers.T args K) : M args K := by
  have e : ∃ a m n, args = [.d (.ints .u32 a), .d (.int .u8 m), .d (.int .u8 n)] := by
    unfold Nt.cNaturalPowers.T spec at hyp
    split at hyp
    · rename_i he
      simp only at he
      split at he
      · exact ⟨_, _, _, rfl⟩
      · cases he
    · exact hyp.elim
  obtain ⟨a, m, n, eqn⟩ := e
  subst eqn
  exact H a m n K hyp
theorem Nt.cFromInt_el {M : List TV → (TV → Prop) → Prop} (H : ∀ n K, Nt.cFromInt.T [.d (.int .i64 n)] K → M [.d (.int .i64 n)] K) (args : List TV) (K : TV → Prop) (hyp : Nt.cFromInt.T args K) : M args K := by
  have e : ∃ n, args = [.d (.int .i64 n)] := by
    unfold Nt.cFromInt.T spec at hyp
    split at hyp
    · rename_i he
      simp only at he
      split at he
      · exact ⟨_, rfl⟩
      · cases he
    · exact hyp.elim
  obtain ⟨n, eqn⟩ := e
  subst eqn
  exact H n K hyp
theorem Nt.cInt_el {M : List TV → (TV → Prop) → Prop} (H : ∀ a K, Nt.cInt.T [.d (.ints .u32 a)] K → M [.d (.ints .u32 a)] K) (args : List TV) (K : TV → Prop) (hyp : Nt.cInt.T args K) : M args K := by
  have e : ∃ a, args = [.d (.ints .u32 a)] := by
    unfold Nt.cInt.T spec at hyp
    split at hyp
    · rename_i he
      simp only at he
      split at he
      · exact ⟨_, rfl⟩
      · cases he
    · exact hyp.elim
  obtain ⟨a, eqn⟩ := e
  subst eqn
  exact H a K hyp
theorem Nt.cParse_el {M : List TV → (TV → Prop) → Prop} (H : ∀ s K, Nt.cParse.T [.d (.str s)] K → M [.d (.str s)] K) (args : List TV) (K : TV → Prop) (hyp : Nt.cParse.T args K) : M args K := by
  have e : ∃ s, args = [.d (.str s)] := by
    unfold Nt.cParse.T spec at hyp
    split at hyp
    · rename_i he
      simp only at he
      split at he
      · exact ⟨_, rfl⟩
      · cases he
    · exact hyp.elim
  obtain ⟨s, eqn⟩ := e
  subst eqn
  exact H s K hyp
theorem Nt.clawshort_el {M : List TV → (TV → Prop) → Prop} (H : ∀ a K, Nt.clawshort.T [.d (.ints .u32 a)] K → M [.d (.ints .u32 a)] K) (args : List TV) (K : TV → Prop) (hyp : Nt.clawshort.T args K) : M args K := by
  have e : ∃ a, args = [.d (.ints .u32 a)] := by
    unfold Nt.clawshort.T spec at hyp
    split at hyp
    · rename_i he
      simp only at he
      split at he
      · exact ⟨_, rfl⟩
      · cases he
    · exact hyp.elim
  obtain ⟨a, eqn⟩ := e
  subst eqn
  exact H a K hyp
theorem Nt.cNaturalRing_el {M : List TV → (TV → Prop) → Prop} (H : ∀ a b c K, Nt.cNaturalRing.T [.d (.ints .u32 a), .d (.ints .u32 b), .d (.ints .u32 c)] K → M [.d (.ints .u32 a), .d (.ints .u32 b), .d (.ints .u32 c)] K) (args : List TV) (K : TV → Prop) (hyp : Nt.cNaturalRing.T args K) : M args K := by
  have e : ∃ a b c, args = [.d (.ints .u32 a), .d (.ints .u32 b), .d (.ints .u32 c)] := by
    unfold Nt.cNaturalRing.T spec at hyp
    split at hyp
    · rename_i he
      simp only at he
      split at he
      · exact ⟨_, _, _, rfl⟩
      · cases he
    · exact hyp.elim
  obtain ⟨a, b, c, eqn⟩ := e
  subst eqn
  exact H a b c K hyp
theorem Nt.cNaturalInts_el {M : List TV → (TV → Prop) → Prop} (H : ∀ m n K, Nt.cNaturalInts.T [.d (.int .i64 m), .d (.int .i64 n)] K → M [.d (.int .i64 m), .d (.int .i64 n)] K) (args : List TV) (K : TV → Prop) (hyp : Nt.cNaturalInts.T args K) : M args K := by
  have e : ∃ m n, args = [.d (.int .i64 m), .d (.int .i64 n)] := by
    unfold Nt.cNaturalInts.T spec at hyp
    split at hyp
    · rename_i he
      simp only at he
      split at he
      · exact ⟨_, _, rfl⟩
      · cases he
    · exact hyp.elim
  obtain ⟨m, n, eqn⟩ := e
  subst eqn
  exact H m n K hyp
theorem Nt.cNaturalDigits_el {M : List TV → (TV → Prop) → Prop} (H : ∀ a z K, Nt.cNaturalDigits.T [.d (.ints .u32 a), .d (.int .u8 z)] K → M [.d (.ints .u32 a), .d (.int .u8 z)] K) (args : List TV) (K : TV → Prop) (hyp : Nt.cNaturalDigits.T args K) : M args K := by
  have e : ∃ a z, args = [.d (.ints .u32 a), .d (.int .u8 z)] := by
    unfold Nt.cNaturalDigits.T spec at hyp
    split at hyp
    · rename_i he
      simp only at he
      split at he
      · exact ⟨_, _, rfl⟩
      · cases he
    · exact hyp.elim
  obtain ⟨a, z, eqn⟩ := e
  subst eqn
  exact H a z K hyp
theorem Nt.cSame_el {M : List TV → (TV → Prop) → Prop} (H : ∀ a b K, Nt.cSame.T [.d (.ints .u32 a), .d (.ints .u32 b)] K → M [.d (.ints .u32 a), .d (.ints .u32 b)] K) (args : List TV) (K : TV → Prop) (hyp : Nt.cSame.T args K) : M args K := by
  have e : ∃ a b, args = [.d (.ints .u32 a), .d (.ints .u32 b)] := by
    unfold Nt.cSame.T spec at hyp
    split at hyp
    · rename_i he
      simp only at he
      split at he
      · exact ⟨_, _, rfl⟩
      · cases he
    · exact hyp.elim
  obtain ⟨a, b, eqn⟩ := e
  subst eqn
  exact H a b K hyp
end

section
/- Verification conditions, printed. -/
open Go Go.Vc
namespace Nt
def vc_ntrim : List Int → (TV → Prop) → Prop :=
  fun (a : List Int) (K : TV → Prop) =>
  ∃ (I : List Int → Prop),
    ∃ (m : List Int → Nat),
      I a ∧
        ∀ (v0 : List Int),
          I v0 →
            (decide ((0 : Int) < (Nat.cast : Nat → Int) (List.length v0)) = true →
                (0 : Int) ≤ IntKind.wrap IntKind.i64 ((Nat.cast : Nat → Int) (List.length v0) - (1 : Int)) ∧
                  IntKind.wrap IntKind.i64 ((Nat.cast : Nat → Int) (List.length v0) - (1 : Int)) < (Nat.cast : Nat → Int) (List.length v0) ∧
                    (decide
                            (List.getD v0 (Int.toNat (IntKind.wrap IntKind.i64 ((Nat.cast : Nat → Int) (List.length v0) - (1 : Int))))
                                (0 : Int) =
                              (0 : Int)) =
                          true →
                        (0 : Int) ≤ IntKind.wrap IntKind.i64 ((Nat.cast : Nat → Int) (List.length v0) - (1 : Int)) ∧
                          IntKind.wrap IntKind.i64 ((Nat.cast : Nat → Int) (List.length v0) - (1 : Int)) ≤ (Nat.cast : Nat → Int) (List.length v0) ∧
                            I
                                (List.take (Int.toNat (IntKind.wrap IntKind.i64 ((Nat.cast : Nat → Int) (List.length v0) - (1 : Int))))
                                  v0) ∧
                              m
                                  (List.take
                                    (Int.toNat (IntKind.wrap IntKind.i64 ((Nat.cast : Nat → Int) (List.length v0) - (1 : Int)))) v0) <
                                m v0) ∧
                      (decide
                            (List.getD v0 (Int.toNat (IntKind.wrap IntKind.i64 ((Nat.cast : Nat → Int) (List.length v0) - (1 : Int))))
                                (0 : Int) =
                              (0 : Int)) =
                          false →
                        K (TV.d (AV.ints IntKind.u32 v0)))) ∧
              (decide ((0 : Int) < (Nat.cast : Nat → Int) (List.length v0)) = false → K (TV.d (AV.ints IntKind.u32 v0)))

def vc_nbitsMul32 : Int → Int → (TV → Prop) → Prop :=
  fun (x y : Int) (K : TV → Prop) =>
  K
    (TV.tup
      [TV.d
          (AV.int IntKind.u32
            (IntKind.wrap IntKind.u32
              (Int.fdiv (IntKind.wrap IntKind.u64 (IntKind.wrap IntKind.u64 x * IntKind.wrap IntKind.u64 y))
                (4294967296 : Int)))),
        TV.d
          (AV.int IntKind.u32
            (IntKind.wrap IntKind.u32
              (IntKind.wrap IntKind.u64 (IntKind.wrap IntKind.u64 x * IntKind.wrap IntKind.u64 y))))])

def vc_nbitsAdd32 : Int → Int → Int → (TV → Prop) → Prop :=
  fun (x y c : Int) (K : TV → Prop) =>
  K
    (TV.tup
      [TV.d
          (AV.int IntKind.u32
            (IntKind.wrap IntKind.u32
              (IntKind.wrap IntKind.u64
                (IntKind.wrap IntKind.u64 (IntKind.wrap IntKind.u64 x + IntKind.wrap IntKind.u64 y) +
                  IntKind.wrap IntKind.u64 c)))),
        TV.d
          (AV.int IntKind.u32
            (IntKind.wrap IntKind.u32
              (Int.fdiv
                (IntKind.wrap IntKind.u64
                  (IntKind.wrap IntKind.u64 (IntKind.wrap IntKind.u64 x + IntKind.wrap IntKind.u64 y) +
                    IntKind.wrap IntKind.u64 c))
                (4294967296 : Int))))])

def vc_nbitsSub32 : Int → Int → Int → (TV → Prop) → Prop :=
  fun (x y c : Int) (K : TV → Prop) =>
  K
    (TV.tup
      [TV.d (AV.int IntKind.u32 (IntKind.wrap IntKind.u32 (IntKind.wrap IntKind.u32 (x - y) - c))),
        TV.d
          (AV.int IntKind.u32
            (Int.fdiv
              (bitop BinOp.or IntKind.u32
                (bitop BinOp.and IntKind.u32 (bitop BinOp.xor IntKind.u32 (4294967295 : Int) x) y)
                (bitop BinOp.and IntKind.u32
                  (bitop BinOp.xor IntKind.u32 (4294967295 : Int) (bitop BinOp.xor IntKind.u32 x y))
                  (IntKind.wrap IntKind.u32 (IntKind.wrap IntKind.u32 (x - y) - c))))
              (2147483648 : Int)))])

def vc_nbitsDiv32 : Int → Int → Int → (TV → Prop) → Prop :=
  fun (h l y : Int) (K : TV → Prop) =>
  ∃ (J : Prop),
    (((!decide (y = (0 : Int))) = true → (decide (y ≤ h) = true → False) ∧ (decide (y ≤ h) = false → J)) ∧
        ((!decide (y = (0 : Int))) = false → J)) ∧
      (J →
        ¬IntKind.wrap IntKind.u64 y = (0 : Int) ∧
          ¬IntKind.wrap IntKind.u64 y = (0 : Int) ∧
            K
              (TV.tup
                [TV.d
                    (AV.int IntKind.u32
                      (IntKind.wrap IntKind.u32
                        (IntKind.wrap IntKind.u64
                          (Int.tdiv
                            (bitop BinOp.or IntKind.u64
                              (IntKind.wrap IntKind.u64 (IntKind.wrap IntKind.u64 h * (4294967296 : Int)))
                              (IntKind.wrap IntKind.u64 l))
                            (IntKind.wrap IntKind.u64 y))))),
                  TV.d
                    (AV.int IntKind.u32
                      (IntKind.wrap IntKind.u32
                        (Int.tmod
                          (bitop BinOp.or IntKind.u64
                            (IntKind.wrap IntKind.u64 (IntKind.wrap IntKind.u64 h * (4294967296 : Int)))
                            (IntKind.wrap IntKind.u64 l))
                          (IntKind.wrap IntKind.u64 y))))]))

def vc_nslClone : List Int → (TV → Prop) → Prop :=
  fun (a : List Int) (K : TV → Prop) =>
  ∀ (b : Bool),
    (b = true → a = []) →
      (b = true → K (TV.d (AV.ints IntKind.u32 []))) ∧
        (b = false →
          ((0 : Int) + (Nat.cast : Nat → Int) (List.length a)) * (4 : Int) ≤ (70368744177664 : Int) ∧
            K (TV.d (AV.ints IntKind.u32 (instHAppendOfAppend.1 [] a))))

def vc_nTrim : List Int → (TV → Prop) → Prop :=
  fun (a : List Int) (K : TV → Prop) =>
  (Nt.Lim a ∧ List.length a ≤ (1000000000 : Nat)) ∧
    List.length (Nt.limbs (Nt.val a)) ≤ (100000000 : Nat) ∧ K (TV.d (AV.ints IntKind.u32 (Nt.limbs (Nt.val a))))

def vc_nfromUint : Int → (TV → Prop) → Prop :=
  fun (u : Int) (K : TV → Prop) =>
  (Nt.Lim [IntKind.wrap IntKind.u32 u, IntKind.wrap IntKind.u32 (Int.fdiv u (4294967296 : Int))] ∧
      List.length [IntKind.wrap IntKind.u32 u, IntKind.wrap IntKind.u32 (Int.fdiv u (4294967296 : Int))] ≤
        (1000000000 : Nat)) ∧
    K
      (TV.d
        (AV.ints IntKind.u32
          (Nt.limbs (Nt.val [IntKind.wrap IntKind.u32 u, IntKind.wrap IntKind.u32 (Int.fdiv u (4294967296 : Int))]))))

def vc_ntoUint : List Int → (TV → Prop) → Prop :=
  fun (a : List Int) (K : TV → Prop) =>
  ∃ (I : Int → Int → Prop),
    ∃ (m : Int → Int → Nat),
      I (0 : Int) (0 : Int) ∧
        ∀ (v3 v8 : Int),
          I v3 v8 →
            (decide (v8 < (Nat.cast : Nat → Int) (List.length a)) = true →
                (0 : Int) ≤ v8 ∧
                  v8 < (Nat.cast : Nat → Int) (List.length a) ∧
                    (0 : Int) ≤ IntKind.wrap IntKind.i64 ((32 : Int) * v8) ∧
                      I
                          (bitop BinOp.or IntKind.u64 v3
                            (IntKind.wrap IntKind.u64
                              (IntKind.wrap IntKind.u64 (List.getD a (Int.toNat v8) (0 : Int)) *
                                (2 : Int) ^ min (Int.toNat (IntKind.wrap IntKind.i64 ((32 : Int) * v8))) (64 : Nat))))
                          (IntKind.wrap IntKind.i64 (v8 + (1 : Int))) ∧
                        m
                            (bitop BinOp.or IntKind.u64 v3
                              (IntKind.wrap IntKind.u64
                                (IntKind.wrap IntKind.u64 (List.getD a (Int.toNat v8) (0 : Int)) *
                                  (2 : Int) ^
                                    min (Int.toNat (IntKind.wrap IntKind.i64 ((32 : Int) * v8))) (64 : Nat))))
                            (IntKind.wrap IntKind.i64 (v8 + (1 : Int))) <
                          m v3 v8) ∧
              (decide (v8 < (Nat.cast : Nat → Int) (List.length a)) = false → K (TV.d (AV.int IntKind.u64 v3)))

def vc_nCmp : List Int → List Int → (TV → Prop) → Prop :=
  fun (a b : List Int) (K : TV → Prop) =>
  (Nt.Lim a ∧ List.length a ≤ (1000000000 : Nat)) ∧
    (Nt.Lim b ∧ List.length b ≤ (1000000000 : Nat)) ∧
      ((!decide ((Nat.cast : Nat → Int) (List.length (Nt.limbs (Nt.val a))) = (Nat.cast : Nat → Int) (List.length (Nt.limbs (Nt.val b))))) = true →
          (decide ((Nat.cast : Nat → Int) (List.length (Nt.limbs (Nt.val a))) < (Nat.cast : Nat → Int) (List.length (Nt.limbs (Nt.val b)))) = true →
              K (TV.d (AV.int IntKind.i64 (-1 : Int)))) ∧
            (decide ((Nat.cast : Nat → Int) (List.length (Nt.limbs (Nt.val a))) < (Nat.cast : Nat → Int) (List.length (Nt.limbs (Nt.val b)))) =
                false →
              K (TV.d (AV.int IntKind.i64 (1 : Int))))) ∧
        ((!decide ((Nat.cast : Nat → Int) (List.length (Nt.limbs (Nt.val a))) = (Nat.cast : Nat → Int) (List.length (Nt.limbs (Nt.val b))))) = false →
          ∃ (I : Int → Prop),
            ∃ (m : Int → Nat),
              I (IntKind.wrap IntKind.i64 ((Nat.cast : Nat → Int) (List.length (Nt.limbs (Nt.val a))) - (1 : Int))) ∧
                ∀ (v5 : Int),
                  I v5 →
                    (decide ((0 : Int) ≤ v5) = true →
                        (0 : Int) ≤ v5 ∧
                          v5 < (Nat.cast : Nat → Int) (List.length (Nt.limbs (Nt.val a))) ∧
                            (0 : Int) ≤ v5 ∧
                              v5 < (Nat.cast : Nat → Int) (List.length (Nt.limbs (Nt.val b))) ∧
                                (decide
                                        (List.getD (Nt.limbs (Nt.val a)) (Int.toNat v5) (0 : Int) <
                                          List.getD (Nt.limbs (Nt.val b)) (Int.toNat v5) (0 : Int)) =
                                      true →
                                    K (TV.d (AV.int IntKind.i64 (-1 : Int)))) ∧
                                  (decide
                                        (List.getD (Nt.limbs (Nt.val a)) (Int.toNat v5) (0 : Int) <
                                          List.getD (Nt.limbs (Nt.val b)) (Int.toNat v5) (0 : Int)) =
                                      false →
                                    (0 : Int) ≤ v5 ∧
                                      v5 < (Nat.cast : Nat → Int) (List.length (Nt.limbs (Nt.val a))) ∧
                                        (0 : Int) ≤ v5 ∧
                                          v5 < (Nat.cast : Nat → Int) (List.length (Nt.limbs (Nt.val b))) ∧
                                            (decide
                                                    (List.getD (Nt.limbs (Nt.val b)) (Int.toNat v5) (0 : Int) <
                                                      List.getD (Nt.limbs (Nt.val a)) (Int.toNat v5) (0 : Int)) =
                                                  true →
                                                K (TV.d (AV.int IntKind.i64 (1 : Int)))) ∧
                                              (decide
                                                    (List.getD (Nt.limbs (Nt.val b)) (Int.toNat v5) (0 : Int) <
                                                      List.getD (Nt.limbs (Nt.val a)) (Int.toNat v5) (0 : Int)) =
                                                  false →
                                                I (IntKind.wrap IntKind.i64 (v5 - (1 : Int))) ∧
                                                  m (IntKind.wrap IntKind.i64 (v5 - (1 : Int))) < m v5))) ∧
                      (decide ((0 : Int) ≤ v5) = false → K (TV.d (AV.int IntKind.i64 (0 : Int)))))

def vc_nAdd : List Int → List Int → (TV → Prop) → Prop :=
  fun (a b : List Int) (K : TV → Prop) =>
  ∃ (J : List Int → List Int → Prop),
    ((decide ((Nat.cast : Nat → Int) (List.length a) < (Nat.cast : Nat → Int) (List.length b)) = true → J b a) ∧
        (decide ((Nat.cast : Nat → Int) (List.length a) < (Nat.cast : Nat → Int) (List.length b)) = false → J a b)) ∧
      ∀ (v0 v1 : List Int),
        J v0 v1 →
          (0 : Int) ≤ IntKind.wrap IntKind.i64 ((Nat.cast : Nat → Int) (List.length v0) + (1 : Int)) ∧
            IntKind.wrap IntKind.i64 ((Nat.cast : Nat → Int) (List.length v0) + (1 : Int)) ≤
                IntKind.wrap IntKind.i64 ((Nat.cast : Nat → Int) (List.length v0) + (1 : Int)) ∧
              IntKind.wrap IntKind.i64 ((Nat.cast : Nat → Int) (List.length v0) + (1 : Int)) * (4 : Int) ≤ (281474976710656 : Int) ∧
                ∃ (I : Int → Int → List Int → Prop),
                  ∃ (m : Int → Int → List Int → Nat),
                    I (0 : Int) (0 : Int)
                        (List.replicate (Int.toNat (IntKind.wrap IntKind.i64 ((Nat.cast : Nat → Int) (List.length v0) + (1 : Int))))
                          (0 : Int)) ∧
                      ∀ (v6 v23 : Int) (o0 : List Int),
                        I v6 v23 o0 →
                          (decide (v23 < (Nat.cast : Nat → Int) (List.length v0)) = true →
                              (0 : Int) ≤ v23 ∧
                                v23 < (Nat.cast : Nat → Int) (List.length v0) ∧
                                  ∃ (J : Int → Prop),
                                    ((decide (v23 < (Nat.cast : Nat → Int) (List.length v1)) = true →
                                          (0 : Int) ≤ v23 ∧
                                            v23 < (Nat.cast : Nat → Int) (List.length v1) ∧
                                              (false, OB.ints IntKind.u32 o0) = (false, OB.ints IntKind.u32 o0) ∧
                                                J (List.getD v1 (Int.toNat v23) (0 : Int))) ∧
                                        (decide (v23 < (Nat.cast : Nat → Int) (List.length v1)) = false →
                                          (false, OB.ints IntKind.u32 o0) = (false, OB.ints IntKind.u32 o0) ∧
                                            J (0 : Int))) ∧
                                      ∀ (v9 : Int),
                                        J v9 →
                                          (Nt.L (List.getD v0 (Int.toNat v23) (0 : Int)) ∧
                                              Nt.L v9 ∧ (0 : Int) ≤ v6 ∧ v6 ≤ (1 : Int)) ∧
                                            (0 : Int) ≤ v23 ∧
                                              v23 < (Nat.cast : Nat → Int) (List.length o0) ∧
                                                I
                                                    ((List.getD v0 (Int.toNat v23) (0 : Int) + v9 + v6) /
                                                      (4294967296 : Int))
                                                    (IntKind.wrap IntKind.i64 (v23 + (1 : Int)))
                                                    (List.set o0 (Int.toNat v23)
                                                      ((List.getD v0 (Int.toNat v23) (0 : Int) + v9 + v6) %
                                                        (4294967296 : Int))) ∧
                                                  m
                                                      ((List.getD v0 (Int.toNat v23) (0 : Int) + v9 + v6) /
                                                        (4294967296 : Int))
                                                      (IntKind.wrap IntKind.i64 (v23 + (1 : Int)))
                                                      (List.set o0 (Int.toNat v23)
                                                        ((List.getD v0 (Int.toNat v23) (0 : Int) + v9 + v6) %
                                                          (4294967296 : Int))) <
                                                    m v6 v23 o0) ∧
                            (decide (v23 < (Nat.cast : Nat → Int) (List.length v0)) = false →
                              (0 : Int) ≤ (Nat.cast : Nat → Int) (List.length v0) ∧
                                (Nat.cast : Nat → Int) (List.length v0) < (Nat.cast : Nat → Int) (List.length o0) ∧
                                  (Nt.Lim (List.set o0 (Int.toNat ((Nat.cast : Nat → Int) (List.length v0))) v6) ∧
                                      List.length (List.set o0 (Int.toNat ((Nat.cast : Nat → Int) (List.length v0))) v6) ≤
                                        (1000000000 : Nat)) ∧
                                    K
                                      (TV.d
                                        (AV.ints IntKind.u32
                                          (Nt.limbs (Nt.val (List.set o0 (Int.toNat ((Nat.cast : Nat → Int) (List.length v0))) v6))))))

def vc_nMul : List Int → List Int → (TV → Prop) → Prop :=
  fun (a b : List Int) (K : TV → Prop) =>
  (Nt.Lim a ∧ List.length a ≤ (1000000000 : Nat)) ∧
    (Nt.Lim b ∧ List.length b ≤ (1000000000 : Nat)) ∧
      (0 : Int) ≤
          IntKind.wrap IntKind.i64
            ((Nat.cast : Nat → Int) (List.length (Nt.limbs (Nt.val a))) + (Nat.cast : Nat → Int) (List.length (Nt.limbs (Nt.val b)))) ∧
        IntKind.wrap IntKind.i64
              ((Nat.cast : Nat → Int) (List.length (Nt.limbs (Nt.val a))) + (Nat.cast : Nat → Int) (List.length (Nt.limbs (Nt.val b)))) ≤
            IntKind.wrap IntKind.i64
              ((Nat.cast : Nat → Int) (List.length (Nt.limbs (Nt.val a))) + (Nat.cast : Nat → Int) (List.length (Nt.limbs (Nt.val b)))) ∧
          IntKind.wrap IntKind.i64
                  ((Nat.cast : Nat → Int) (List.length (Nt.limbs (Nt.val a))) + (Nat.cast : Nat → Int) (List.length (Nt.limbs (Nt.val b)))) *
                (4 : Int) ≤
              (281474976710656 : Int) ∧
            ∃ (I : Int → List Int → Prop),
              ∃ (m : Int → List Int → Nat),
                I (0 : Int)
                    (List.replicate
                      (Int.toNat
                        (IntKind.wrap IntKind.i64
                          ((Nat.cast : Nat → Int) (List.length (Nt.limbs (Nt.val a))) + (Nat.cast : Nat → Int) (List.length (Nt.limbs (Nt.val b))))))
                      (0 : Int)) ∧
                  ∀ (v26 : Int) (o0 : List Int),
                    I v26 o0 →
                      (decide (v26 < (Nat.cast : Nat → Int) (List.length (Nt.limbs (Nt.val a)))) = true →
                          (0 : Int) ≤ v26 ∧
                            v26 < (Nat.cast : Nat → Int) (List.length (Nt.limbs (Nt.val a))) ∧
                              ∃ (I_1 : Int → Int → List Int → Prop),
                                ∃ (m_1 : Int → Int → List Int → Nat),
                                  I_1 (0 : Int) (0 : Int) o0 ∧
                                    ∀ (v8 v33 : Int) (o0_1 : List Int),
                                      I_1 v8 v33 o0_1 →
                                        (decide (v33 < (Nat.cast : Nat → Int) (List.length (Nt.limbs (Nt.val b)))) = true →
                                            (0 : Int) ≤ v33 ∧
                                              v33 < (Nat.cast : Nat → Int) (List.length (Nt.limbs (Nt.val b))) ∧
                                                (Nt.L (List.getD (Nt.limbs (Nt.val a)) (Int.toNat v26) (0 : Int)) ∧
                                                    Nt.L (List.getD (Nt.limbs (Nt.val b)) (Int.toNat v33) (0 : Int))) ∧
                                                  (0 : Int) ≤ IntKind.wrap IntKind.i64 (v26 + v33) ∧
                                                    IntKind.wrap IntKind.i64 (v26 + v33) < (Nat.cast : Nat → Int) (List.length o0_1) ∧
                                                      (Nt.L
                                                            (List.getD (Nt.limbs (Nt.val a)) (Int.toNat v26) (0 : Int) *
                                                                List.getD (Nt.limbs (Nt.val b)) (Int.toNat v33)
                                                                  (0 : Int) %
                                                              (4294967296 : Int)) ∧
                                                          Nt.L
                                                              (List.getD o0_1
                                                                (Int.toNat (IntKind.wrap IntKind.i64 (v26 + v33)))
                                                                (0 : Int)) ∧
                                                            (0 : Int) ≤ (0 : Int) ∧ (0 : Int) ≤ (1 : Int)) ∧
                                                        (Nt.L
                                                              ((List.getD (Nt.limbs (Nt.val a)) (Int.toNat v26)
                                                                          (0 : Int) *
                                                                        List.getD (Nt.limbs (Nt.val b)) (Int.toNat v33)
                                                                          (0 : Int) %
                                                                      (4294967296 : Int) +
                                                                    List.getD o0_1
                                                                      (Int.toNat (IntKind.wrap IntKind.i64 (v26 + v33)))
                                                                      (0 : Int) +
                                                                  (0 : Int)) %
                                                                (4294967296 : Int)) ∧
                                                            Nt.L v8 ∧ (0 : Int) ≤ (0 : Int) ∧ (0 : Int) ≤ (1 : Int)) ∧
                                                          (0 : Int) ≤ IntKind.wrap IntKind.i64 (v26 + v33) ∧
                                                            IntKind.wrap IntKind.i64 (v26 + v33) <
                                                                (Nat.cast : Nat → Int) (List.length o0_1) ∧
                                                              I_1
                                                                  (IntKind.wrap IntKind.u32
                                                                    (IntKind.wrap IntKind.u32
                                                                        (List.getD (Nt.limbs (Nt.val a)) (Int.toNat v26)
                                                                                (0 : Int) *
                                                                              List.getD (Nt.limbs (Nt.val b))
                                                                                (Int.toNat v33) (0 : Int) /
                                                                            (4294967296 : Int) +
                                                                          (List.getD (Nt.limbs (Nt.val a))
                                                                                      (Int.toNat v26) (0 : Int) *
                                                                                    List.getD (Nt.limbs (Nt.val b))
                                                                                      (Int.toNat v33) (0 : Int) %
                                                                                  (4294967296 : Int) +
                                                                                List.getD o0_1
                                                                                  (Int.toNat
                                                                                    (IntKind.wrap IntKind.i64
                                                                                      (v26 + v33)))
                                                                                  (0 : Int) +
                                                                              (0 : Int)) /
                                                                            (4294967296 : Int)) +
                                                                      ((List.getD (Nt.limbs (Nt.val a)) (Int.toNat v26)
                                                                                        (0 : Int) *
                                                                                      List.getD (Nt.limbs (Nt.val b))
                                                                                        (Int.toNat v33) (0 : Int) %
                                                                                    (4294967296 : Int) +
                                                                                  List.getD o0_1
                                                                                    (Int.toNat
                                                                                      (IntKind.wrap IntKind.i64
                                                                                        (v26 + v33)))
                                                                                    (0 : Int) +
                                                                                (0 : Int)) %
                                                                              (4294967296 : Int) +
                                                                            v8 +
                                                                          (0 : Int)) /
                                                                        (4294967296 : Int)))
                                                                  (IntKind.wrap IntKind.i64 (v33 + (1 : Int)))
                                                                  (List.set o0_1
                                                                    (Int.toNat (IntKind.wrap IntKind.i64 (v26 + v33)))
                                                                    (((List.getD (Nt.limbs (Nt.val a)) (Int.toNat v26)
                                                                                      (0 : Int) *
                                                                                    List.getD (Nt.limbs (Nt.val b))
                                                                                      (Int.toNat v33) (0 : Int) %
                                                                                  (4294967296 : Int) +
                                                                                List.getD o0_1
                                                                                  (Int.toNat
                                                                                    (IntKind.wrap IntKind.i64
                                                                                      (v26 + v33)))
                                                                                  (0 : Int) +
                                                                              (0 : Int)) %
                                                                            (4294967296 : Int) +
                                                                          v8 +
                                                                        (0 : Int)) %
                                                                      (4294967296 : Int))) ∧
                                                                m_1
                                                                    (IntKind.wrap IntKind.u32
                                                                      (IntKind.wrap IntKind.u32
                                                                          (List.getD (Nt.limbs (Nt.val a))
                                                                                  (Int.toNat v26) (0 : Int) *
                                                                                List.getD (Nt.limbs (Nt.val b))
                                                                                  (Int.toNat v33) (0 : Int) /
                                                                              (4294967296 : Int) +
                                                                            (List.getD (Nt.limbs (Nt.val a))
                                                                                        (Int.toNat v26) (0 : Int) *
                                                                                      List.getD (Nt.limbs (Nt.val b))
                                                                                        (Int.toNat v33) (0 : Int) %
                                                                                    (4294967296 : Int) +
                                                                                  List.getD o0_1
                                                                                    (Int.toNat
                                                                                      (IntKind.wrap IntKind.i64
                                                                                        (v26 + v33)))
                                                                                    (0 : Int) +
                                                                                (0 : Int)) /
                                                                              (4294967296 : Int)) +
                                                                        ((List.getD (Nt.limbs (Nt.val a))
                                                                                          (Int.toNat v26) (0 : Int) *
                                                                                        List.getD (Nt.limbs (Nt.val b))
                                                                                          (Int.toNat v33) (0 : Int) %
                                                                                      (4294967296 : Int) +
                                                                                    List.getD o0_1
                                                                                      (Int.toNat
                                                                                        (IntKind.wrap IntKind.i64
                                                                                          (v26 + v33)))
                                                                                      (0 : Int) +
                                                                                  (0 : Int)) %
                                                                                (4294967296 : Int) +
                                                                              v8 +
                                                                            (0 : Int)) /
                                                                          (4294967296 : Int)))
                                                                    (IntKind.wrap IntKind.i64 (v33 + (1 : Int)))
                                                                    (List.set o0_1
                                                                      (Int.toNat (IntKind.wrap IntKind.i64 (v26 + v33)))
                                                                      (((List.getD (Nt.limbs (Nt.val a)) (Int.toNat v26)
                                                                                        (0 : Int) *
                                                                                      List.getD (Nt.limbs (Nt.val b))
                                                                                        (Int.toNat v33) (0 : Int) %
                                                                                    (4294967296 : Int) +
                                                                                  List.getD o0_1
                                                                                    (Int.toNat
                                                                                      (IntKind.wrap IntKind.i64
                                                                                        (v26 + v33)))
                                                                                    (0 : Int) +
                                                                                (0 : Int)) %
                                                                              (4294967296 : Int) +
                                                                            v8 +
                                                                          (0 : Int)) %
                                                                        (4294967296 : Int))) <
                                                                  m_1 v8 v33 o0_1) ∧
                                          (decide (v33 < (Nat.cast : Nat → Int) (List.length (Nt.limbs (Nt.val b)))) = false →
                                            (0 : Int) ≤
                                                IntKind.wrap IntKind.i64
                                                  (v26 + (Nat.cast : Nat → Int) (List.length (Nt.limbs (Nt.val b)))) ∧
                                              IntKind.wrap IntKind.i64
                                                    (v26 + (Nat.cast : Nat → Int) (List.length (Nt.limbs (Nt.val b)))) <
                                                  (Nat.cast : Nat → Int) (List.length o0_1) ∧
                                                I (IntKind.wrap IntKind.i64 (v26 + (1 : Int)))
                                                    (List.set o0_1
                                                      (Int.toNat
                                                        (IntKind.wrap IntKind.i64
                                                          (v26 + (Nat.cast : Nat → Int) (List.length (Nt.limbs (Nt.val b))))))
                                                      v8) ∧
                                                  m (IntKind.wrap IntKind.i64 (v26 + (1 : Int)))
                                                      (List.set o0_1
                                                        (Int.toNat
                                                          (IntKind.wrap IntKind.i64
                                                            (v26 + (Nat.cast : Nat → Int) (List.length (Nt.limbs (Nt.val b))))))
                                                        v8) <
                                                    m v26 o0)) ∧
                        (decide (v26 < (Nat.cast : Nat → Int) (List.length (Nt.limbs (Nt.val a)))) = false →
                          (Nt.Lim o0 ∧ List.length o0 ≤ (1000000000 : Nat)) ∧
                            K (TV.d (AV.ints IntKind.u32 (Nt.limbs (Nt.val o0)))))

def vc_nSub : List Int → List Int → (TV → Prop) → Prop :=
  fun (a b : List Int) (K : TV → Prop) =>
  (Nt.Few a ∧ Nt.Few b) ∧
    (decide (Nt.cmp (Nt.val a) (Nt.val b) < (0 : Int)) = true →
        K (TV.tup [TV.d (AV.ints IntKind.u32 []), TV.d (AV.int IntKind.i64 (1 : Int))])) ∧
      (decide (Nt.cmp (Nt.val a) (Nt.val b) < (0 : Int)) = false →
        (Nt.Lim a ∧ List.length a ≤ (1000000000 : Nat)) ∧
          (Nt.Lim b ∧ List.length b ≤ (1000000000 : Nat)) ∧
            (0 : Int) ≤ (Nat.cast : Nat → Int) (List.length (Nt.limbs (Nt.val a))) ∧
              (Nat.cast : Nat → Int) (List.length (Nt.limbs (Nt.val a))) ≤ (Nat.cast : Nat → Int) (List.length (Nt.limbs (Nt.val a))) ∧
                (Nat.cast : Nat → Int) (List.length (Nt.limbs (Nt.val a))) * (4 : Int) ≤ (281474976710656 : Int) ∧
                  ∃ (I : Int → Int → List Int → Prop),
                    ∃ (m : Int → Int → List Int → Nat),
                      I (0 : Int) (0 : Int)
                          (List.replicate (Int.toNat ((Nat.cast : Nat → Int) (List.length (Nt.limbs (Nt.val a))))) (0 : Int)) ∧
                        ∀ (v7 v24 : Int) (o0 : List Int),
                          I v7 v24 o0 →
                            (decide (v24 < (Nat.cast : Nat → Int) (List.length (Nt.limbs (Nt.val a)))) = true →
                                (0 : Int) ≤ v24 ∧
                                  v24 < (Nat.cast : Nat → Int) (List.length (Nt.limbs (Nt.val a))) ∧
                                    ∃ (J : Int → Prop),
                                      ((decide (v24 < (Nat.cast : Nat → Int) (List.length (Nt.limbs (Nt.val b)))) = true →
                                            (0 : Int) ≤ v24 ∧
                                              v24 < (Nat.cast : Nat → Int) (List.length (Nt.limbs (Nt.val b))) ∧
                                                (false, OB.ints IntKind.u32 o0) = (false, OB.ints IntKind.u32 o0) ∧
                                                  J (List.getD (Nt.limbs (Nt.val b)) (Int.toNat v24) (0 : Int))) ∧
                                          (decide (v24 < (Nat.cast : Nat → Int) (List.length (Nt.limbs (Nt.val b)))) = false →
                                            (false, OB.ints IntKind.u32 o0) = (false, OB.ints IntKind.u32 o0) ∧
                                              J (0 : Int))) ∧
                                        ∀ (v10 : Int),
                                          J v10 →
                                            (Nt.L (List.getD (Nt.limbs (Nt.val a)) (Int.toNat v24) (0 : Int)) ∧
                                                Nt.L v10 ∧ (0 : Int) ≤ v7 ∧ v7 ≤ (1 : Int)) ∧
                                              (0 : Int) ≤ v24 ∧
                                                v24 < (Nat.cast : Nat → Int) (List.length o0) ∧
                                                  I
                                                      (if
                                                          List.getD (Nt.limbs (Nt.val a)) (Int.toNat v24) (0 : Int) -
                                                                v10 -
                                                              v7 <
                                                            (0 : Int) then
                                                        (1 : Int)
                                                      else (0 : Int))
                                                      (IntKind.wrap IntKind.i64 (v24 + (1 : Int)))
                                                      (List.set o0 (Int.toNat v24)
                                                        ((List.getD (Nt.limbs (Nt.val a)) (Int.toNat v24) (0 : Int) -
                                                              v10 -
                                                            v7) %
                                                          (4294967296 : Int))) ∧
                                                    m
                                                        (if
                                                            List.getD (Nt.limbs (Nt.val a)) (Int.toNat v24) (0 : Int) -
                                                                  v10 -
                                                                v7 <
                                                              (0 : Int) then
                                                          (1 : Int)
                                                        else (0 : Int))
                                                        (IntKind.wrap IntKind.i64 (v24 + (1 : Int)))
                                                        (List.set o0 (Int.toNat v24)
                                                          ((List.getD (Nt.limbs (Nt.val a)) (Int.toNat v24) (0 : Int) -
                                                                v10 -
                                                              v7) %
                                                            (4294967296 : Int))) <
                                                      m v7 v24 o0) ∧
                              (decide (v24 < (Nat.cast : Nat → Int) (List.length (Nt.limbs (Nt.val a)))) = false →
                                (Nt.Lim o0 ∧ List.length o0 ≤ (1000000000 : Nat)) ∧
                                  K
                                    (TV.tup
                                      [TV.d (AV.ints IntKind.u32 (Nt.limbs (Nt.val o0))),
                                        TV.d (AV.int IntKind.i64 (0 : Int))])))

def vc_nshort : List Int → Int → (TV → Prop) → Prop :=
  fun (a : List Int) (d : Int) (K : TV → Prop) =>
  (0 : Int) ≤ (Nat.cast : Nat → Int) (List.length a) ∧
    (Nat.cast : Nat → Int) (List.length a) ≤ (Nat.cast : Nat → Int) (List.length a) ∧
      (Nat.cast : Nat → Int) (List.length a) * (4 : Int) ≤ (281474976710656 : Int) ∧
        ∃ (I : Int → Int → List Int → Prop),
          ∃ (m : Int → Int → List Int → Nat),
            I (0 : Int) (IntKind.wrap IntKind.i64 ((Nat.cast : Nat → Int) (List.length a) - (1 : Int)))
                (List.replicate (Int.toNat ((Nat.cast : Nat → Int) (List.length a))) (0 : Int)) ∧
              ∀ (v7 v8 : Int) (o0 : List Int),
                I v7 v8 o0 →
                  (decide ((0 : Int) ≤ v8) = true →
                      (0 : Int) ≤ v8 ∧
                        v8 < (Nat.cast : Nat → Int) (List.length a) ∧
                          (Nt.L v7 ∧ Nt.L (List.getD a (Int.toNat v8) (0 : Int)) ∧ Nt.L d ∧ v7 < d) ∧
                            (0 : Int) ≤ v8 ∧
                              v8 < (Nat.cast : Nat → Int) (List.length o0) ∧
                                I ((v7 * (4294967296 : Int) + List.getD a (Int.toNat v8) (0 : Int)) % d)
                                    (IntKind.wrap IntKind.i64 (v8 - (1 : Int)))
                                    (List.set o0 (Int.toNat v8)
                                      ((v7 * (4294967296 : Int) + List.getD a (Int.toNat v8) (0 : Int)) / d)) ∧
                                  m ((v7 * (4294967296 : Int) + List.getD a (Int.toNat v8) (0 : Int)) % d)
                                      (IntKind.wrap IntKind.i64 (v8 - (1 : Int)))
                                      (List.set o0 (Int.toNat v8)
                                        ((v7 * (4294967296 : Int) + List.getD a (Int.toNat v8) (0 : Int)) / d)) <
                                    m v7 v8 o0) ∧
                    (decide ((0 : Int) ≤ v8) = false →
                      (Nt.Lim o0 ∧ List.length o0 ≤ (1000000000 : Nat)) ∧
                        K (TV.tup [TV.d (AV.ints IntKind.u32 (Nt.limbs (Nt.val o0))), TV.d (AV.int IntKind.u32 v7)]))

def vc_nPow : List Int → Int → (TV → Prop) → Prop :=
  fun (a : List Int) (n : Int) (K : TV → Prop) =>
  (decide (n < (0 : Int)) = true → K (TV.tup [TV.d (AV.ints IntKind.u32 []), TV.d (AV.int IntKind.i64 (1 : Int))])) ∧
    (decide (n < (0 : Int)) = false →
      (decide ((64 : Int) < n) = true →
          K (TV.tup [TV.d (AV.ints IntKind.u32 []), TV.d (AV.int IntKind.i64 (1 : Int))])) ∧
        (decide ((64 : Int) < n) = false →
          ∃ (I : List Int → Int → Prop),
            ∃ (m : List Int → Int → Nat),
              I [(1 : Int)] (0 : Int) ∧
                ∀ (v6 : List Int) (v15 : Int),
                  I v6 v15 →
                    (decide (v15 < n) = true →
                        (Nt.Few v6 ∧ Nt.Few a) ∧
                          I (Nt.limbs (Nt.val v6 * Nt.val a)) (IntKind.wrap IntKind.i64 (v15 + (1 : Int))) ∧
                            m (Nt.limbs (Nt.val v6 * Nt.val a)) (IntKind.wrap IntKind.i64 (v15 + (1 : Int))) <
                              m v6 v15) ∧
                      (decide (v15 < n) = false →
                        K (TV.tup [TV.d (AV.ints IntKind.u32 v6), TV.d (AV.int IntKind.i64 (0 : Int))]))))

def vc_nrefSame : List Int → List Int → (TV → Prop) → Prop :=
  fun (a b : List Int) (K : TV → Prop) =>
  ((!decide ((Nat.cast : Nat → Int) (List.length a) = (Nat.cast : Nat → Int) (List.length b))) = true → K (TV.d (AV.bool false))) ∧
    ((!decide ((Nat.cast : Nat → Int) (List.length a) = (Nat.cast : Nat → Int) (List.length b))) = false →
      ∃ (I : Int → Prop),
        ∃ (m : Int → Nat),
          I (0 : Int) ∧
            ∀ (v5 : Int),
              I v5 →
                (decide (v5 < (Nat.cast : Nat → Int) (List.length a)) = true →
                    (0 : Int) ≤ v5 ∧
                      v5 < (Nat.cast : Nat → Int) (List.length a) ∧
                        (0 : Int) ≤ v5 ∧
                          v5 < (Nat.cast : Nat → Int) (List.length b) ∧
                            ((!decide (List.getD a (Int.toNat v5) (0 : Int) = List.getD b (Int.toNat v5) (0 : Int))) =
                                  true →
                                K (TV.d (AV.bool false))) ∧
                              ((!decide (List.getD a (Int.toNat v5) (0 : Int) = List.getD b (Int.toNat v5) (0 : Int))) =
                                  false →
                                I (IntKind.wrap IntKind.i64 (v5 + (1 : Int))) ∧
                                  m (IntKind.wrap IntKind.i64 (v5 + (1 : Int))) < m v5)) ∧
                  (decide (v5 < (Nat.cast : Nat → Int) (List.length a)) = false → K (TV.d (AV.bool true))))

end Nt
end

section
/- NtW: machine numbers that do not wrap. -/
open Go Go.Vc
namespace Nt

theorem w64 {x : Int} (h : -9223372036854775808 ≤ x ∧ x < 9223372036854775808) : IntKind.wrap .i64 x = x := by
  unfold IntKind.wrap
  simp only [IntKind.signed, IntKind.bits, Bool.true_and, decide_eq_true_eq, ge_iff_le]
  split <;> omega
theorem wu64 {x : Int} (h : 0 ≤ x ∧ x < 18446744073709551616) : IntKind.wrap .u64 x = x := by
  unfold IntKind.wrap
  simp [IntKind.signed, IntKind.bits]
  omega
theorem wu32 {x : Int} (h : 0 ≤ x ∧ x < 4294967296) : IntKind.wrap .u32 x = x := by
  unfold IntKind.wrap
  simp [IntKind.signed, IntKind.bits]
  omega
theorem wu32m (x : Int) : IntKind.wrap .u32 x = x % 4294967296 := by
  unfold IntKind.wrap
  simp [IntKind.signed, IntKind.bits]
theorem wu64m (x : Int) : IntKind.wrap .u64 x = x % 18446744073709551616 := by
  unfold IntKind.wrap
  simp [IntKind.signed, IntKind.bits]
end Nt
namespace Nt
theorem or64 (p q s : Nat) (hq : q < 2 ^ s) (h : p * 2 ^ s + q < 18446744073709551616) : bitop .or .u64 ((p * 2 ^ s : Nat) : Int) (q : Int) = ((p * 2 ^ s + q : Nat) : Int) := by
  have e1 : ((BitVec.ofInt 64 ((p * 2 ^ s : Nat) : Int)) ||| (BitVec.ofInt 64 (q : Int))).toNat = p * 2 ^ s + q := by
    rw [BitVec.toNat_or, BitVec.toNat_ofInt, BitVec.toNat_ofInt]
    have a1 : (((p * 2 ^ s : Nat) : Int) % ((2 ^ 64 : Nat) : Int)).toNat = p * 2 ^ s := by
      rw [Int.emod_eq_of_lt (by omega) (by omega)]; exact Int.toNat_natCast _
    have a2 : ((q : Int) % ((2 ^ 64 : Nat) : Int)).toNat = q := by
      rw [Int.emod_eq_of_lt (by omega) (by omega)]; simp
    rw [a1, a2, ← Nat.shiftLeft_eq, ← Nat.shiftLeft_add_eq_or_of_lt hq]
  show IntKind.wrap .u64 _ = _
  have e2 : ((BitVec.ofInt (IntKind.u64).bits ((p * 2 ^ s : Nat) : Int)) ||| (BitVec.ofInt (IntKind.u64).bits (q : Int))).toNat = p * 2 ^ s + q := e1
  rw [e2, wu64 (by omega)]
/-- Two limbs side by side. -/
theorem or64' {h l : Int} (hh : L h) (hl : L l) : bitop .or .u64 (h * 4294967296) l = h * 4294967296 + l := by
  unfold L at hh hl
  have p32 : (2 : Nat) ^ 32 = 4294967296 := rfl
  have := or64 h.toNat l.toNat 32 (by rw [p32]; omega) (by rw [p32]; omega)
  rw [p32] at this
  have e1 : ((h.toNat * 4294967296 : Nat) : Int) = h * 4294967296 := by omega
  have e2 : ((l.toNat : Nat) : Int) = l := by omega
  rw [Int.natCast_add, e1, e2] at this
  exact this

theorem p_nbitsMul32 (x y : Int) (K : TV → Prop) (h : cMul32.T [.d (.int .u32 x), .d (.int .u32 y)] K) : vc_nbitsMul32 x y K := by
  obtain ⟨⟨hx, hy⟩, hk⟩ := h
  unfold L at hx hy
  unfold vc_nbitsMul32
  have hxy : 0 ≤ x * y := Int.mul_nonneg hx.1 hy.1
  have hxy2 : x * y ≤ 4294967295 * 4294967295 := Int.mul_le_mul (by omega) (by omega) hy.1 (by omega)
  rw [wu64 (x := x) (by omega), wu64 (x := y) (by omega), wu64 (x := x * y) (by omega), wu32m (x * y), Int.fdiv_eq_ediv_of_nonneg _ (by omega), wu32 (by omega)]
  exact hk
theorem p_nbitsAdd32 (x y c : Int) (K : TV → Prop) (h : cAdd32.T [.d (.int .u32 x), .d (.int .u32 y), .d (.int .u32 c)] K) : vc_nbitsAdd32 x y c K := by
  obtain ⟨⟨hx, hy, h1, h2⟩, hk⟩ := h
  unfold L at hx hy
  unfold vc_nbitsAdd32
  rw [wu64 (x := x) (by omega), wu64 (x := y) (by omega), wu64 (x := x + y) (by omega), wu64 (x := c) (by omega), wu64 (x := x + y + c) (by omega), wu32m (x + y + c), Int.fdiv_eq_ediv_of_nonneg _ (by omega), wu32 (by omega)]
  exact hk
theorem p_nbitsDiv32 (h l y : Int) (K : TV → Prop) (hh : cDiv32.T [.d (.int .u32 h), .d (.int .u32 l), .d (.int .u32 y)] K) : vc_nbitsDiv32 h l y K := by
  obtain ⟨⟨hh, hl, hy, hlt⟩, hk⟩ := hh
  have hor := or64' hh hl
  unfold L at hh hl hy
  refine ⟨True, ⟨fun _ => ⟨fun h => ?_, fun _ => trivial⟩, fun _ => trivial⟩, fun _ => ?_⟩
  · simp at h; omega
  have hy1 : IntKind.wrap .u64 y = y := wu64 (by omega)
  have hz0 : 0 ≤ h * 4294967296 + l := by omega
  have hdl : (h * 4294967296 + l) / y < 4294967296 := Int.ediv_lt_of_lt_mul (by omega) (by
    have : (h + 1) * 4294967296 ≤ y * 4294967296 := Int.mul_le_mul_of_nonneg_right (by omega) (by omega)
    rw [Int.mul_comm 4294967296 y]; omega)
  have hd0 : 0 ≤ (h * 4294967296 + l) / y := Int.ediv_nonneg hz0 hy.1
  have hm0 : 0 ≤ (h * 4294967296 + l) % y := Int.emod_nonneg _ (by omega)
  have hml : (h * 4294967296 + l) % y < y := Int.emod_lt_of_pos _ (by omega)
  rw [hy1, wu64 (x := h) (by omega), wu64 (x := h * 4294967296) (by omega), wu64 (x := l) (by omega), hor, Int.tdiv_eq_ediv_of_nonneg hz0, Int.tmod_eq_emod_of_nonneg hz0, wu64 (x := (h * 4294967296 + l) / y) (by omega),
    wu32 (x := (h * 4294967296 + l) / y) (by omega), wu32 (x := (h * 4294967296 + l) % y) (by omega)]
  exact ⟨by omega, by omega, hk⟩
theorem p_nslClone (a : List Int) (K : TV → Prop) (h : cClone.T [.d (.ints .u32 a)] K) : vc_nslClone a K := by
  obtain ⟨hl, hk⟩ := h
  unfold vc_nslClone
  intro b hb
  refine ⟨fun h => ?_, fun _ => ⟨by omega, ?_⟩⟩
  · rw [hb h] at hk; exact hk
  · exact hk
theorem cast0 {x : Int} {n : Nat} (h : x = n) : x.toNat = n := by omega
theorem p_ntrim (a : List Int) (K : TV → Prop) (h : ctrim.T [.d (.ints .u32 a)] K) : vc_ntrim a K := by
  obtain ⟨⟨hl, hsz⟩, hk⟩ := h
  unfold vc_ntrim
  refine ⟨fun v => Lim v ∧ val v = val a ∧ v.length ≤ a.length, fun v => v.length, ⟨hl, rfl, Nat.le_refl _⟩, fun v ⟨hv, he, hle⟩ => ⟨fun h => ?_, fun h => ?_⟩⟩
  · simp only [decide_eq_true_eq] at h
    have e : IntKind.wrap .i64 ((Nat.cast : Nat → Int) v.length - 1) = ((v.length - 1 : Nat) : Int) := by rw [w64 (by omega)]; omega
    rw [e, Int.toNat_natCast]
    refine ⟨by omega, by omega, fun h0 => ⟨by omega, by omega, ⟨hv.take _, ?_, by simp; omega⟩, by simp; omega⟩, fun h0 => ?_⟩
    · simp only [decide_eq_true_eq] at h0
      rw [val_dropLast h0, he]
    · simp only [decide_eq_false_iff_not] at h0
      rw [← limbs_val hv (norm_of_last (.inr h0)), he]; exact hk
  · simp only [decide_eq_false_iff_not] at h
    have : v = [] := List.length_eq_zero_iff.1 (by omega)
    rw [← limbs_val hv (norm_of_last (.inl this)), he]; exact hk
theorem p_nTrim (a : List Int) (K : TV → Prop) (h : cTrim.T [.d (.ints .u32 a)] K) : vc_nTrim a K := by
  obtain ⟨⟨hl, hn⟩, hk⟩ := h
  unfold vc_nTrim
  refine ⟨⟨hl, by omega⟩, ?_, hk⟩
  have := limbs_len.2 (val_lt hl)
  omega
theorem val2 {x y : Int} (_ : Lim [x, y]) : val [x, y] = x.toNat + 4294967296 * y.toNat := by simp [val]
theorem p_nfromUint (u : Int) (K : TV → Prop) (h : cfromUint.T [.d (.int .u64 u)] K) : vc_nfromUint u K := by
  obtain ⟨hu, hk⟩ := h
  unfold vc_nfromUint
  rw [Int.fdiv_eq_ediv_of_nonneg _ (by omega), wu32m u, wu32 (x := u / 4294967296) (by omega)]
  have hl : Lim [u % 4294967296, u / 4294967296] := .mk (by omega) (.mk (by omega) .nil)
  refine ⟨⟨hl, by simp⟩, ?_⟩
  rw [val2 hl]
  have : (u % 4294967296).toNat + 4294967296 * (u / 4294967296).toNat = u.toNat := by omega
  rw [this]; exact hk
end Nt
end

section
/- NtX: proofs of verification conditions: sums, comparisons. -/
open Go Go.Vc
namespace Nt

theorem Few.lim {a : List Int} (h : Few a) : Lim a := h.1
theorem few_len {a : List Int} (h : Few a) : (limbs (val a)).length ≤ a.length := limbs_len.2 (val_lt h.1)
theorem nat_cast_le {n m : Nat} : ((n : Int) ≤ m) ↔ n ≤ m := Int.ofNat_le

theorem p_nAdd (a b : List Int) (K : TV → Prop) (h : cAdd.T [.d (.ints .u32 a), .d (.ints .u32 b)] K) : vc_nAdd a b K := by
  obtain ⟨⟨ha, hb⟩, hk⟩ := h
  unfold vc_nAdd
  refine ⟨fun x y => Few x ∧ Few y ∧ val x + val y = val a + val b ∧ y.length ≤ x.length, ⟨fun h => ⟨hb, ha, Nat.add_comm _ _, ?_⟩, fun h => ⟨ha, hb, rfl, ?_⟩⟩, fun x y ⟨hx, hy, hv, hle⟩ => ?_⟩
  · simp only [decide_eq_true_eq] at h; omega
  · simp only [decide_eq_false_iff_not] at h; omega
  have hxl := hx.2
  have e : IntKind.wrap .i64 ((Nat.cast : Nat → Int) x.length + 1) = ((x.length + 1 : Nat) : Int) := by rw [w64 (by omega)]; omega
  rw [e, Int.toNat_natCast]
  refine ⟨by omega, by omega, by omega, fun c i o => Lim o ∧ o.length = x.length + 1 ∧ 0 ≤ c ∧ c ≤ 1 ∧ 0 ≤ i ∧ i ≤ x.length ∧ vt o i.toNat + 4294967296 ^ i.toNat * c.toNat = vt x i.toNat + vt y i.toNat ∧ ∀ j, i.toNat ≤ j → o.getD j 0 = 0,
    fun c i o => x.length - i.toNat, ⟨Lim.zeros _, by simp, by omega, by omega, by omega, by omega, by simp [vt_zero], fun j _ => by simp [List.getD_eq_getElem?_getD, List.getElem?_replicate]; split <;> rfl⟩, ?_⟩
  rintro c i o ⟨ho, hol, hc0, hc1, hi0, hi1, hsum, hz⟩
  refine ⟨fun h => ?_, fun h => ?_⟩
  · simp only [decide_eq_true_eq] at h
    obtain ⟨n, rfl⟩ : ∃ n : Nat, i = n := ⟨i.toNat, by omega⟩
    simp only [Int.toNat_natCast] at hsum hz ⊢
    refine ⟨by omega, by omega, fun e => e = y.getD n 0, ⟨fun h2 => ⟨by omega, by simpa using h2, trivial, rfl⟩, fun h2 => ⟨trivial, ?_⟩⟩, ?_⟩
    · simp only [decide_eq_false_iff_not] at h2
      simp [List.getD_eq_getElem?_getD, List.getElem?_eq_none (show y.length ≤ n by omega)]
    · rintro e rfl
      have hx1 := hx.1 n
      have hy1 := hy.1 n
      refine ⟨⟨hx1, hy1, hc0, hc1⟩, by omega, by omega, ?_⟩
      have e2 : IntKind.wrap .i64 ((n : Int) + 1) = ((n + 1 : Nat) : Int) := by rw [w64 (by omega)]; omega
      rw [e2]
      refine ⟨⟨ho.set _ (by omega), by simpa using hol, by omega, by omega, by omega, by omega, ?_, fun j hj => ?_⟩, ?_⟩
      · rw [Int.toNat_natCast, vt_succ, vt_succ, vt_succ, vt_set _ _ _ _ (Nat.le_refl _), getD_set, if_pos ⟨rfl, by omega⟩]
        have e3 : ((x.getD n 0 + y.getD n 0 + c) % 4294967296).toNat + 4294967296 * ((x.getD n 0 + y.getD n 0 + c) / 4294967296).toNat = (x.getD n 0).toNat + (y.getD n 0).toNat + c.toNat := by omega
        rw [Nat.pow_succ]
        generalize ((x.getD n 0 + y.getD n 0 + c) % 4294967296).toNat = p at e3 ⊢
        generalize ((x.getD n 0 + y.getD n 0 + c) / 4294967296).toNat = q at e3 ⊢
        generalize 4294967296 ^ n = w at hsum ⊢
        have e4 : w * (p + 4294967296 * q) = w * ((x.getD n 0).toNat + (y.getD n 0).toNat + c.toNat) := by rw [e3]
        simp only [Nat.mul_add] at e4 ⊢
        rw [Nat.mul_assoc]
        omega
      · rw [getD_set, if_neg (by simp at hj; omega)]
        exact hz j (by simp at hj; omega)
      · simp; omega
  · simp only [decide_eq_false_iff_not] at h
    obtain rfl : i = x.length := by omega
    simp only [Int.toNat_natCast] at hsum hz ⊢
    have hlim : Lim (o.set x.length c) := ho.set _ (by omega)
    refine ⟨by omega, by omega, ⟨hlim, by simp [hol]; omega⟩, ?_⟩
    have : val (o.set x.length c) = val a + val b := by
      rw [← vt_all (o.set x.length c) (i := x.length + 1) (by simp [hol]), vt_succ, vt_set _ _ _ _ (Nat.le_refl _), getD_set, if_pos ⟨rfl, by omega⟩, hsum, vt_all x (Nat.le_refl _), vt_all y hle, hv]
    rw [this]; exact hk

end Nt
end

section
/- NtY: proofs of verification conditions: short, Pow, Same. -/
open Go Go.Vc
namespace Nt

theorem p_nrefSame (a b : List Int) (K : TV → Prop) (h : cSame.T [.d (.ints .u32 a), .d (.ints .u32 b)] K) : vc_nrefSame a b K := by
  obtain ⟨⟨ha, hb⟩, hk⟩ := h
  unfold vc_nrefSame
  refine ⟨fun h => ?_, fun h => ?_⟩
  · have hne : a ≠ b := fun e => by subst e; simp at h
    rw [decide_eq_false hne] at hk; exact hk
  · have hlen : a.length = b.length := by
      have : ((Nat.cast : Nat → Int) a.length) = b.length := by simpa using h
      omega
    refine ⟨fun i => 0 ≤ i ∧ i ≤ a.length ∧ ∀ j, j < i.toNat → a.getD j 0 = b.getD j 0, fun i => a.length - i.toNat, ⟨by omega, by omega, fun j hj => by simp at hj⟩, fun i ⟨h0, h1, hj⟩ => ⟨fun h2 => ?_, fun h2 => ?_⟩⟩
    · simp only [decide_eq_true_eq] at h2
      refine ⟨by omega, by omega, by omega, by omega, fun h3 => ?_, fun h3 => ?_⟩
      · have hne : a ≠ b := fun e => by subst e; simp at h3
        rw [decide_eq_false hne] at hk; exact hk
      · have h3 : a.getD i.toNat 0 = b.getD i.toNat 0 := by simpa using h3
        rw [w64 (by omega)]
        refine ⟨⟨by omega, by omega, fun j hj' => ?_⟩, by simp only; omega⟩
        by_cases e : j = i.toNat
        · rw [e]; exact h3
        · exact hj j (by omega)
    · simp only [decide_eq_false_iff_not] at h2
      have e : a = b := by
        apply List.ext_getElem hlen
        intro j hj1 hj2
        have := hj j (by omega)
        simpa [List.getD_eq_getElem?_getD, hj1, hj2] using this
      rw [decide_eq_true e] at hk; exact hk

theorem p_nPow (a : List Int) (n : Int) (K : TV → Prop) (h : cPow.T [.d (.ints .u32 a), .d (.int .i64 n)] K) : vc_nPow a n K := by
  obtain ⟨⟨ha, hl⟩, hk⟩ := h
  unfold vc_nPow
  refine ⟨fun h => ?_, fun h => ⟨fun h2 => ?_, fun h2 => ?_⟩⟩
  · simp only [decide_eq_true_eq] at h
    rw [if_neg (by omega), if_neg (by omega)] at hk; exact hk
  · simp only [decide_eq_true_eq] at h2
    rw [if_neg (by omega), if_neg (by omega)] at hk; exact hk
  · simp only [decide_eq_false_iff_not] at h h2
    rw [if_pos (by omega), if_pos (by omega)] at hk
    have hb : ∀ k : Nat, (limbs (val a ^ k)).length ≤ a.length * k + 1 := fun k => by
      rw [limbs_len, Nat.pow_succ, Nat.pow_mul]
      have h1 : val a ^ k ≤ (4294967296 ^ a.length) ^ k := Nat.pow_le_pow_left (Nat.le_of_lt (val_lt ha)) k
      have h2 : 0 < (4294967296 ^ a.length) ^ k := Nat.pow_pos (Nat.pow_pos (by decide))
      omega
    have h1l : [(1 : Int)] = limbs (val a ^ 0) := by
      rw [Nat.pow_zero, limbs_pos (by decide)]; simp [limbs_zero]
    refine ⟨fun v i => 0 ≤ i ∧ i ≤ n ∧ v = limbs (val a ^ i.toNat), fun v i => n.toNat - i.toNat, ⟨by omega, by omega, h1l⟩, fun v i ⟨h3, h4, h5⟩ => ⟨fun h6 => ?_, fun h6 => ?_⟩⟩
    · simp only [decide_eq_true_eq] at h6
      subst h5
      have hm : a.length * i.toNat ≤ 1000000 * 64 := Nat.mul_le_mul hl (by omega)
      have := hb i.toNat
      rw [w64 (by omega)]
      refine ⟨⟨⟨limbs_lim _, by omega⟩, ha, by omega⟩, ⟨by omega, by omega, ?_⟩, by simp only; omega⟩
      rw [val_limbs, ← Nat.pow_succ, show (i + 1).toNat = i.toNat + 1 by omega]
    · simp only [decide_eq_false_iff_not] at h6
      obtain rfl : i = n := by omega
      rw [h5]; exact hk
end Nt
end

section
/- NtY2: proofs of verification conditions: short, toUint. -/
open Go Go.Vc
namespace Nt

/-- The value of the limbs from i on. -/
def vd (a : List Int) (i : Nat) : Nat := val (a.drop i)
theorem vd_all (a : List Int) : vd a 0 = val a := by simp [vd]
theorem vd_len (a : List Int) {i : Nat} (h : a.length ≤ i) : vd a i = 0 := by simp [vd, List.drop_of_length_le h, val]
theorem vd_step (a : List Int) (i : Nat) : vd a i = (a.getD i 0).toNat + 4294967296 * vd a (i + 1) := by
  unfold vd
  by_cases h : i < a.length
  · rw [List.drop_eq_getElem_cons h, val]
    simp [List.getD_eq_getElem?_getD, h]
  · rw [List.drop_of_length_le (by omega), List.drop_of_length_le (by omega)]
    simp [val, List.getD_eq_getElem?_getD, h]
theorem vd_set (a : List Int) (i j : Nat) (v : Int) (h : j < i) : vd (a.set j v) i = vd a i := by
  unfold vd; rw [List.drop_set_of_lt h]
theorem vd_vt (a : List Int) (i : Nat) : val a = vt a i + 4294967296 ^ i * vd a i := by
  by_cases h : i ≤ a.length
  · have := val_append (a.take i) (a.drop i)
    rw [List.take_append_drop, List.length_take, Nat.min_eq_left h] at this
    exact this
  · rw [vt_all a (by omega), vd_len a (by omega)]; simp

/-- One step of a division by one limb, in numbers. -/
theorem short_step {D R x z w : Nat} (W : Nat) (hW : W = 4294967296) (hR : R < D) (hx : x < W) (hw : w = z * D + R) :
    (R * W + x) / D < W ∧ (R * W + x) % D < D ∧ x + W * w = ((R * W + x) / D + W * z) * D + (R * W + x) % D := by
  have hD : 0 < D := by omega
  have h1 : (R + 1) * W ≤ D * W := Nat.mul_le_mul_right _ (by omega)
  refine ⟨Nat.div_lt_of_lt_mul (by rw [Nat.add_mul] at h1; omega), Nat.mod_lt _ hD, ?_⟩
  have hdm := Nat.div_add_mod (R * W + x) D
  generalize (R * W + x) / D = q at hdm ⊢
  generalize (R * W + x) % D = m at hdm ⊢
  subst hw
  have e3 : (q + W * z) * D = D * q + W * (z * D) := by rw [Nat.add_mul, Nat.mul_comm q D, Nat.mul_assoc]
  rw [e3, Nat.mul_add, Nat.mul_comm W R]
  generalize W * (z * D) = u
  generalize R * W = v at hdm ⊢
  generalize D * q = t at hdm ⊢
  omega

theorem p_nshort (a : List Int) (d : Int) (K : TV → Prop) (h : cshort.T [.d (.ints .u32 a), .d (.int .u32 d)] K) : vc_nshort a d K := by
  obtain ⟨⟨ha, hd, hd0⟩, hk⟩ := h
  have hal := ha.2
  unfold L at hd
  obtain ⟨D, rfl⟩ : ∃ D : Nat, d = D := ⟨d.toNat, by omega⟩
  simp only [Int.toNat_natCast] at hk
  unfold vc_nshort
  rw [Int.toNat_natCast]
  refine ⟨by omega, by omega, by omega, fun r i o => Lim o ∧ o.length = a.length ∧ 0 ≤ r ∧ r < D ∧ -1 ≤ i ∧ i < a.length ∧ vd a (i + 1).toNat = vd o (i + 1).toNat * D + r.toNat, fun r i o => (i + 1).toNat, ⟨Lim.zeros _, by simp, by omega, by omega, ?_⟩, ?_⟩
  · rw [w64 (by omega)]
    refine ⟨by omega, by omega, ?_⟩
    rw [vd_len a (by omega), vd_len _ (by simp)]; simp
  rintro r i o ⟨ho, hol, hr0, hrd, hi0, hi1, hv⟩
  refine ⟨fun h => ?_, fun h => ?_⟩
  · simp only [decide_eq_true_eq] at h
    have hai := ha.1 i.toNat
    obtain ⟨n, rfl⟩ : ∃ n : Nat, i = n := ⟨i.toNat, by omega⟩
    simp only [Int.toNat_natCast] at hai ⊢
    rw [w64 (by omega)]
    obtain ⟨R, rfl⟩ : ∃ R : Nat, r = R := ⟨r.toNat, by omega⟩
    obtain ⟨x, hx⟩ : ∃ x : Nat, a.getD n 0 = x := ⟨(a.getD n 0).toNat, by omega⟩
    rw [hx] at hai ⊢
    have e1 : ((R : Int) * 4294967296 + x) / D = (((R * 4294967296 + x) / D : Nat) : Int) := by rw [Int.natCast_ediv, Int.natCast_add, Int.natCast_mul]; rfl
    have e2 : ((R : Int) * 4294967296 + x) % D = (((R * 4294967296 + x) % D : Nat) : Int) := by rw [Int.natCast_emod, Int.natCast_add, Int.natCast_mul]; rfl
    rw [e1, e2]
    rw [show ((n : Int) + 1).toNat = n + 1 by omega] at hv
    have hst := short_step (z := vd o (n + 1)) 4294967296 rfl (show R < D by omega) (show x < 4294967296 by omega) (by simpa using hv)
    obtain ⟨hq, hm, he⟩ := hst
    have hset : vd (o.set n (((R * 4294967296 + x) / D : Nat) : Int)) n = (R * 4294967296 + x) / D + 4294967296 * vd o (n + 1) := by
      rw [vd_step _ n, vd_set _ _ _ _ (by omega), getD_set, if_pos ⟨rfl, by omega⟩, Int.toNat_natCast]
    have hva : vd a n = x + 4294967296 * vd a (n + 1) := by rw [vd_step a n, hx, Int.toNat_natCast]
    rw [← hva, ← hset] at he
    generalize (R * 4294967296 + x) / D = q at hq he hset ⊢
    generalize (R * 4294967296 + x) % D = m at hm he ⊢
    refine ⟨by omega, by omega, ⟨⟨by omega, by omega⟩, ⟨by omega, by omega⟩, ⟨by omega, by omega⟩, by omega⟩, by omega, by omega, ⟨ho.set _ ⟨by omega, by omega⟩, by simpa using hol, by omega, by omega, by omega, by omega, ?_⟩, by show (((n : Int) - 1) + 1).toNat < ((n : Int) + 1).toNat; omega⟩
    rw [show ((n : Int) - 1 + 1).toNat = n by omega, Int.toNat_natCast]
    exact he
  · simp only [decide_eq_false_iff_not] at h
    obtain rfl : i = -1 := by omega
    simp only [show ((-1 : Int) + 1).toNat = 0 from rfl, vd_all] at hv
    refine ⟨⟨ho, by omega⟩, ?_⟩
    have h1 : val a / D = val o := by
      rw [hv, Nat.mul_comm, Nat.mul_add_div (by omega), Nat.div_eq_of_lt (by omega)]; omega
    have h2 : ((val a % D : Nat) : Int) = r := by
      rw [hv, Nat.mul_comm, Nat.mul_add_mod, Nat.mod_eq_of_lt (by omega)]; omega
    rw [h1, h2] at hk; exact hk
end Nt
end

section
/- NtZ: proofs of verification conditions: Mul. -/
open Go Go.Vc
namespace Nt

/-- One step of a product, in numbers. -/
theorem mul_step {x y o c : Int} (hx : L x) (hy : L y) (ho : L o) (hc : L c) :
    let l1 := (x * y % 4294967296 + o + 0) % 4294967296
    let h1 := IntKind.wrap .u32 (x * y / 4294967296 + (x * y % 4294967296 + o + 0) / 4294967296)
    let l2 := (l1 + c + 0) % 4294967296
    let h2 := IntKind.wrap .u32 (h1 + (l1 + c + 0) / 4294967296)
    L (x * y % 4294967296) ∧ L l1 ∧ L l2 ∧ L h2 ∧ l2 + 4294967296 * h2 = x * y + o + c := by
  unfold L at *
  have h0 : 0 ≤ x * y := Int.mul_nonneg hx.1 hy.1
  have h1 : x * y ≤ 4294967295 * 4294967295 := Int.mul_le_mul (by omega) (by omega) hy.1 (by omega)
  generalize x * y = p at h0 h1 ⊢
  intro l1 h1' l2 h2
  have e1 : h1' = p / 4294967296 + (p % 4294967296 + o + 0) / 4294967296 := wu32 (by omega)
  have e2 : h2 = p / 4294967296 + (p % 4294967296 + o + 0) / 4294967296 + (l1 + c + 0) / 4294967296 := by
    show IntKind.wrap .u32 (h1' + (l1 + c + 0) / 4294967296) = _
    rw [e1]; exact wu32 (by omega)
  rw [e2]
  omega
theorem val_set (a : List Int) (j : Nat) (v : Int) (h : j < a.length) : val (a.set j v) + 4294967296 ^ j * (a.getD j 0).toNat = val a + 4294967296 ^ j * v.toNat := by
  rw [vd_vt (a.set j v) (j + 1), vd_vt a (j + 1), vt_succ, vt_succ, vt_set _ _ _ _ (Nat.le_refl _), vd_set _ _ _ _ (by omega), getD_set, if_pos ⟨rfl, h⟩]
  omega
theorem limbs_Few {n k : Nat} (h : (limbs n).length ≤ k) (hk : k ≤ 100000000) : Few (limbs n) := ⟨limbs_lim n, by omega⟩
theorem p_nMul (a b : List Int) (K : TV → Prop) (h : cMul.T [.d (.ints .u32 a), .d (.ints .u32 b)] K) : vc_nMul a b K := by
  obtain ⟨⟨ha, hb⟩, hk⟩ := h
  have hal := few_len ha
  have hbl := few_len hb
  have ha2 := ha.2
  have hb2 := hb.2
  unfold vc_nMul
  refine ⟨⟨ha.1, by omega⟩, ⟨hb.1, by omega⟩, ?_⟩
  have hA := limbs_lim (val a)
  have hB := limbs_lim (val b)
  have hva := val_limbs (val a)
  have hvb := val_limbs (val b)
  rw [← hva, ← hvb] at hk
  generalize limbs (val a) = A at *
  generalize limbs (val b) = B at *
  have e0 : IntKind.wrap .i64 ((Nat.cast : Nat → Int) A.length + (Nat.cast : Nat → Int) B.length) = ((A.length + B.length : Nat) : Int) := by rw [w64 (by omega)]; omega
  rw [e0, Int.toNat_natCast]
  refine ⟨by omega, by omega, by omega, fun i o => Lim o ∧ o.length = A.length + B.length ∧ 0 ≤ i ∧ i ≤ A.length ∧ val o = vt A i.toNat * val B ∧ ∀ j, i.toNat + B.length ≤ j → o.getD j 0 = 0,
    fun i o => A.length - i.toNat, ⟨Lim.zeros _, by simp, by omega, by omega, by simp [vt_zero, val_zeros], fun j _ => by simp [List.getD_eq_getElem?_getD, List.getElem?_replicate]; split <;> rfl⟩, ?_⟩
  rintro i o ⟨ho, hol, hi0, hi1, hv, hz⟩
  refine ⟨fun h => ?_, fun h => ?_⟩
  · simp only [decide_eq_true_eq] at h
    obtain ⟨n, rfl⟩ : ∃ n : Nat, i = n := ⟨i.toNat, by omega⟩
    simp only [Int.toNat_natCast] at hv hz ⊢
    have hn : n < A.length := by omega
    refine ⟨by omega, by omega, fun c k p => Lim p ∧ p.length = A.length + B.length ∧ L c ∧ 0 ≤ k ∧ k ≤ B.length ∧ val p + 4294967296 ^ (n + k.toNat) * c.toNat = val o + 4294967296 ^ n * ((A.getD n 0).toNat * vt B k.toNat) ∧
      ∀ j, n + B.length ≤ j → p.getD j 0 = 0, fun c k p => B.length - k.toNat, ⟨ho, hol, by unfold L; omega, by omega, by omega, by simp [vt_zero], hz⟩, ?_⟩
    rintro c k p ⟨hp, hpl, hc, hk0, hk1, hs, hpz⟩
    refine ⟨fun h2 => ?_, fun h2 => ?_⟩
    · simp only [decide_eq_true_eq] at h2
      obtain ⟨q, rfl⟩ : ∃ q : Nat, k = q := ⟨k.toNat, by omega⟩
      simp only [Int.toNat_natCast] at hs ⊢
      have e1 : IntKind.wrap .i64 ((n : Int) + (q : Int)) = ((n + q : Nat) : Int) := by rw [w64 (by omega)]; omega
      have e2 : IntKind.wrap .i64 ((q : Int) + 1) = ((q + 1 : Nat) : Int) := by rw [w64 (by omega)]; omega
      rw [e1, e2]
      simp only [Int.toNat_natCast]
      have hx := hA n
      have hy := hB q
      have ho' := hp (n + q)
      obtain ⟨m1, m2, m3, m4, m5⟩ := mul_step (x := A.getD n 0) (y := B.getD q 0) (o := p.getD (n + q) 0) (c := c) hx hy ho' hc
      refine ⟨by omega, by omega, ⟨hx, hy⟩, by omega, by omega, ⟨m1, ho', by omega, by omega⟩, ⟨m2, hc, by omega, by omega⟩, by omega, by omega, ?_⟩
      generalize ((A.getD n 0 * B.getD q 0 % 4294967296 + p.getD (n + q) 0 + 0) % 4294967296 + c + 0) % 4294967296 = lo at m3 m5 ⊢
      generalize IntKind.u32.wrap (IntKind.u32.wrap (A.getD n 0 * B.getD q 0 / 4294967296 + (A.getD n 0 * B.getD q 0 % 4294967296 + p.getD (n + q) 0 + 0) / 4294967296) +
        ((A.getD n 0 * B.getD q 0 % 4294967296 + p.getD (n + q) 0 + 0) % 4294967296 + c + 0) / 4294967296) = hi at m4 m5 ⊢
      refine ⟨⟨hp.set _ m3, by simpa using hpl, m4, by omega, by omega, ?_, fun j hj => ?_⟩, by omega⟩
      · have hset := val_set p (n + q) lo (by omega)
        unfold L at hc m3 m4
        have m6 : lo.toNat + 4294967296 * hi.toNat = (A.getD n 0).toNat * (B.getD q 0).toNat + (p.getD (n + q) 0).toNat + c.toNat := by
          obtain ⟨x, hx'⟩ : ∃ x : Nat, A.getD n 0 = x := ⟨(A.getD n 0).toNat, by omega⟩
          obtain ⟨y, hy'⟩ : ∃ y : Nat, B.getD q 0 = y := ⟨(B.getD q 0).toNat, by omega⟩
          rw [hx', hy', ← Int.natCast_mul] at m5
          rw [hx', hy', Int.toNat_natCast, Int.toNat_natCast]
          generalize x * y = z at m5 ⊢
          omega
        have e4 := congrArg (4294967296 ^ (n + q) * ·) m6
        simp only [Nat.mul_add] at e4
        have e5 : 4294967296 ^ (n + (q + 1)) * hi.toNat = 4294967296 ^ (n + q) * (4294967296 * hi.toNat) := by rw [← Nat.add_assoc, Nat.pow_succ, Nat.mul_assoc]
        have e6 : 4294967296 ^ n * ((A.getD n 0).toNat * vt B (q + 1)) = 4294967296 ^ n * ((A.getD n 0).toNat * vt B q) + 4294967296 ^ (n + q) * ((A.getD n 0).toNat * (B.getD q 0).toNat) := by
          rw [vt_succ, Nat.mul_add, Nat.mul_add, Nat.pow_add, Nat.mul_left_comm (A.getD n 0).toNat, Nat.mul_assoc]
        rw [e5, e6]
        omega
      · rw [getD_set, if_neg (by omega)]
        exact hpz j hj
    · simp only [decide_eq_false_iff_not] at h2
      obtain rfl : k = B.length := by omega
      simp only [Int.toNat_natCast] at hs
      have hc' := hc
      unfold L at hc'
      have e1 : IntKind.wrap .i64 ((n : Int) + (Nat.cast : Nat → Int) B.length) = ((n + B.length : Nat) : Int) := by rw [w64 (by omega)]; omega
      have e2 : IntKind.wrap .i64 ((n : Int) + 1) = ((n + 1 : Nat) : Int) := by rw [w64 (by omega)]; omega
      rw [e1, e2]
      simp only [Int.toNat_natCast]
      have hset := val_set p (n + B.length) c (by omega)
      rw [hpz _ (Nat.le_refl _)] at hset
      refine ⟨by omega, by omega, ⟨hp.set _ hc', by simpa using hpl, by omega, by omega, ?_, fun j hj => ?_⟩, by omega⟩
      · rw [vt_succ, Nat.add_mul, ← hv, Nat.mul_assoc]
        rw [vt_all B (Nat.le_refl _)] at hs
        simp at hset
        omega
      · rw [getD_set, if_neg (by omega)]
        exact hpz j (by omega)
  · simp only [decide_eq_false_iff_not] at h
    obtain rfl : i = A.length := by omega
    refine ⟨⟨ho, by omega⟩, ?_⟩
    rw [hv, Int.toNat_natCast, vt_all A (Nat.le_refl _)]; exact hk
end Nt
end

section
/- NtC: proofs of verification conditions: Cmp, toUint, Sub32, Sub. -/
open Go Go.Vc
namespace Nt

theorem cmp_lt {a b : Nat} (h : a < b) : cmp a b = -1 := by unfold cmp; rw [if_pos h]
theorem cmp_gt {a b : Nat} (h : b < a) : cmp a b = 1 := by unfold cmp; rw [if_neg (by omega), if_neg (by omega)]
theorem cmp_eq (a : Nat) : cmp a a = 0 := by unfold cmp; rw [if_neg (by omega), if_pos rfl]
theorem len_lt {a b : Nat} (h : (limbs a).length < (limbs b).length) : a < b := by
  have h1 : a < 4294967296 ^ (limbs a).length := limbs_len.1 (Nat.le_refl _)
  have h2 : ¬ b < 4294967296 ^ (limbs a).length := fun hb => by
    have := limbs_len.2 hb
    omega
  omega
theorem lim_lt {a : List Int} (h : Lim a) (i : Nat) : (a.getD i 0).toNat < 4294967296 := by
  have := h i
  omega
theorem vd_less {a b : List Int} (n : Nat) (ha : Lim a) (h1 : vd a (n + 1) = vd b (n + 1)) (h2 : (a.getD n 0).toNat < (b.getD n 0).toNat) : val a < val b := by
  have e1 := vd_vt a n
  have e2 := vd_vt b n
  have h3 := vt_lt ha n
  rw [vd_step a n] at e1
  rw [vd_step b n, ← h1] at e2
  generalize (a.getD n 0).toNat = x at *
  generalize (b.getD n 0).toNat = y at *
  generalize vd a (n + 1) = v at *
  generalize 4294967296 ^ n = w at *
  have h4 : w * (x + 4294967296 * v) + w ≤ w * (y + 4294967296 * v) := by
    have := Nat.mul_le_mul_left w (show x + 4294967296 * v + 1 ≤ y + 4294967296 * v by omega)
    rw [Nat.mul_add w (x + 4294967296 * v) 1, Nat.mul_one] at this
    exact this
  omega

theorem p_nCmp (a b : List Int) (K : TV → Prop) (h : cCmp.T [.d (.ints .u32 a), .d (.ints .u32 b)] K) : vc_nCmp a b K := by
  obtain ⟨⟨ha, hb⟩, hk⟩ := h
  have hal := few_len ha
  have hbl := few_len hb
  have ha2 := ha.2
  have hb2 := hb.2
  unfold vc_nCmp
  refine ⟨⟨ha.1, by omega⟩, ⟨hb.1, by omega⟩, fun h => ⟨fun h1 => ?_, fun h1 => ?_⟩, fun h => ?_⟩
  · simp only [decide_eq_true_eq] at h1
    rw [cmp_lt (len_lt (by omega))] at hk; exact hk
  · have h2 : ¬ ((Nat.cast : Nat → Int) (limbs (val a)).length = (Nat.cast : Nat → Int) (limbs (val b)).length) := by simpa using h
    simp only [decide_eq_false_iff_not] at h1
    rw [cmp_gt (len_lt (by omega))] at hk; exact hk
  · have h2 : (Nat.cast : Nat → Int) (limbs (val a)).length = (Nat.cast : Nat → Int) (limbs (val b)).length := by simpa using h
    have hA := limbs_lim (val a)
    have hB := limbs_lim (val b)
    have hva := val_limbs (val a)
    have hvb := val_limbs (val b)
    rw [← hva, ← hvb] at hk
    generalize limbs (val a) = A at *
    generalize limbs (val b) = B at *
    refine ⟨fun i => -1 ≤ i ∧ i < A.length ∧ vd A (i + 1).toNat = vd B (i + 1).toNat, fun i => (i + 1).toNat, ?_, ?_⟩
    · rw [w64 (by omega)]
      refine ⟨by omega, by omega, ?_⟩
      rw [vd_len A (by omega), vd_len B (by omega)]
    rintro i ⟨h3, h4, h5⟩
    refine ⟨fun h6 => ?_, fun h6 => ?_⟩
    · simp only [decide_eq_true_eq] at h6
      obtain ⟨n, rfl⟩ : ∃ n : Nat, i = n := ⟨i.toNat, by omega⟩
      rw [show ((n : Int) + 1).toNat = n + 1 by omega] at h5
      simp only [Int.toNat_natCast]
      have hx := hA n
      have hy := hB n
      refine ⟨by omega, by omega, by omega, by omega, fun h7 => ?_, fun h7 => ⟨by omega, by omega, by omega, by omega, fun h8 => ?_, fun h8 => ?_⟩⟩
      · simp only [decide_eq_true_eq] at h7
        rw [cmp_lt (vd_less n hA h5 (by omega))] at hk; exact hk
      · simp only [decide_eq_true_eq] at h8
        rw [cmp_gt (vd_less n hB h5.symm (by omega))] at hk; exact hk
      · simp only [decide_eq_false_iff_not] at h7 h8
        rw [w64 (by omega)]
        refine ⟨⟨by omega, by omega, ?_⟩, by show (((n : Int) - 1) + 1).toNat < ((n : Int) + 1).toNat; omega⟩
        rw [show ((n : Int) - 1 + 1).toNat = n by omega, vd_step A n, vd_step B n, h5, show A.getD n 0 = B.getD n 0 by omega]
    · simp only [decide_eq_false_iff_not] at h6
      obtain rfl : i = -1 := by omega
      simp only [show ((-1 : Int) + 1).toNat = 0 from rfl, vd_all] at h5
      rw [h5, cmp_eq] at hk; exact hk

/-! toUint -/
theorem or_comm64 (x y : Int) : bitop .or .u64 x y = bitop .or .u64 y x := by
  unfold bitop
  simp only [BitVec.or_comm]
theorem or64_zero {x : Int} (h : L x) : bitop .or .u64 0 x = x := by
  have := or64' (h := 0) (l := x) ⟨by decide, by decide⟩ h
  simpa using this
theorem p_ntoUint (a : List Int) (K : TV → Prop) (h : ctoUint.T [.d (.ints .u32 a)] K) : vc_ntoUint a K := by
  obtain ⟨⟨ha, hl⟩, hk⟩ := h
  unfold vc_ntoUint
  refine ⟨fun v i => 0 ≤ i ∧ i ≤ a.length ∧ v = vt a i.toNat, fun v i => a.length - i.toNat, ⟨by omega, by omega, by simp [vt_zero]⟩, ?_⟩
  rintro v i ⟨h1, h2, h3⟩
  refine ⟨fun h4 => ?_, fun h4 => ?_⟩
  · simp only [decide_eq_true_eq] at h4
    have h5 : i = 0 ∨ i = 1 := by omega
    have hx := ha i.toNat
    have hx0 := ha 0
    rcases h5 with rfl | rfl
    · simp only [show Int.toNat 0 = 0 from rfl] at *
      have e1 : IntKind.wrap .i64 (32 * 0) = 0 := w64 (by omega)
      have e2 : IntKind.wrap .i64 (0 + 1) = 1 := w64 (by omega)
      rw [e1, e2]
      simp only [show Int.toNat 0 = 0 from rfl, show min 0 64 = 0 from rfl, Int.pow_zero, Int.mul_one]
      rw [wu64 (x := a.getD 0 0) (by omega), wu64 (x := a.getD 0 0) (by omega), h3, vt_zero]
      have e3 : bitop .or .u64 (((0 : Nat) : Int)) (a.getD 0 0) = a.getD 0 0 := or64_zero hx
      rw [e3]
      refine ⟨by omega, by omega, by omega, ⟨by omega, by omega, ?_⟩, ?_⟩
      · show a.getD 0 0 = ((vt a 1 : Nat) : Int)
        rw [vt_succ, vt_zero, Nat.pow_zero, Nat.one_mul, Nat.zero_add]; omega
      · show a.length - Int.toNat 1 < a.length - Int.toNat 0
        simp only [show Int.toNat 1 = 1 from rfl, show Int.toNat 0 = 0 from rfl]; omega
    · simp only [show Int.toNat 1 = 1 from rfl] at *
      have e1 : IntKind.wrap .i64 (32 * 1) = 32 := w64 (by omega)
      have e2 : IntKind.wrap .i64 (1 + 1) = 2 := w64 (by omega)
      rw [e1, e2]
      simp only [show Int.toNat 32 = 32 from rfl, show min 32 64 = 32 from rfl, show (2 : Int) ^ 32 = 4294967296 from rfl]
      rw [wu64 (x := a.getD 1 0) (by omega), wu64 (x := a.getD 1 0 * 4294967296) (by omega), or_comm64]
      have hv : vt a 1 = (a.getD 0 0).toNat := by rw [vt_succ, vt_zero]; simp
      have e3 : bitop .or .u64 (a.getD 1 0 * 4294967296) v = a.getD 1 0 * 4294967296 + v := or64' hx ⟨by omega, by rw [h3, hv]; omega⟩
      rw [e3]
      refine ⟨by omega, by omega, by omega, ⟨by omega, by omega, ?_⟩, ?_⟩
      · show a.getD 1 0 * 4294967296 + v = ((vt a 2 : Nat) : Int)
        rw [vt_succ, hv, h3, hv, Nat.pow_one]; omega
      · show a.length - Int.toNat 2 < a.length - Int.toNat 1
        simp only [show Int.toNat 2 = 2 from rfl, show Int.toNat 1 = 1 from rfl]; omega
  · simp only [decide_eq_false_iff_not] at h4
    obtain rfl : i = a.length := by omega
    rw [h3, Int.toNat_natCast, vt_all a (Nat.le_refl _)]; exact hk

/-! Sub32 -/
theorem msbI (x : Int) (h : L x) : (BitVec.ofInt 32 x).msb = decide (2147483648 ≤ x) := by
  rw [BitVec.msb_eq_decide, BitVec.toNat_ofInt]
  unfold L at h
  have e : (x % ((2 ^ 32 : Nat) : Int)).toNat = x.toNat := by
    rw [Int.emod_eq_of_lt h.1 (by have : ((2 ^ 32 : Nat) : Int) = 4294967296 := rfl
                                  omega)]
  rw [e]
  have e2 : (2 ^ (32 - 1) : Nat) = 2147483648 := rfl
  rw [e2, decide_eq_decide]
  omega
theorem bv32 (B : BitVec 32) : L (B.toNat : Int) ∧ BitVec.ofInt 32 (B.toNat : Int) = B := by
  refine ⟨⟨by omega, ?_⟩, ?_⟩
  · have := B.isLt
    have e2 : (2 ^ 32 : Nat) = 4294967296 := rfl
    rw [e2] at this
    omega
  · rw [BitVec.ofInt_natCast, BitVec.ofNat_toNat, BitVec.setWidth_eq]
theorem and32 (x y : Int) : bitop .and .u32 x y = ((BitVec.ofInt 32 x &&& BitVec.ofInt 32 y).toNat : Int) := wu32 (bv32 _).1
theorem or32 (x y : Int) : bitop .or .u32 x y = ((BitVec.ofInt 32 x ||| BitVec.ofInt 32 y).toNat : Int) := wu32 (bv32 _).1
theorem xor32 (x y : Int) : bitop .xor .u32 x y = ((BitVec.ofInt 32 x ^^^ BitVec.ofInt 32 y).toNat : Int) := wu32 (bv32 _).1
theorem top32 (B : BitVec 32) : ((B.toNat : Int)).fdiv 2147483648 = if B.msb then 1 else 0 := by
  have h := (bv32 B).1
  have h2 := msbI _ h
  rw [(bv32 B).2] at h2
  unfold L at h
  rw [Int.fdiv_eq_ediv_of_nonneg _ (by omega), h2]
  by_cases h3 : 2147483648 ≤ (B.toNat : Int)
  · rw [decide_eq_true h3, if_pos rfl]; omega
  · rw [decide_eq_false h3, if_neg (by simp)]; omega

theorem p_nbitsSub32 (x y c : Int) (K : TV → Prop) (h : cSub32.T [.d (.int .u32 x), .d (.int .u32 y), .d (.int .u32 c)] K) : vc_nbitsSub32 x y c K := by
  obtain ⟨⟨hx, hy, h1, h2⟩, hk⟩ := h
  unfold vc_nbitsSub32
  have hd : IntKind.wrap .u32 (IntKind.wrap .u32 (x - y) - c) = (x - y - c) % 4294967296 := by
    rw [wu32m, wu32m, Int.emod_sub_emod]
  rw [hd]
  have hD : L ((x - y - c) % 4294967296) := by unfold L; omega
  have hb : ((bitop .or .u32 (bitop .and .u32 (bitop .xor .u32 4294967295 x) y) (bitop .and .u32 (bitop .xor .u32 4294967295 (bitop .xor .u32 x y)) ((x - y - c) % 4294967296))).fdiv 2147483648) = if x - y - c < 0 then 1 else 0 := by
    rw [or32, and32, and32, xor32, xor32 x y, xor32, (bv32 _).2, (bv32 _).2, (bv32 _).2, (bv32 _).2, (bv32 _).2, top32]
    rw [BitVec.msb_or, BitVec.msb_and, BitVec.msb_and, BitVec.msb_xor, BitVec.msb_xor, BitVec.msb_xor, msbI x hx, msbI y hy, msbI _ hD, msbI 4294967295 ⟨by decide, by decide⟩]
    unfold L at hx hy
    by_cases a1 : 2147483648 ≤ x <;> by_cases a2 : 2147483648 ≤ y <;> by_cases a3 : 2147483648 ≤ (x - y - c) % 4294967296 <;> simp [a1, a2, a3] <;> omega
  rw [hb]
  exact hk

theorem p_nSub (a b : List Int) (K : TV → Prop) (h : cSub.T [.d (.ints .u32 a), .d (.ints .u32 b)] K) : vc_nSub a b K := by
  obtain ⟨⟨ha, hb⟩, hk⟩ := h
  have hal := few_len ha
  have hbl := few_len hb
  have ha2 := ha.2
  have hb2 := hb.2
  unfold vc_nSub
  have hcm : cmp (val a) (val b) < 0 ↔ val a < val b := by
    unfold cmp
    split
    · simp [*]
    · split <;> simp [*]
  refine ⟨⟨ha, hb⟩, fun h => ?_, fun h => ⟨⟨ha.1, by omega⟩, ⟨hb.1, by omega⟩, ?_⟩⟩
  · simp only [decide_eq_true_eq] at h
    rw [if_pos (hcm.1 h), if_pos (hcm.1 h)] at hk; exact hk
  · simp only [decide_eq_false_iff_not] at h
    have hge : ¬ val a < val b := fun hx => h (hcm.2 hx)
    rw [if_neg hge, if_neg hge] at hk
    have hBA : (limbs (val b)).length ≤ (limbs (val a)).length := by
      rw [limbs_len]
      have := limbs_len.1 (Nat.le_refl (limbs (val a)).length)
      omega
    have hA := limbs_lim (val a)
    have hB := limbs_lim (val b)
    have hva := val_limbs (val a)
    have hvb := val_limbs (val b)
    rw [← hva, ← hvb] at hk hge
    generalize limbs (val a) = A at *
    generalize limbs (val b) = B at *
    rw [Int.toNat_natCast]
    refine ⟨by omega, by omega, by omega, fun c i o => Lim o ∧ o.length = A.length ∧ 0 ≤ c ∧ c ≤ 1 ∧ 0 ≤ i ∧ i ≤ A.length ∧ vt o i.toNat + vt B i.toNat = vt A i.toNat + 4294967296 ^ i.toNat * c.toNat,
      fun c i o => A.length - i.toNat, ⟨Lim.zeros _, by simp, by omega, by omega, by omega, by omega, by simp [vt_zero]⟩, ?_⟩
    rintro c i o ⟨ho, hol, hc0, hc1, hi0, hi1, hsum⟩
    refine ⟨fun h => ?_, fun h => ?_⟩
    · simp only [decide_eq_true_eq] at h
      obtain ⟨n, rfl⟩ : ∃ n : Nat, i = n := ⟨i.toNat, by omega⟩
      simp only [Int.toNat_natCast] at hsum ⊢
      refine ⟨by omega, by omega, fun e => e = B.getD n 0, ⟨fun h2 => ?_, fun h2 => ⟨trivial, ?_⟩⟩, ?_⟩
      · simp only [decide_eq_true_eq] at h2
        exact ⟨by omega, h2, trivial, rfl⟩
      · simp only [decide_eq_false_iff_not] at h2
        simp [List.getD_eq_getElem?_getD, List.getElem?_eq_none (show B.length ≤ n by omega)]
      · rintro e rfl
        have hx1 := hA n
        have hy1 := hB n
        refine ⟨⟨hx1, hy1, hc0, hc1⟩, by omega, by omega, ?_⟩
        have e2 : IntKind.wrap .i64 ((n : Int) + 1) = ((n + 1 : Nat) : Int) := by rw [w64 (by omega)]; omega
        rw [e2]
        refine ⟨⟨ho.set _ (by omega), by simpa using hol, by split <;> omega, by split <;> omega, by omega, by omega, ?_⟩, by simp; omega⟩
        rw [Int.toNat_natCast, vt_succ, vt_succ, vt_succ, vt_set _ _ _ _ (Nat.le_refl _), getD_set, if_pos ⟨rfl, by omega⟩]
        have e3 : ((A.getD n 0 - B.getD n 0 - c) % 4294967296).toNat + (B.getD n 0).toNat + c.toNat = (A.getD n 0).toNat + 4294967296 * (if A.getD n 0 - B.getD n 0 - c < 0 then (1 : Int) else 0).toNat := by
          split <;> omega
        rw [Nat.pow_succ]
        generalize ((A.getD n 0 - B.getD n 0 - c) % 4294967296).toNat = p at e3 ⊢
        generalize (if A.getD n 0 - B.getD n 0 - c < 0 then (1 : Int) else 0).toNat = q at e3 ⊢
        generalize 4294967296 ^ n = w at hsum ⊢
        have e4 : w * (p + (B.getD n 0).toNat + c.toNat) = w * ((A.getD n 0).toNat + 4294967296 * q) := by rw [e3]
        simp only [Nat.mul_add] at e4 ⊢
        rw [Nat.mul_assoc]
        omega
    · simp only [decide_eq_false_iff_not] at h
      obtain rfl : i = A.length := by omega
      simp only [Int.toNat_natCast] at hsum
      refine ⟨⟨ho, by omega⟩, ?_⟩
      rw [vt_all A (Nat.le_refl _), vt_all B hBA, vt_all o (by omega)] at hsum
      have hlt := val_lt ho
      rw [hol] at hlt
      have hc : c.toNat = 0 := by
        rcases Nat.eq_zero_or_pos c.toNat with h0 | h0
        · exact h0
        · have : c.toNat = 1 := by omega
          rw [this] at hsum; omega
      rw [hc] at hsum
      have : val o = val A - val B := by omega
      rw [this]; exact hk
end Nt
end
