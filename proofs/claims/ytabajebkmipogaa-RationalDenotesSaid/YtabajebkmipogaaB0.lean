/- Helpers for the statements: facts about numbers and fractions as lists of limbs, and the proofs of the conditions. Condition: none. -/
import Derived.Test.YtabajebkmipogaaA2
import Derived.Lib.Bytealg
section
/- NtA: numbers as lists of limbs of 32 bits: their value, and the list of a value. -/
namespace Nt


/-- The value of limbs. -/
def val : List Int → Nat
  | [] => 0
  | x :: r => x.toNat + 4294967296 * val r
/-- Limbs that are limbs. -/
def Lim (a : List Int) : Prop := ∀ i, 0 ≤ a.getD i 0 ∧ a.getD i 0 < 4294967296

/-- The limbs of a value, without zeros at the end. -/
def limbs (n : Nat) : List Int := if h : n = 0 then [] else ((n % 4294967296 : Nat) : Int) :: limbs (n / 4294967296)
  termination_by n
  decreasing_by exact Nat.div_lt_self (Nat.pos_of_ne_zero h) (by decide)

/-- The value of the first i limbs. -/
def vt (a : List Int) (i : Nat) : Nat := val (a.take i)

theorem Lim.mem {a : List Int} (h : Lim a) {x : Int} (hx : x ∈ a) : 0 ≤ x ∧ x < 4294967296 := by
  obtain ⟨i, hi, rfl⟩ := List.mem_iff_getElem.1 hx
  have := h i
  simpa [List.getD_eq_getElem?_getD, hi] using this
theorem Lim.of {a : List Int} (h : ∀ x ∈ a, 0 ≤ x ∧ x < 4294967296) : Lim a := fun i => by
  by_cases hi : i < a.length
  · have := h _ (List.getElem_mem hi)
    simpa [List.getD_eq_getElem?_getD, hi] using this
  · simp [List.getD_eq_getElem?_getD, hi]
theorem Lim.nil : Lim [] := .of (by simp)
theorem Lim.cons {x : Int} {r : List Int} (h : Lim (x :: r)) : (0 ≤ x ∧ x < 4294967296) ∧ Lim r := ⟨h.mem (by simp), .of fun y hy => h.mem (by simp [hy])⟩
theorem Lim.mk {x : Int} {r : List Int} (hx : 0 ≤ x ∧ x < 4294967296) (h : Lim r) : Lim (x :: r) := .of fun y hy => by
  rcases List.mem_cons.1 hy with rfl | hy
  · exact hx
  · exact h.mem hy
theorem Lim.take {a : List Int} (h : Lim a) (n : Nat) : Lim (a.take n) := .of fun _ hx => h.mem (List.mem_of_mem_take hx)
theorem Lim.drop {a : List Int} (h : Lim a) (n : Nat) : Lim (a.drop n) := .of fun _ hx => h.mem (List.mem_of_mem_drop hx)
theorem Lim.append {a b : List Int} (h : Lim a) (k : Lim b) : Lim (a ++ b) := .of fun x hx => by
  rcases List.mem_append.1 hx with hx | hx
  · exact h.mem hx
  · exact k.mem hx
theorem Lim.set {a : List Int} (h : Lim a) (i : Nat) {x : Int} (hx : 0 ≤ x ∧ x < 4294967296) : Lim (a.set i x) := .of fun y hy => by
  rcases List.mem_or_eq_of_mem_set hy with hy | rfl
  · exact h.mem hy
  · exact hx
theorem Lim.zeros (n : Nat) : Lim (List.replicate n 0) := .of fun x hx => by rw [List.eq_of_mem_replicate hx]; decide

theorem val_append (a b : List Int) : val (a ++ b) = val a + 4294967296 ^ a.length * val b := by
  induction a with
  | nil => simp [val]
  | cons x r ih =>
    simp only [List.cons_append, val, ih, List.length_cons, Nat.pow_succ, Nat.mul_add]
    rw [Nat.mul_comm (4294967296 ^ r.length) 4294967296, Nat.mul_assoc]; omega
theorem val_zeros (n : Nat) : val (List.replicate n 0) = 0 := by
  induction n with
  | zero => rfl
  | succ n ih => simp [List.replicate_succ, val, ih]
theorem val_lt {a : List Int} (h : Lim a) : val a < 4294967296 ^ a.length := by
  induction a with
  | nil => simp [val]
  | cons x r ih =>
    obtain ⟨⟨h1, h2⟩, hr⟩ := h.cons
    have := ih hr
    simp only [val, List.length_cons, Nat.pow_succ]
    have hx : x.toNat < 4294967296 := by omega
    omega

theorem vt_zero (a : List Int) : vt a 0 = 0 := by simp [vt, val]
theorem vt_succ (a : List Int) (i : Nat) : vt a (i + 1) = vt a i + 4294967296 ^ i * (a.getD i 0).toNat := by
  unfold vt
  by_cases h : i < a.length
  · rw [List.take_succ_eq_append_getElem h, val_append]
    simp only [val, List.length_take, Nat.min_eq_left (Nat.le_of_lt h), Nat.mul_zero, Nat.add_zero]
    simp [List.getD_eq_getElem?_getD, h]
  · rw [List.take_of_length_le (by omega), List.take_of_length_le (by omega)]
    simp [List.getD_eq_getElem?_getD, h]
theorem vt_all (a : List Int) {i : Nat} (h : a.length ≤ i) : vt a i = val a := by unfold vt; rw [List.take_of_length_le h]
theorem vt_set (a : List Int) (i j : Nat) (v : Int) (h : i ≤ j) : vt (a.set j v) i = vt a i := by
  unfold vt; rw [List.take_set_of_le h]
theorem vt_lt {a : List Int} (h : Lim a) (i : Nat) : vt a i < 4294967296 ^ i := by
  unfold vt
  have := val_lt (h.take i)
  refine Nat.lt_of_lt_of_le this (Nat.pow_le_pow_right (by decide) ?_)
  simp; omega

theorem limbs_zero : limbs 0 = [] := by unfold limbs; simp
theorem limbs_pos {n : Nat} (h : n ≠ 0) : limbs n = ((n % 4294967296 : Nat) : Int) :: limbs (n / 4294967296) := by rw [limbs]; simp [h]
theorem val_limbs (n : Nat) : val (limbs n) = n := by
  induction n using Nat.strongRecOn with
  | _ n ih =>
    by_cases h : n = 0
    · subst h; rw [limbs_zero]; rfl
    · rw [limbs_pos h, val, ih _ (Nat.div_lt_self (Nat.pos_of_ne_zero h) (by decide))]
      omega
theorem limbs_lim (n : Nat) : Lim (limbs n) := by
  induction n using Nat.strongRecOn with
  | _ n ih =>
    by_cases h : n = 0
    · subst h; rw [limbs_zero]; exact .nil
    · rw [limbs_pos h]
      have : n % 4294967296 < 4294967296 := Nat.mod_lt _ (by decide)
      exact .mk ⟨by omega, by omega⟩ (ih _ (Nat.div_lt_self (Nat.pos_of_ne_zero h) (by decide)))
theorem limbs_inj {a b : Nat} : limbs a = limbs b ↔ a = b := ⟨fun h => by rw [← val_limbs a, ← val_limbs b, h], fun h => h ▸ rfl⟩
theorem limbs_nil {n : Nat} : limbs n = [] ↔ n = 0 := by
  rw [← limbs_zero, limbs_inj]
theorem limbs_len {n k : Nat} : (limbs n).length ≤ k ↔ n < 4294967296 ^ k := by
  induction k generalizing n with
  | zero =>
    simp only [Nat.le_zero, List.length_eq_zero_iff, limbs_nil, Nat.pow_zero]; omega
  | succ k ih =>
    by_cases h : n = 0
    · subst h; rw [limbs_zero]; simp [Nat.pow_pos]
    · rw [limbs_pos h, List.length_cons, Nat.add_le_add_iff_right, ih, Nat.pow_succ]
      exact Nat.div_lt_iff_lt_mul (by decide)
/-- No zero at the end. -/
def Norm (a : List Int) : Prop := a.getLast? ≠ some 0
theorem limbs_norm (n : Nat) : Norm (limbs n) := by
  induction n using Nat.strongRecOn with
  | _ n ih =>
    by_cases h : n = 0
    · subst h; rw [limbs_zero]; simp [Norm]
    · have hl := ih _ (Nat.div_lt_self (Nat.pos_of_ne_zero h) (by decide : 1 < 4294967296))
      rw [limbs_pos h]
      unfold Norm at hl ⊢
      rw [List.getLast?_cons]
      cases hx : (limbs (n / 4294967296)).getLast? with
      | none =>
        have : limbs (n / 4294967296) = [] := by simpa using hx
        rw [limbs_nil] at this
        have h2 := Nat.mod_add_div n 4294967296
        rw [this] at h2
        simp only [Option.getD_none, ne_eq, Option.some.injEq]
        omega
      | some y => rw [hx] at hl; simpa using hl
/-- Limbs without a zero at the end are the limbs of their value. -/
theorem limbs_val : ∀ {a : List Int}, Lim a → Norm a → limbs (val a) = a
  | [], _, _ => limbs_zero
  | x :: r, h, hn => by
    obtain ⟨⟨h1, h2⟩, hr⟩ := h.cons
    have hnr : Norm r := by
      unfold Norm at hn ⊢
      rw [List.getLast?_cons] at hn
      intro hx; rw [hx] at hn; simp at hn
    have ih := limbs_val hr hnr
    have hm : val (x :: r) % 4294967296 = x.toNat := by
      rw [val, Nat.add_mul_mod_self_left, Nat.mod_eq_of_lt (by omega)]
    have hd : val (x :: r) / 4294967296 = val r := by
      rw [val, Nat.add_mul_div_left _ _ (by decide), Nat.div_eq_of_lt (by omega), Nat.zero_add]
    have hne : val (x :: r) ≠ 0 := by
      intro h0
      rw [h0] at hm hd
      simp at hm hd
      have : r = [] := by rw [← ih, ← hd]; exact limbs_zero
      subst this
      unfold Norm at hn
      simp at hn
      omega
    rw [limbs_pos hne, hm, hd, ih, Int.toNat_of_nonneg h1]
/-- A zero at the end may go. -/
theorem val_dropLast {a : List Int} (h : a.getD (a.length - 1) 0 = 0) : val (a.take (a.length - 1)) = val a := by
  by_cases he : a.length = 0
  · have : a = [] := List.length_eq_zero_iff.1 he
    subst this; rfl
  · have := vt_succ a (a.length - 1)
    rw [h, show a.length - 1 + 1 = a.length by omega, vt_all a (Nat.le_refl _)] at this
    simpa [vt] using this.symm
theorem norm_of_last {a : List Int} (h : a = [] ∨ a.getD (a.length - 1) 0 ≠ 0) : Norm a := by
  unfold Norm
  rcases h with rfl | h
  · simp
  · rw [List.getLast?_eq_getElem?]
    intro hx
    apply h
    rw [List.getD_eq_getElem?_getD, hx]; rfl

end Nt
end

section
/- NtD: decimal texts of numbers. -/
namespace Nt

/-- The digits of a number, as bytes, the last one first; none for 0. -/
def decR (n : Nat) : List Int := if h : n = 0 then [] else ((48 + n % 10 : Nat) : Int) :: decR (n / 10)
  termination_by n
  decreasing_by exact Nat.div_lt_self (Nat.pos_of_ne_zero h) (by decide)
/-- The decimal text. -/
def dec (n : Nat) : List Int := if n = 0 then [48] else (decR n).reverse

theorem decR_zero : decR 0 = [] := by unfold decR; simp
theorem decR_pos {n : Nat} (h : n ≠ 0) : decR n = ((48 + n % 10 : Nat) : Int) :: decR (n / 10) := by rw [decR]; simp [h]
theorem decR_nil {n : Nat} : decR n = [] ↔ n = 0 := by
  by_cases h : n = 0
  · subst h; simp [decR_zero]
  · rw [decR_pos h]; simp [h]
theorem decR_len {n k : Nat} : (decR n).length ≤ k ↔ n < 10 ^ k := by
  induction k generalizing n with
  | zero =>
    simp only [Nat.le_zero, List.length_eq_zero_iff, decR_nil, Nat.pow_zero]; omega
  | succ k ih =>
    by_cases h : n = 0
    · subst h; rw [decR_zero]; simp [Nat.pow_pos]
    · rw [decR_pos h, List.length_cons, Nat.add_le_add_iff_right, ih, Nat.pow_succ]
      exact Nat.div_lt_iff_lt_mul (by decide)
theorem decR_mem {n : Nat} {x : Int} (h : x ∈ decR n) : 48 ≤ x ∧ x < 58 := by
  induction n using Nat.strongRecOn with
  | _ n ih =>
    by_cases h0 : n = 0
    · subst h0; rw [decR_zero] at h; cases h
    · rw [decR_pos h0, List.mem_cons] at h
      rcases h with rfl | h
      · omega
      · exact ih _ (Nat.div_lt_self (Nat.pos_of_ne_zero h0) (by decide)) h
/-- So many digits at most. -/
theorem dec_few {a : List Int} (h : Lim a) : (decR (val a)).length ≤ 10 * a.length := by
  rw [decR_len]
  refine Nat.lt_of_lt_of_le (val_lt h) ?_
  rw [Nat.pow_mul]
  exact Nat.pow_le_pow_left (by decide) _

/-- The number that digits spell, behind a number. -/
def pv (acc : Nat) : List Int → Nat
  | [] => acc
  | x :: r => pv (acc * 10 + (x - 48).toNat) r
/-- Is it digits alone, at least one? -/
def isDec (s : List Int) : Bool := decide (s ≠ []) && s.all fun x => decide (48 ≤ x ∧ x ≤ 57)
/-- The error of a text that is read as a number. -/
def parseE (s : List Int) : Int := if isDec s = true then (if 60 < s.length then 9 else 0) else 4
/-- The limbs of the number. -/
def parseV (s : List Int) : List Int := if isDec s = true ∧ s.length ≤ 60 then limbs (pv 0 s) else []
theorem pv_append (acc : Nat) (a b : List Int) : pv acc (a ++ b) = pv (pv acc a) b := by
  induction a generalizing acc with
  | nil => rfl
  | cons x r ih => exact ih _
theorem pv_rev (n : Nat) : pv 0 (decR n).reverse = n := by
  induction n using Nat.strongRecOn with
  | _ n ih =>
    by_cases h : n = 0
    · subst h; rw [decR_zero]; rfl
    · rw [decR_pos h, List.reverse_cons, pv_append, ih _ (Nat.div_lt_self (Nat.pos_of_ne_zero h) (by decide))]
      show n / 10 * 10 + (((48 + n % 10 : Nat) : Int) - 48).toNat = n
      omega
theorem pv_dec (n : Nat) : pv 0 (dec n) = n := by
  unfold dec
  split
  · rename_i h; rw [h]; rfl
  · exact pv_rev n
end Nt
end

section
/- NtB: contracts of the functions over natural numbers. -/

namespace Go.Vc
def spec (S : List TV → Option (Prop × TV)) : List TV → (TV → Prop) → Prop := fun args K => match S args with | some (p, r) => p ∧ K r | none => False
theorem spec_ok (S : List TV → Option (Prop × TV)) : TOk (spec S) := by
  refine ⟨fun args K K' hk h => ?_, fun args K h => ?_⟩
  · unfold spec at h ⊢
    split
    · rename_i he; rw [he] at h; exact ⟨h.1, hk _ h.2⟩
    · rename_i he; rw [he] at h; exact h
  · unfold spec at h
    split at h
    · exact ⟨_, h.2⟩
    · exact h.elim
/-- The same for a function whose first argument is lent. -/
def lspec (S : TV → OB → List TV → Option (Prop × OB × TV)) : TV → OB → List TV → (OB → TV → Prop) → Prop := fun a o args K => match S a o args with | some (p, o', r) => p ∧ K o' r | none => False
theorem lspec_ok (S : TV → OB → List TV → Option (Prop × OB × TV)) : LOk (lspec S) := by
  refine ⟨fun a o args K K' hk h => ?_, fun a o args K h => ?_⟩
  · unfold lspec at h ⊢
    split
    · rename_i he; rw [he] at h; exact ⟨h.1, hk _ _ h.2⟩
    · rename_i he; rw [he] at h; exact h
  · unfold lspec at h
    split at h
    · exact ⟨_, _, h.2⟩
    · exact h.elim
end Go.Vc

namespace Nt
open Go Go.Vc
/-- A limb. -/
def L (x : Int) : Prop := 0 ≤ x ∧ x < 4294967296
/-- Few limbs. -/
def Few (a : List Int) : Prop := Lim a ∧ a.length ≤ 100000000
abbrev vu (x : Int) : TV := .d (.int .u32 x)
abbrev vi (x : Int) : TV := .d (.int .i64 x)

def cMul32.T := spec fun | [.d (.int .u32 x), .d (.int .u32 y)] => some (L x ∧ L y, .tup [.d (.int .u32 (x * y / 4294967296)), .d (.int .u32 (x * y % 4294967296))]) | _ => none
def cAdd32.T := spec fun | [.d (.int .u32 x), .d (.int .u32 y), .d (.int .u32 c)] => some (L x ∧ L y ∧ 0 ≤ c ∧ c ≤ 1, .tup [.d (.int .u32 ((x + y + c) % 4294967296)), .d (.int .u32 ((x + y + c) / 4294967296))]) | _ => none
def cSub32.T := spec fun | [.d (.int .u32 x), .d (.int .u32 y), .d (.int .u32 c)] => some (L x ∧ L y ∧ 0 ≤ c ∧ c ≤ 1, .tup [.d (.int .u32 ((x - y - c) % 4294967296)), .d (.int .u32 (if x - y - c < 0 then 1 else 0))]) | _ => none
def cDiv32.T := spec fun | [.d (.int .u32 h), .d (.int .u32 l), .d (.int .u32 y)] => some (L h ∧ L l ∧ L y ∧ h < y, .tup [.d (.int .u32 ((h * 4294967296 + l) / y)), .d (.int .u32 ((h * 4294967296 + l) % y))]) | _ => none
def ctrim.T := spec fun | [.d (.ints .u32 a)] => some (Lim a ∧ a.length ≤ 1000000000, .d (.ints .u32 (limbs (val a)))) | _ => none
def cClone.T := spec fun | [.d (.ints .u32 a)] => some (a.length ≤ 100000000, .d (.ints .u32 a)) | _ => none
def cTrim.T := spec fun | [.d (.ints .u32 a)] => some (Few a, .d (.ints .u32 (limbs (val a)))) | _ => none
def cfromUint.T := spec fun | [.d (.int .u64 u)] => some (0 ≤ u ∧ u < 18446744073709551616, .d (.ints .u32 (limbs u.toNat))) | _ => none
def ctoUint.T := spec fun | [.d (.ints .u32 a)] => some (Lim a ∧ a.length ≤ 2, .d (.int .u64 (val a))) | _ => none
def cmp (a b : Nat) : Int := if a < b then -1 else if a = b then 0 else 1
def cCmp.T := spec fun | [.d (.ints .u32 a), .d (.ints .u32 b)] => some (Few a ∧ Few b, .d (.int .i64 (cmp (val a) (val b)))) | _ => none
def cAdd.T := spec fun | [.d (.ints .u32 a), .d (.ints .u32 b)] => some (Few a ∧ Few b, .d (.ints .u32 (limbs (val a + val b)))) | _ => none
def cMul.T := spec fun | [.d (.ints .u32 a), .d (.ints .u32 b)] => some (Few a ∧ Few b, .d (.ints .u32 (limbs (val a * val b)))) | _ => none
def cSub.T := spec fun | [.d (.ints .u32 a), .d (.ints .u32 b)] => some (Few a ∧ Few b, .tup [.d (.ints .u32 (if val a < val b then [] else limbs (val a - val b))), .d (.int .i64 (if val a < val b then 1 else 0))]) | _ => none
def cshort.T := spec fun | [.d (.ints .u32 a), .d (.int .u32 d)] => some (Few a ∧ L d ∧ 0 < d, .tup [.d (.ints .u32 (limbs (val a / d.toNat))), .d (.int .u32 (val a % d.toNat : Nat))]) | _ => none
def cDivMod.T := spec fun | [.d (.ints .u32 a), .d (.ints .u32 b)] => some (Few a ∧ Few b, .tup [.d (.ints .u32 (if val b = 0 then [] else limbs (val a / val b))), .d (.ints .u32 (if val b = 0 then [] else limbs (val a % val b))), .d (.int .i64 (if val b = 0 then 3 else 0))]) | _ => none
def cPow.T := spec fun | [.d (.ints .u32 a), .d (.int .i64 n)] => some (Lim a ∧ a.length ≤ 1000000, .tup [.d (.ints .u32 (if 0 ≤ n ∧ n ≤ 64 then limbs (val a ^ n.toNat) else [])), .d (.int .i64 (if 0 ≤ n ∧ n ≤ 64 then 0 else 1))]) | _ => none
def cSame.T := spec fun | [.d (.ints .u32 a), .d (.ints .u32 b)] => some (a.length ≤ 1000000000 ∧ b.length ≤ 1000000000, .d (.bool (decide (a = b)))) | _ => none
/-- A quotient by at most one limb. -/
def cDivMod1.T := spec fun | [.d (.ints .u32 a), .d (.ints .u32 b)] => some (Few a ∧ Few b ∧ val b < 4294967296, .tup [.d (.ints .u32 (if val b = 0 then [] else limbs (val a / val b))), .d (.ints .u32 (if val b = 0 then [] else limbs (val a % val b))), .d (.int .i64 (if val b = 0 then 3 else 0))]) | _ => none
def cReverse.T := lspec fun | .vec n, .ints .u8 l, [] => (match Nat.beq n 0 with | true => some (l.length ≤ 1000000000000, .ints .u8 l.reverse, .tup []) | false => none) | _, _, _ => none
def cFormat.T := spec fun | [.d (.ints .u32 a)] => some (Few a, .d (.str (dec (val a)))) | _ => none
def cawake.T := spec fun | [] => some (True, .d (.bool true)) | _ => none
def cNaturalPowers.T := spec fun | [.d (.ints .u32 a), .d (.int .u8 m), .d (.int .u8 n)] => some (Lim a ∧ 0 ≤ m ∧ 0 ≤ n, .d (.bool true)) | _ => none
def cFromInt.T := spec fun | [.d (.int .i64 n)] => some (-9223372036854775808 ≤ n ∧ n < 9223372036854775808, .tup [.d (.ints .u32 (if n < 0 then [] else limbs n.toNat)), .d (.int .i64 (if n < 0 then 1 else 0))]) | _ => none
def cInt.T := spec fun | [.d (.ints .u32 a)] => some (Few a, .tup [.d (.int .i64 (if val a < 9223372036854775808 then val a else 0)), .d (.int .i64 (if val a < 9223372036854775808 then 0 else 1))]) | _ => none
def cParse.T := spec fun | [.d (.str s)] => some (s.length ≤ 1000000000000, .tup [.d (.ints .u32 (parseV s)), .d (.int .i64 (parseE s))]) | _ => none
def clawshort.T := spec fun | [.d (.ints .u32 a)] => some (True, .d (.bool (decide (a.length ≤ 24)))) | _ => none
def cNaturalRing.T := spec fun | [.d (.ints .u32 a), .d (.ints .u32 b), .d (.ints .u32 c)] => some (Lim a ∧ Lim b ∧ Lim c, .d (.bool true)) | _ => none
def cNaturalInts.T := spec fun | [.d (.int .i64 m), .d (.int .i64 n)] => some (-9223372036854775808 ≤ m ∧ m < 9223372036854775808 ∧ -9223372036854775808 ≤ n ∧ n < 9223372036854775808, .d (.bool true)) | _ => none
def cNaturalDigits.T := spec fun | [.d (.ints .u32 a), .d (.int .u8 z)] => some (Lim a ∧ 0 ≤ z ∧ z < 256, .d (.bool true)) | _ => none
/-- The bits of a number. -/
def blen (n : Nat) : Nat := if n = 0 then 0 else n.log2 + 1
/-- So many limbs of a number, the last ones zero perhaps. -/
def lowl (n : Nat) : Nat → List Int
  | 0 => []
  | k + 1 => ((n % 4294967296 : Nat) : Int) :: lowl (n / 4294967296) k
def cLen32.T := spec fun | [.d (.int .u32 x)] => some (L x, .d (.int .i64 (blen x.toNat))) | _ => none
def cLeading.T := spec fun | [.d (.int .u32 x)] => some (L x, .d (.int .i64 (32 - blen x.toNat))) | _ => none
def cshift.T := fspec fun | [.d (.ints .u32 a), .d (.int .u64 k)] => some (Few a ∧ 0 ≤ k ∧ k < 32, .ints .u32 (lowl (val a * 2 ^ k.toNat) (a.length + 1))) | _ => none
def clong.T := spec fun | [.d (.ints .u32 a), .d (.ints .u32 b)] => some (Few a ∧ Few b ∧ Norm a ∧ Norm b ∧ 2 ≤ b.length ∧ val b ≤ val a, .tup [.d (.ints .u32 (limbs (val a / val b))), .d (.ints .u32 (limbs (val a % val b)))]) | _ => none
def cGCD.T := spec fun | [.d (.ints .u32 a), .d (.ints .u32 b)] => some (Few a ∧ Few b, .d (.ints .u32 (limbs (Nat.gcd (val a) (val b))))) | _ => none
def cNaturalDivides.T := spec fun | [.d (.ints .u32 a), .d (.ints .u32 b)] => some (Lim a ∧ Lim b, .d (.bool true)) | _ => none
def cNaturalCommon.T := spec fun | [.d (.ints .u32 a), .d (.ints .u32 b), .d (.ints .u32 c)] => some (Lim a ∧ Lim b ∧ Lim c, .d (.bool true)) | _ => none
def crefTrim.T := fspec fun | [.d (.ints .u32 a)] => some (Few a, .ints .u32 (limbs (val a))) | _ => none
def crefCmp.T := spec fun | [.d (.ints .u32 a), .d (.ints .u32 b)] => some (Few a ∧ Few b, .d (.int .i64 (cmp (val a) (val b)))) | _ => none
def crefAdd.T := spec fun | [.d (.ints .u32 a), .d (.ints .u32 b)] => some (Lim a ∧ Lim b ∧ a.length ≤ 90000000 ∧ b.length ≤ 90000000, .d (.ints .u32 (limbs (val a + val b)))) | _ => none
def crefMul.T := spec fun | [.d (.ints .u32 a), .d (.ints .u32 b)] => some (Lim a ∧ Lim b ∧ a.length ≤ 40000000 ∧ b.length ≤ 40000000, .d (.ints .u32 (limbs (val a * val b)))) | _ => none
def crefSub.T := spec fun | [.d (.ints .u32 a), .d (.ints .u32 b)] => some (Few a ∧ Few b, .tup [.d (.ints .u32 (if val a < val b then [] else limbs (val a - val b))), .d (.int .i64 (if val a < val b then 1 else 0))]) | _ => none
def crefshort.T := spec fun | [.d (.ints .u32 a), .d (.int .u32 d)] => some (Few a ∧ L d ∧ 0 < d, .tup [.d (.ints .u32 (limbs (val a / d.toNat))), .d (.int .u32 (val a % d.toNat : Nat))]) | _ => none
def crefDivMod.T := spec fun | [.d (.ints .u32 a), .d (.ints .u32 b)] => some (Lim a ∧ a.length ≤ 90000000 ∧ Lim b ∧ b.length ≤ 90000000, .tup [.d (.ints .u32 (if val b = 0 then [] else limbs (val a / val b))), .d (.ints .u32 (if val b = 0 then [] else limbs (val a % val b))), .d (.int .i64 (if val b = 0 then 3 else 0))]) | _ => none
/-- A quotient by at most one limb. -/
def crefDivMod1.T := spec fun | [.d (.ints .u32 a), .d (.ints .u32 b)] => some (Few a ∧ Few b ∧ val b < 4294967296, .tup [.d (.ints .u32 (if val b = 0 then [] else limbs (val a / val b))), .d (.ints .u32 (if val b = 0 then [] else limbs (val a % val b))), .d (.int .i64 (if val b = 0 then 3 else 0))]) | _ => none
def crefGCD.T := spec fun | [.d (.ints .u32 a), .d (.ints .u32 b)] => some (Lim a ∧ a.length ≤ 90000000 ∧ Lim b ∧ b.length ≤ 90000000, .d (.ints .u32 (limbs (Nat.gcd (val a) (val b))))) | _ => none
def crefFromInt.T := spec fun | [.d (.int .i64 n)] => some (-9223372036854775808 ≤ n ∧ n < 9223372036854775808, .tup [.d (.ints .u32 (if n < 0 then [] else limbs n.toNat)), .d (.int .i64 (if n < 0 then 1 else 0))]) | _ => none
def crefInt.T := spec fun | [.d (.ints .u32 a)] => some (Few a, .tup [.d (.int .i64 (if val a < 9223372036854775808 then val a else 0)), .d (.int .i64 (if val a < 9223372036854775808 then 0 else 1))]) | _ => none
def crefParse.T := spec fun | [.d (.str s)] => some (s.length ≤ 1000000000000, .tup [.d (.ints .u32 (parseV s)), .d (.int .i64 (parseE s))]) | _ => none
def crefPow.T := spec fun | [.d (.ints .u32 a), .d (.int .i64 n)] => some (Lim a ∧ a.length ≤ 500000, .tup [.d (.ints .u32 (if 0 ≤ n ∧ n ≤ 64 then limbs (val a ^ n.toNat) else [])), .d (.int .i64 (if 0 ≤ n ∧ n ≤ 64 then 0 else 1))]) | _ => none
def crefFormat.T := spec fun | [.d (.ints .u32 a)] => some (Few a, .d (.str (dec (val a)))) | _ => none
def crefshift.T := fspec fun | [.d (.ints .u32 a), .d (.int .i64 k)] => some (Few a ∧ 0 ≤ k ∧ k < 32, .ints .u32 (lowl (val a * 2 ^ k.toNat) (a.length + 1))) | _ => none
def crefunshift.T := spec fun | [.d (.ints .u32 a), .d (.int .i64 k)] => some (Few a ∧ 0 ≤ k ∧ k < 32, .d (.ints .u32 (limbs (val a / 2 ^ k.toNat)))) | _ => none
def clawagrees.T := spec fun | [.d (.ints .u32 a), .d (.ints .u32 b)] => some (Lim a ∧ Lim b ∧ a.length ≤ 1000000 ∧ b.length ≤ 1000000, .d (.bool true)) | _ => none
/-- One digit of a quotient: it is given, and so many times v is taken from u. -/
def crefdigit.T := lspec fun | .vec z, .ints .u32 u, [.d (.ints .u32 v), .d (.int .i64 j)] => (match Nat.beq z 0 with | true => some (Few u ∧ Few v ∧ 2 ≤ v.length ∧ 0 ≤ j ∧ j.toNat + v.length < u.length ∧ 2147483648 * 4294967296 ^ (v.length - 1) ≤ val v ∧ val u < 4294967296 ^ (j.toNat + 1) * val v, .ints .u32 (lowl (val u - 4294967296 ^ j.toNat * ((val u / 4294967296 ^ j.toNat) / val v * val v)) u.length), .d (.int .u32 ((val u / 4294967296 ^ j.toNat) / val v : Nat))) | false => none) | _, _, _ => none
def cNaturalRaw.T := spec fun | [.d (.ints .u32 a), .d (.ints .u32 b), .d (.int .i64 n), .d (.str _)] => some (Lim a ∧ Lim b ∧ -9223372036854775808 ≤ n ∧ n < 9223372036854775808, .d (.bool true)) | _ => none
end Nt
end

section
/- VcEx: functions without a body: the search of a byte in a string. -/
namespace Go.Vc
/-- The first place of a byte, or -1. -/
def idx (c : Int) : List Int → Int
  | [] => -1
  | x :: r => if x = c then 0 else if idx c r = -1 then -1 else idx c r + 1
def cIdx.T := spec fun | [.d (.str s), .d (.int .u8 c)] => some (0 ≤ c ∧ c < 256, .d (.int .i64 (idx c s))) | _ => none

theorem idx_bytes (c : UInt8) : ∀ l : List UInt8, Go.Lib.indexByte l c = idx (c.toNat : Int) (l.map fun b => (b.toNat : Int))
  | [] => rfl
  | b :: l => by
    unfold Go.Lib.indexByte
    rw [List.map_cons, idx, ← idx_bytes c l]
    by_cases h : b = c
    · subst h; simp
    · have h2 : (b == c) = false := by simpa using h
      have h3 : ¬ ((b.toNat : Int) = (c.toNat : Int)) := fun e => h (UInt8.toNat_inj.1 (by omega))
      rw [h2, if_neg h3]
      simp

theorem ext_idx {P : Program} {f : FuncId} {fn : Func} (hf : P.funcs[f]? = some fn) (hname : (fn.name == "runtime.NumGoroutine") = false) (hb : fn.body.isNone = true) (hn : Extern.findNext fn = none)
    (he : Extern.find fn = some Extern.BytealgIndexByte.indexByte) : SoundExt P f (dataCon [.sc .str, .sc (.int .u8)] cIdx.T) := by
  intro N ρ own w args vals K h ho hl ha
  unfold dataCon at h
  split at h
  rotate_left
  · exact h.elim
  rename_i h1 h2
  have hlen : [Ty.sc .str, .sc (.int .u8)].length = args.length := by have := Nat.eq_of_beq_eq_true h1; rwa [llen_eq, llen_eq] at this
  obtain ⟨s1, s2, s3, s4⟩ := freezeAll_spec args own ho
  unfold cIdx.T spec at h
  split at h
  rotate_left
  · exact h.elim
  rename_i p r he1
  obtain ⟨hp, hk⟩ := h
  match args, hlen with
  | [x, y], _ =>
  have hx := s1.treads (ha 0 (by simp))
  have hy := s1.treads (ha 1 (by simp))
  simp only [List.getD_cons_zero, List.getD_cons_succ] at hx hy
  have e0 : Ty.normR own [Ty.sc .str, .sc (.int .u8)] [x, y] = [Ty.norm own (.sc .str) x, Ty.norm own (.sc (.int .u8)) y] := rfl
  rw [e0] at he1
  have exy : ∃ s c, x = .d (.str s) ∧ y = .d (.int .u8 c) ∧ p = (0 ≤ c ∧ c < 256) ∧ r = .d (.int .i64 (idx c s)) := by
    have nx : Ty.norm own (.sc .str) x = x := by cases x <;> rfl
    have ny : Ty.norm own (.sc (.int .u8)) y = y := by cases y <;> rfl
    rw [nx, ny] at he1
    simp only at he1
    split at he1
    · rename_i s c hh
      simp only [List.cons.injEq, and_true] at hh
      simp only [Option.some.injEq, Prod.mk.injEq] at he1
      exact ⟨s, c, hh.1, hh.2, he1.1.symm ▸ rfl, he1.2.symm⟩
    · cases he1
  obtain ⟨s, c, rfl, rfl, rfl, rfl⟩ := exy
  obtain ⟨bs, hb1, hb2⟩ := reads_str hx
  have hc := reads_int hy
  obtain ⟨hc0, hc1⟩ := hp
  have hv : vals = #[.string bs, .int .u8 c] := by
    have hl2 : vals.size = 2 := by simpa using hl.symm
    apply Array.ext
    · simp [hl2]
    · intro i h1 h2
      have : i < 2 := by simpa using h2
      match i, this with
      | 0, _ => simpa [Array.getD_eq_getD_getElem?, hl2] using hb1
      | 1, _ => simpa [Array.getD_eq_getD_getElem?, hl2] using hc
  subst hv
  have hc2 : (c.toNat.toUInt8.toNat : Int) = c := by
    have : c.toNat < 256 := by omega
    rw [Nat.toUInt8, UInt8.toNat_ofNat_of_lt' (by simpa using this)]
    omega
  refine ⟨.int .i64 (idx c s), w, _, _, ρ, ?_, hk, s1, int_reads _ _⟩
  rw [run_callFunc_extern hf hname hb hn he, Go.Lib.run_indexByteString, Result.andThen_ok, idx_bytes, hc2, ← hb2]
end Go.Vc
end

section
/- The shapes of arguments, printed. -/
open Go Go.Vc
theorem Nt.cMul32_el {M : List TV → (TV → Prop) → Prop} (H : ∀ x y K, Nt.cMul32.T [.d (.int .u32 x), .d (.int .u32 y)] K → M [.d (.int .u32 x), .d (.int .u32 y)] K) (args : List TV) (K : TV → Prop) (hyp : Nt.cMul32.T args K) : M args K := by
  have e : ∃ x y, args = [.d (.int .u32 x), .d (.int .u32 y)] := by
    unfold Nt.cMul32.T spec at hyp
    split at hyp
    · rename_i he
      simp only at he
      split at he
      · exact ⟨_, _, rfl⟩
      · cases he
    · exact hyp.elim
  obtain ⟨x, y, eqn⟩ := e
  subst eqn
  exact H x y K hyp
theorem Nt.cAdd32_el {M : List TV → (TV → Prop) → Prop} (H : ∀ x y c K, Nt.cAdd32.T [.d (.int .u32 x), .d (.int .u32 y), .d (.int .u32 c)] K → M [.d (.int .u32 x), .d (.int .u32 y), .d (.int .u32 c)] K) (args : List TV) (K : TV → Prop) (hyp : Nt.cAdd32.T args K) : M args K := by
  have e : ∃ x y c, args = [.d (.int .u32 x), .d (.int .u32 y), .d (.int .u32 c)] := by
    unfold Nt.cAdd32.T spec at hyp
    split at hyp
    · rename_i he
      simp only at he
      split at he
      · exact ⟨_, _, _, rfl⟩
      · cases he
    · exact hyp.elim
  obtain ⟨x, y, c, eqn⟩ := e
  subst eqn
  exact H x y c K hyp
theorem Nt.cSub32_el {M : List TV → (TV → Prop) → Prop} (H : ∀ x y c K, Nt.cSub32.T [.d (.int .u32 x), .d (.int .u32 y), .d (.int .u32 c)] K → M [.d (.int .u32 x), .d (.int .u32 y), .d (.int .u32 c)] K) (args : List TV) (K : TV → Prop) (hyp : Nt.cSub32.T args K) : M args K := by
  have e : ∃ x y c, args = [.d (.int .u32 x), .d (.int .u32 y), .d (.int .u32 c)] := by
    unfold Nt.cSub32.T spec at hyp
    split at hyp
    · rename_i he
      simp only at he
      split at he
      · exact ⟨_, _, _, rfl⟩
      · cases he
    · exact hyp.elim
  obtain ⟨x, y, c, eqn⟩ := e
  subst eqn
  exact H x y c K hyp
theorem Nt.cDiv32_el {M : List TV → (TV → Prop) → Prop} (H : ∀ h l y K, Nt.cDiv32.T [.d (.int .u32 h), .d (.int .u32 l), .d (.int .u32 y)] K → M [.d (.int .u32 h), .d (.int .u32 l), .d (.int .u32 y)] K) (args : List TV) (K : TV → Prop) (hyp : Nt.cDiv32.T args K) : M args K := by
  have e : ∃ h l y, args = [.d (.int .u32 h), .d (.int .u32 l), .d (.int .u32 y)] := by
    unfold Nt.cDiv32.T spec at hyp
    split at hyp
    · rename_i he
      simp only at he
      split at he
      · exact ⟨_, _, _, rfl⟩
      · cases he
    · exact hyp.elim
  obtain ⟨h, l, y, eqn⟩ := e
  subst eqn
  exact H h l y K hyp
theorem Nt.ctrim_el {M : List TV → (TV → Prop) → Prop} (H : ∀ a K, Nt.ctrim.T [.d (.ints .u32 a)] K → M [.d (.ints .u32 a)] K) (args : List TV) (K : TV → Prop) (hyp : Nt.ctrim.T args K) : M args K := by
  have e : ∃ a, args = [.d (.ints .u32 a)] := by
    unfold Nt.ctrim.T spec at hyp
    split at hyp
    · rename_i he
      simp only at he
      split at he
      · exact ⟨_, rfl⟩
      · cases he
    · exact hyp.elim
  obtain ⟨a, eqn⟩ := e
  subst eqn
  exact H a K hyp
theorem Nt.cClone_el {M : List TV → (TV → Prop) → Prop} (H : ∀ a K, Nt.cClone.T [.d (.ints .u32 a)] K → M [.d (.ints .u32 a)] K) (args : List TV) (K : TV → Prop) (hyp : Nt.cClone.T args K) : M args K := by
  have e : ∃ a, args = [.d (.ints .u32 a)] := by
    unfold Nt.cClone.T spec at hyp
    split at hyp
    · rename_i he
      simp only at he
      split at he
      · exact ⟨_, rfl⟩
      · cases he
    · exact hyp.elim
  obtain ⟨a, eqn⟩ := e
  subst eqn
  exact H a K hyp
theorem Nt.cTrim_el {M : List TV → (TV → Prop) → Prop} (H : ∀ a K, Nt.cTrim.T [.d (.ints .u32 a)] K → M [.d (.ints .u32 a)] K) (args : List TV) (K : TV → Prop) (hyp : Nt.cTrim.T args K) : M args K := by
  have e : ∃ a, args = [.d (.ints .u32 a)] := by
    unfold Nt.cTrim.T spec at hyp
    split at hyp
    · rename_i he
      simp only at he
      split at he
      · exact ⟨_, rfl⟩
      · cases he
    · exact hyp.elim
  obtain ⟨a, eqn⟩ := e
  subst eqn
  exact H a K hyp
theorem Nt.cfromUint_el {M : List TV → (TV → Prop) → Prop} (H : ∀ u K, Nt.cfromUint.T [.d (.int .u64 u)] K → M [.d (.int .u64 u)] K) (args : List TV) (K : TV → Prop) (hyp : Nt.cfromUint.T args K) : M args K := by
  have e : ∃ u, args = [.d (.int .u64 u)] := by
    unfold Nt.cfromUint.T spec at hyp
    split at hyp
    · rename_i he
      simp only at he
      split at he
      · exact ⟨_, rfl⟩
      · cases he
    · exact hyp.elim
  obtain ⟨u, eqn⟩ := e
  subst eqn
  exact H u K hyp
theorem Nt.ctoUint_el {M : List TV → (TV → Prop) → Prop} (H : ∀ a K, Nt.ctoUint.T [.d (.ints .u32 a)] K → M [.d (.ints .u32 a)] K) (args : List TV) (K : TV → Prop) (hyp : Nt.ctoUint.T args K) : M args K := by
  have e : ∃ a, args = [.d (.ints .u32 a)] := by
    unfold Nt.ctoUint.T spec at hyp
    split at hyp
    · rename_i he
      simp only at he
      split at he
      · exact ⟨_, rfl⟩
      · cases he
    · exact hyp.elim
  obtain ⟨a, eqn⟩ := e
  subst eqn
  exact H a K hyp
theorem Nt.cCmp_el {M : List TV → (TV → Prop) → Prop} (H : ∀ a b K, Nt.cCmp.T [.d (.ints .u32 a), .d (.ints .u32 b)] K → M [.d (.ints .u32 a), .d (.ints .u32 b)] K) (args : List TV) (K : TV → Prop) (hyp : Nt.cCmp.T args K) : M args K := by
  have e : ∃ a b, args = [.d (.ints .u32 a), .d (.ints .u32 b)] := by
    unfold Nt.cCmp.T spec at hyp
    split at hyp
    · rename_i he
      simp only at he
      split at he
      · exact ⟨_, _, rfl⟩
      · cases he
    · exact hyp.elim
  obtain ⟨a, b, eqn⟩ := e
  subst eqn
  exact H a b K hyp
theorem Nt.cAdd_el {M : List TV → (TV → Prop) → Prop} (H : ∀ a b K, Nt.cAdd.T [.d (.ints .u32 a), .d (.ints .u32 b)] K → M [.d (.ints .u32 a), .d (.ints .u32 b)] K) (args : List TV) (K : TV → Prop) (hyp : Nt.cAdd.T args K) : M args K := by
  have e : ∃ a b, args = [.d (.ints .u32 a), .d (.ints .u32 b)] := by
    unfold Nt.cAdd.T spec at hyp
    split at hyp
    · rename_i he
      simp only at he
      split at he
      · exact ⟨_, _, rfl⟩
      · cases he
    · exact hyp.elim
  obtain ⟨a, b, eqn⟩ := e
  subst eqn
  exact H a b K hyp
theorem Nt.cMul_el {M : List TV → (TV → Prop) → Prop} (H : ∀ a b K, Nt.cMul.T [.d (.ints .u32 a), .d (.ints .u32 b)] K → M [.d (.ints .u32 a), .d (.ints .u32 b)] K) (args : List TV) (K : TV → Prop) (hyp : Nt.cMul.T args K) : M args K := by
  have e : ∃ a b, args = [.d (.ints .u32 a), .d (.ints .u32 b)] := by
    unfold Nt.cMul.T spec at hyp
    split at hyp
    · rename_i he
      simp only at he
      split at he
      · exact ⟨_, _, rfl⟩
      · cases he
    · exact hyp.elim
  obtain ⟨a, b, eqn⟩ := e
  subst eqn
  exact H a b K hyp
theorem Nt.cSub_el {M : List TV → (TV → Prop) → Prop} (H : ∀ a b K, Nt.cSub.T [.d (.ints .u32 a), .d (.ints .u32 b)] K → M [.d (.ints .u32 a), .d (.ints .u32 b)] K) (args : List TV) (K : TV → Prop) (hyp : Nt.cSub.T args K) : M args K := by
  have e : ∃ a b, args = [.d (.ints .u32 a), .d (.ints .u32 b)] := by
    unfold Nt.cSub.T spec at hyp
    split at hyp
    · rename_i he
      simp only at he
      split at he
      · exact ⟨_, _, rfl⟩
      · cases he
    · exact hyp.elim
  obtain ⟨a, b, eqn⟩ := e
  subst eqn
  exact H a b K hyp
theorem Nt.cshort_el {M : List TV → (TV → Prop) → Prop} (H : ∀ a d K, Nt.cshort.T [.d (.ints .u32 a), .d (.int .u32 d)] K → M [.d (.ints .u32 a), .d (.int .u32 d)] K) (args : List TV) (K : TV → Prop) (hyp : Nt.cshort.T args K) : M args K := by
  have e : ∃ a d, args = [.d (.ints .u32 a), .d (.int .u32 d)] := by
    unfold Nt.cshort.T spec at hyp
    split at hyp
    · rename_i he
      simp only at he
      split at he
      · exact ⟨_, _, rfl⟩
      · cases he
    · exact hyp.elim
  obtain ⟨a, d, eqn⟩ := e
  subst eqn
  exact H a d K hyp
theorem Nt.cDivMod_el {M : List TV → (TV → Prop) → Prop} (H : ∀ a b K, Nt.cDivMod.T [.d (.ints .u32 a), .d (.ints .u32 b)] K → M [.d (.ints .u32 a), .d (.ints .u32 b)] K) (args : List TV) (K : TV → Prop) (hyp : Nt.cDivMod.T args K) : M args K := by
  have e : ∃ a b, args = [.d (.ints .u32 a), .d (.ints .u32 b)] := by
    unfold Nt.cDivMod.T spec at hyp
    split at hyp
    · rename_i he
      simp only at he
      split at he
      · exact ⟨_, _, rfl⟩
      · cases he
    · exact hyp.elim
  obtain ⟨a, b, eqn⟩ := e
  subst eqn
  exact H a b K hyp
theorem Nt.cReverse_el {M : TV → OB → List TV → (OB → TV → Prop) → Prop} (H : ∀ l K, Nt.cReverse.T (.vec 0) (.ints .u8 l) [] K → M (.vec 0) (.ints .u8 l) [] K) (a0 : TV) (b0 : OB) (args : List TV) (K : OB → TV → Prop) (hyp : Nt.cReverse.T a0 b0 args K) : M a0 b0 args K := by
  have e : ∃ l, a0 = .vec 0 ∧ b0 = .ints .u8 l ∧ args = [] := by
    unfold Nt.cReverse.T lspec at hyp
    split at hyp
    · rename_i he
      simp only at he
      split at he
      · split at he
        · rename_i hb
          obtain rfl := Nat.eq_of_beq_eq_true hb
          exact ⟨_, rfl, rfl, rfl⟩
        · cases he
      · cases he
    · exact hyp.elim
  obtain ⟨l, e0, e1, e2⟩ := e
  subst e0 e1 e2
  exact H l K hyp
theorem Nt.cFormat_el {M : List TV → (TV → Prop) → Prop} (H : ∀ a K, Nt.cFormat.T [.d (.ints .u32 a)] K → M [.d (.ints .u32 a)] K) (args : List TV) (K : TV → Prop) (hyp : Nt.cFormat.T args K) : M args K := by
  have e : ∃ a, args = [.d (.ints .u32 a)] := by
    unfold Nt.cFormat.T spec at hyp
    split at hyp
    · rename_i he
      simp only at he
      split at he
      · exact ⟨_, rfl⟩
      · cases he
    · exact hyp.elim
  obtain ⟨a, eqn⟩ := e
  subst eqn
  exact H a K hyp
theorem Nt.cParse_el {M : List TV → (TV → Prop) → Prop} (H : ∀ s K, Nt.cParse.T [.d (.str s)] K → M [.d (.str s)] K) (args : List TV) (K : TV → Prop) (hyp : Nt.cParse.T args K) : M args K := by
  have e : ∃ s, args = [.d (.str s)] := by
    unfold Nt.cParse.T spec at hyp
    split at hyp
    · rename_i he
      simp only at he
      split at he
      · exact ⟨_, rfl⟩
      · cases he
    · exact hyp.elim
  obtain ⟨s, eqn⟩ := e
  subst eqn
  exact H s K hyp
theorem Nt.cLen32_el {M : List TV → (TV → Prop) → Prop} (H : ∀ x K, Nt.cLen32.T [.d (.int .u32 x)] K → M [.d (.int .u32 x)] K) (args : List TV) (K : TV → Prop) (hyp : Nt.cLen32.T args K) : M args K := by
  have e : ∃ x, args = [.d (.int .u32 x)] := by
    unfold Nt.cLen32.T spec at hyp
    split at hyp
    · rename_i he
      simp only at he
      split at he
      · exact ⟨_, rfl⟩
      · cases he
    · exact hyp.elim
  obtain ⟨x, eqn⟩ := e
  subst eqn
  exact H x K hyp
theorem Nt.cLeading_el {M : List TV → (TV → Prop) → Prop} (H : ∀ x K, Nt.cLeading.T [.d (.int .u32 x)] K → M [.d (.int .u32 x)] K) (args : List TV) (K : TV → Prop) (hyp : Nt.cLeading.T args K) : M args K := by
  have e : ∃ x, args = [.d (.int .u32 x)] := by
    unfold Nt.cLeading.T spec at hyp
    split at hyp
    · rename_i he
      simp only at he
      split at he
      · exact ⟨_, rfl⟩
      · cases he
    · exact hyp.elim
  obtain ⟨x, eqn⟩ := e
  subst eqn
  exact H x K hyp
theorem Nt.cshift_el {M : List TV → (OB → Prop) → Prop} (H : ∀ a k K, Nt.cshift.T [.d (.ints .u32 a), .d (.int .u64 k)] K → M [.d (.ints .u32 a), .d (.int .u64 k)] K) (args : List TV) (K : OB → Prop) (hyp : Nt.cshift.T args K) : M args K := by
  have e : ∃ a k, args = [.d (.ints .u32 a), .d (.int .u64 k)] := by
    unfold Nt.cshift.T fspec at hyp
    split at hyp
    · rename_i he
      simp only at he
      split at he
      · exact ⟨_, _, rfl⟩
      · cases he
    · exact hyp.elim
  obtain ⟨a, k, eqn⟩ := e
  subst eqn
  exact H a k K hyp
theorem Nt.clong_el {M : List TV → (TV → Prop) → Prop} (H : ∀ a b K, Nt.clong.T [.d (.ints .u32 a), .d (.ints .u32 b)] K → M [.d (.ints .u32 a), .d (.ints .u32 b)] K) (args : List TV) (K : TV → Prop) (hyp : Nt.clong.T args K) : M args K := by
  have e : ∃ a b, args = [.d (.ints .u32 a), .d (.ints .u32 b)] := by
    unfold Nt.clong.T spec at hyp
    split at hyp
    · rename_i he
      simp only at he
      split at he
      · exact ⟨_, _, rfl⟩
      · cases he
    · exact hyp.elim
  obtain ⟨a, b, eqn⟩ := e
  subst eqn
  exact H a b K hyp
theorem Nt.cGCD_el {M : List TV → (TV → Prop) → Prop} (H : ∀ a b K, Nt.cGCD.T [.d (.ints .u32 a), .d (.ints .u32 b)] K → M [.d (.ints .u32 a), .d (.ints .u32 b)] K) (args : List TV) (K : TV → Prop) (hyp : Nt.cGCD.T args K) : M args K := by
  have e : ∃ a b, args = [.d (.ints .u32 a), .d (.ints .u32 b)] := by
    unfold Nt.cGCD.T spec at hyp
    split at hyp
    · rename_i he
      simp only at he
      split at he
      · exact ⟨_, _, rfl⟩
      · cases he
    · exact hyp.elim
  obtain ⟨a, b, eqn⟩ := e
  subst eqn
  exact H a b K hyp
theorem Nt.crefTrim_el {M : List TV → (OB → Prop) → Prop} (H : ∀ a K, Nt.crefTrim.T [.d (.ints .u32 a)] K → M [.d (.ints .u32 a)] K) (args : List TV) (K : OB → Prop) (hyp : Nt.crefTrim.T args K) : M args K := by
  have e : ∃ a, args = [.d (.ints .u32 a)] := by
    unfold Nt.crefTrim.T fspec at hyp
    split at hyp
    · rename_i he
      simp only at he
      split at he
      · exact ⟨_, rfl⟩
      · cases he
    · exact hyp.elim
  obtain ⟨a, eqn⟩ := e
  subst eqn
  exact H a K hyp
theorem Nt.crefCmp_el {M : List TV → (TV → Prop) → Prop} (H : ∀ a b K, Nt.crefCmp.T [.d (.ints .u32 a), .d (.ints .u32 b)] K → M [.d (.ints .u32 a), .d (.ints .u32 b)] K) (args : List TV) (K : TV → Prop) (hyp : Nt.crefCmp.T args K) : M args K := by
  have e : ∃ a b, args = [.d (.ints .u32 a), .d (.ints .u32 b)] := by
    unfold Nt.crefCmp.T spec at hyp
    split at hyp
    · rename_i he
      simp only at he
      split at he
      · exact ⟨_, _, rfl⟩
      · cases he
    · exact hyp.elim
  obtain ⟨a, b, eqn⟩ := e
  subst eqn
  exact H a b K hyp
theorem Nt.crefAdd_el {M : List TV → (TV → Prop) → Prop} (H : ∀ a b K, Nt.crefAdd.T [.d (.ints .u32 a), .d (.ints .u32 b)] K → M [.d (.ints .u32 a), .d (.ints .u32 b)] K) (args : List TV) (K : TV → Prop) (hyp : Nt.crefAdd.T args K) : M args K := by
  have e : ∃ a b, args = [.d (.ints .u32 a), .d (.ints .u32 b)] := by
    unfold Nt.crefAdd.T spec at hyp
    split at hyp
    · rename_i he
      simp only at he
      split at he
      · exact ⟨_, _, rfl⟩
      · cases he
    · exact hyp.elim
  obtain ⟨a, b, eqn⟩ := e
  subst eqn
  exact H a b K hyp
theorem Nt.crefMul_el {M : List TV → (TV → Prop) → Prop} (H : ∀ a b K, Nt.crefMul.T [.d (.ints .u32 a), .d (.ints .u32 b)] K → M [.d (.ints .u32 a), .d (.ints .u32 b)] K) (args : List TV) (K : TV → Prop) (hyp : Nt.crefMul.T args K) : M args K := by
  have e : ∃ a b, args = [.d (.ints .u32 a), .d (.ints .u32 b)] := by
    unfold Nt.crefMul.T spec at hyp
    split at hyp
    · rename_i he
      simp only at he
      split at he
      · exact ⟨_, _, rfl⟩
      · cases he
    · exact hyp.elim
  obtain ⟨a, b, eqn⟩ := e
  subst eqn
  exact H a b K hyp
theorem Nt.crefSub_el {M : List TV → (TV → Prop) → Prop} (H : ∀ a b K, Nt.crefSub.T [.d (.ints .u32 a), .d (.ints .u32 b)] K → M [.d (.ints .u32 a), .d (.ints .u32 b)] K) (args : List TV) (K : TV → Prop) (hyp : Nt.crefSub.T args K) : M args K := by
  have e : ∃ a b, args = [.d (.ints .u32 a), .d (.ints .u32 b)] := by
    unfold Nt.crefSub.T spec at hyp
    split at hyp
    · rename_i he
      simp only at he
      split at he
      · exact ⟨_, _, rfl⟩
      · cases he
    · exact hyp.elim
  obtain ⟨a, b, eqn⟩ := e
  subst eqn
  exact H a b K hyp
theorem Nt.crefshort_el {M : List TV → (TV → Prop) → Prop} (H : ∀ a d K, Nt.crefshort.T [.d (.ints .u32 a), .d (.int .u32 d)] K → M [.d (.ints .u32 a), .d (.int .u32 d)] K) (args : List TV) (K : TV → Prop) (hyp : Nt.crefshort.T args K) : M args K := by
  have e : ∃ a d, args = [.d (.ints .u32 a), .d (.int .u32 d)] := by
    unfold Nt.crefshort.T spec at hyp
    split at hyp
    · rename_i he
      simp only at he
      split at he
      · exact ⟨_, _, rfl⟩
      · cases he
    · exact hyp.elim
  obtain ⟨a, d, eqn⟩ := e
  subst eqn
  exact H a d K hyp
theorem Nt.crefDivMod_el {M : List TV → (TV → Prop) → Prop} (H : ∀ a b K, Nt.crefDivMod.T [.d (.ints .u32 a), .d (.ints .u32 b)] K → M [.d (.ints .u32 a), .d (.ints .u32 b)] K) (args : List TV) (K : TV → Prop) (hyp : Nt.crefDivMod.T args K) : M args K := by
  have e : ∃ a b, args = [.d (.ints .u32 a), .d (.ints .u32 b)] := by
    unfold Nt.crefDivMod.T spec at hyp
    split at hyp
    · rename_i he
      simp only at he
      split at he
      · exact ⟨_, _, rfl⟩
      · cases he
    · exact hyp.elim
  obtain ⟨a, b, eqn⟩ := e
  subst eqn
  exact H a b K hyp
theorem Nt.crefGCD_el {M : List TV → (TV → Prop) → Prop} (H : ∀ a b K, Nt.crefGCD.T [.d (.ints .u32 a), .d (.ints .u32 b)] K → M [.d (.ints .u32 a), .d (.ints .u32 b)] K) (args : List TV) (K : TV → Prop) (hyp : Nt.crefGCD.T args K) : M args K := by
  have e : ∃ a b, args = [.d (.ints .u32 a), .d (.ints .u32 b)] := by
    unfold Nt.crefGCD.T spec at hyp
    split at hyp
    · rename_i he
      simp only at he
      split at he
      · exact ⟨_, _, rfl⟩
      · cases he
    · exact hyp.elim
  obtain ⟨a, b, eqn⟩ := e
  subst eqn
  exact H a b K hyp
theorem Nt.crefFromInt_el {M : List TV → (TV → Prop) → Prop} (H : ∀ n K, Nt.crefFromInt.T [.d (.int .i64 n)] K → M [.d (.int .i64 n)] K) (args : List TV) (K : TV → Prop) (hyp : Nt.crefFromInt.T args K) : M args K := by
  have e : ∃ n, args = [.d (.int .i64 n)] := by
    unfold Nt.crefFromInt.T spec at hyp
    split at hyp
    · rename_i he
      simp only at he
      split at he
      · exact ⟨_, rfl⟩
      · cases he
    · exact hyp.elim
  obtain ⟨n, eqn⟩ := e
  subst eqn
  exact H n K hyp
theorem Nt.crefParse_el {M : List TV → (TV → Prop) → Prop} (H : ∀ s K, Nt.crefParse.T [.d (.str s)] K → M [.d (.str s)] K) (args : List TV) (K : TV → Prop) (hyp : Nt.crefParse.T args K) : M args K := by
  have e : ∃ s, args = [.d (.str s)] := by
    unfold Nt.crefParse.T spec at hyp
    split at hyp
    · rename_i he
      simp only at he
      split at he
      · exact ⟨_, rfl⟩
      · cases he
    · exact hyp.elim
  obtain ⟨s, eqn⟩ := e
  subst eqn
  exact H s K hyp
theorem Nt.crefFormat_el {M : List TV → (TV → Prop) → Prop} (H : ∀ a K, Nt.crefFormat.T [.d (.ints .u32 a)] K → M [.d (.ints .u32 a)] K) (args : List TV) (K : TV → Prop) (hyp : Nt.crefFormat.T args K) : M args K := by
  have e : ∃ a, args = [.d (.ints .u32 a)] := by
    unfold Nt.crefFormat.T spec at hyp
    split at hyp
    · rename_i he
      simp only at he
      split at he
      · exact ⟨_, rfl⟩
      · cases he
    · exact hyp.elim
  obtain ⟨a, eqn⟩ := e
  subst eqn
  exact H a K hyp
theorem Nt.crefshift_el {M : List TV → (OB → Prop) → Prop} (H : ∀ a k K, Nt.crefshift.T [.d (.ints .u32 a), .d (.int .i64 k)] K → M [.d (.ints .u32 a), .d (.int .i64 k)] K) (args : List TV) (K : OB → Prop) (hyp : Nt.crefshift.T args K) : M args K := by
  have e : ∃ a k, args = [.d (.ints .u32 a), .d (.int .i64 k)] := by
    unfold Nt.crefshift.T fspec at hyp
    split at hyp
    · rename_i he
      simp only at he
      split at he
      · exact ⟨_, _, rfl⟩
      · cases he
    · exact hyp.elim
  obtain ⟨a, k, eqn⟩ := e
  subst eqn
  exact H a k K hyp
theorem Nt.crefunshift_el {M : List TV → (TV → Prop) → Prop} (H : ∀ a k K, Nt.crefunshift.T [.d (.ints .u32 a), .d (.int .i64 k)] K → M [.d (.ints .u32 a), .d (.int .i64 k)] K) (args : List TV) (K : TV → Prop) (hyp : Nt.crefunshift.T args K) : M args K := by
  have e : ∃ a k, args = [.d (.ints .u32 a), .d (.int .i64 k)] := by
    unfold Nt.crefunshift.T spec at hyp
    split at hyp
    · rename_i he
      simp only at he
      split at he
      · exact ⟨_, _, rfl⟩
      · cases he
    · exact hyp.elim
  obtain ⟨a, k, eqn⟩ := e
  subst eqn
  exact H a k K hyp
theorem Nt.crefdigit_el {M : TV → OB → List TV → (OB → TV → Prop) → Prop} (H : ∀ u v j K, Nt.crefdigit.T (.vec 0) (.ints .u32 u) [.d (.ints .u32 v), .d (.int .i64 j)] K → M (.vec 0) (.ints .u32 u) [.d (.ints .u32 v), .d (.int .i64 j)] K) (a0 : TV) (b0 : OB) (args : List TV) (K : OB → TV → Prop) (hyp : Nt.crefdigit.T a0 b0 args K) : M a0 b0 args K := by
  have e : ∃ u v j, a0 = .vec 0 ∧ b0 = .ints .u32 u ∧ args = [.d (.ints .u32 v), .d (.int .i64 j)] := by
    unfold Nt.crefdigit.T lspec at hyp
    split at hyp
    · rename_i he
      simp only at he
      split at he
      · split at he
        · rename_i hb
          obtain rfl := Nat.eq_of_beq_eq_true hb
          exact ⟨_, _, _, rfl, rfl, rfl⟩
        · cases he
      · cases he
    · exact hyp.elim
  obtain ⟨u, v, j, e0, e1, e2⟩ := e
  subst e0 e1 e2
  exact H u v j K hyp
theorem Nt.cSame_el {M : List TV → (TV → Prop) → Prop} (H : ∀ a b K, Nt.cSame.T [.d (.ints .u32 a), .d (.ints .u32 b)] K → M [.d (.ints .u32 a), .d (.ints .u32 b)] K) (args : List TV) (K : TV → Prop) (hyp : Nt.cSame.T args K) : M args K := by
  have e : ∃ a b, args = [.d (.ints .u32 a), .d (.ints .u32 b)] := by
    unfold Nt.cSame.T spec at hyp
    split at hyp
    · rename_i he
      simp only at he
      split at he
      · exact ⟨_, _, rfl⟩
      · cases he
    · exact hyp.elim
  obtain ⟨a, b, eqn⟩ := e
  subst eqn
  exact H a b K hyp
end

section
/- Verification conditions, printed. -/
open Go Go.Vc
namespace Nt
def vc_ntrim : List Int → (TV → Prop) → Prop :=
  fun (a : List Int) (K : TV → Prop) =>
  ∃ (I : List Int → Prop),
    ∃ (m : List Int → Nat),
      I a ∧
        ∀ (v0 : List Int),
          I v0 →
            (decide ((0 : Int) < (Nat.cast : Nat → Int) (List.length v0)) = true →
                (0 : Int) ≤ IntKind.wrap IntKind.i64 ((Nat.cast : Nat → Int) (List.length v0) - (1 : Int)) ∧
                  IntKind.wrap IntKind.i64 ((Nat.cast : Nat → Int) (List.length v0) - (1 : Int)) < (Nat.cast : Nat → Int) (List.length v0) ∧
                    (decide
                            (List.getD v0 (Int.toNat (IntKind.wrap IntKind.i64 ((Nat.cast : Nat → Int) (List.length v0) - (1 : Int))))
                                (0 : Int) =
                              (0 : Int)) =
                          true →
                        (0 : Int) ≤ IntKind.wrap IntKind.i64 ((Nat.cast : Nat → Int) (List.length v0) - (1 : Int)) ∧
                          IntKind.wrap IntKind.i64 ((Nat.cast : Nat → Int) (List.length v0) - (1 : Int)) ≤ (Nat.cast : Nat → Int) (List.length v0) ∧
                            I
                                (List.take (Int.toNat (IntKind.wrap IntKind.i64 ((Nat.cast : Nat → Int) (List.length v0) - (1 : Int))))
                                  v0) ∧
                              m
                                  (List.take
                                    (Int.toNat (IntKind.wrap IntKind.i64 ((Nat.cast : Nat → Int) (List.length v0) - (1 : Int)))) v0) <
                                m v0) ∧
                      (decide
                            (List.getD v0 (Int.toNat (IntKind.wrap IntKind.i64 ((Nat.cast : Nat → Int) (List.length v0) - (1 : Int))))
                                (0 : Int) =
                              (0 : Int)) =
                          false →
                        K (TV.d (AV.ints IntKind.u32 v0)))) ∧
              (decide ((0 : Int) < (Nat.cast : Nat → Int) (List.length v0)) = false → K (TV.d (AV.ints IntKind.u32 v0)))

def vc_nbitsMul32 : Int → Int → (TV → Prop) → Prop :=
  fun (x y : Int) (K : TV → Prop) =>
  K
    (TV.tup
      [TV.d
          (AV.int IntKind.u32
            (IntKind.wrap IntKind.u32
              (Int.fdiv (IntKind.wrap IntKind.u64 (IntKind.wrap IntKind.u64 x * IntKind.wrap IntKind.u64 y))
                (4294967296 : Int)))),
        TV.d
          (AV.int IntKind.u32
            (IntKind.wrap IntKind.u32
              (IntKind.wrap IntKind.u64 (IntKind.wrap IntKind.u64 x * IntKind.wrap IntKind.u64 y))))])

def vc_nbitsAdd32 : Int → Int → Int → (TV → Prop) → Prop :=
  fun (x y c : Int) (K : TV → Prop) =>
  K
    (TV.tup
      [TV.d
          (AV.int IntKind.u32
            (IntKind.wrap IntKind.u32
              (IntKind.wrap IntKind.u64
                (IntKind.wrap IntKind.u64 (IntKind.wrap IntKind.u64 x + IntKind.wrap IntKind.u64 y) +
                  IntKind.wrap IntKind.u64 c)))),
        TV.d
          (AV.int IntKind.u32
            (IntKind.wrap IntKind.u32
              (Int.fdiv
                (IntKind.wrap IntKind.u64
                  (IntKind.wrap IntKind.u64 (IntKind.wrap IntKind.u64 x + IntKind.wrap IntKind.u64 y) +
                    IntKind.wrap IntKind.u64 c))
                (4294967296 : Int))))])

def vc_nbitsSub32 : Int → Int → Int → (TV → Prop) → Prop :=
  fun (x y c : Int) (K : TV → Prop) =>
  K
    (TV.tup
      [TV.d (AV.int IntKind.u32 (IntKind.wrap IntKind.u32 (IntKind.wrap IntKind.u32 (x - y) - c))),
        TV.d
          (AV.int IntKind.u32
            (Int.fdiv
              (bitop BinOp.or IntKind.u32
                (bitop BinOp.and IntKind.u32 (bitop BinOp.xor IntKind.u32 (4294967295 : Int) x) y)
                (bitop BinOp.and IntKind.u32
                  (bitop BinOp.xor IntKind.u32 (4294967295 : Int) (bitop BinOp.xor IntKind.u32 x y))
                  (IntKind.wrap IntKind.u32 (IntKind.wrap IntKind.u32 (x - y) - c))))
              (2147483648 : Int)))])

def vc_nbitsDiv32 : Int → Int → Int → (TV → Prop) → Prop :=
  fun (h l y : Int) (K : TV → Prop) =>
  ∃ (J : Prop),
    (((!decide (y = (0 : Int))) = true → (decide (y ≤ h) = true → False) ∧ (decide (y ≤ h) = false → J)) ∧
        ((!decide (y = (0 : Int))) = false → J)) ∧
      (J →
        ¬IntKind.wrap IntKind.u64 y = (0 : Int) ∧
          ¬IntKind.wrap IntKind.u64 y = (0 : Int) ∧
            K
              (TV.tup
                [TV.d
                    (AV.int IntKind.u32
                      (IntKind.wrap IntKind.u32
                        (IntKind.wrap IntKind.u64
                          (Int.tdiv
                            (bitop BinOp.or IntKind.u64
                              (IntKind.wrap IntKind.u64 (IntKind.wrap IntKind.u64 h * (4294967296 : Int)))
                              (IntKind.wrap IntKind.u64 l))
                            (IntKind.wrap IntKind.u64 y))))),
                  TV.d
                    (AV.int IntKind.u32
                      (IntKind.wrap IntKind.u32
                        (Int.tmod
                          (bitop BinOp.or IntKind.u64
                            (IntKind.wrap IntKind.u64 (IntKind.wrap IntKind.u64 h * (4294967296 : Int)))
                            (IntKind.wrap IntKind.u64 l))
                          (IntKind.wrap IntKind.u64 y))))]))

def vc_nslClone : List Int → (TV → Prop) → Prop :=
  fun (a : List Int) (K : TV → Prop) =>
  ∀ (b : Bool),
    (b = true → a = []) →
      (b = true → K (TV.d (AV.ints IntKind.u32 []))) ∧
        (b = false →
          ((0 : Int) + (Nat.cast : Nat → Int) (List.length a)) * (4 : Int) ≤ (70368744177664 : Int) ∧
            K (TV.d (AV.ints IntKind.u32 (instHAppendOfAppend.1 [] a))))

def vc_nTrim : List Int → (TV → Prop) → Prop :=
  fun (a : List Int) (K : TV → Prop) =>
  (Nt.Lim a ∧ List.length a ≤ (1000000000 : Nat)) ∧
    List.length (Nt.limbs (Nt.val a)) ≤ (100000000 : Nat) ∧ K (TV.d (AV.ints IntKind.u32 (Nt.limbs (Nt.val a))))

def vc_nfromUint : Int → (TV → Prop) → Prop :=
  fun (u : Int) (K : TV → Prop) =>
  (Nt.Lim [IntKind.wrap IntKind.u32 u, IntKind.wrap IntKind.u32 (Int.fdiv u (4294967296 : Int))] ∧
      List.length [IntKind.wrap IntKind.u32 u, IntKind.wrap IntKind.u32 (Int.fdiv u (4294967296 : Int))] ≤
        (1000000000 : Nat)) ∧
    K
      (TV.d
        (AV.ints IntKind.u32
          (Nt.limbs (Nt.val [IntKind.wrap IntKind.u32 u, IntKind.wrap IntKind.u32 (Int.fdiv u (4294967296 : Int))]))))

def vc_ntoUint : List Int → (TV → Prop) → Prop :=
  fun (a : List Int) (K : TV → Prop) =>
  ∃ (I : Int → Int → Prop),
    ∃ (m : Int → Int → Nat),
      I (0 : Int) (0 : Int) ∧
        ∀ (v3 v8 : Int),
          I v3 v8 →
            (decide (v8 < (Nat.cast : Nat → Int) (List.length a)) = true →
                (0 : Int) ≤ v8 ∧
                  v8 < (Nat.cast : Nat → Int) (List.length a) ∧
                    (0 : Int) ≤ IntKind.wrap IntKind.i64 ((32 : Int) * v8) ∧
                      I
                          (bitop BinOp.or IntKind.u64 v3
                            (IntKind.wrap IntKind.u64
                              (IntKind.wrap IntKind.u64 (List.getD a (Int.toNat v8) (0 : Int)) *
                                (2 : Int) ^ min (Int.toNat (IntKind.wrap IntKind.i64 ((32 : Int) * v8))) (64 : Nat))))
                          (IntKind.wrap IntKind.i64 (v8 + (1 : Int))) ∧
                        m
                            (bitop BinOp.or IntKind.u64 v3
                              (IntKind.wrap IntKind.u64
                                (IntKind.wrap IntKind.u64 (List.getD a (Int.toNat v8) (0 : Int)) *
                                  (2 : Int) ^
                                    min (Int.toNat (IntKind.wrap IntKind.i64 ((32 : Int) * v8))) (64 : Nat))))
                            (IntKind.wrap IntKind.i64 (v8 + (1 : Int))) <
                          m v3 v8) ∧
              (decide (v8 < (Nat.cast : Nat → Int) (List.length a)) = false → K (TV.d (AV.int IntKind.u64 v3)))

def vc_nCmp : List Int → List Int → (TV → Prop) → Prop :=
  fun (a b : List Int) (K : TV → Prop) =>
  (Nt.Lim a ∧ List.length a ≤ (1000000000 : Nat)) ∧
    (Nt.Lim b ∧ List.length b ≤ (1000000000 : Nat)) ∧
      ((!decide ((Nat.cast : Nat → Int) (List.length (Nt.limbs (Nt.val a))) = (Nat.cast : Nat → Int) (List.length (Nt.limbs (Nt.val b))))) = true →
          (decide ((Nat.cast : Nat → Int) (List.length (Nt.limbs (Nt.val a))) < (Nat.cast : Nat → Int) (List.length (Nt.limbs (Nt.val b)))) = true →
              K (TV.d (AV.int IntKind.i64 (-1 : Int)))) ∧
            (decide ((Nat.cast : Nat → Int) (List.length (Nt.limbs (Nt.val a))) < (Nat.cast : Nat → Int) (List.length (Nt.limbs (Nt.val b)))) =
                false →
              K (TV.d (AV.int IntKind.i64 (1 : Int))))) ∧
        ((!decide ((Nat.cast : Nat → Int) (List.length (Nt.limbs (Nt.val a))) = (Nat.cast : Nat → Int) (List.length (Nt.limbs (Nt.val b))))) = false →
          ∃ (I : Int → Prop),
            ∃ (m : Int → Nat),
              I (IntKind.wrap IntKind.i64 ((Nat.cast : Nat → Int) (List.length (Nt.limbs (Nt.val a))) - (1 : Int))) ∧
                ∀ (v5 : Int),
                  I v5 →
                    (decide ((0 : Int) ≤ v5) = true →
                        (0 : Int) ≤ v5 ∧
                          v5 < (Nat.cast : Nat → Int) (List.length (Nt.limbs (Nt.val a))) ∧
                            (0 : Int) ≤ v5 ∧
                              v5 < (Nat.cast : Nat → Int) (List.length (Nt.limbs (Nt.val b))) ∧
                                (decide
                                        (List.getD (Nt.limbs (Nt.val a)) (Int.toNat v5) (0 : Int) <
                                          List.getD (Nt.limbs (Nt.val b)) (Int.toNat v5) (0 : Int)) =
                                      true →
                                    K (TV.d (AV.int IntKind.i64 (-1 : Int)))) ∧
                                  (decide
                                        (List.getD (Nt.limbs (Nt.val a)) (Int.toNat v5) (0 : Int) <
                                          List.getD (Nt.limbs (Nt.val b)) (Int.toNat v5) (0 : Int)) =
                                      false →
                                    (0 : Int) ≤ v5 ∧
                                      v5 < (Nat.cast : Nat → Int) (List.length (Nt.limbs (Nt.val a))) ∧
                                        (0 : Int) ≤ v5 ∧
                                          v5 < (Nat.cast : Nat → Int) (List.length (Nt.limbs (Nt.val b))) ∧
                                            (decide
                                                    (List.getD (Nt.limbs (Nt.val b)) (Int.toNat v5) (0 : Int) <
                                                      List.getD (Nt.limbs (Nt.val a)) (Int.toNat v5) (0 : Int)) =
                                                  true →
                                                K (TV.d (AV.int IntKind.i64 (1 : Int)))) ∧
                                              (decide
                                                    (List.getD (Nt.limbs (Nt.val b)) (Int.toNat v5) (0 : Int) <
                                                      List.getD (Nt.limbs (Nt.val a)) (Int.toNat v5) (0 : Int)) =
                                                  false →
                                                I (IntKind.wrap IntKind.i64 (v5 - (1 : Int))) ∧
                                                  m (IntKind.wrap IntKind.i64 (v5 - (1 : Int))) < m v5))) ∧
                      (decide ((0 : Int) ≤ v5) = false → K (TV.d (AV.int IntKind.i64 (0 : Int)))))

def vc_nAdd : List Int → List Int → (TV → Prop) → Prop :=
  fun (a b : List Int) (K : TV → Prop) =>
  ∃ (J : List Int → List Int → Prop),
    ((decide ((Nat.cast : Nat → Int) (List.length a) < (Nat.cast : Nat → Int) (List.length b)) = true → J b a) ∧
        (decide ((Nat.cast : Nat → Int) (List.length a) < (Nat.cast : Nat → Int) (List.length b)) = false → J a b)) ∧
      ∀ (v0 v1 : List Int),
        J v0 v1 →
          (0 : Int) ≤ IntKind.wrap IntKind.i64 ((Nat.cast : Nat → Int) (List.length v0) + (1 : Int)) ∧
            IntKind.wrap IntKind.i64 ((Nat.cast : Nat → Int) (List.length v0) + (1 : Int)) ≤
                IntKind.wrap IntKind.i64 ((Nat.cast : Nat → Int) (List.length v0) + (1 : Int)) ∧
              IntKind.wrap IntKind.i64 ((Nat.cast : Nat → Int) (List.length v0) + (1 : Int)) * (4 : Int) ≤ (281474976710656 : Int) ∧
                ∃ (I : Int → Int → List Int → Prop),
                  ∃ (m : Int → Int → List Int → Nat),
                    I (0 : Int) (0 : Int)
                        (List.replicate (Int.toNat (IntKind.wrap IntKind.i64 ((Nat.cast : Nat → Int) (List.length v0) + (1 : Int))))
                          (0 : Int)) ∧
                      ∀ (v6 v23 : Int) (o0 : List Int),
                        I v6 v23 o0 →
                          (decide (v23 < (Nat.cast : Nat → Int) (List.length v0)) = true →
                              (0 : Int) ≤ v23 ∧
                                v23 < (Nat.cast : Nat → Int) (List.length v0) ∧
                                  ∃ (J : Int → Prop),
                                    ((decide (v23 < (Nat.cast : Nat → Int) (List.length v1)) = true →
                                          (0 : Int) ≤ v23 ∧
                                            v23 < (Nat.cast : Nat → Int) (List.length v1) ∧
                                              (false, OB.ints IntKind.u32 o0) = (false, OB.ints IntKind.u32 o0) ∧
                                                J (List.getD v1 (Int.toNat v23) (0 : Int))) ∧
                                        (decide (v23 < (Nat.cast : Nat → Int) (List.length v1)) = false →
                                          (false, OB.ints IntKind.u32 o0) = (false, OB.ints IntKind.u32 o0) ∧
                                            J (0 : Int))) ∧
                                      ∀ (v9 : Int),
                                        J v9 →
                                          (Nt.L (List.getD v0 (Int.toNat v23) (0 : Int)) ∧
                                              Nt.L v9 ∧ (0 : Int) ≤ v6 ∧ v6 ≤ (1 : Int)) ∧
                                            (0 : Int) ≤ v23 ∧
                                              v23 < (Nat.cast : Nat → Int) (List.length o0) ∧
                                                I
                                                    ((List.getD v0 (Int.toNat v23) (0 : Int) + v9 + v6) /
                                                      (4294967296 : Int))
                                                    (IntKind.wrap IntKind.i64 (v23 + (1 : Int)))
                                                    (List.set o0 (Int.toNat v23)
                                                      ((List.getD v0 (Int.toNat v23) (0 : Int) + v9 + v6) %
                                                        (4294967296 : Int))) ∧
                                                  m
                                                      ((List.getD v0 (Int.toNat v23) (0 : Int) + v9 + v6) /
                                                        (4294967296 : Int))
                                                      (IntKind.wrap IntKind.i64 (v23 + (1 : Int)))
                                                      (List.set o0 (Int.toNat v23)
                                                        ((List.getD v0 (Int.toNat v23) (0 : Int) + v9 + v6) %
                                                          (4294967296 : Int))) <
                                                    m v6 v23 o0) ∧
                            (decide (v23 < (Nat.cast : Nat → Int) (List.length v0)) = false →
                              (0 : Int) ≤ (Nat.cast : Nat → Int) (List.length v0) ∧
                                (Nat.cast : Nat → Int) (List.length v0) < (Nat.cast : Nat → Int) (List.length o0) ∧
                                  (Nt.Lim (List.set o0 (Int.toNat ((Nat.cast : Nat → Int) (List.length v0))) v6) ∧
                                      List.length (List.set o0 (Int.toNat ((Nat.cast : Nat → Int) (List.length v0))) v6) ≤
                                        (1000000000 : Nat)) ∧
                                    K
                                      (TV.d
                                        (AV.ints IntKind.u32
                                          (Nt.limbs (Nt.val (List.set o0 (Int.toNat ((Nat.cast : Nat → Int) (List.length v0))) v6))))))

def vc_nMul : List Int → List Int → (TV → Prop) → Prop :=
  fun (a b : List Int) (K : TV → Prop) =>
  (Nt.Lim a ∧ List.length a ≤ (1000000000 : Nat)) ∧
    (Nt.Lim b ∧ List.length b ≤ (1000000000 : Nat)) ∧
      (0 : Int) ≤
          IntKind.wrap IntKind.i64
            ((Nat.cast : Nat → Int) (List.length (Nt.limbs (Nt.val a))) + (Nat.cast : Nat → Int) (List.length (Nt.limbs (Nt.val b)))) ∧
        IntKind.wrap IntKind.i64
              ((Nat.cast : Nat → Int) (List.length (Nt.limbs (Nt.val a))) + (Nat.cast : Nat → Int) (List.length (Nt.limbs (Nt.val b)))) ≤
            IntKind.wrap IntKind.i64
              ((Nat.cast : Nat → Int) (List.length (Nt.limbs (Nt.val a))) + (Nat.cast : Nat → Int) (List.length (Nt.limbs (Nt.val b)))) ∧
          IntKind.wrap IntKind.i64
                  ((Nat.cast : Nat → Int) (List.length (Nt.limbs (Nt.val a))) + (Nat.cast : Nat → Int) (List.length (Nt.limbs (Nt.val b)))) *
                (4 : Int) ≤
              (281474976710656 : Int) ∧
            ∃ (I : Int → List Int → Prop),
              ∃ (m : Int → List Int → Nat),
                I (0 : Int)
                    (List.replicate
                      (Int.toNat
                        (IntKind.wrap IntKind.i64
                          ((Nat.cast : Nat → Int) (List.length (Nt.limbs (Nt.val a))) + (Nat.cast : Nat → Int) (List.length (Nt.limbs (Nt.val b))))))
                      (0 : Int)) ∧
                  ∀ (v26 : Int) (o0 : List Int),
                    I v26 o0 →
                      (decide (v26 < (Nat.cast : Nat → Int) (List.length (Nt.limbs (Nt.val a)))) = true →
                          (0 : Int) ≤ v26 ∧
                            v26 < (Nat.cast : Nat → Int) (List.length (Nt.limbs (Nt.val a))) ∧
                              ∃ (I_1 : Int → Int → List Int → Prop),
                                ∃ (m_1 : Int → Int → List Int → Nat),
                                  I_1 (0 : Int) (0 : Int) o0 ∧
                                    ∀ (v8 v33 : Int) (o0_1 : List Int),
                                      I_1 v8 v33 o0_1 →
                                        (decide (v33 < (Nat.cast : Nat → Int) (List.length (Nt.limbs (Nt.val b)))) = true →
                                            (0 : Int) ≤ v33 ∧
                                              v33 < (Nat.cast : Nat → Int) (List.length (Nt.limbs (Nt.val b))) ∧
                                                (Nt.L (List.getD (Nt.limbs (Nt.val a)) (Int.toNat v26) (0 : Int)) ∧
                                                    Nt.L (List.getD (Nt.limbs (Nt.val b)) (Int.toNat v33) (0 : Int))) ∧
                                                  (0 : Int) ≤ IntKind.wrap IntKind.i64 (v26 + v33) ∧
                                                    IntKind.wrap IntKind.i64 (v26 + v33) < (Nat.cast : Nat → Int) (List.length o0_1) ∧
                                                      (Nt.L
                                                            (List.getD (Nt.limbs (Nt.val a)) (Int.toNat v26) (0 : Int) *
                                                                List.getD (Nt.limbs (Nt.val b)) (Int.toNat v33)
                                                                  (0 : Int) %
                                                              (4294967296 : Int)) ∧
                                                          Nt.L
                                                              (List.getD o0_1
                                                                (Int.toNat (IntKind.wrap IntKind.i64 (v26 + v33)))
                                                                (0 : Int)) ∧
                                                            (0 : Int) ≤ (0 : Int) ∧ (0 : Int) ≤ (1 : Int)) ∧
                                                        (Nt.L
                                                              ((List.getD (Nt.limbs (Nt.val a)) (Int.toNat v26)
                                                                          (0 : Int) *
                                                                        List.getD (Nt.limbs (Nt.val b)) (Int.toNat v33)
                                                                          (0 : Int) %
                                                                      (4294967296 : Int) +
                                                                    List.getD o0_1
                                                                      (Int.toNat (IntKind.wrap IntKind.i64 (v26 + v33)))
                                                                      (0 : Int) +
                                                                  (0 : Int)) %
                                                                (4294967296 : Int)) ∧
                                                            Nt.L v8 ∧ (0 : Int) ≤ (0 : Int) ∧ (0 : Int) ≤ (1 : Int)) ∧
                                                          (0 : Int) ≤ IntKind.wrap IntKind.i64 (v26 + v33) ∧
                                                            IntKind.wrap IntKind.i64 (v26 + v33) <
                                                                (Nat.cast : Nat → Int) (List.length o0_1) ∧
                                                              I_1
                                                                  (IntKind.wrap IntKind.u32
                                                                    (IntKind.wrap IntKind.u32
                                                                        (List.getD (Nt.limbs (Nt.val a)) (Int.toNat v26)
                                                                                (0 : Int) *
                                                                              List.getD (Nt.limbs (Nt.val b))
                                                                                (Int.toNat v33) (0 : Int) /
                                                                            (4294967296 : Int) +
                                                                          (List.getD (Nt.limbs (Nt.val a))
                                                                                      (Int.toNat v26) (0 : Int) *
                                                                                    List.getD (Nt.limbs (Nt.val b))
                                                                                      (Int.toNat v33) (0 : Int) %
                                                                                  (4294967296 : Int) +
                                                                                List.getD o0_1
                                                                                  (Int.toNat
                                                                                    (IntKind.wrap IntKind.i64
                                                                                      (v26 + v33)))
                                                                                  (0 : Int) +
                                                                              (0 : Int)) /
                                                                            (4294967296 : Int)) +
                                                                      ((List.getD (Nt.limbs (Nt.val a)) (Int.toNat v26)
                                                                                        (0 : Int) *
                                                                                      List.getD (Nt.limbs (Nt.val b))
                                                                                        (Int.toNat v33) (0 : Int) %
                                                                                    (4294967296 : Int) +
                                                                                  List.getD o0_1
                                                                                    (Int.toNat
                                                                                      (IntKind.wrap IntKind.i64
                                                                                        (v26 + v33)))
                                                                                    (0 : Int) +
                                                                                (0 : Int)) %
                                                                              (4294967296 : Int) +
                                                                            v8 +
                                                                          (0 : Int)) /
                                                                        (4294967296 : Int)))
                                                                  (IntKind.wrap IntKind.i64 (v33 + (1 : Int)))
                                                                  (List.set o0_1
                                                                    (Int.toNat (IntKind.wrap IntKind.i64 (v26 + v33)))
                                                                    (((List.getD (Nt.limbs (Nt.val a)) (Int.toNat v26)
                                                                                      (0 : Int) *
                                                                                    List.getD (Nt.limbs (Nt.val b))
                                                                                      (Int.toNat v33) (0 : Int) %
                                                                                  (4294967296 : Int) +
                                                                                List.getD o0_1
                                                                                  (Int.toNat
                                                                                    (IntKind.wrap IntKind.i64
                                                                                      (v26 + v33)))
                                                                                  (0 : Int) +
                                                                              (0 : Int)) %
                                                                            (4294967296 : Int) +
                                                                          v8 +
                                                                        (0 : Int)) %
                                                                      (4294967296 : Int))) ∧
                                                                m_1
                                                                    (IntKind.wrap IntKind.u32
                                                                      (IntKind.wrap IntKind.u32
                                                                          (List.getD (Nt.limbs (Nt.val a))
                                                                                  (Int.toNat v26) (0 : Int) *
                                                                                List.getD (Nt.limbs (Nt.val b))
                                                                                  (Int.toNat v33) (0 : Int) /
                                                                              (4294967296 : Int) +
                                                                            (List.getD (Nt.limbs (Nt.val a))
                                                                                        (Int.toNat v26) (0 : Int) *
                                                                                      List.getD (Nt.limbs (Nt.val b))
                                                                                        (Int.toNat v33) (0 : Int) %
                                                                                    (4294967296 : Int) +
                                                                                  List.getD o0_1
                                                                                    (Int.toNat
                                                                                      (IntKind.wrap IntKind.i64
                                                                                        (v26 + v33)))
                                                                                    (0 : Int) +
                                                                                (0 : Int)) /
                                                                              (4294967296 : Int)) +
                                                                        ((List.getD (Nt.limbs (Nt.val a))
                                                                                          (Int.toNat v26) (0 : Int) *
                                                                                        List.getD (Nt.limbs (Nt.val b))
                                                                                          (Int.toNat v33) (0 : Int) %
                                                                                      (4294967296 : Int) +
                                                                                    List.getD o0_1
                                                                                      (Int.toNat
                                                                                        (IntKind.wrap IntKind.i64
                                                                                          (v26 + v33)))
                                                                                      (0 : Int) +
                                                                                  (0 : Int)) %
                                                                                (4294967296 : Int) +
                                                                              v8 +
                                                                            (0 : Int)) /
                                                                          (4294967296 : Int)))
                                                                    (IntKind.wrap IntKind.i64 (v33 + (1 : Int)))
                                                                    (List.set o0_1
                                                                      (Int.toNat (IntKind.wrap IntKind.i64 (v26 + v33)))
                                                                      (((List.getD (Nt.limbs (Nt.val a)) (Int.toNat v26)
                                                                                        (0 : Int) *
                                                                                      List.getD (Nt.limbs (Nt.val b))
                                                                                        (Int.toNat v33) (0 : Int) %
                                                                                    (4294967296 : Int) +
                                                                                  List.getD o0_1
                                                                                    (Int.toNat
                                                                                      (IntKind.wrap IntKind.i64
                                                                                        (v26 + v33)))
                                                                                    (0 : Int) +
                                                                                (0 : Int)) %
                                                                              (4294967296 : Int) +
                                                                            v8 +
                                                                          (0 : Int)) %
                                                                        (4294967296 : Int))) <
                                                                  m_1 v8 v33 o0_1) ∧
                                          (decide (v33 < (Nat.cast : Nat → Int) (List.length (Nt.limbs (Nt.val b)))) = false →
                                            (0 : Int) ≤
                                                IntKind.wrap IntKind.i64
                                                  (v26 + (Nat.cast : Nat → Int) (List.length (Nt.limbs (Nt.val b)))) ∧
                                              IntKind.wrap IntKind.i64
                                                    (v26 + (Nat.cast : Nat → Int) (List.length (Nt.limbs (Nt.val b)))) <
                                                  (Nat.cast : Nat → Int) (List.length o0_1) ∧
                                                I (IntKind.wrap IntKind.i64 (v26 + (1 : Int)))
                                                    (List.set o0_1
                                                      (Int.toNat
                                                        (IntKind.wrap IntKind.i64
                                                          (v26 + (Nat.cast : Nat → Int) (List.length (Nt.limbs (Nt.val b))))))
                                                      v8) ∧
                                                  m (IntKind.wrap IntKind.i64 (v26 + (1 : Int)))
                                                      (List.set o0_1
                                                        (Int.toNat
                                                          (IntKind.wrap IntKind.i64
                                                            (v26 + (Nat.cast : Nat → Int) (List.length (Nt.limbs (Nt.val b))))))
                                                        v8) <
                                                    m v26 o0)) ∧
                        (decide (v26 < (Nat.cast : Nat → Int) (List.length (Nt.limbs (Nt.val a)))) = false →
                          (Nt.Lim o0 ∧ List.length o0 ≤ (1000000000 : Nat)) ∧
                            K (TV.d (AV.ints IntKind.u32 (Nt.limbs (Nt.val o0)))))

def vc_nSub : List Int → List Int → (TV → Prop) → Prop :=
  fun (a b : List Int) (K : TV → Prop) =>
  (Nt.Few a ∧ Nt.Few b) ∧
    (decide (Nt.cmp (Nt.val a) (Nt.val b) < (0 : Int)) = true →
        K (TV.tup [TV.d (AV.ints IntKind.u32 []), TV.d (AV.int IntKind.i64 (1 : Int))])) ∧
      (decide (Nt.cmp (Nt.val a) (Nt.val b) < (0 : Int)) = false →
        (Nt.Lim a ∧ List.length a ≤ (1000000000 : Nat)) ∧
          (Nt.Lim b ∧ List.length b ≤ (1000000000 : Nat)) ∧
            (0 : Int) ≤ (Nat.cast : Nat → Int) (List.length (Nt.limbs (Nt.val a))) ∧
              (Nat.cast : Nat → Int) (List.length (Nt.limbs (Nt.val a))) ≤ (Nat.cast : Nat → Int) (List.length (Nt.limbs (Nt.val a))) ∧
                (Nat.cast : Nat → Int) (List.length (Nt.limbs (Nt.val a))) * (4 : Int) ≤ (281474976710656 : Int) ∧
                  ∃ (I : Int → Int → List Int → Prop),
                    ∃ (m : Int → Int → List Int → Nat),
                      I (0 : Int) (0 : Int)
                          (List.replicate (Int.toNat ((Nat.cast : Nat → Int) (List.length (Nt.limbs (Nt.val a))))) (0 : Int)) ∧
                        ∀ (v7 v24 : Int) (o0 : List Int),
                          I v7 v24 o0 →
                            (decide (v24 < (Nat.cast : Nat → Int) (List.length (Nt.limbs (Nt.val a)))) = true →
                                (0 : Int) ≤ v24 ∧
                                  v24 < (Nat.cast : Nat → Int) (List.length (Nt.limbs (Nt.val a))) ∧
                                    ∃ (J : Int → Prop),
                                      ((decide (v24 < (Nat.cast : Nat → Int) (List.length (Nt.limbs (Nt.val b)))) = true →
                                            (0 : Int) ≤ v24 ∧
                                              v24 < (Nat.cast : Nat → Int) (List.length (Nt.limbs (Nt.val b))) ∧
                                                (false, OB.ints IntKind.u32 o0) = (false, OB.ints IntKind.u32 o0) ∧
                                                  J (List.getD (Nt.limbs (Nt.val b)) (Int.toNat v24) (0 : Int))) ∧
                                          (decide (v24 < (Nat.cast : Nat → Int) (List.length (Nt.limbs (Nt.val b)))) = false →
                                            (false, OB.ints IntKind.u32 o0) = (false, OB.ints IntKind.u32 o0) ∧
                                              J (0 : Int))) ∧
                                        ∀ (v10 : Int),
                                          J v10 →
                                            (Nt.L (List.getD (Nt.limbs (Nt.val a)) (Int.toNat v24) (0 : Int)) ∧
                                                Nt.L v10 ∧ (0 : Int) ≤ v7 ∧ v7 ≤ (1 : Int)) ∧
                                              (0 : Int) ≤ v24 ∧
                                                v24 < (Nat.cast : Nat → Int) (List.length o0) ∧
                                                  I
                                                      (if
                                                          List.getD (Nt.limbs (Nt.val a)) (Int.toNat v24) (0 : Int) -
                                                                v10 -
                                                              v7 <
                                                            (0 : Int) then
                                                        (1 : Int)
                                                      else (0 : Int))
                                                      (IntKind.wrap IntKind.i64 (v24 + (1 : Int)))
                                                      (List.set o0 (Int.toNat v24)
                                                        ((List.getD (Nt.limbs (Nt.val a)) (Int.toNat v24) (0 : Int) -
                                                              v10 -
                                                            v7) %
                                                          (4294967296 : Int))) ∧
                                                    m
                                                        (if
                                                            List.getD (Nt.limbs (Nt.val a)) (Int.toNat v24) (0 : Int) -
                                                                  v10 -
                                                                v7 <
                                                              (0 : Int) then
                                                          (1 : Int)
                                                        else (0 : Int))
                                                        (IntKind.wrap IntKind.i64 (v24 + (1 : Int)))
                                                        (List.set o0 (Int.toNat v24)
                                                          ((List.getD (Nt.limbs (Nt.val a)) (Int.toNat v24) (0 : Int) -
                                                                v10 -
                                                              v7) %
                                                            (4294967296 : Int))) <
                                                      m v7 v24 o0) ∧
                              (decide (v24 < (Nat.cast : Nat → Int) (List.length (Nt.limbs (Nt.val a)))) = false →
                                (Nt.Lim o0 ∧ List.length o0 ≤ (1000000000 : Nat)) ∧
                                  K
                                    (TV.tup
                                      [TV.d (AV.ints IntKind.u32 (Nt.limbs (Nt.val o0))),
                                        TV.d (AV.int IntKind.i64 (0 : Int))])))

def vc_nshort : List Int → Int → (TV → Prop) → Prop :=
  fun (a : List Int) (d : Int) (K : TV → Prop) =>
  (0 : Int) ≤ (Nat.cast : Nat → Int) (List.length a) ∧
    (Nat.cast : Nat → Int) (List.length a) ≤ (Nat.cast : Nat → Int) (List.length a) ∧
      (Nat.cast : Nat → Int) (List.length a) * (4 : Int) ≤ (281474976710656 : Int) ∧
        ∃ (I : Int → Int → List Int → Prop),
          ∃ (m : Int → Int → List Int → Nat),
            I (0 : Int) (IntKind.wrap IntKind.i64 ((Nat.cast : Nat → Int) (List.length a) - (1 : Int)))
                (List.replicate (Int.toNat ((Nat.cast : Nat → Int) (List.length a))) (0 : Int)) ∧
              ∀ (v7 v8 : Int) (o0 : List Int),
                I v7 v8 o0 →
                  (decide ((0 : Int) ≤ v8) = true →
                      (0 : Int) ≤ v8 ∧
                        v8 < (Nat.cast : Nat → Int) (List.length a) ∧
                          (Nt.L v7 ∧ Nt.L (List.getD a (Int.toNat v8) (0 : Int)) ∧ Nt.L d ∧ v7 < d) ∧
                            (0 : Int) ≤ v8 ∧
                              v8 < (Nat.cast : Nat → Int) (List.length o0) ∧
                                I ((v7 * (4294967296 : Int) + List.getD a (Int.toNat v8) (0 : Int)) % d)
                                    (IntKind.wrap IntKind.i64 (v8 - (1 : Int)))
                                    (List.set o0 (Int.toNat v8)
                                      ((v7 * (4294967296 : Int) + List.getD a (Int.toNat v8) (0 : Int)) / d)) ∧
                                  m ((v7 * (4294967296 : Int) + List.getD a (Int.toNat v8) (0 : Int)) % d)
                                      (IntKind.wrap IntKind.i64 (v8 - (1 : Int)))
                                      (List.set o0 (Int.toNat v8)
                                        ((v7 * (4294967296 : Int) + List.getD a (Int.toNat v8) (0 : Int)) / d)) <
                                    m v7 v8 o0) ∧
                    (decide ((0 : Int) ≤ v8) = false →
                      (Nt.Lim o0 ∧ List.length o0 ≤ (1000000000 : Nat)) ∧
                        K (TV.tup [TV.d (AV.ints IntKind.u32 (Nt.limbs (Nt.val o0))), TV.d (AV.int IntKind.u32 v7)]))


def vc_nrefSame : List Int → List Int → (TV → Prop) → Prop :=
  fun (a b : List Int) (K : TV → Prop) =>
  ((!decide ((Nat.cast : Nat → Int) (List.length a) = (Nat.cast : Nat → Int) (List.length b))) = true → K (TV.d (AV.bool false))) ∧
    ((!decide ((Nat.cast : Nat → Int) (List.length a) = (Nat.cast : Nat → Int) (List.length b))) = false →
      ∃ (I : Int → Prop),
        ∃ (m : Int → Nat),
          I (0 : Int) ∧
            ∀ (v5 : Int),
              I v5 →
                (decide (v5 < (Nat.cast : Nat → Int) (List.length a)) = true →
                    (0 : Int) ≤ v5 ∧
                      v5 < (Nat.cast : Nat → Int) (List.length a) ∧
                        (0 : Int) ≤ v5 ∧
                          v5 < (Nat.cast : Nat → Int) (List.length b) ∧
                            ((!decide (List.getD a (Int.toNat v5) (0 : Int) = List.getD b (Int.toNat v5) (0 : Int))) =
                                  true →
                                K (TV.d (AV.bool false))) ∧
                              ((!decide (List.getD a (Int.toNat v5) (0 : Int) = List.getD b (Int.toNat v5) (0 : Int))) =
                                  false →
                                I (IntKind.wrap IntKind.i64 (v5 + (1 : Int))) ∧
                                  m (IntKind.wrap IntKind.i64 (v5 + (1 : Int))) < m v5)) ∧
                  (decide (v5 < (Nat.cast : Nat → Int) (List.length a)) = false → K (TV.d (AV.bool true))))

end Nt
end

section
/- NtW: machine numbers that do not wrap. -/
open Go Go.Vc
namespace Nt

theorem w64 {x : Int} (h : -9223372036854775808 ≤ x ∧ x < 9223372036854775808) : IntKind.wrap .i64 x = x := by
  unfold IntKind.wrap
  simp only [IntKind.signed, IntKind.bits, Bool.true_and, decide_eq_true_eq, ge_iff_le]
  split <;> omega
theorem wu64 {x : Int} (h : 0 ≤ x ∧ x < 18446744073709551616) : IntKind.wrap .u64 x = x := by
  unfold IntKind.wrap
  simp [IntKind.signed, IntKind.bits]
  omega
theorem wu32 {x : Int} (h : 0 ≤ x ∧ x < 4294967296) : IntKind.wrap .u32 x = x := by
  unfold IntKind.wrap
  simp [IntKind.signed, IntKind.bits]
  omega
theorem wu32m (x : Int) : IntKind.wrap .u32 x = x % 4294967296 := by
  unfold IntKind.wrap
  simp [IntKind.signed, IntKind.bits]
theorem wu64m (x : Int) : IntKind.wrap .u64 x = x % 18446744073709551616 := by
  unfold IntKind.wrap
  simp [IntKind.signed, IntKind.bits]
end Nt
namespace Nt
theorem or64 (p q s : Nat) (hq : q < 2 ^ s) (h : p * 2 ^ s + q < 18446744073709551616) : bitop .or .u64 ((p * 2 ^ s : Nat) : Int) (q : Int) = ((p * 2 ^ s + q : Nat) : Int) := by
  have e1 : ((BitVec.ofInt 64 ((p * 2 ^ s : Nat) : Int)) ||| (BitVec.ofInt 64 (q : Int))).toNat = p * 2 ^ s + q := by
    rw [BitVec.toNat_or, BitVec.toNat_ofInt, BitVec.toNat_ofInt]
    have a1 : (((p * 2 ^ s : Nat) : Int) % ((2 ^ 64 : Nat) : Int)).toNat = p * 2 ^ s := by
      rw [Int.emod_eq_of_lt (by omega) (by omega)]; exact Int.toNat_natCast _
    have a2 : ((q : Int) % ((2 ^ 64 : Nat) : Int)).toNat = q := by
      rw [Int.emod_eq_of_lt (by omega) (by omega)]; simp
    rw [a1, a2, ← Nat.shiftLeft_eq, ← Nat.shiftLeft_add_eq_or_of_lt hq]
  show IntKind.wrap .u64 _ = _
  have e2 : ((BitVec.ofInt (IntKind.u64).bits ((p * 2 ^ s : Nat) : Int)) ||| (BitVec.ofInt (IntKind.u64).bits (q : Int))).toNat = p * 2 ^ s + q := e1
  rw [e2, wu64 (by omega)]
/-- Two limbs side by side. -/
theorem or64' {h l : Int} (hh : L h) (hl : L l) : bitop .or .u64 (h * 4294967296) l = h * 4294967296 + l := by
  unfold L at hh hl
  have p32 : (2 : Nat) ^ 32 = 4294967296 := rfl
  have := or64 h.toNat l.toNat 32 (by rw [p32]; omega) (by rw [p32]; omega)
  rw [p32] at this
  have e1 : ((h.toNat * 4294967296 : Nat) : Int) = h * 4294967296 := by omega
  have e2 : ((l.toNat : Nat) : Int) = l := by omega
  rw [Int.natCast_add, e1, e2] at this
  exact this

theorem p_nbitsMul32 (x y : Int) (K : TV → Prop) (h : cMul32.T [.d (.int .u32 x), .d (.int .u32 y)] K) : vc_nbitsMul32 x y K := by
  obtain ⟨⟨hx, hy⟩, hk⟩ := h
  unfold L at hx hy
  unfold vc_nbitsMul32
  have hxy : 0 ≤ x * y := Int.mul_nonneg hx.1 hy.1
  have hxy2 : x * y ≤ 4294967295 * 4294967295 := Int.mul_le_mul (by omega) (by omega) hy.1 (by omega)
  rw [wu64 (x := x) (by omega), wu64 (x := y) (by omega), wu64 (x := x * y) (by omega), wu32m (x * y), Int.fdiv_eq_ediv_of_nonneg _ (by omega), wu32 (by omega)]
  exact hk
theorem p_nbitsAdd32 (x y c : Int) (K : TV → Prop) (h : cAdd32.T [.d (.int .u32 x), .d (.int .u32 y), .d (.int .u32 c)] K) : vc_nbitsAdd32 x y c K := by
  obtain ⟨⟨hx, hy, h1, h2⟩, hk⟩ := h
  unfold L at hx hy
  unfold vc_nbitsAdd32
  rw [wu64 (x := x) (by omega), wu64 (x := y) (by omega), wu64 (x := x + y) (by omega), wu64 (x := c) (by omega), wu64 (x := x + y + c) (by omega), wu32m (x + y + c), Int.fdiv_eq_ediv_of_nonneg _ (by omega), wu32 (by omega)]
  exact hk
theorem p_nbitsDiv32 (h l y : Int) (K : TV → Prop) (hh : cDiv32.T [.d (.int .u32 h), .d (.int .u32 l), .d (.int .u32 y)] K) : vc_nbitsDiv32 h l y K := by
  obtain ⟨⟨hh, hl, hy, hlt⟩, hk⟩ := hh
  have hor := or64' hh hl
  unfold L at hh hl hy
  refine ⟨True, ⟨fun _ => ⟨fun h => ?_, fun _ => trivial⟩, fun _ => trivial⟩, fun _ => ?_⟩
  · simp at h; omega
  have hy1 : IntKind.wrap .u64 y = y := wu64 (by omega)
  have hz0 : 0 ≤ h * 4294967296 + l := by omega
  have hdl : (h * 4294967296 + l) / y < 4294967296 := Int.ediv_lt_of_lt_mul (by omega) (by
    have : (h + 1) * 4294967296 ≤ y * 4294967296 := Int.mul_le_mul_of_nonneg_right (by omega) (by omega)
    rw [Int.mul_comm 4294967296 y]; omega)
  have hd0 : 0 ≤ (h * 4294967296 + l) / y := Int.ediv_nonneg hz0 hy.1
  have hm0 : 0 ≤ (h * 4294967296 + l) % y := Int.emod_nonneg _ (by omega)
  have hml : (h * 4294967296 + l) % y < y := Int.emod_lt_of_pos _ (by omega)
  rw [hy1, wu64 (x := h) (by omega), wu64 (x := h * 4294967296) (by omega), wu64 (x := l) (by omega), hor, Int.tdiv_eq_ediv_of_nonneg hz0, Int.tmod_eq_emod_of_nonneg hz0, wu64 (x := (h * 4294967296 + l) / y) (by omega),
    wu32 (x := (h * 4294967296 + l) / y) (by omega), wu32 (x := (h * 4294967296 + l) % y) (by omega)]
  exact ⟨by omega, by omega, hk⟩
theorem p_nslClone (a : List Int) (K : TV → Prop) (h : cClone.T [.d (.ints .u32 a)] K) : vc_nslClone a K := by
  obtain ⟨hl, hk⟩ := h
  unfold vc_nslClone
  intro b hb
  refine ⟨fun h => ?_, fun _ => ⟨by omega, ?_⟩⟩
  · rw [hb h] at hk; exact hk
  · exact hk
theorem p_ntrim (a : List Int) (K : TV → Prop) (h : ctrim.T [.d (.ints .u32 a)] K) : vc_ntrim a K := by
  obtain ⟨⟨hl, hsz⟩, hk⟩ := h
  unfold vc_ntrim
  refine ⟨fun v => Lim v ∧ val v = val a ∧ v.length ≤ a.length, fun v => v.length, ⟨hl, rfl, Nat.le_refl _⟩, fun v ⟨hv, he, hle⟩ => ⟨fun h => ?_, fun h => ?_⟩⟩
  · simp only [decide_eq_true_eq] at h
    have e : IntKind.wrap .i64 ((Nat.cast : Nat → Int) v.length - 1) = ((v.length - 1 : Nat) : Int) := by rw [w64 (by omega)]; omega
    rw [e, Int.toNat_natCast]
    refine ⟨by omega, by omega, fun h0 => ⟨by omega, by omega, ⟨hv.take _, ?_, by simp; omega⟩, by simp; omega⟩, fun h0 => ?_⟩
    · simp only [decide_eq_true_eq] at h0
      rw [val_dropLast h0, he]
    · simp only [decide_eq_false_iff_not] at h0
      rw [← limbs_val hv (norm_of_last (.inr h0)), he]; exact hk
  · simp only [decide_eq_false_iff_not] at h
    have : v = [] := List.length_eq_zero_iff.1 (by omega)
    rw [← limbs_val hv (norm_of_last (.inl this)), he]; exact hk
theorem p_nTrim (a : List Int) (K : TV → Prop) (h : cTrim.T [.d (.ints .u32 a)] K) : vc_nTrim a K := by
  obtain ⟨⟨hl, hn⟩, hk⟩ := h
  unfold vc_nTrim
  refine ⟨⟨hl, by omega⟩, ?_, hk⟩
  have := limbs_len.2 (val_lt hl)
  omega
theorem val2 {x y : Int} (_ : Lim [x, y]) : val [x, y] = x.toNat + 4294967296 * y.toNat := by simp [val]
theorem p_nfromUint (u : Int) (K : TV → Prop) (h : cfromUint.T [.d (.int .u64 u)] K) : vc_nfromUint u K := by
  obtain ⟨hu, hk⟩ := h
  unfold vc_nfromUint
  rw [Int.fdiv_eq_ediv_of_nonneg _ (by omega), wu32m u, wu32 (x := u / 4294967296) (by omega)]
  have hl : Lim [u % 4294967296, u / 4294967296] := .mk (by omega) (.mk (by omega) .nil)
  refine ⟨⟨hl, by simp⟩, ?_⟩
  rw [val2 hl]
  have : (u % 4294967296).toNat + 4294967296 * (u / 4294967296).toNat = u.toNat := by omega
  rw [this]; exact hk
end Nt
end

section
/- NtX: proofs of verification conditions: sums, comparisons. -/
open Go Go.Vc
namespace Nt

theorem Few.lim {a : List Int} (h : Few a) : Lim a := h.1
theorem few_len {a : List Int} (h : Few a) : (limbs (val a)).length ≤ a.length := limbs_len.2 (val_lt h.1)

theorem p_nAdd (a b : List Int) (K : TV → Prop) (h : cAdd.T [.d (.ints .u32 a), .d (.ints .u32 b)] K) : vc_nAdd a b K := by
  obtain ⟨⟨ha, hb⟩, hk⟩ := h
  unfold vc_nAdd
  refine ⟨fun x y => Few x ∧ Few y ∧ val x + val y = val a + val b ∧ y.length ≤ x.length, ⟨fun h => ⟨hb, ha, Nat.add_comm _ _, ?_⟩, fun h => ⟨ha, hb, rfl, ?_⟩⟩, fun x y ⟨hx, hy, hv, hle⟩ => ?_⟩
  · simp only [decide_eq_true_eq] at h; omega
  · simp only [decide_eq_false_iff_not] at h; omega
  have hxl := hx.2
  have e : IntKind.wrap .i64 ((Nat.cast : Nat → Int) x.length + 1) = ((x.length + 1 : Nat) : Int) := by rw [w64 (by omega)]; omega
  rw [e, Int.toNat_natCast]
  refine ⟨by omega, by omega, by omega, fun c i o => Lim o ∧ o.length = x.length + 1 ∧ 0 ≤ c ∧ c ≤ 1 ∧ 0 ≤ i ∧ i ≤ x.length ∧ vt o i.toNat + 4294967296 ^ i.toNat * c.toNat = vt x i.toNat + vt y i.toNat ∧ ∀ j, i.toNat ≤ j → o.getD j 0 = 0,
    fun c i o => x.length - i.toNat, ⟨Lim.zeros _, by simp, by omega, by omega, by omega, by omega, by simp [vt_zero], fun j _ => by simp [List.getD_eq_getElem?_getD, List.getElem?_replicate]; split <;> rfl⟩, ?_⟩
  rintro c i o ⟨ho, hol, hc0, hc1, hi0, hi1, hsum, hz⟩
  refine ⟨fun h => ?_, fun h => ?_⟩
  · simp only [decide_eq_true_eq] at h
    obtain ⟨n, rfl⟩ : ∃ n : Nat, i = n := ⟨i.toNat, by omega⟩
    simp only [Int.toNat_natCast] at hsum hz ⊢
    refine ⟨by omega, by omega, fun e => e = y.getD n 0, ⟨fun h2 => ⟨by omega, by simpa using h2, trivial, rfl⟩, fun h2 => ⟨trivial, ?_⟩⟩, ?_⟩
    · simp only [decide_eq_false_iff_not] at h2
      simp [List.getD_eq_getElem?_getD, List.getElem?_eq_none (show y.length ≤ n by omega)]
    · rintro e rfl
      have hx1 := hx.1 n
      have hy1 := hy.1 n
      refine ⟨⟨hx1, hy1, hc0, hc1⟩, by omega, by omega, ?_⟩
      have e2 : IntKind.wrap .i64 ((n : Int) + 1) = ((n + 1 : Nat) : Int) := by rw [w64 (by omega)]; omega
      rw [e2]
      refine ⟨⟨ho.set _ (by omega), by simpa using hol, by omega, by omega, by omega, by omega, ?_, fun j hj => ?_⟩, ?_⟩
      · rw [Int.toNat_natCast, vt_succ, vt_succ, vt_succ, vt_set _ _ _ _ (Nat.le_refl _), getD_set, if_pos ⟨rfl, by omega⟩]
        have e3 : ((x.getD n 0 + y.getD n 0 + c) % 4294967296).toNat + 4294967296 * ((x.getD n 0 + y.getD n 0 + c) / 4294967296).toNat = (x.getD n 0).toNat + (y.getD n 0).toNat + c.toNat := by omega
        rw [Nat.pow_succ]
        generalize ((x.getD n 0 + y.getD n 0 + c) % 4294967296).toNat = p at e3 ⊢
        generalize ((x.getD n 0 + y.getD n 0 + c) / 4294967296).toNat = q at e3 ⊢
        generalize 4294967296 ^ n = w at hsum ⊢
        have e4 : w * (p + 4294967296 * q) = w * ((x.getD n 0).toNat + (y.getD n 0).toNat + c.toNat) := by rw [e3]
        simp only [Nat.mul_add] at e4 ⊢
        rw [Nat.mul_assoc]
        omega
      · rw [getD_set, if_neg (by simp at hj; omega)]
        exact hz j (by simp at hj; omega)
      · simp; omega
  · simp only [decide_eq_false_iff_not] at h
    obtain rfl : i = x.length := by omega
    simp only [Int.toNat_natCast] at hsum hz ⊢
    have hlim : Lim (o.set x.length c) := ho.set _ (by omega)
    refine ⟨by omega, by omega, ⟨hlim, by simp [hol]; omega⟩, ?_⟩
    have : val (o.set x.length c) = val a + val b := by
      rw [← vt_all (o.set x.length c) (i := x.length + 1) (by simp [hol]), vt_succ, vt_set _ _ _ _ (Nat.le_refl _), getD_set, if_pos ⟨rfl, by omega⟩, hsum, vt_all x (Nat.le_refl _), vt_all y hle, hv]
    rw [this]; exact hk

end Nt
end

section
/- NtY: proofs of verification conditions: short, Pow, Same. -/
open Go Go.Vc
namespace Nt

theorem p_nrefSame (a b : List Int) (K : TV → Prop) (h : cSame.T [.d (.ints .u32 a), .d (.ints .u32 b)] K) : vc_nrefSame a b K := by
  obtain ⟨⟨ha, hb⟩, hk⟩ := h
  unfold vc_nrefSame
  refine ⟨fun h => ?_, fun h => ?_⟩
  · have hne : a ≠ b := fun e => by subst e; simp at h
    rw [decide_eq_false hne] at hk; exact hk
  · have hlen : a.length = b.length := by
      have : ((Nat.cast : Nat → Int) a.length) = b.length := by simpa using h
      omega
    refine ⟨fun i => 0 ≤ i ∧ i ≤ a.length ∧ ∀ j, j < i.toNat → a.getD j 0 = b.getD j 0, fun i => a.length - i.toNat, ⟨by omega, by omega, fun j hj => by simp at hj⟩, fun i ⟨h0, h1, hj⟩ => ⟨fun h2 => ?_, fun h2 => ?_⟩⟩
    · simp only [decide_eq_true_eq] at h2
      refine ⟨by omega, by omega, by omega, by omega, fun h3 => ?_, fun h3 => ?_⟩
      · have hne : a ≠ b := fun e => by subst e; simp at h3
        rw [decide_eq_false hne] at hk; exact hk
      · have h3 : a.getD i.toNat 0 = b.getD i.toNat 0 := by simpa using h3
        rw [w64 (by omega)]
        refine ⟨⟨by omega, by omega, fun j hj' => ?_⟩, by simp only; omega⟩
        by_cases e : j = i.toNat
        · rw [e]; exact h3
        · exact hj j (by omega)
    · simp only [decide_eq_false_iff_not] at h2
      have e : a = b := by
        apply List.ext_getElem hlen
        intro j hj1 hj2
        have := hj j (by omega)
        simpa [List.getD_eq_getElem?_getD, hj1, hj2] using this
      rw [decide_eq_true e] at hk; exact hk

end Nt
end

section
/- NtY2: proofs of verification conditions: short, toUint. -/
open Go Go.Vc
namespace Nt

/-- The value of the limbs from i on. -/
def vd (a : List Int) (i : Nat) : Nat := val (a.drop i)
theorem vd_all (a : List Int) : vd a 0 = val a := by simp [vd]
theorem vd_len (a : List Int) {i : Nat} (h : a.length ≤ i) : vd a i = 0 := by simp [vd, List.drop_of_length_le h, val]
theorem vd_step (a : List Int) (i : Nat) : vd a i = (a.getD i 0).toNat + 4294967296 * vd a (i + 1) := by
  unfold vd
  by_cases h : i < a.length
  · rw [List.drop_eq_getElem_cons h, val]
    simp [List.getD_eq_getElem?_getD, h]
  · rw [List.drop_of_length_le (by omega), List.drop_of_length_le (by omega)]
    simp [val, List.getD_eq_getElem?_getD, h]
theorem vd_set (a : List Int) (i j : Nat) (v : Int) (h : j < i) : vd (a.set j v) i = vd a i := by
  unfold vd; rw [List.drop_set_of_lt h]
theorem vd_vt (a : List Int) (i : Nat) : val a = vt a i + 4294967296 ^ i * vd a i := by
  by_cases h : i ≤ a.length
  · have := val_append (a.take i) (a.drop i)
    rw [List.take_append_drop, List.length_take, Nat.min_eq_left h] at this
    exact this
  · rw [vt_all a (by omega), vd_len a (by omega)]; simp

/-- One step of a division by one limb, in numbers. -/
theorem short_step {D R x z w : Nat} (W : Nat) (hW : W = 4294967296) (hR : R < D) (hx : x < W) (hw : w = z * D + R) :
    (R * W + x) / D < W ∧ (R * W + x) % D < D ∧ x + W * w = ((R * W + x) / D + W * z) * D + (R * W + x) % D := by
  have hD : 0 < D := by omega
  have h1 : (R + 1) * W ≤ D * W := Nat.mul_le_mul_right _ (by omega)
  refine ⟨Nat.div_lt_of_lt_mul (by rw [Nat.add_mul] at h1; omega), Nat.mod_lt _ hD, ?_⟩
  have hdm := Nat.div_add_mod (R * W + x) D
  generalize (R * W + x) / D = q at hdm ⊢
  generalize (R * W + x) % D = m at hdm ⊢
  subst hw
  have e3 : (q + W * z) * D = D * q + W * (z * D) := by rw [Nat.add_mul, Nat.mul_comm q D, Nat.mul_assoc]
  rw [e3, Nat.mul_add, Nat.mul_comm W R]
  generalize W * (z * D) = u
  generalize R * W = v at hdm ⊢
  generalize D * q = t at hdm ⊢
  omega

theorem p_nshort (a : List Int) (d : Int) (K : TV → Prop) (h : cshort.T [.d (.ints .u32 a), .d (.int .u32 d)] K) : vc_nshort a d K := by
  obtain ⟨⟨ha, hd, hd0⟩, hk⟩ := h
  have hal := ha.2
  unfold L at hd
  obtain ⟨D, rfl⟩ : ∃ D : Nat, d = D := ⟨d.toNat, by omega⟩
  simp only [Int.toNat_natCast] at hk
  unfold vc_nshort
  rw [Int.toNat_natCast]
  refine ⟨by omega, by omega, by omega, fun r i o => Lim o ∧ o.length = a.length ∧ 0 ≤ r ∧ r < D ∧ -1 ≤ i ∧ i < a.length ∧ vd a (i + 1).toNat = vd o (i + 1).toNat * D + r.toNat, fun r i o => (i + 1).toNat, ⟨Lim.zeros _, by simp, by omega, by omega, ?_⟩, ?_⟩
  · rw [w64 (by omega)]
    refine ⟨by omega, by omega, ?_⟩
    rw [vd_len a (by omega), vd_len _ (by simp)]; simp
  rintro r i o ⟨ho, hol, hr0, hrd, hi0, hi1, hv⟩
  refine ⟨fun h => ?_, fun h => ?_⟩
  · simp only [decide_eq_true_eq] at h
    have hai := ha.1 i.toNat
    obtain ⟨n, rfl⟩ : ∃ n : Nat, i = n := ⟨i.toNat, by omega⟩
    simp only [Int.toNat_natCast] at hai ⊢
    rw [w64 (by omega)]
    obtain ⟨R, rfl⟩ : ∃ R : Nat, r = R := ⟨r.toNat, by omega⟩
    obtain ⟨x, hx⟩ : ∃ x : Nat, a.getD n 0 = x := ⟨(a.getD n 0).toNat, by omega⟩
    rw [hx] at hai ⊢
    have e1 : ((R : Int) * 4294967296 + x) / D = (((R * 4294967296 + x) / D : Nat) : Int) := by rw [Int.natCast_ediv, Int.natCast_add, Int.natCast_mul]; rfl
    have e2 : ((R : Int) * 4294967296 + x) % D = (((R * 4294967296 + x) % D : Nat) : Int) := by rw [Int.natCast_emod, Int.natCast_add, Int.natCast_mul]; rfl
    rw [e1, e2]
    rw [show ((n : Int) + 1).toNat = n + 1 by omega] at hv
    have hst := short_step (z := vd o (n + 1)) 4294967296 rfl (show R < D by omega) (show x < 4294967296 by omega) (by simpa using hv)
    obtain ⟨hq, hm, he⟩ := hst
    have hset : vd (o.set n (((R * 4294967296 + x) / D : Nat) : Int)) n = (R * 4294967296 + x) / D + 4294967296 * vd o (n + 1) := by
      rw [vd_step _ n, vd_set _ _ _ _ (by omega), getD_set, if_pos ⟨rfl, by omega⟩, Int.toNat_natCast]
    have hva : vd a n = x + 4294967296 * vd a (n + 1) := by rw [vd_step a n, hx, Int.toNat_natCast]
    rw [← hva, ← hset] at he
    generalize (R * 4294967296 + x) / D = q at hq he hset ⊢
    generalize (R * 4294967296 + x) % D = m at hm he ⊢
    refine ⟨by omega, by omega, ⟨⟨by omega, by omega⟩, ⟨by omega, by omega⟩, ⟨by omega, by omega⟩, by omega⟩, by omega, by omega, ⟨ho.set _ ⟨by omega, by omega⟩, by simpa using hol, by omega, by omega, by omega, by omega, ?_⟩, by show (((n : Int) - 1) + 1).toNat < ((n : Int) + 1).toNat; omega⟩
    rw [show ((n : Int) - 1 + 1).toNat = n by omega, Int.toNat_natCast]
    exact he
  · simp only [decide_eq_false_iff_not] at h
    obtain rfl : i = -1 := by omega
    simp only [show ((-1 : Int) + 1).toNat = 0 from rfl, vd_all] at hv
    refine ⟨⟨ho, by omega⟩, ?_⟩
    have h1 : val a / D = val o := by
      rw [hv, Nat.mul_comm, Nat.mul_add_div (by omega), Nat.div_eq_of_lt (by omega)]; omega
    have h2 : ((val a % D : Nat) : Int) = r := by
      rw [hv, Nat.mul_comm, Nat.mul_add_mod, Nat.mod_eq_of_lt (by omega)]; omega
    rw [h1, h2] at hk; exact hk
end Nt
end

section
/- NtZ: proofs of verification conditions: Mul. -/
open Go Go.Vc
namespace Nt

/-- One step of a product, in numbers. -/
theorem mul_step {x y o c : Int} (hx : L x) (hy : L y) (ho : L o) (hc : L c) :
    let l1 := (x * y % 4294967296 + o + 0) % 4294967296
    let h1 := IntKind.wrap .u32 (x * y / 4294967296 + (x * y % 4294967296 + o + 0) / 4294967296)
    let l2 := (l1 + c + 0) % 4294967296
    let h2 := IntKind.wrap .u32 (h1 + (l1 + c + 0) / 4294967296)
    L (x * y % 4294967296) ∧ L l1 ∧ L l2 ∧ L h2 ∧ l2 + 4294967296 * h2 = x * y + o + c := by
  unfold L at *
  have h0 : 0 ≤ x * y := Int.mul_nonneg hx.1 hy.1
  have h1 : x * y ≤ 4294967295 * 4294967295 := Int.mul_le_mul (by omega) (by omega) hy.1 (by omega)
  generalize x * y = p at h0 h1 ⊢
  intro l1 h1' l2 h2
  have e1 : h1' = p / 4294967296 + (p % 4294967296 + o + 0) / 4294967296 := wu32 (by omega)
  have e2 : h2 = p / 4294967296 + (p % 4294967296 + o + 0) / 4294967296 + (l1 + c + 0) / 4294967296 := by
    show IntKind.wrap .u32 (h1' + (l1 + c + 0) / 4294967296) = _
    rw [e1]; exact wu32 (by omega)
  rw [e2]
  omega
theorem val_set (a : List Int) (j : Nat) (v : Int) (h : j < a.length) : val (a.set j v) + 4294967296 ^ j * (a.getD j 0).toNat = val a + 4294967296 ^ j * v.toNat := by
  rw [vd_vt (a.set j v) (j + 1), vd_vt a (j + 1), vt_succ, vt_succ, vt_set _ _ _ _ (Nat.le_refl _), vd_set _ _ _ _ (by omega), getD_set, if_pos ⟨rfl, h⟩]
  omega
theorem p_nMul (a b : List Int) (K : TV → Prop) (h : cMul.T [.d (.ints .u32 a), .d (.ints .u32 b)] K) : vc_nMul a b K := by
  obtain ⟨⟨ha, hb⟩, hk⟩ := h
  have hal := few_len ha
  have hbl := few_len hb
  have ha2 := ha.2
  have hb2 := hb.2
  unfold vc_nMul
  refine ⟨⟨ha.1, by omega⟩, ⟨hb.1, by omega⟩, ?_⟩
  have hA := limbs_lim (val a)
  have hB := limbs_lim (val b)
  have hva := val_limbs (val a)
  have hvb := val_limbs (val b)
  rw [← hva, ← hvb] at hk
  generalize limbs (val a) = A at *
  generalize limbs (val b) = B at *
  have e0 : IntKind.wrap .i64 ((Nat.cast : Nat → Int) A.length + (Nat.cast : Nat → Int) B.length) = ((A.length + B.length : Nat) : Int) := by rw [w64 (by omega)]; omega
  rw [e0, Int.toNat_natCast]
  refine ⟨by omega, by omega, by omega, fun i o => Lim o ∧ o.length = A.length + B.length ∧ 0 ≤ i ∧ i ≤ A.length ∧ val o = vt A i.toNat * val B ∧ ∀ j, i.toNat + B.length ≤ j → o.getD j 0 = 0,
    fun i o => A.length - i.toNat, ⟨Lim.zeros _, by simp, by omega, by omega, by simp [vt_zero, val_zeros], fun j _ => by simp [List.getD_eq_getElem?_getD, List.getElem?_replicate]; split <;> rfl⟩, ?_⟩
  rintro i o ⟨ho, hol, hi0, hi1, hv, hz⟩
  refine ⟨fun h => ?_, fun h => ?_⟩
  · simp only [decide_eq_true_eq] at h
    obtain ⟨n, rfl⟩ : ∃ n : Nat, i = n := ⟨i.toNat, by omega⟩
    simp only [Int.toNat_natCast] at hv hz ⊢
    have hn : n < A.length := by omega
    refine ⟨by omega, by omega, fun c k p => Lim p ∧ p.length = A.length + B.length ∧ L c ∧ 0 ≤ k ∧ k ≤ B.length ∧ val p + 4294967296 ^ (n + k.toNat) * c.toNat = val o + 4294967296 ^ n * ((A.getD n 0).toNat * vt B k.toNat) ∧
      ∀ j, n + B.length ≤ j → p.getD j 0 = 0, fun c k p => B.length - k.toNat, ⟨ho, hol, by unfold L; omega, by omega, by omega, by simp [vt_zero], hz⟩, ?_⟩
    rintro c k p ⟨hp, hpl, hc, hk0, hk1, hs, hpz⟩
    refine ⟨fun h2 => ?_, fun h2 => ?_⟩
    · simp only [decide_eq_true_eq] at h2
      obtain ⟨q, rfl⟩ : ∃ q : Nat, k = q := ⟨k.toNat, by omega⟩
      simp only [Int.toNat_natCast] at hs ⊢
      have e1 : IntKind.wrap .i64 ((n : Int) + (q : Int)) = ((n + q : Nat) : Int) := by rw [w64 (by omega)]; omega
      have e2 : IntKind.wrap .i64 ((q : Int) + 1) = ((q + 1 : Nat) : Int) := by rw [w64 (by omega)]; omega
      rw [e1, e2]
      simp only [Int.toNat_natCast]
      have hx := hA n
      have hy := hB q
      have ho' := hp (n + q)
      obtain ⟨m1, m2, m3, m4, m5⟩ := mul_step (x := A.getD n 0) (y := B.getD q 0) (o := p.getD (n + q) 0) (c := c) hx hy ho' hc
      refine ⟨by omega, by omega, ⟨hx, hy⟩, by omega, by omega, ⟨m1, ho', by omega, by omega⟩, ⟨m2, hc, by omega, by omega⟩, by omega, by omega, ?_⟩
      generalize ((A.getD n 0 * B.getD q 0 % 4294967296 + p.getD (n + q) 0 + 0) % 4294967296 + c + 0) % 4294967296 = lo at m3 m5 ⊢
      generalize IntKind.u32.wrap (IntKind.u32.wrap (A.getD n 0 * B.getD q 0 / 4294967296 + (A.getD n 0 * B.getD q 0 % 4294967296 + p.getD (n + q) 0 + 0) / 4294967296) +
        ((A.getD n 0 * B.getD q 0 % 4294967296 + p.getD (n + q) 0 + 0) % 4294967296 + c + 0) / 4294967296) = hi at m4 m5 ⊢
      refine ⟨⟨hp.set _ m3, by simpa using hpl, m4, by omega, by omega, ?_, fun j hj => ?_⟩, by omega⟩
      · have hset := val_set p (n + q) lo (by omega)
        unfold L at hc m3 m4
        have m6 : lo.toNat + 4294967296 * hi.toNat = (A.getD n 0).toNat * (B.getD q 0).toNat + (p.getD (n + q) 0).toNat + c.toNat := by
          obtain ⟨x, hx'⟩ : ∃ x : Nat, A.getD n 0 = x := ⟨(A.getD n 0).toNat, by omega⟩
          obtain ⟨y, hy'⟩ : ∃ y : Nat, B.getD q 0 = y := ⟨(B.getD q 0).toNat, by omega⟩
          rw [hx', hy', ← Int.natCast_mul] at m5
          rw [hx', hy', Int.toNat_natCast, Int.toNat_natCast]
          generalize x * y = z at m5 ⊢
          omega
        have e4 := congrArg (4294967296 ^ (n + q) * ·) m6
        simp only [Nat.mul_add] at e4
        have e5 : 4294967296 ^ (n + (q + 1)) * hi.toNat = 4294967296 ^ (n + q) * (4294967296 * hi.toNat) := by rw [← Nat.add_assoc, Nat.pow_succ, Nat.mul_assoc]
        have e6 : 4294967296 ^ n * ((A.getD n 0).toNat * vt B (q + 1)) = 4294967296 ^ n * ((A.getD n 0).toNat * vt B q) + 4294967296 ^ (n + q) * ((A.getD n 0).toNat * (B.getD q 0).toNat) := by
          rw [vt_succ, Nat.mul_add, Nat.mul_add, Nat.pow_add, Nat.mul_left_comm (A.getD n 0).toNat, Nat.mul_assoc]
        rw [e5, e6]
        omega
      · rw [getD_set, if_neg (by omega)]
        exact hpz j hj
    · simp only [decide_eq_false_iff_not] at h2
      obtain rfl : k = B.length := by omega
      simp only [Int.toNat_natCast] at hs
      have hc' := hc
      unfold L at hc'
      have e1 : IntKind.wrap .i64 ((n : Int) + (Nat.cast : Nat → Int) B.length) = ((n + B.length : Nat) : Int) := by rw [w64 (by omega)]; omega
      have e2 : IntKind.wrap .i64 ((n : Int) + 1) = ((n + 1 : Nat) : Int) := by rw [w64 (by omega)]; omega
      rw [e1, e2]
      simp only [Int.toNat_natCast]
      have hset := val_set p (n + B.length) c (by omega)
      rw [hpz _ (Nat.le_refl _)] at hset
      refine ⟨by omega, by omega, ⟨hp.set _ hc', by simpa using hpl, by omega, by omega, ?_, fun j hj => ?_⟩, by omega⟩
      · rw [vt_succ, Nat.add_mul, ← hv, Nat.mul_assoc]
        rw [vt_all B (Nat.le_refl _)] at hs
        simp at hset
        omega
      · rw [getD_set, if_neg (by omega)]
        exact hpz j (by omega)
  · simp only [decide_eq_false_iff_not] at h
    obtain rfl : i = A.length := by omega
    refine ⟨⟨ho, by omega⟩, ?_⟩
    rw [hv, Int.toNat_natCast, vt_all A (Nat.le_refl _)]; exact hk
end Nt
end

section
/- NtC: proofs of verification conditions: Cmp, toUint, Sub32, Sub. -/
open Go Go.Vc
namespace Nt

theorem cmp_lt {a b : Nat} (h : a < b) : cmp a b = -1 := by unfold cmp; rw [if_pos h]
theorem cmp_gt {a b : Nat} (h : b < a) : cmp a b = 1 := by unfold cmp; rw [if_neg (by omega), if_neg (by omega)]
theorem cmp_eq (a : Nat) : cmp a a = 0 := by unfold cmp; rw [if_neg (by omega), if_pos rfl]
theorem len_lt {a b : Nat} (h : (limbs a).length < (limbs b).length) : a < b := by
  have h1 : a < 4294967296 ^ (limbs a).length := limbs_len.1 (Nat.le_refl _)
  have h2 : ¬ b < 4294967296 ^ (limbs a).length := fun hb => by
    have := limbs_len.2 hb
    omega
  omega
theorem vd_less {a b : List Int} (n : Nat) (ha : Lim a) (h1 : vd a (n + 1) = vd b (n + 1)) (h2 : (a.getD n 0).toNat < (b.getD n 0).toNat) : val a < val b := by
  have e1 := vd_vt a n
  have e2 := vd_vt b n
  have h3 := vt_lt ha n
  rw [vd_step a n] at e1
  rw [vd_step b n, ← h1] at e2
  generalize (a.getD n 0).toNat = x at *
  generalize (b.getD n 0).toNat = y at *
  generalize vd a (n + 1) = v at *
  generalize 4294967296 ^ n = w at *
  have h4 : w * (x + 4294967296 * v) + w ≤ w * (y + 4294967296 * v) := by
    have := Nat.mul_le_mul_left w (show x + 4294967296 * v + 1 ≤ y + 4294967296 * v by omega)
    rw [Nat.mul_add w (x + 4294967296 * v) 1, Nat.mul_one] at this
    exact this
  omega

theorem p_nCmp (a b : List Int) (K : TV → Prop) (h : cCmp.T [.d (.ints .u32 a), .d (.ints .u32 b)] K) : vc_nCmp a b K := by
  obtain ⟨⟨ha, hb⟩, hk⟩ := h
  have hal := few_len ha
  have hbl := few_len hb
  have ha2 := ha.2
  have hb2 := hb.2
  unfold vc_nCmp
  refine ⟨⟨ha.1, by omega⟩, ⟨hb.1, by omega⟩, fun h => ⟨fun h1 => ?_, fun h1 => ?_⟩, fun h => ?_⟩
  · simp only [decide_eq_true_eq] at h1
    rw [cmp_lt (len_lt (by omega))] at hk; exact hk
  · have h2 : ¬ ((Nat.cast : Nat → Int) (limbs (val a)).length = (Nat.cast : Nat → Int) (limbs (val b)).length) := by simpa using h
    simp only [decide_eq_false_iff_not] at h1
    rw [cmp_gt (len_lt (by omega))] at hk; exact hk
  · have h2 : (Nat.cast : Nat → Int) (limbs (val a)).length = (Nat.cast : Nat → Int) (limbs (val b)).length := by simpa using h
    have hA := limbs_lim (val a)
    have hB := limbs_lim (val b)
    have hva := val_limbs (val a)
    have hvb := val_limbs (val b)
    rw [← hva, ← hvb] at hk
    generalize limbs (val a) = A at *
    generalize limbs (val b) = B at *
    refine ⟨fun i => -1 ≤ i ∧ i < A.length ∧ vd A (i + 1).toNat = vd B (i + 1).toNat, fun i => (i + 1).toNat, ?_, ?_⟩
    · rw [w64 (by omega)]
      refine ⟨by omega, by omega, ?_⟩
      rw [vd_len A (by omega), vd_len B (by omega)]
    rintro i ⟨h3, h4, h5⟩
    refine ⟨fun h6 => ?_, fun h6 => ?_⟩
    · simp only [decide_eq_true_eq] at h6
      obtain ⟨n, rfl⟩ : ∃ n : Nat, i = n := ⟨i.toNat, by omega⟩
      rw [show ((n : Int) + 1).toNat = n + 1 by omega] at h5
      simp only [Int.toNat_natCast]
      have hx := hA n
      have hy := hB n
      refine ⟨by omega, by omega, by omega, by omega, fun h7 => ?_, fun h7 => ⟨by omega, by omega, by omega, by omega, fun h8 => ?_, fun h8 => ?_⟩⟩
      · simp only [decide_eq_true_eq] at h7
        rw [cmp_lt (vd_less n hA h5 (by omega))] at hk; exact hk
      · simp only [decide_eq_true_eq] at h8
        rw [cmp_gt (vd_less n hB h5.symm (by omega))] at hk; exact hk
      · simp only [decide_eq_false_iff_not] at h7 h8
        rw [w64 (by omega)]
        refine ⟨⟨by omega, by omega, ?_⟩, by show (((n : Int) - 1) + 1).toNat < ((n : Int) + 1).toNat; omega⟩
        rw [show ((n : Int) - 1 + 1).toNat = n by omega, vd_step A n, vd_step B n, h5, show A.getD n 0 = B.getD n 0 by omega]
    · simp only [decide_eq_false_iff_not] at h6
      obtain rfl : i = -1 := by omega
      simp only [show ((-1 : Int) + 1).toNat = 0 from rfl, vd_all] at h5
      rw [h5, cmp_eq] at hk; exact hk

/-! toUint -/
theorem or_comm64 (x y : Int) : bitop .or .u64 x y = bitop .or .u64 y x := by
  unfold bitop
  simp only [BitVec.or_comm]
theorem or64_zero {x : Int} (h : L x) : bitop .or .u64 0 x = x := by
  have := or64' (h := 0) (l := x) ⟨by decide, by decide⟩ h
  simpa using this
theorem p_ntoUint (a : List Int) (K : TV → Prop) (h : ctoUint.T [.d (.ints .u32 a)] K) : vc_ntoUint a K := by
  obtain ⟨⟨ha, hl⟩, hk⟩ := h
  unfold vc_ntoUint
  refine ⟨fun v i => 0 ≤ i ∧ i ≤ a.length ∧ v = vt a i.toNat, fun v i => a.length - i.toNat, ⟨by omega, by omega, by simp [vt_zero]⟩, ?_⟩
  rintro v i ⟨h1, h2, h3⟩
  refine ⟨fun h4 => ?_, fun h4 => ?_⟩
  · simp only [decide_eq_true_eq] at h4
    have h5 : i = 0 ∨ i = 1 := by omega
    have hx := ha i.toNat
    have hx0 := ha 0
    rcases h5 with rfl | rfl
    · simp only [show Int.toNat 0 = 0 from rfl] at *
      have e1 : IntKind.wrap .i64 (32 * 0) = 0 := w64 (by omega)
      have e2 : IntKind.wrap .i64 (0 + 1) = 1 := w64 (by omega)
      rw [e1, e2]
      simp only [show Int.toNat 0 = 0 from rfl, show min 0 64 = 0 from rfl, Int.pow_zero, Int.mul_one]
      rw [wu64 (x := a.getD 0 0) (by omega), wu64 (x := a.getD 0 0) (by omega), h3, vt_zero]
      have e3 : bitop .or .u64 (((0 : Nat) : Int)) (a.getD 0 0) = a.getD 0 0 := or64_zero hx
      rw [e3]
      refine ⟨by omega, by omega, by omega, ⟨by omega, by omega, ?_⟩, ?_⟩
      · show a.getD 0 0 = ((vt a 1 : Nat) : Int)
        rw [vt_succ, vt_zero, Nat.pow_zero, Nat.one_mul, Nat.zero_add]; omega
      · show a.length - Int.toNat 1 < a.length - Int.toNat 0
        simp only [show Int.toNat 1 = 1 from rfl, show Int.toNat 0 = 0 from rfl]; omega
    · simp only [show Int.toNat 1 = 1 from rfl] at *
      have e1 : IntKind.wrap .i64 (32 * 1) = 32 := w64 (by omega)
      have e2 : IntKind.wrap .i64 (1 + 1) = 2 := w64 (by omega)
      rw [e1, e2]
      simp only [show Int.toNat 32 = 32 from rfl, show min 32 64 = 32 from rfl, show (2 : Int) ^ 32 = 4294967296 from rfl]
      rw [wu64 (x := a.getD 1 0) (by omega), wu64 (x := a.getD 1 0 * 4294967296) (by omega), or_comm64]
      have hv : vt a 1 = (a.getD 0 0).toNat := by rw [vt_succ, vt_zero]; simp
      have e3 : bitop .or .u64 (a.getD 1 0 * 4294967296) v = a.getD 1 0 * 4294967296 + v := or64' hx ⟨by omega, by rw [h3, hv]; omega⟩
      rw [e3]
      refine ⟨by omega, by omega, by omega, ⟨by omega, by omega, ?_⟩, ?_⟩
      · show a.getD 1 0 * 4294967296 + v = ((vt a 2 : Nat) : Int)
        rw [vt_succ, hv, h3, hv, Nat.pow_one]; omega
      · show a.length - Int.toNat 2 < a.length - Int.toNat 1
        simp only [show Int.toNat 2 = 2 from rfl, show Int.toNat 1 = 1 from rfl]; omega
  · simp only [decide_eq_false_iff_not] at h4
    obtain rfl : i = a.length := by omega
    rw [h3, Int.toNat_natCast, vt_all a (Nat.le_refl _)]; exact hk

/-! Sub32 -/
theorem msbI (x : Int) (h : L x) : (BitVec.ofInt 32 x).msb = decide (2147483648 ≤ x) := by
  rw [BitVec.msb_eq_decide, BitVec.toNat_ofInt]
  unfold L at h
  have e : (x % ((2 ^ 32 : Nat) : Int)).toNat = x.toNat := by
    rw [Int.emod_eq_of_lt h.1 (by have : ((2 ^ 32 : Nat) : Int) = 4294967296 := rfl
                                  omega)]
  rw [e]
  have e2 : (2 ^ (32 - 1) : Nat) = 2147483648 := rfl
  rw [e2, decide_eq_decide]
  omega
theorem bv32 (B : BitVec 32) : L (B.toNat : Int) ∧ BitVec.ofInt 32 (B.toNat : Int) = B := by
  refine ⟨⟨by omega, ?_⟩, ?_⟩
  · have := B.isLt
    have e2 : (2 ^ 32 : Nat) = 4294967296 := rfl
    rw [e2] at this
    omega
  · rw [BitVec.ofInt_natCast, BitVec.ofNat_toNat, BitVec.setWidth_eq]
theorem and32 (x y : Int) : bitop .and .u32 x y = ((BitVec.ofInt 32 x &&& BitVec.ofInt 32 y).toNat : Int) := wu32 (bv32 _).1
theorem or32 (x y : Int) : bitop .or .u32 x y = ((BitVec.ofInt 32 x ||| BitVec.ofInt 32 y).toNat : Int) := wu32 (bv32 _).1
theorem xor32 (x y : Int) : bitop .xor .u32 x y = ((BitVec.ofInt 32 x ^^^ BitVec.ofInt 32 y).toNat : Int) := wu32 (bv32 _).1
theorem top32 (B : BitVec 32) : ((B.toNat : Int)).fdiv 2147483648 = if B.msb then 1 else 0 := by
  have h := (bv32 B).1
  have h2 := msbI _ h
  rw [(bv32 B).2] at h2
  unfold L at h
  rw [Int.fdiv_eq_ediv_of_nonneg _ (by omega), h2]
  by_cases h3 : 2147483648 ≤ (B.toNat : Int)
  · rw [decide_eq_true h3, if_pos rfl]; omega
  · rw [decide_eq_false h3, if_neg (by simp)]; omega

theorem p_nbitsSub32 (x y c : Int) (K : TV → Prop) (h : cSub32.T [.d (.int .u32 x), .d (.int .u32 y), .d (.int .u32 c)] K) : vc_nbitsSub32 x y c K := by
  obtain ⟨⟨hx, hy, h1, h2⟩, hk⟩ := h
  unfold vc_nbitsSub32
  have hd : IntKind.wrap .u32 (IntKind.wrap .u32 (x - y) - c) = (x - y - c) % 4294967296 := by
    rw [wu32m, wu32m, Int.emod_sub_emod]
  rw [hd]
  have hD : L ((x - y - c) % 4294967296) := by unfold L; omega
  have hb : ((bitop .or .u32 (bitop .and .u32 (bitop .xor .u32 4294967295 x) y) (bitop .and .u32 (bitop .xor .u32 4294967295 (bitop .xor .u32 x y)) ((x - y - c) % 4294967296))).fdiv 2147483648) = if x - y - c < 0 then 1 else 0 := by
    rw [or32, and32, and32, xor32, xor32 x y, xor32, (bv32 _).2, (bv32 _).2, (bv32 _).2, (bv32 _).2, (bv32 _).2, top32]
    rw [BitVec.msb_or, BitVec.msb_and, BitVec.msb_and, BitVec.msb_xor, BitVec.msb_xor, BitVec.msb_xor, msbI x hx, msbI y hy, msbI _ hD, msbI 4294967295 ⟨by decide, by decide⟩]
    unfold L at hx hy
    by_cases a1 : 2147483648 ≤ x <;> by_cases a2 : 2147483648 ≤ y <;> by_cases a3 : 2147483648 ≤ (x - y - c) % 4294967296 <;> simp [a1, a2, a3] <;> omega
  rw [hb]
  exact hk

theorem p_nSub (a b : List Int) (K : TV → Prop) (h : cSub.T [.d (.ints .u32 a), .d (.ints .u32 b)] K) : vc_nSub a b K := by
  obtain ⟨⟨ha, hb⟩, hk⟩ := h
  have hal := few_len ha
  have hbl := few_len hb
  have ha2 := ha.2
  have hb2 := hb.2
  unfold vc_nSub
  have hcm : cmp (val a) (val b) < 0 ↔ val a < val b := by
    unfold cmp
    split
    · simp [*]
    · split <;> simp [*]
  refine ⟨⟨ha, hb⟩, fun h => ?_, fun h => ⟨⟨ha.1, by omega⟩, ⟨hb.1, by omega⟩, ?_⟩⟩
  · simp only [decide_eq_true_eq] at h
    rw [if_pos (hcm.1 h), if_pos (hcm.1 h)] at hk; exact hk
  · simp only [decide_eq_false_iff_not] at h
    have hge : ¬ val a < val b := fun hx => h (hcm.2 hx)
    rw [if_neg hge, if_neg hge] at hk
    have hBA : (limbs (val b)).length ≤ (limbs (val a)).length := by
      rw [limbs_len]
      have := limbs_len.1 (Nat.le_refl (limbs (val a)).length)
      omega
    have hA := limbs_lim (val a)
    have hB := limbs_lim (val b)
    have hva := val_limbs (val a)
    have hvb := val_limbs (val b)
    rw [← hva, ← hvb] at hk hge
    generalize limbs (val a) = A at *
    generalize limbs (val b) = B at *
    rw [Int.toNat_natCast]
    refine ⟨by omega, by omega, by omega, fun c i o => Lim o ∧ o.length = A.length ∧ 0 ≤ c ∧ c ≤ 1 ∧ 0 ≤ i ∧ i ≤ A.length ∧ vt o i.toNat + vt B i.toNat = vt A i.toNat + 4294967296 ^ i.toNat * c.toNat,
      fun c i o => A.length - i.toNat, ⟨Lim.zeros _, by simp, by omega, by omega, by omega, by omega, by simp [vt_zero]⟩, ?_⟩
    rintro c i o ⟨ho, hol, hc0, hc1, hi0, hi1, hsum⟩
    refine ⟨fun h => ?_, fun h => ?_⟩
    · simp only [decide_eq_true_eq] at h
      obtain ⟨n, rfl⟩ : ∃ n : Nat, i = n := ⟨i.toNat, by omega⟩
      simp only [Int.toNat_natCast] at hsum ⊢
      refine ⟨by omega, by omega, fun e => e = B.getD n 0, ⟨fun h2 => ?_, fun h2 => ⟨trivial, ?_⟩⟩, ?_⟩
      · simp only [decide_eq_true_eq] at h2
        exact ⟨by omega, h2, trivial, rfl⟩
      · simp only [decide_eq_false_iff_not] at h2
        simp [List.getD_eq_getElem?_getD, List.getElem?_eq_none (show B.length ≤ n by omega)]
      · rintro e rfl
        have hx1 := hA n
        have hy1 := hB n
        refine ⟨⟨hx1, hy1, hc0, hc1⟩, by omega, by omega, ?_⟩
        have e2 : IntKind.wrap .i64 ((n : Int) + 1) = ((n + 1 : Nat) : Int) := by rw [w64 (by omega)]; omega
        rw [e2]
        refine ⟨⟨ho.set _ (by omega), by simpa using hol, by split <;> omega, by split <;> omega, by omega, by omega, ?_⟩, by simp; omega⟩
        rw [Int.toNat_natCast, vt_succ, vt_succ, vt_succ, vt_set _ _ _ _ (Nat.le_refl _), getD_set, if_pos ⟨rfl, by omega⟩]
        have e3 : ((A.getD n 0 - B.getD n 0 - c) % 4294967296).toNat + (B.getD n 0).toNat + c.toNat = (A.getD n 0).toNat + 4294967296 * (if A.getD n 0 - B.getD n 0 - c < 0 then (1 : Int) else 0).toNat := by
          split <;> omega
        rw [Nat.pow_succ]
        generalize ((A.getD n 0 - B.getD n 0 - c) % 4294967296).toNat = p at e3 ⊢
        generalize (if A.getD n 0 - B.getD n 0 - c < 0 then (1 : Int) else 0).toNat = q at e3 ⊢
        generalize 4294967296 ^ n = w at hsum ⊢
        have e4 : w * (p + (B.getD n 0).toNat + c.toNat) = w * ((A.getD n 0).toNat + 4294967296 * q) := by rw [e3]
        simp only [Nat.mul_add] at e4 ⊢
        rw [Nat.mul_assoc]
        omega
    · simp only [decide_eq_false_iff_not] at h
      obtain rfl : i = A.length := by omega
      simp only [Int.toNat_natCast] at hsum
      refine ⟨⟨ho, by omega⟩, ?_⟩
      rw [vt_all A (Nat.le_refl _), vt_all B hBA, vt_all o (by omega)] at hsum
      have hlt := val_lt ho
      rw [hol] at hlt
      have hc : c.toNat = 0 := by
        rcases Nat.eq_zero_or_pos c.toNat with h0 | h0
        · exact h0
        · have : c.toNat = 1 := by omega
          rw [this] at hsum; omega
      rw [hc] at hsum
      have : val o = val A - val B := by omega
      rw [this]; exact hk
end Nt
end

section
/- Verification conditions, printed. -/
open Go Go.Vc
namespace Nt
def vc_nslReverse : List Int → (OB → TV → Prop) → Prop :=
 fun (l : List Int) (K : OB → TV → Prop) => ∃ (I : Int → Int → List Int → Prop), ∃ (m : Int → Int → List Int → Nat), I (0 : Int) (IntKind.wrap IntKind.i64 ((Nat.cast : Nat → Int) (List.length l) - (1 :
 Int))) l ∧ ∀ (v2 v3 : Int) (o0 : List Int), I v2 v3 o0 → (decide (v2 < v3) = true → (0 : Int) ≤ v3 ∧ v3 < (Nat.cast : Nat → Int) (List.length o0) ∧ (0 : Int) ≤ v2 ∧ v2 < (Nat.cast : Nat → Int)
 (List.length o0) ∧ (0 : Int) ≤ v2 ∧ v2 < (Nat.cast : Nat → Int) (List.length o0) ∧ (0 : Int) ≤ v3 ∧ v3 < (Nat.cast : Nat → Int) (List.length (List.set o0 (Int.toNat v2) (List.getD o0 (Int.toNat v3) (0
 : Int)))) ∧ I (IntKind.wrap IntKind.i64 (v2 + (1 : Int))) (IntKind.wrap IntKind.i64 (v3 - (1 : Int))) (List.set (List.set o0 (Int.toNat v2) (List.getD o0 (Int.toNat v3) (0 : Int))) (Int.toNat v3)
 (List.getD o0 (Int.toNat v2) (0 : Int))) ∧ m (IntKind.wrap IntKind.i64 (v2 + (1 : Int))) (IntKind.wrap IntKind.i64 (v3 - (1 : Int))) (List.set (List.set o0 (Int.toNat v2) (List.getD o0 (Int.toNat v3)
 (0 : Int))) (Int.toNat v3) (List.getD o0 (Int.toNat v2) (0 : Int))) < m v2 v3 o0) ∧ (decide (v2 < v3) = false → K (OB.ints IntKind.u8 o0) (TV.tup []))

def vc_nFormat : List Int → (TV → Prop) → Prop :=
 fun (a : List Int) (K : TV → Prop) => (Nt.Lim a ∧ List.length a ≤ (1000000000 : Nat)) ∧ ∃ (I : List Int → List Int → Prop), ∃ (m : List Int → List Int → Nat), I (Nt.limbs (Nt.val a)) [] ∧ ∀ (v0 o0 :
 List Int), I v0 o0 → (decide ((0 : Int) < (Nat.cast : Nat → Int) (List.length v0)) = true → (Nt.Few v0 ∧ Nt.L (1000000000 : Int) ∧ (0 : Int) < (1000000000 : Int)) ∧ ∃ (I_1 : Int → Int → List Int →
 Prop), ∃ (m_1 : Int → Int → List Int → Nat), I_1 ((Nat.cast : Nat → Int) (Nt.val v0 % (1000000000 : Nat))) (0 : Int) o0 ∧ ∀ (v4 v15 : Int) (o0_1 : List Int), I_1 v4 v15 o0_1 → (decide (v15 < (9 :
 Int)) = true → (decide ((Nat.cast : Nat → Int) (List.length (Nt.limbs (Nt.val v0 / (1000000000 : Nat)))) = (0 : Int)) = true → (decide (v4 = (0 : Int)) = true → I (Nt.limbs (Nt.val v0 / (1000000000 :
 Nat))) o0_1 ∧ m (Nt.limbs (Nt.val v0 / (1000000000 : Nat))) o0_1 < m v0 o0) ∧ (decide (v4 = (0 : Int)) = false → ((Nat.cast : Nat → Int) (List.length o0_1) + (Nat.cast : Nat → Int) (List.length
 [IntKind.wrap IntKind.u8 (IntKind.wrap IntKind.u32 ((48 : Int) + Int.tmod v4 (10 : Int)))])) * (1 : Int) ≤ (70368744177664 : Int) ∧ I_1 (IntKind.wrap IntKind.u32 (Int.tdiv v4 (10 : Int)))
 (IntKind.wrap IntKind.i64 (v15 + (1 : Int))) (instHAppendOfAppend.1 o0_1 [IntKind.wrap IntKind.u8 (IntKind.wrap IntKind.u32 ((48 : Int) + Int.tmod v4 (10 : Int)))]) ∧ m_1 (IntKind.wrap IntKind.u32
 (Int.tdiv v4 (10 : Int))) (IntKind.wrap IntKind.i64 (v15 + (1 : Int))) (instHAppendOfAppend.1 o0_1 [IntKind.wrap IntKind.u8 (IntKind.wrap IntKind.u32 ((48 : Int) + Int.tmod v4 (10 : Int)))]) < m_1 v4
 v15 o0_1)) ∧ (decide ((Nat.cast : Nat → Int) (List.length (Nt.limbs (Nt.val v0 / (1000000000 : Nat)))) = (0 : Int)) = false → ((Nat.cast : Nat → Int) (List.length o0_1) + (Nat.cast : Nat → Int)
 (List.length [IntKind.wrap IntKind.u8 (IntKind.wrap IntKind.u32 ((48 : Int) + Int.tmod v4 (10 : Int)))])) * (1 : Int) ≤ (70368744177664 : Int) ∧ I_1 (IntKind.wrap IntKind.u32 (Int.tdiv v4 (10 : Int)))
 (IntKind.wrap IntKind.i64 (v15 + (1 : Int))) (instHAppendOfAppend.1 o0_1 [IntKind.wrap IntKind.u8 (IntKind.wrap IntKind.u32 ((48 : Int) + Int.tmod v4 (10 : Int)))]) ∧ m_1 (IntKind.wrap IntKind.u32
 (Int.tdiv v4 (10 : Int))) (IntKind.wrap IntKind.i64 (v15 + (1 : Int))) (instHAppendOfAppend.1 o0_1 [IntKind.wrap IntKind.u8 (IntKind.wrap IntKind.u32 ((48 : Int) + Int.tmod v4 (10 : Int)))]) < m_1 v4
 v15 o0_1)) ∧ (decide (v15 < (9 : Int)) = false → I (Nt.limbs (Nt.val v0 / (1000000000 : Nat))) o0_1 ∧ m (Nt.limbs (Nt.val v0 / (1000000000 : Nat))) o0_1 < m v0 o0)) ∧ (decide ((0 : Int) < (Nat.cast :
 Nat → Int) (List.length v0)) = false → (decide ((Nat.cast : Nat → Int) (List.length o0) = (0 : Int)) = true → K (TV.d (AV.str [(48 : Int)]))) ∧ (decide ((Nat.cast : Nat → Int) (List.length o0) = (0 :
 Int)) = false → (0 : Nat) < List.length o0 ∧ List.length o0 ≤ (1000000000000 : Nat) ∧ (∀ (x : Int), x ∈ List.reverse o0 → (0 : Int) ≤ x ∧ x < (256 : Int)) ∧ K (TV.d (AV.str (List.reverse o0)))))





def vc_nParse : List Int → (TV → Prop) → Prop :=
 fun (s : List Int) (K : TV → Prop) => (decide (s = []) = true → K (TV.tup [TV.d (AV.ints IntKind.u32 []), TV.d (AV.int IntKind.i64 (4 : Int))])) ∧ (decide (s = []) = false → ∃ (I : Int → Prop), ∃ (m :
 Int → Nat), I (0 : Int) ∧ ∀ (v11 : Int), I v11 → (decide (v11 < (Nat.cast : Nat → Int) (List.length s)) = true → (0 : Int) ≤ v11 ∧ v11 < (Nat.cast : Nat → Int) (List.length s) ∧ (decide ((48 : Int) ≤
 List.getD s (Int.toNat v11) (0 : Int)) = true → (0 : Int) ≤ v11 ∧ v11 < (Nat.cast : Nat → Int) (List.length s) ∧ (decide (List.getD s (Int.toNat v11) (0 : Int) ≤ (57 : Int)) = true → I (IntKind.wrap
 IntKind.i64 (v11 + (1 : Int))) ∧ m (IntKind.wrap IntKind.i64 (v11 + (1 : Int))) < m v11) ∧ (decide (List.getD s (Int.toNat v11) (0 : Int) ≤ (57 : Int)) = false → K (TV.tup [TV.d (AV.ints IntKind.u32
 []), TV.d (AV.int IntKind.i64 (4 : Int))]))) ∧ (decide ((48 : Int) ≤ List.getD s (Int.toNat v11) (0 : Int)) = false → K (TV.tup [TV.d (AV.ints IntKind.u32 []), TV.d (AV.int IntKind.i64 (4 : Int))])))
 ∧ (decide (v11 < (Nat.cast : Nat → Int) (List.length s)) = false → (decide ((60 : Int) < (Nat.cast : Nat → Int) (List.length s)) = true → K (TV.tup [TV.d (AV.ints IntKind.u32 []), TV.d (AV.int
 IntKind.i64 (9 : Int))])) ∧ (decide ((60 : Int) < (Nat.cast : Nat → Int) (List.length s)) = false → ∃ (I : List Int → Int → Prop), ∃ (m : List Int → Int → Nat), I [] (0 : Int) ∧ ∀ (v5 : List Int) (v30
 : Int), I v5 v30 → (decide (v30 < (Nat.cast : Nat → Int) (List.length s)) = true → (Nt.Few v5 ∧ Nt.Few [(10 : Int)]) ∧ (0 : Int) ≤ v30 ∧ v30 < (Nat.cast : Nat → Int) (List.length s) ∧ (Nt.Few
 (Nt.limbs (Nt.val v5 * (10 : Nat))) ∧ Nt.Few [IntKind.wrap IntKind.u32 (IntKind.wrap IntKind.u8 (List.getD s (Int.toNat v30) (0 : Int) - (48 : Int)))]) ∧ I (Nt.limbs (Nt.val (Nt.limbs (Nt.val v5 * (10
 : Nat))) + Nt.val [IntKind.wrap IntKind.u32 (IntKind.wrap IntKind.u8 (List.getD s (Int.toNat v30) (0 : Int) - (48 : Int)))])) (IntKind.wrap IntKind.i64 (v30 + (1 : Int))) ∧ m (Nt.limbs (Nt.val
 (Nt.limbs (Nt.val v5 * (10 : Nat))) + Nt.val [IntKind.wrap IntKind.u32 (IntKind.wrap IntKind.u8 (List.getD s (Int.toNat v30) (0 : Int) - (48 : Int)))])) (IntKind.wrap IntKind.i64 (v30 + (1 : Int))) <
 m v5 v30) ∧ (decide (v30 < (Nat.cast : Nat → Int) (List.length s)) = false → K (TV.tup [TV.d (AV.ints IntKind.u32 v5), TV.d (AV.int IntKind.i64 (0 : Int))])))))





end Nt
end

section
/- NtF: proofs of verification conditions: Reverse, Format, DivMod by one limb, awake, NaturalPowers. -/
open Go Go.Vc
namespace Nt

theorem wu8 {x : Int} (h : 0 ≤ x ∧ x < 256) : IntKind.wrap .u8 x = x := by
  unfold IntKind.wrap
  simp [IntKind.signed, IntKind.bits]
  omega
theorem ext_getD {a b : List Int} (hl : a.length = b.length) (h : ∀ i, i < a.length → a.getD i 0 = b.getD i 0) : a = b := by
  apply List.ext_getElem hl
  intro j hj1 hj2
  have := h j hj1
  simpa [List.getD_eq_getElem?_getD, hj1, hj2] using this
theorem getD_rev (l : List Int) (i : Nat) (h : i < l.length) : l.reverse.getD i 0 = l.getD (l.length - 1 - i) 0 := by
  simp only [List.getD_eq_getElem?_getD]
  rw [List.getElem?_reverse h]

theorem p_nslReverse (l : List Int) (K : OB → TV → Prop) (h : cReverse.T (.vec 0) (.ints .u8 l) [] K) : vc_nslReverse l K := by
  obtain ⟨hl, hk⟩ := h
  unfold vc_nslReverse
  refine ⟨fun i j o => o.length = l.length ∧ 0 ≤ i ∧ i + j = l.length - 1 ∧ i ≤ j + 1 ∧
    ∀ p : Nat, p < l.length → o.getD p 0 = if (p : Int) < i ∨ j < (p : Int) then l.getD (l.length - 1 - p) 0 else l.getD p 0, fun i j o => (j + 1 - i).toNat, ⟨rfl, by omega, ?_, ?_, ?_⟩, ?_⟩
  · rw [w64 (by omega)]; omega
  · rw [w64 (by omega)]; omega
  · intro p hp
    rw [w64 (by omega), if_neg (by omega)]
  rintro i j o ⟨h1, h2, h3, h4, h5⟩
  refine ⟨fun h => ?_, fun h => ?_⟩
  · simp only [decide_eq_true_eq] at h
    rw [w64 (by omega), w64 (by omega)]
    simp only [List.length_set]
    refine ⟨by omega, by omega, by omega, by omega, by omega, by omega, by omega, by omega, ⟨by omega, by omega, by omega, by omega, fun p hp => ?_⟩, by show (j - 1 + 1 - (i + 1)).toNat < (j + 1 - i).toNat; omega⟩
    rw [getD_set, getD_set]
    simp only [List.length_set]
    have hi := h5 i.toNat (by omega)
    have hj := h5 j.toNat (by omega)
    rw [if_neg (by omega)] at hi hj
    have hp5 := h5 p hp
    by_cases e1 : p = j.toNat
    · rw [if_pos ⟨e1.symm, by omega⟩, if_pos (by omega), hi, e1]
      congr 1; omega
    · rw [if_neg (fun h => e1 h.1.symm)]
      by_cases e2 : p = i.toNat
      · rw [if_pos ⟨e2.symm, by omega⟩, if_pos (by omega), hj, e2]
        congr 1; omega
      · rw [if_neg (fun h => e2 h.1.symm), hp5]
        by_cases e3 : (p : Int) < i ∨ j < (p : Int)
        · rw [if_pos e3, if_pos (by omega)]
        · rw [if_neg e3, if_neg (by omega)]
  · simp only [decide_eq_false_iff_not] at h
    have : o = l.reverse := by
      refine ext_getD (by simpa using h1) fun p hp => ?_
      rw [getD_rev l p (by omega), h5 p (by omega)]
      by_cases e3 : (p : Int) < i ∨ j < (p : Int)
      · rw [if_pos e3]
      · rw [if_neg e3]
        congr 1; omega
    rw [this]; exact hk

theorem limbs0 {n : Nat} (h : (limbs n).length = 0) : n = 0 := limbs_nil.1 (List.length_eq_zero_iff.1 h)

theorem p_nFormat (a : List Int) (K : TV → Prop) (h : cFormat.T [.d (.ints .u32 a)] K) : vc_nFormat a K := by
  obtain ⟨ha, hk⟩ := h
  have hal := few_len ha
  have ha2 := ha.2
  have hfew := dec_few ha.1
  unfold vc_nFormat
  generalize hA : val a = A at *
  refine ⟨⟨ha.1, by omega⟩, fun v o => ∃ V, v = limbs V ∧ V ≤ A ∧ decR A = o ++ decR V, fun v o => val v, ⟨A, rfl, Nat.le_refl _, rfl⟩, ?_⟩
  rintro v o ⟨V, rfl, hV, hd⟩
  have hlen : ∀ {o : List Int} {n : Nat}, decR A = o ++ decR n → o.length ≤ 1000000000 := fun {o n} h => by
    have := congrArg List.length h
    rw [List.length_append] at this
    omega
  have hmem : ∀ {o : List Int} {n : Nat}, decR A = o ++ decR n → ∀ x ∈ o, 48 ≤ x ∧ x < 58 := fun {o n} h x hx => by
    exact decR_mem (n := A) (by rw [h]; simp [hx])
  refine ⟨fun h => ?_, fun h => ?_⟩
  · simp only [decide_eq_true_eq] at h
    have hV0 : V ≠ 0 := by
      rintro rfl
      rw [limbs_zero] at h; simp at h
    have hVl : (limbs V).length ≤ 100000000 := by
      have : (limbs V).length ≤ a.length := by
        rw [limbs_len]
        have := val_lt ha.1
        omega
      omega
    rw [val_limbs]
    refine ⟨⟨⟨limbs_lim _, hVl⟩, by unfold L; omega, by omega⟩, fun r i o => 0 ≤ i ∧ i ≤ 9 ∧ 0 ≤ r ∧ r.toNat < 10 ^ (9 - i.toNat) ∧ decR A = o ++ decR (V / 1000000000 * 10 ^ (9 - i.toNat) + r.toNat), fun r i o => 9 - i.toNat, ⟨by omega, by omega, by omega, ?_, ?_⟩, ?_⟩
    · rw [Int.toNat_natCast]; exact Nat.mod_lt _ (by decide)
    · rw [Int.toNat_natCast, hd]
      congr 2
      have := Nat.div_add_mod V 1000000000
      rw [Nat.mul_comm] at this
      exact this.symm
    rintro r i o' ⟨h1, h2, h3, h4, h5⟩
    have hQ : V / 1000000000 < V := Nat.div_lt_self (by omega) (by decide)
    generalize V / 1000000000 = Q at *
    have step : ¬ (Q = 0 ∧ r = 0) → i < 9 → ((Nat.cast : Nat → Int) (List.length o') + (Nat.cast : Nat → Int) (List.length [IntKind.wrap IntKind.u8 (IntKind.wrap IntKind.u32 ((48 : Int) + Int.tmod r (10 : Int)))])) * (1 : Int) ≤ (70368744177664 : Int) ∧
        (0 ≤ IntKind.wrap IntKind.i64 (i + 1) ∧ IntKind.wrap IntKind.i64 (i + 1) ≤ 9 ∧ 0 ≤ IntKind.wrap IntKind.u32 (Int.tdiv r 10) ∧ (IntKind.wrap IntKind.u32 (Int.tdiv r 10)).toNat < 10 ^ (9 - (IntKind.wrap IntKind.i64 (i + 1)).toNat) ∧
          decR A = o' ++ [IntKind.wrap IntKind.u8 (IntKind.wrap IntKind.u32 ((48 : Int) + Int.tmod r (10 : Int)))] ++ decR (Q * 10 ^ (9 - (IntKind.wrap IntKind.i64 (i + 1)).toNat) + (IntKind.wrap IntKind.u32 (Int.tdiv r 10)).toNat)) ∧
        9 - (IntKind.wrap IntKind.i64 (i + 1)).toNat < 9 - i.toNat := fun hne hi => by
      have hol := hlen h5
      obtain ⟨n, rfl⟩ : ∃ n : Nat, i = n := ⟨i.toNat, by omega⟩
      obtain ⟨R, rfl⟩ : ∃ R : Nat, r = R := ⟨r.toNat, by omega⟩
      have e1 : IntKind.wrap .i64 ((n : Int) + 1) = ((n + 1 : Nat) : Int) := by rw [w64 (by omega)]; omega
      rw [e1]
      simp only [Int.toNat_natCast] at *
      have hp : 10 ^ (9 - n) = 10 * 10 ^ (9 - (n + 1)) := by rw [show 9 - n = (9 - (n + 1)) + 1 by omega, Nat.pow_succ, Nat.mul_comm]
      rw [hp] at h4 h5
      have hle : 10 ^ (9 - (n + 1)) ≤ 10 ^ 9 := Nat.pow_le_pow_right (by decide) (by omega)
      generalize 10 ^ (9 - (n + 1)) = w at *
      have hle' : w ≤ 1000000000 := hle
      rw [Int.tmod_eq_emod_of_nonneg (by omega), Int.tdiv_eq_ediv_of_nonneg (by omega), wu32 (x := 48 + (R : Int) % 10) (by omega), wu8 (by omega), wu32 (x := (R : Int) / 10) (by omega)]
      refine ⟨by simp; omega, ⟨by omega, by omega, by omega, by omega, ?_⟩, by omega⟩
      rw [h5, List.append_assoc]
      congr 1
      have hnz : Q * (10 * w) + R ≠ 0 := fun hz => hne ⟨by
        rcases Nat.eq_zero_or_pos Q with h0 | h0
        · exact h0
        · have : 0 < w := by omega
          have : 0 < Q * (10 * w) := Nat.mul_pos h0 (by omega)
          omega, by omega⟩
      rw [decR_pos hnz]
      have hQw : Q * (10 * w) = 10 * (Q * w) := Nat.mul_left_comm _ _ _
      rw [hQw]
      generalize Q * w = z
      have a1 : ((48 + (10 * z + R) % 10 : Nat) : Int) = 48 + (R : Int) % 10 := by omega
      have a2 : (10 * z + R) / 10 = z + ((R : Int) / 10).toNat := by omega
      rw [a1, a2]; rfl
    refine ⟨fun h => ⟨fun h6 => ⟨fun h7 => ?_, fun h7 => ?_⟩, fun h6 => ?_⟩, fun h => ?_⟩
    · simp only [decide_eq_true_eq] at h6 h7
      have hQ0 : Q = 0 := limbs0 (by omega)
      subst hQ0 h7
      refine ⟨⟨0, rfl, by omega, ?_⟩, ?_⟩
      · simpa using h5
      · simp only [val_limbs]; exact hQ
    · simp only [decide_eq_true_eq] at h
      simp only [decide_eq_false_iff_not] at h7
      exact step (fun hx => h7 hx.2) h
    · simp only [decide_eq_true_eq] at h
      simp only [decide_eq_false_iff_not] at h6
      refine step (fun hx => h6 ?_) h
      rw [hx.1, limbs_zero]; rfl
    · simp only [decide_eq_false_iff_not] at h
      obtain rfl : i = 9 := by omega
      simp only [show Int.toNat 9 = 9 from rfl, Nat.sub_self, Nat.pow_zero, Nat.mul_one] at h4 h5
      refine ⟨⟨Q, rfl, by omega, ?_⟩, ?_⟩
      · rw [h5, show r.toNat = 0 by omega]; rfl
      · simp only [val_limbs]; exact hQ
  · simp only [decide_eq_false_iff_not] at h
    have hV0 : V = 0 := limbs0 (by omega)
    subst hV0
    rw [decR_zero, List.append_nil] at hd
    have hol := hlen (o := o) (n := 0) (by rw [decR_zero, List.append_nil]; exact hd)
    have hm := hmem (o := o) (n := 0) (by rw [decR_zero, List.append_nil]; exact hd)
    refine ⟨fun h => ?_, fun h => ⟨?_, by omega, fun x hx => ?_, ?_⟩⟩
    · simp only [decide_eq_true_eq] at h
      have : o = [] := List.length_eq_zero_iff.1 (by omega)
      rw [this, decR_nil] at hd
      rw [hd] at hk; exact hk
    · simp only [decide_eq_false_iff_not] at h; omega
    · have := hm x (List.mem_reverse.1 hx); omega
    · simp only [decide_eq_false_iff_not] at h
      have hA0 : A ≠ 0 := by
        rintro rfl
        rw [decR_zero] at hd
        subst hd
        simp at h
      unfold dec at hk
      rw [if_neg hA0, hd] at hk; exact hk

theorem few1 {x : Int} (h : 0 ≤ x ∧ x < 4294967296) : Few [x] := ⟨.mk h .nil, by simp⟩

end Nt
namespace Nt
end Nt
end

section
/- NtG: proofs of verification conditions: FromInt, Int, Parse, NaturalRing, NaturalInts, NaturalDigits. -/
open Go Go.Vc
namespace Nt

/-- A number of at most k limbs. -/
def Sz (n k : Nat) : Prop := n < 4294967296 ^ k
theorem Sz.of {a : List Int} (h : Lim a) {k : Nat} (hk : a.length ≤ k) : Sz (val a) k := Nat.lt_of_lt_of_le (val_lt h) (Nat.pow_le_pow_right (by decide) hk)
theorem Sz.few {n k : Nat} (h : Sz n k) (hk : k ≤ 100000000) : Few (limbs n) := ⟨limbs_lim n, Nat.le_trans (limbs_len.2 h) hk⟩
theorem Sz.len {n k : Nat} (h : Sz n k) {j : Nat} (hk : k ≤ j) : (limbs n).length ≤ j := Nat.le_trans (limbs_len.2 h) hk
theorem Sz.add {x y j k : Nat} (h : Sz x j) (h2 : Sz y k) : Sz (x + y) (j + k + 1) := by
  unfold Sz at *
  have h3 : 4294967296 ^ j ≤ 4294967296 ^ (j + k) := Nat.pow_le_pow_right (by decide) (by omega)
  have h4 : 4294967296 ^ k ≤ 4294967296 ^ (j + k) := Nat.pow_le_pow_right (by decide) (by omega)
  rw [Nat.pow_succ]
  omega
theorem Sz.mul {x y j k : Nat} (h : Sz x j) (h2 : Sz y k) : Sz (x * y) (j + k) := by
  unfold Sz at *
  rw [Nat.pow_add]
  exact Nat.mul_lt_mul'' h h2



theorem pv_take (s : List Int) (i : Nat) (h : i < s.length) : pv 0 (s.take (i + 1)) = pv 0 (s.take i) * 10 + (s.getD i 0 - 48).toNat := by
  rw [List.take_succ_eq_append_getElem h, pv_append]
  simp [pv, List.getD_eq_getElem?_getD, h]
theorem isDec_of {s : List Int} (hn : s ≠ []) (h : ∀ p, p < s.length → 48 ≤ s.getD p 0 ∧ s.getD p 0 ≤ 57) : isDec s = true := by
  unfold isDec
  rw [Bool.and_eq_true, decide_eq_true_eq, List.all_eq_true]
  refine ⟨hn, fun x hx => ?_⟩
  obtain ⟨i, hi, rfl⟩ := List.mem_iff_getElem.1 hx
  have := h i hi
  simpa [List.getD_eq_getElem?_getD, hi] using this
theorem isDec_get {s : List Int} (h : isDec s = true) (p : Nat) (hp : p < s.length) : 48 ≤ s.getD p 0 ∧ s.getD p 0 ≤ 57 := by
  unfold isDec at h
  rw [Bool.and_eq_true, decide_eq_true_eq, List.all_eq_true] at h
  have := h.2 s[p] (List.getElem_mem hp)
  simpa [List.getD_eq_getElem?_getD, hp] using this
theorem pv_lt (s : List Int) (h : ∀ p, p < s.length → 48 ≤ s.getD p 0 ∧ s.getD p 0 ≤ 57) : ∀ i, i ≤ s.length → pv 0 (s.take i) < 10 ^ i
  | 0, _ => by simp [pv]
  | i + 1, hi => by
    have ih := pv_lt s h i (by omega)
    have := h i (by omega)
    rw [pv_take s i (by omega), Nat.pow_succ]
    omega

theorem p_nParse (s : List Int) (K : TV → Prop) (h : cParse.T [.d (.str s)] K) : vc_nParse s K := by
  obtain ⟨hl, hk⟩ := h
  unfold vc_nParse
  have bad : isDec s = false → K (.tup [.d (.ints .u32 []), .d (.int .i64 4)]) := fun h => by
    unfold parseE parseV at hk
    rw [h] at hk
    simpa using hk
  refine ⟨fun h => ?_, fun h => ?_⟩
  · simp only [decide_eq_true_eq] at h
    subst h
    exact bad rfl
  · simp only [decide_eq_false_iff_not] at h
    refine ⟨fun i => 0 ≤ i ∧ i ≤ s.length ∧ ∀ p : Nat, p < i.toNat → 48 ≤ s.getD p 0 ∧ s.getD p 0 ≤ 57, fun i => s.length - i.toNat, ⟨by omega, by omega, fun p hp => by simp at hp⟩, ?_⟩
    rintro i ⟨h1, h2, h3⟩
    have no : i < s.length → ¬ (48 ≤ s.getD i.toNat 0 ∧ s.getD i.toNat 0 ≤ 57) → isDec s = false := fun hi hx => by
      cases hd : isDec s with
      | false => rfl
      | true => exact absurd (isDec_get hd i.toNat (by omega)) hx
    refine ⟨fun h4 => ?_, fun h4 => ?_⟩
    · simp only [decide_eq_true_eq] at h4
      refine ⟨by omega, by omega, fun h5 => ⟨by omega, by omega, fun h6 => ?_, fun h6 => ?_⟩, fun h5 => ?_⟩
      · simp only [decide_eq_true_eq] at h5 h6
        rw [w64 (by omega)]
        refine ⟨⟨by omega, by omega, fun p hp => ?_⟩, by show s.length - (i + 1).toNat < s.length - i.toNat; omega⟩
        by_cases e : p = i.toNat
        · subst e; exact ⟨h5, h6⟩
        · exact h3 p (by omega)
      · simp only [decide_eq_false_iff_not] at h6
        exact bad (no h4 fun hx => h6 hx.2)
      · simp only [decide_eq_false_iff_not] at h5
        exact bad (no h4 fun hx => h5 hx.1)
    · simp only [decide_eq_false_iff_not] at h4
      have hdig : ∀ p : Nat, p < s.length → 48 ≤ s.getD p 0 ∧ s.getD p 0 ≤ 57 := fun p hp => h3 p (by omega)
      have hd := isDec_of h hdig
      unfold parseE parseV at hk
      rw [hd] at hk
      simp only [if_true, true_and] at hk
      refine ⟨fun h5 => ?_, fun h5 => ?_⟩
      · simp only [decide_eq_true_eq] at h5
        rw [if_neg (by omega), if_pos (by omega)] at hk; exact hk
      · simp only [decide_eq_false_iff_not] at h5
        rw [if_pos (by omega), if_neg (by omega)] at hk
        refine ⟨fun v i => 0 ≤ i ∧ i ≤ s.length ∧ v = limbs (pv 0 (s.take i.toNat)), fun v i => s.length - i.toNat, ⟨by omega, by omega, by simp [pv, limbs_zero]⟩, ?_⟩
        rintro v i ⟨h6, h7, rfl⟩
        refine ⟨fun h8 => ?_, fun h8 => ?_⟩
        · simp only [decide_eq_true_eq] at h8
          obtain ⟨n, rfl⟩ : ∃ n : Nat, i = n := ⟨i.toNat, by omega⟩
          have hx := hdig n (by omega)
          have e1 : IntKind.wrap .i64 ((n : Int) + 1) = ((n + 1 : Nat) : Int) := by rw [w64 (by omega)]; omega
          rw [e1]
          simp only [Int.toNat_natCast, val_limbs]
          rw [wu8 (by omega), wu32 (by omega)]
          have hlt := pv_lt s hdig n (by omega)
          have hsz : Sz (pv 0 (s.take n)) 7 := Nat.lt_of_lt_of_le hlt (Nat.le_trans (Nat.pow_le_pow_right (by decide) (show n ≤ 60 by omega)) (by decide))
          have h10 : Sz 10 1 := by unfold Sz; decide
          have hval : val [s.getD n 0 - 48] = (s.getD n 0 - 48).toNat := by simp [val]
          rw [hval, ← pv_take s n (by omega)]
          exact ⟨⟨hsz.few (by decide), few1 (by omega)⟩, by omega, by omega, ⟨(hsz.mul h10).few (by decide), few1 (by omega)⟩, ⟨by omega, by omega, rfl⟩, by omega⟩
        · simp only [decide_eq_false_iff_not] at h8
          obtain rfl : i = s.length := by omega
          rw [Int.toNat_natCast, List.take_length]; exact hk



theorem and64 (p k : Nat) (hp : p < 9223372036854775808) (hk : 2 ^ k ≤ 4611686018427387904) : bitop .and .i64 (p : Int) ((2 ^ k - 1 : Nat) : Int) = ((p % 2 ^ k : Nat) : Int) := by
  have e1 : ((BitVec.ofInt 64 (p : Int)) &&& (BitVec.ofInt 64 ((2 ^ k - 1 : Nat) : Int))).toNat = p % 2 ^ k := by
    rw [BitVec.toNat_and, BitVec.ofInt_natCast, BitVec.ofInt_natCast, BitVec.toNat_ofNat, BitVec.toNat_ofNat, Nat.mod_eq_of_lt (by omega), Nat.mod_eq_of_lt (by omega), Nat.and_two_pow_sub_one_eq_mod]
  show IntKind.wrap .i64 _ = _
  have e2 : ((BitVec.ofInt (IntKind.i64).bits (p : Int)) &&& (BitVec.ofInt (IntKind.i64).bits ((2 ^ k - 1 : Nat) : Int))).toNat = p % 2 ^ k := e1
  have : p % 2 ^ k < 2 ^ k := Nat.mod_lt _ (Nat.two_pow_pos k)
  rw [e2, w64 (by omega)]

end Nt
namespace Nt
theorem u8_of {n : Int} (h : (Lit.int .u8 n).wf = true) : 0 ≤ n ∧ n < 256 := by
  have h := int_wf h
  have e1 : IntKind.u8.min = 0 := by decide
  have e2 : IntKind.u8.max = 255 := by decide
  omega
end Nt
end

section
/- NtK: long division by estimates, in numbers. -/
open Go Go.Vc
namespace Nt

/-- The first estimate is not too small. -/
theorem est_init {t f g r p lv s ld th : Nat} (hg : g = f / t) (hr : r = f % t) (ht : 0 < t) (hld : ld < p) (hth : th < 4294967296) :
    ld + p * (th + 4294967296 * f) < (g + 1) * (lv + p * (s + 4294967296 * t)) ∧ t * g + r = f := by
  have h1 : t * g + r = f := by subst hg hr; exact Nat.div_add_mod f t
  refine ⟨?_, h1⟩
  have h2 : f + 1 ≤ t * (g + 1) := by
    have := Nat.mod_lt f ht
    rw [Nat.mul_add, Nat.mul_one]; omega
  have h3 : p * (th + 4294967296 * f) + p ≤ p * (4294967296 * (t * (g + 1))) := by
    have := Nat.mul_le_mul_left p (show th + 4294967296 * f + 1 ≤ 4294967296 * (t * (g + 1)) by omega)
    rw [Nat.mul_add p _ 1, Nat.mul_one] at this
    exact this
  have h4 : (g + 1) * (lv + p * (s + 4294967296 * t)) = (g + 1) * lv + p * ((g + 1) * s) + p * (4294967296 * (t * (g + 1))) := by
    rw [Nat.mul_add, Nat.mul_left_comm (g + 1) p, Nat.mul_add (g + 1) s, Nat.mul_add p, Nat.mul_left_comm (g + 1) 4294967296, Nat.mul_comm (g + 1) t, Nat.add_assoc]
  rw [h4]
  omega

/-- An estimate that is seen to be too great is. -/
theorem est_cond {t f g r p lv s ld th : Nat} (h1 : t * g + r = f) (hld : ld < p) (hc : r * 4294967296 + th < g * s) :
    ld + p * (th + 4294967296 * f) < g * (lv + p * (s + 4294967296 * t)) := by
  have h2 : th + 4294967296 * f + 1 ≤ g * s + 4294967296 * (g * t) := by
    rw [Nat.mul_comm g t]; omega
  have h3 := Nat.mul_le_mul_left p h2
  rw [Nat.mul_add p _ 1, Nat.mul_one] at h3
  have h4 : g * (lv + p * (s + 4294967296 * t)) = g * lv + p * (g * s + 4294967296 * (g * t)) := by
    rw [Nat.mul_add, Nat.mul_left_comm g p, Nat.mul_add g s, Nat.mul_left_comm g 4294967296]
  rw [h4]
  omega

/-- One that is not is at most one too great. -/
theorem est_exit {t f g r p lv s ld th : Nat} (h1 : t * g + r = f) (ht : 0 < t) (hlv : lv < p) (hg : g < 4294967296) (hc : g * s ≤ r * 4294967296 + th) :
    g * (lv + p * (s + 4294967296 * t)) ≤ ld + p * (th + 4294967296 * f) + (lv + p * (s + 4294967296 * t)) := by
  cases g with
  | zero => omega
  | succ g =>
    have h2 : g * (s + 4294967296 * t + 1) ≤ th + 4294967296 * f := by
      have e1 : g * (s + 4294967296 * t + 1) + s + 4294967296 * t = (g + 1) * s + 4294967296 * (t * (g + 1)) + g := by
        rw [Nat.mul_add g _ 1, Nat.mul_add g s, Nat.mul_one, Nat.add_mul g 1 s, Nat.one_mul, Nat.mul_add t g 1, Nat.mul_one, Nat.mul_left_comm g 4294967296, Nat.mul_comm g t]
        omega
      omega
    have h3 := Nat.mul_le_mul_left p h2
    have h4 : g * (lv + p * (s + 4294967296 * t)) ≤ p * (g * (s + 4294967296 * t + 1)) := by
      rw [Nat.mul_left_comm p g]
      refine Nat.mul_le_mul_left g ?_
      rw [Nat.mul_add p _ 1, Nat.mul_one]; omega
    rw [Nat.add_mul g 1, Nat.one_mul]
    omega


theorem sub_step' {g d c b u : Nat} (hg : g < 4294967296) (hd : d < 4294967296) (hc : c < 4294967296) (hb : b ≤ 1) (hu : u < 4294967296) :
    c + g * d < 18446744073709551616 ∧ ∃ lo T st B : Nat, (c + g * d) % 4294967296 = lo ∧ (c + g * d) / 4294967296 = T ∧ lo < 4294967296 ∧ T < 4294967296 ∧ ((u : Int) - (lo : Int) - (b : Int)) % 4294967296 = (st : Int) ∧ st < 4294967296 ∧
      (if (u : Int) - (lo : Int) - (b : Int) < 0 then (1 : Int) else 0) = (B : Int) ∧ B ≤ 1 ∧ st + g * d + (c + b) = u + 4294967296 * (T + B) := by
  have h1 : g * d ≤ 4294967295 * 4294967295 := Nat.mul_le_mul (by omega) (by omega)
  generalize g * d = m at h1 ⊢
  refine ⟨by omega, (c + m) % 4294967296, (c + m) / 4294967296, (((u : Int) - ((c + m) % 4294967296 : Nat) - b) % 4294967296).toNat, (if (u : Int) - ((c + m) % 4294967296 : Nat) - b < 0 then 1 else 0), rfl, rfl, by omega, by omega, by omega, by omega, by split <;> rfl, by split <;> omega, by split <;> omega⟩

/-- The limbs of a number, so many of them. -/
theorem lowl_len (n : Nat) : ∀ k, (lowl n k).length = k
  | 0 => rfl
  | k + 1 => by simp [lowl, lowl_len _ k]
theorem lowl_lim (k : Nat) : ∀ n, Lim (lowl n k) := by
  induction k with
  | zero => intro n; exact .nil
  | succ k ih =>
    intro n
    have : n % 4294967296 < 4294967296 := Nat.mod_lt _ (by decide)
    exact .mk ⟨by omega, by omega⟩ (ih _)
theorem lowl_val (k : Nat) : ∀ n, n < 4294967296 ^ k → val (lowl n k) = n := by
  induction k with
  | zero => intro n h; simp at h; subst h; rfl
  | succ k ih =>
    intro n h
    have h2 : n / 4294967296 < 4294967296 ^ k := by
      rw [Nat.pow_succ] at h
      exact Nat.div_lt_of_lt_mul (by rw [Nat.mul_comm]; exact h)
    simp only [lowl, val, ih _ h2, Int.toNat_natCast]
    omega
theorem lowl_of (k : Nat) : ∀ {a : List Int}, Lim a → a.length = k → lowl (val a) k = a := by
  induction k with
  | zero => intro a _ h; rw [List.length_eq_zero_iff.1 h]; rfl
  | succ k ih =>
    intro a ha h
    cases a with
    | nil => cases h
    | cons x r =>
      obtain ⟨⟨h1, h2⟩, hr⟩ := ha.cons
      have e1 : val (x :: r) % 4294967296 = x.toNat := by rw [val]; omega
      have e2 : val (x :: r) / 4294967296 = val r := by rw [val]; omega
      rw [lowl, e1, e2, ih hr (by simpa using h), Int.toNat_of_nonneg h1]
/-- Zeros from a place on bound the value, and are bounded by it. -/
theorem val_hi {a : List Int} (h : Lim a) {m : Nat} (hz : ∀ p, m ≤ p → a.getD p 0 = 0) : val a < 4294967296 ^ m := by
  rw [vd_vt a m]
  have h2 : vd a m = 0 := by
    unfold vd
    have : ∀ l : List Int, (∀ p, l.getD p 0 = 0) → val l = 0 := fun l => by
      induction l with
      | nil => intro _; rfl
      | cons x r ih =>
        intro hl
        have h0 := hl 0
        have h1 := ih fun p => by have := hl (p + 1); simpa using this
        simp at h0
        rw [val, h1, h0]; rfl
    refine this _ fun p => ?_
    have := hz (m + p) (by omega)
    simpa [List.getD_eq_getElem?_getD] using this
  rw [h2]
  have := vt_lt h m
  omega
theorem hi_zero {a : List Int} (h : Lim a) {m : Nat} (hv : val a < 4294967296 ^ m) (p : Nat) (hp : m ≤ p) : a.getD p 0 = 0 := by
  have h1 := vd_vt a p
  have h2 := vd_step a p
  have h3 := h p
  have h4 : 4294967296 ^ m ≤ 4294967296 ^ p := Nat.pow_le_pow_right (by decide) hp
  cases hx : (a.getD p 0).toNat with
  | zero => omega
  | succ k =>
    rw [h2, hx] at h1
    have : 4294967296 ^ p * 1 ≤ 4294967296 ^ p * (k + 1 + 4294967296 * vd a (p + 1)) := Nat.mul_le_mul_left _ (by omega)
    omega
end Nt
end

section
/- Verification conditions, printed. -/
open Go Go.Vc
namespace Nt
def vc_nbitsLen32 : Int → (TV → Prop) → Prop :=
 fun (x : Int) (K : TV → Prop) => ∃ (J : Int → Int → Prop), ((decide ((65536 : Int) ≤ x) = true → J (Int.fdiv x (65536 : Int)) (16 : Int)) ∧ (decide ((65536 : Int) ≤ x) = false → J x (0 : Int))) ∧ ∀
 (v0 v2 : Int), J v0 v2 → (decide ((256 : Int) ≤ v0) = true → (0 : Int) ≤ IntKind.wrap IntKind.u8 (Int.fdiv v0 (256 : Int)) ∧ IntKind.wrap IntKind.u8 (Int.fdiv v0 (256 : Int)) < (256 : Int) ∧ K (TV.d
 (AV.int IntKind.i64 (IntKind.wrap IntKind.i64 (IntKind.wrap IntKind.i64 (v2 + (8 : Int)) + IntKind.wrap IntKind.i64 (List.getD [(0 : Int), (1 : Int), (2 : Int), (2 : Int), (3 : Int), (3 : Int), (3 :
 Int), (3 : Int), (4 : Int), (4 : Int), (4 : Int), (4 : Int), (4 : Int), (4 : Int), (4 : Int), (4 : Int), (5 : Int), (5 : Int), (5 : Int), (5 : Int), (5 : Int), (5 : Int), (5 : Int), (5 : Int), (5 :
 Int), (5 : Int), (5 : Int), (5 : Int), (5 : Int), (5 : Int), (5 : Int), (5 : Int), (6 : Int), (6 : Int), (6 : Int), (6 : Int), (6 : Int), (6 : Int), (6 : Int), (6 : Int), (6 : Int), (6 : Int), (6 :
 Int), (6 : Int), (6 : Int), (6 : Int), (6 : Int), (6 : Int), (6 : Int), (6 : Int), (6 : Int), (6 : Int), (6 : Int), (6 : Int), (6 : Int), (6 : Int), (6 : Int), (6 : Int), (6 : Int), (6 : Int), (6 :
 Int), (6 : Int), (6 : Int), (6 : Int), (7 : Int), (7 : Int), (7 : Int), (7 : Int), (7 : Int), (7 : Int), (7 : Int), (7 : Int), (7 : Int), (7 : Int), (7 : Int), (7 : Int), (7 : Int), (7 : Int), (7 :
 Int), (7 : Int), (7 : Int), (7 : Int), (7 : Int), (7 : Int), (7 : Int), (7 : Int), (7 : Int), (7 : Int), (7 : Int), (7 : Int), (7 : Int), (7 : Int), (7 : Int), (7 : Int), (7 : Int), (7 : Int), (7 :
 Int), (7 : Int), (7 : Int), (7 : Int), (7 : Int), (7 : Int), (7 : Int), (7 : Int), (7 : Int), (7 : Int), (7 : Int), (7 : Int), (7 : Int), (7 : Int), (7 : Int), (7 : Int), (7 : Int), (7 : Int), (7 :
 Int), (7 : Int), (7 : Int), (7 : Int), (7 : Int), (7 : Int), (7 : Int), (7 : Int), (7 : Int), (7 : Int), (7 : Int), (7 : Int), (7 : Int), (7 : Int), (8 : Int), (8 : Int), (8 : Int), (8 : Int), (8 :
 Int), (8 : Int), (8 : Int), (8 : Int), (8 : Int), (8 : Int), (8 : Int), (8 : Int), (8 : Int), (8 : Int), (8 : Int), (8 : Int), (8 : Int), (8 : Int), (8 : Int), (8 : Int), (8 : Int), (8 : Int), (8 :
 Int), (8 : Int), (8 : Int), (8 : Int), (8 : Int), (8 : Int), (8 : Int), (8 : Int), (8 : Int), (8 : Int), (8 : Int), (8 : Int), (8 : Int), (8 : Int), (8 : Int), (8 : Int), (8 : Int), (8 : Int), (8 :
 Int), (8 : Int), (8 : Int), (8 : Int), (8 : Int), (8 : Int), (8 : Int), (8 : Int), (8 : Int), (8 : Int), (8 : Int), (8 : Int), (8 : Int), (8 : Int), (8 : Int), (8 : Int), (8 : Int), (8 : Int), (8 :
 Int), (8 : Int), (8 : Int), (8 : Int), (8 : Int), (8 : Int), (8 : Int), (8 : Int), (8 : Int), (8 : Int), (8 : Int), (8 : Int), (8 : Int), (8 : Int), (8 : Int), (8 : Int), (8 : Int), (8 : Int), (8 :
 Int), (8 : Int), (8 : Int), (8 : Int), (8 : Int), (8 : Int), (8 : Int), (8 : Int), (8 : Int), (8 : Int), (8 : Int), (8 : Int), (8 : Int), (8 : Int), (8 : Int), (8 : Int), (8 : Int), (8 : Int), (8 :
 Int), (8 : Int), (8 : Int), (8 : Int), (8 : Int), (8 : Int), (8 : Int), (8 : Int), (8 : Int), (8 : Int), (8 : Int), (8 : Int), (8 : Int), (8 : Int), (8 : Int), (8 : Int), (8 : Int), (8 : Int), (8 :
 Int), (8 : Int), (8 : Int), (8 : Int), (8 : Int), (8 : Int), (8 : Int), (8 : Int), (8 : Int), (8 : Int), (8 : Int), (8 : Int), (8 : Int), (8 : Int), (8 : Int), (8 : Int)] (Int.toNat (IntKind.wrap
 IntKind.u8 (Int.fdiv v0 (256 : Int)))) (0 : Int))))))) ∧ (decide ((256 : Int) ≤ v0) = false → (0 : Int) ≤ IntKind.wrap IntKind.u8 v0 ∧ IntKind.wrap IntKind.u8 v0 < (256 : Int) ∧ K (TV.d (AV.int
 IntKind.i64 (IntKind.wrap IntKind.i64 (v2 + IntKind.wrap IntKind.i64 (List.getD [(0 : Int), (1 : Int), (2 : Int), (2 : Int), (3 : Int), (3 : Int), (3 : Int), (3 : Int), (4 : Int), (4 : Int), (4 :
 Int), (4 : Int), (4 : Int), (4 : Int), (4 : Int), (4 : Int), (5 : Int), (5 : Int), (5 : Int), (5 : Int), (5 : Int), (5 : Int), (5 : Int), (5 : Int), (5 : Int), (5 : Int), (5 : Int), (5 : Int), (5 :
 Int), (5 : Int), (5 : Int), (5 : Int), (6 : Int), (6 : Int), (6 : Int), (6 : Int), (6 : Int), (6 : Int), (6 : Int), (6 : Int), (6 : Int), (6 : Int), (6 : Int), (6 : Int), (6 : Int), (6 : Int), (6 :
 Int), (6 : Int), (6 : Int), (6 : Int), (6 : Int), (6 : Int), (6 : Int), (6 : Int), (6 : Int), (6 : Int), (6 : Int), (6 : Int), (6 : Int), (6 : Int), (6 : Int), (6 : Int), (6 : Int), (6 : Int), (7 :
 Int), (7 : Int), (7 : Int), (7 : Int), (7 : Int), (7 : Int), (7 : Int), (7 : Int), (7 : Int), (7 : Int), (7 : Int), (7 : Int), (7 : Int), (7 : Int), (7 : Int), (7 : Int), (7 : Int), (7 : Int), (7 :
 Int), (7 : Int), (7 : Int), (7 : Int), (7 : Int), (7 : Int), (7 : Int), (7 : Int), (7 : Int), (7 : Int), (7 : Int), (7 : Int), (7 : Int), (7 : Int), (7 : Int), (7 : Int), (7 : Int), (7 : Int), (7 :
 Int), (7 : Int), (7 : Int), (7 : Int), (7 : Int), (7 : Int), (7 : Int), (7 : Int), (7 : Int), (7 : Int), (7 : Int), (7 : Int), (7 : Int), (7 : Int), (7 : Int), (7 : Int), (7 : Int), (7 : Int), (7 :
 Int), (7 : Int), (7 : Int), (7 : Int), (7 : Int), (7 : Int), (7 : Int), (7 : Int), (7 : Int), (7 : Int), (8 : Int), (8 : Int), (8 : Int), (8 : Int), (8 : Int), (8 : Int), (8 : Int), (8 : Int), (8 :
 Int), (8 : Int), (8 : Int), (8 : Int), (8 : Int), (8 : Int), (8 : Int), (8 : Int), (8 : Int), (8 : Int), (8 : Int), (8 : Int), (8 : Int), (8 : Int), (8 : Int), (8 : Int), (8 : Int), (8 : Int), (8 :
 Int), (8 : Int), (8 : Int), (8 : Int), (8 : Int), (8 : Int), (8 : Int), (8 : Int), (8 : Int), (8 : Int), (8 : Int), (8 : Int), (8 : Int), (8 : Int), (8 : Int), (8 : Int), (8 : Int), (8 : Int), (8 :
 Int), (8 : Int), (8 : Int), (8 : Int), (8 : Int), (8 : Int), (8 : Int), (8 : Int), (8 : Int), (8 : Int), (8 : Int), (8 : Int), (8 : Int), (8 : Int), (8 : Int), (8 : Int), (8 : Int), (8 : Int), (8 :
 Int), (8 : Int), (8 : Int), (8 : Int), (8 : Int), (8 : Int), (8 : Int), (8 : Int), (8 : Int), (8 : Int), (8 : Int), (8 : Int), (8 : Int), (8 : Int), (8 : Int), (8 : Int), (8 : Int), (8 : Int), (8 :
 Int), (8 : Int), (8 : Int), (8 : Int), (8 : Int), (8 : Int), (8 : Int), (8 : Int), (8 : Int), (8 : Int), (8 : Int), (8 : Int), (8 : Int), (8 : Int), (8 : Int), (8 : Int), (8 : Int), (8 : Int), (8 :
 Int), (8 : Int), (8 : Int), (8 : Int), (8 : Int), (8 : Int), (8 : Int), (8 : Int), (8 : Int), (8 : Int), (8 : Int), (8 : Int), (8 : Int), (8 : Int), (8 : Int), (8 : Int), (8 : Int), (8 : Int), (8 :
 Int), (8 : Int), (8 : Int), (8 : Int), (8 : Int), (8 : Int), (8 : Int), (8 : Int), (8 : Int), (8 : Int), (8 : Int), (8 : Int)] (Int.toNat (IntKind.wrap IntKind.u8 v0)) (0 : Int)))))))

def vc_nbitsLeadingZeros32 : Int → (TV → Prop) → Prop :=
 fun (x : Int) (K : TV → Prop) => Nt.L x ∧ K (TV.d (AV.int IntKind.i64 (IntKind.wrap IntKind.i64 ((32 : Int) - (Nat.cast : Nat → Int) (Nt.blen (Int.toNat x))))))

def vc_nshift : List Int → Int → (OB → Prop) → Prop :=
 fun (a : List Int) (k : Int) (K : OB → Prop) => (0 : Int) ≤ IntKind.wrap IntKind.i64 ((Nat.cast : Nat → Int) (List.length a) + (1 : Int)) ∧ IntKind.wrap IntKind.i64 ((Nat.cast : Nat → Int)
 (List.length a) + (1 : Int)) ≤ IntKind.wrap IntKind.i64 ((Nat.cast : Nat → Int) (List.length a) + (1 : Int)) ∧ IntKind.wrap IntKind.i64 ((Nat.cast : Nat → Int) (List.length a) + (1 : Int)) * (4 : Int)
 ≤ (281474976710656 : Int) ∧ ∃ (I : Int → List Int → Prop), ∃ (m : Int → List Int → Nat), I (0 : Int) (List.replicate (Int.toNat (IntKind.wrap IntKind.i64 ((Nat.cast : Nat → Int) (List.length a) + (1 :
 Int)))) (0 : Int)) ∧ ∀ (v15 : Int) (o0 : List Int), I v15 o0 → (decide (v15 < (Nat.cast : Nat → Int) (List.length a)) = true → (0 : Int) ≤ v15 ∧ v15 < (Nat.cast : Nat → Int) (List.length a) ∧ (0 :
 Int) ≤ k ∧ (0 : Int) ≤ v15 ∧ v15 < (Nat.cast : Nat → Int) (List.length o0) ∧ (0 : Int) ≤ v15 ∧ v15 < (Nat.cast : Nat → Int) (List.length o0) ∧ (0 : Int) ≤ IntKind.wrap IntKind.i64 (v15 + (1 : Int)) ∧
 IntKind.wrap IntKind.i64 (v15 + (1 : Int)) < (Nat.cast : Nat → Int) (List.length (List.set o0 (Int.toNat v15) (bitop BinOp.or IntKind.u32 (List.getD o0 (Int.toNat v15) (0 : Int)) (IntKind.wrap
 IntKind.u32 (IntKind.wrap IntKind.u64 (IntKind.wrap IntKind.u64 (List.getD a (Int.toNat v15) (0 : Int)) * (2 : Int) ^ min (Int.toNat k) (64 : Nat))))))) ∧ I (IntKind.wrap IntKind.i64 (v15 + (1 :
 Int))) (List.set (List.set o0 (Int.toNat v15) (bitop BinOp.or IntKind.u32 (List.getD o0 (Int.toNat v15) (0 : Int)) (IntKind.wrap IntKind.u32 (IntKind.wrap IntKind.u64 (IntKind.wrap IntKind.u64
 (List.getD a (Int.toNat v15) (0 : Int)) * (2 : Int) ^ min (Int.toNat k) (64 : Nat)))))) (Int.toNat (IntKind.wrap IntKind.i64 (v15 + (1 : Int)))) (IntKind.wrap IntKind.u32 (Int.fdiv (IntKind.wrap
 IntKind.u64 (IntKind.wrap IntKind.u64 (List.getD a (Int.toNat v15) (0 : Int)) * (2 : Int) ^ min (Int.toNat k) (64 : Nat))) (4294967296 : Int)))) ∧ m (IntKind.wrap IntKind.i64 (v15 + (1 : Int)))
 (List.set (List.set o0 (Int.toNat v15) (bitop BinOp.or IntKind.u32 (List.getD o0 (Int.toNat v15) (0 : Int)) (IntKind.wrap IntKind.u32 (IntKind.wrap IntKind.u64 (IntKind.wrap IntKind.u64 (List.getD a
 (Int.toNat v15) (0 : Int)) * (2 : Int) ^ min (Int.toNat k) (64 : Nat)))))) (Int.toNat (IntKind.wrap IntKind.i64 (v15 + (1 : Int)))) (IntKind.wrap IntKind.u32 (Int.fdiv (IntKind.wrap IntKind.u64
 (IntKind.wrap IntKind.u64 (List.getD a (Int.toNat v15) (0 : Int)) * (2 : Int) ^ min (Int.toNat k) (64 : Nat))) (4294967296 : Int)))) < m v15 o0) ∧ (decide (v15 < (Nat.cast : Nat → Int) (List.length
 a)) = false → K (OB.ints IntKind.u32 o0))

end Nt
end

section
/- NtL: proofs of verification conditions: Len32, LeadingZeros32, shift. -/
open Go Go.Vc
namespace Nt

def tab : List Int := [0, 1, 2, 2, 3, 3, 3, 3, 4, 4, 4, 4, 4, 4, 4, 4, 5, 5, 5, 5, 5, 5, 5, 5, 5, 5, 5, 5, 5, 5, 5, 5, 6, 6, 6, 6, 6, 6, 6, 6, 6, 6, 6, 6, 6, 6, 6, 6, 6, 6, 6, 6, 6, 6, 6, 6, 6, 6, 6, 6, 6, 6, 6, 6, 7, 7, 7, 7, 7, 7, 7, 7, 7, 7, 7, 7, 7, 7, 7, 7, 7, 7, 7, 7, 7, 7, 7, 7, 7, 7, 7, 7, 7, 7, 7, 7, 7, 7, 7, 7, 7, 7, 7, 7, 7, 7, 7, 7, 7, 7, 7, 7, 7, 7, 7, 7, 7, 7, 7, 7, 7, 7, 7, 7, 7, 7, 7, 7, 8, 8, 8, 8, 8, 8, 8, 8, 8, 8, 8, 8, 8, 8, 8, 8, 8, 8, 8, 8, 8, 8, 8, 8, 8, 8, 8, 8, 8, 8, 8, 8, 8, 8, 8, 8, 8, 8, 8, 8, 8, 8, 8, 8, 8, 8, 8, 8, 8, 8, 8, 8, 8, 8, 8, 8, 8, 8, 8, 8, 8, 8, 8, 8, 8, 8, 8, 8, 8, 8, 8, 8, 8, 8, 8, 8, 8, 8, 8, 8, 8, 8, 8, 8, 8, 8, 8, 8, 8, 8, 8, 8, 8, 8, 8, 8, 8, 8, 8, 8, 8, 8, 8, 8, 8, 8, 8, 8, 8, 8, 8, 8, 8, 8, 8, 8, 8, 8, 8, 8, 8, 8, 8, 8, 8, 8, 8, 8]
theorem tab_get (i : Nat) (h : i < 256) : tab.getD i 0 = blen i := by
  have h1 : ((List.range 256).all fun i => decide (tab.getD i 0 = (blen i : Int))) = true := by decide +kernel
  rw [List.all_eq_true] at h1
  simpa using h1 i (by simpa using h)
theorem blen_eq {n m : Nat} (h1 : 2 ^ m ≤ n) (h2 : n < 2 ^ (m + 1)) : blen n = m + 1 := by
  have h0 : n ≠ 0 := by have := Nat.two_pow_pos m; omega
  unfold blen
  rw [if_neg h0, (Nat.log2_eq_iff h0).2 ⟨h1, h2⟩]
theorem blen_bounds {n : Nat} (h : n ≠ 0) : 2 ^ (blen n - 1) ≤ n ∧ n < 2 ^ blen n ∧ 0 < blen n := by
  unfold blen
  rw [if_neg h]
  exact ⟨Nat.log2_self_le h, Nat.lt_log2_self, by omega⟩
theorem blen_div {n k : Nat} (h : 2 ^ k ≤ n) : blen n = blen (n / 2 ^ k) + k := by
  have hp := Nat.two_pow_pos k
  have h0 : n / 2 ^ k ≠ 0 := by
    have := Nat.div_pos h hp
    omega
  obtain ⟨b1, b2, b3⟩ := blen_bounds h0
  have e1 : 2 ^ (blen (n / 2 ^ k) - 1 + k) ≤ n := by
    rw [Nat.pow_add]
    exact (Nat.le_div_iff_mul_le hp).1 b1
  have e2 : n < 2 ^ (blen (n / 2 ^ k) - 1 + k + 1) := by
    rw [show blen (n / 2 ^ k) - 1 + k + 1 = blen (n / 2 ^ k) + k by omega, Nat.pow_add]
    exact (Nat.div_lt_iff_lt_mul hp).1 b2
  rw [blen_eq e1 e2]; omega
theorem blen_le {n k : Nat} (h : n < 2 ^ k) : blen n ≤ k := by
  by_cases h0 : n = 0
  · subst h0; simp [blen]
  · obtain ⟨b1, b2, b3⟩ := blen_bounds h0
    have := Nat.lt_of_le_of_lt b1 h
    have := (Nat.pow_lt_pow_iff_right (by decide : 1 < 2)).1 this
    omega

theorem p_nbitsLen32 (x : Int) (K : TV → Prop) (h : cLen32.T [.d (.int .u32 x)] K) : vc_nbitsLen32 x K := by
  obtain ⟨hx, hk⟩ := h
  unfold L at hx
  obtain ⟨n, rfl⟩ : ∃ n : Nat, x = n := ⟨x.toNat, by omega⟩
  rw [Int.toNat_natCast] at hk
  unfold vc_nbitsLen32
  refine ⟨fun v s => ∃ m k : Nat, v = m ∧ s = k ∧ m < 65536 ∧ k ≤ 16 ∧ blen n = blen m + k, ⟨fun h => ?_, fun h => ?_⟩, ?_⟩
  · simp only [decide_eq_true_eq] at h
    have := blen_div (n := n) (k := 16) (by omega)
    refine ⟨n / 65536, 16, ?_, rfl, by omega, by omega, this⟩
    rw [Int.fdiv_eq_ediv_of_nonneg _ (by omega)]; omega
  · simp only [decide_eq_false_iff_not] at h
    exact ⟨n, 0, rfl, rfl, by omega, by omega, rfl⟩
  rintro v s ⟨m, k, rfl, rfl, hm, hk16, he⟩
  have fin : ∀ (q c : Nat), q < 256 → c ≤ 24 → blen n = blen q + c → K (.d (.int .i64 (IntKind.wrap .i64 ((c : Int) + IntKind.wrap .i64 (tab.getD q 0))))) := fun q c hq hc e => by
    have hb := blen_le (n := q) (k := 8) (by omega)
    rw [tab_get q hq, w64 (x := (blen q : Int)) (by omega), w64 (by omega)]
    rw [show (c : Int) + (blen q : Int) = ((blen n : Nat) : Int) by omega]
    exact hk
  refine ⟨fun h => ?_, fun h => ?_⟩
  · simp only [decide_eq_true_eq] at h
    have hd : IntKind.wrap .u8 (Int.fdiv (m : Int) 256) = ((m / 256 : Nat) : Int) := by
      rw [Int.fdiv_eq_ediv_of_nonneg _ (by omega), wu8 (by omega)]; omega
    rw [hd, w64 (x := (k : Int) + 8) (by omega), Int.toNat_natCast]
    have := blen_div (n := m) (k := 8) (by omega)
    exact ⟨by omega, by omega, fin (m / 256) (k + 8) (by omega) (by omega) (by rw [he, this]; show blen (m / 256) + 8 + k = _; omega)⟩
  · simp only [decide_eq_false_iff_not] at h
    rw [wu8 (x := (m : Int)) (by omega), Int.toNat_natCast]
    exact ⟨by omega, by omega, fin m k (by omega) (by omega) he⟩

theorem p_nbitsLeadingZeros32 (x : Int) (K : TV → Prop) (h : cLeading.T [.d (.int .u32 x)] K) : vc_nbitsLeadingZeros32 x K := by
  obtain ⟨hx, hk⟩ := h
  unfold vc_nbitsLeadingZeros32
  have hx' := hx
  unfold L at hx'
  have := blen_le (n := x.toNat) (k := 32) (by omega)
  rw [w64 (by omega)]
  exact ⟨hx, hk⟩

theorem or32' (p q s : Nat) (hq : q < 2 ^ s) (h : p * 2 ^ s + q < 4294967296) : bitop .or .u32 (q : Int) ((p * 2 ^ s : Nat) : Int) = ((p * 2 ^ s + q : Nat) : Int) := by
  rw [or32, BitVec.toNat_or, BitVec.ofInt_natCast, BitVec.ofInt_natCast, BitVec.toNat_ofNat, BitVec.toNat_ofNat]
  have e2 : (2 ^ 32 : Nat) = 4294967296 := rfl
  rw [e2, Nat.mod_eq_of_lt (by omega), Nat.mod_eq_of_lt (by omega), Nat.or_comm, ← Nat.shiftLeft_eq, ← Nat.shiftLeft_add_eq_or_of_lt hq]
/-- One step of a shift. -/
theorem shift_step {d c k : Nat} (hk : k < 32) (hd : d < 4294967296) (hc : c < 2 ^ k) :
    d * 2 ^ k < 18446744073709551616 ∧ d * 2 ^ k / 4294967296 < 2 ^ k ∧ bitop .or .u32 (c : Int) ((d * 2 ^ k % 4294967296 : Nat) : Int) = ((d * 2 ^ k % 4294967296 + c : Nat) : Int) ∧ d * 2 ^ k % 4294967296 + c < 4294967296 := by
  have h1 : d * 2 ^ k < 4294967296 * 2 ^ k := Nat.mul_lt_mul_of_pos_right hd (Nat.two_pow_pos k)
  have h2 : 2 ^ k ≤ 2 ^ 31 := Nat.pow_le_pow_right (by decide) (by omega)
  have h3 : (2 : Nat) ^ 31 = 2147483648 := rfl
  obtain ⟨j, hj⟩ : ∃ j, 4294967296 = 2 ^ j * 2 ^ k := ⟨32 - k, by rw [← Nat.pow_add, show 32 - k + k = 32 by omega]⟩
  have h4 : d * 2 ^ k % 4294967296 = d % 2 ^ j * 2 ^ k := by rw [hj, Nat.mul_mod_mul_right]
  have h5 : d % 2 ^ j * 2 ^ k + 2 ^ k ≤ 4294967296 := by
    have := Nat.mod_lt d (Nat.two_pow_pos j)
    have := Nat.mul_le_mul_right (2 ^ k) (show d % 2 ^ j + 1 ≤ 2 ^ j by omega)
    rw [Nat.add_mul, Nat.one_mul, ← hj] at this
    exact this
  refine ⟨by omega, ?_, ?_, by rw [h4]; omega⟩
  · exact Nat.div_lt_of_lt_mul (by omega)
  · rw [h4]
    exact or32' _ c k hc (by omega)
theorem shift_fin {V1 V2 vo w P d x y c : Nat} (v1 : V1 + w * c = vo + w * (x + c)) (v2 : V2 = V1 + w * P * y) (hd : P * y + x = d) : V2 = vo + w * d := by
  subst v2 hd
  simp only [Nat.mul_add] at v1 ⊢
  rw [Nat.mul_assoc]
  generalize w * (P * y) = A
  omega
theorem p_nshift (a : List Int) (k : Int) (K : OB → Prop) (h : cshift.T [.d (.ints .u32 a), .d (.int .u64 k)] K) : vc_nshift a k K := by
  obtain ⟨⟨ha, hk0, hk1⟩, hk⟩ := h
  have hal := ha.2
  obtain ⟨s, rfl⟩ : ∃ n : Nat, k = n := ⟨k.toNat, by omega⟩
  rw [Int.toNat_natCast] at hk
  unfold vc_nshift
  have e0 : IntKind.wrap .i64 ((Nat.cast : Nat → Int) a.length + 1) = ((a.length + 1 : Nat) : Int) := by rw [w64 (by omega)]; omega
  rw [e0]
  simp only [Int.toNat_natCast, show min s 64 = s by omega]
  refine ⟨by omega, by omega, by omega, fun i o => Lim o ∧ o.length = a.length + 1 ∧ 0 ≤ i ∧ i ≤ a.length ∧ val o = vt a i.toNat * 2 ^ s ∧ (o.getD i.toNat 0).toNat < 2 ^ s ∧ ∀ p, i.toNat < p → o.getD p 0 = 0,
    fun i o => a.length - i.toNat, ⟨Lim.zeros _, by simp, by omega, by omega, by simp [vt_zero, val_zeros], ?_, fun p _ => ?_⟩, ?_⟩
  · have : (List.replicate (a.length + 1) (0 : Int)).getD (Int.toNat 0) 0 = 0 := by simp
    rw [this]; exact Nat.two_pow_pos s
  · simp [List.getD_eq_getElem?_getD, List.getElem?_replicate]; split <;> rfl
  rintro i o ⟨ho, hol, hi0, hi1, hv, hc, hz⟩
  refine ⟨fun h => ?_, fun h => ?_⟩
  · simp only [decide_eq_true_eq] at h
    obtain ⟨n, rfl⟩ : ∃ n : Nat, i = n := ⟨i.toNat, by omega⟩
    have e1 : IntKind.wrap .i64 ((n : Int) + 1) = ((n + 1 : Nat) : Int) := by rw [w64 (by omega)]; omega
    rw [e1]
    simp only [Int.toNat_natCast, List.length_set] at *
    have hd := ha.1 n
    have hco := ho n
    obtain ⟨d, hd'⟩ : ∃ d : Nat, a.getD n 0 = d := ⟨(a.getD n 0).toNat, by omega⟩
    obtain ⟨c, hc'⟩ : ∃ d : Nat, o.getD n 0 = d := ⟨(o.getD n 0).toNat, by omega⟩
    rw [hd'] at hd ⊢
    rw [hc'] at hco hc ⊢
    rw [Int.toNat_natCast] at hc
    obtain ⟨s1, s2, s3, s4⟩ := shift_step (d := d) (c := c) (k := s) (by omega) (by omega) hc
    have p1 : (2 : Int) ^ s = ((2 ^ s : Nat) : Int) := by simp
    have w1 : IntKind.wrap .u64 (IntKind.wrap .u64 (d : Int) * (2 : Int) ^ s) = ((d * 2 ^ s : Nat) : Int) := by
      rw [wu64 (x := (d : Int)) (by omega), p1, ← Int.natCast_mul, wu64 (by omega)]
    have w2 : IntKind.wrap .u32 ((d * 2 ^ s : Nat) : Int) = ((d * 2 ^ s % 4294967296 : Nat) : Int) := by rw [wu32m]; omega
    have h31 : 2 ^ s ≤ 2 ^ 31 := Nat.pow_le_pow_right (by decide) (by omega)
    have h31' : (2 : Nat) ^ 31 = 2147483648 := rfl
    have w3 : IntKind.wrap .u32 (Int.fdiv ((d * 2 ^ s : Nat) : Int) 4294967296) = ((d * 2 ^ s / 4294967296 : Nat) : Int) := by
      rw [Int.fdiv_eq_ediv_of_nonneg _ (by omega), wu32 (by omega)]; omega
    rw [w1, w2, w3, s3]
    obtain ⟨x, y, hx, hy, hdiv⟩ : ∃ x y, d * 2 ^ s % 4294967296 = x ∧ d * 2 ^ s / 4294967296 = y ∧ 4294967296 * y + x = d * 2 ^ s := ⟨_, _, rfl, rfl, Nat.div_add_mod _ _⟩
    rw [hx, hy]
    rw [hy] at s2
    rw [hx] at s4
    have hy' : y < 4294967296 := by
      rw [h31'] at h31
      have := Nat.lt_of_lt_of_le s2 h31
      omega
    have hb1 : (0 : Int) ≤ ((x + c : Nat) : Int) ∧ ((x + c : Nat) : Int) < 4294967296 := ⟨Int.natCast_nonneg _, by omega⟩
    have hb2 : (0 : Int) ≤ (y : Int) ∧ (y : Int) < 4294967296 := ⟨Int.natCast_nonneg _, by omega⟩
    have hm : a.length - (n + 1) < a.length - n := by omega
    have hn1 : n + 1 < o.length := by omega
    have hn0 : n < o.length := by omega
    have hlast : n + 1 < (o.set n ((x + c : Nat) : Int)).length := by rw [List.length_set]; exact hn1
    have hside : (0 : Int) ≤ (n : Int) ∧ (n : Int) < (a.length : Int) ∧ (0 : Int) ≤ (s : Int) ∧ (0 : Int) ≤ (n : Int) ∧ (n : Int) < (o.length : Int) ∧ (0 : Int) ≤ (n : Int) ∧ (n : Int) < (o.length : Int) ∧ (0 : Int) ≤ ((n + 1 : Nat) : Int) ∧ ((n + 1 : Nat) : Int) < (o.length : Int) := by omega
    have hside2 : (0 : Int) ≤ ((n + 1 : Nat) : Int) ∧ ((n + 1 : Nat) : Int) ≤ (a.length : Int) := by omega
    obtain ⟨g1, g2, g3, g4, g5, g6, g7, g8, g9⟩ := hside
    have v1 := val_set o n ((x + c : Nat) : Int) hn0
    have v2 := val_set (o.set n ((x + c : Nat) : Int)) (n + 1) (y : Int) hlast
    have hz1 := hz (n + 1) (Nat.lt_succ_self n)
    rw [getD_set, if_neg (fun h => absurd h.1 (Nat.ne_of_lt (Nat.lt_succ_self n))), hz1, show Int.toNat 0 = 0 from rfl, Nat.mul_zero, Nat.add_zero, Int.toNat_natCast] at v2
    rw [hc', Int.toNat_natCast, Int.toNat_natCast] at v1
    refine ⟨g1, g2, g3, g4, g5, g6, g7, g8, g9, ⟨(ho.set _ hb1).set _ hb2, hol, hside2.1, hside2.2, ?_, ?_, fun p hp => ?_⟩, hm⟩
    · rw [Nat.pow_succ] at v2
      rw [vt_succ, hd', Int.toNat_natCast, Nat.add_mul, ← hv, Nat.mul_assoc]
      exact shift_fin v1 v2 hdiv
    · rw [getD_set, if_pos ⟨rfl, hlast⟩, Int.toNat_natCast]; exact s2
    · clear v1 v2 s1 s2 s3 s4 h31 h31' w1 w2 w3 hv hdiv hx hy
      rw [getD_set, if_neg (by omega), getD_set, if_neg (by omega)]
      exact hz p (by omega)
  · simp only [decide_eq_false_iff_not] at h
    obtain rfl : i = a.length := by omega
    rw [Int.toNat_natCast, vt_all a (Nat.le_refl _)] at hv
    rw [← hv, ← hol, lowl_of _ ho rfl] at hk
    exact hk
end Nt
end

section
/- Verification conditions, printed. -/
open Go Go.Vc
namespace Nt
def vc_nlong : List Int → List Int → (TV → Prop) → Prop :=
 fun (a b : List Int) (K : TV → Prop) => (0 : Int) ≤ IntKind.wrap IntKind.i64 ((Nat.cast : Nat → Int) (List.length b) - (1 : Int)) ∧ IntKind.wrap IntKind.i64 ((Nat.cast : Nat → Int) (List.length b) -
 (1 : Int)) < (Nat.cast : Nat → Int) (List.length b) ∧ Nt.L (List.getD b (Int.toNat (IntKind.wrap IntKind.i64 ((Nat.cast : Nat → Int) (List.length b) - (1 : Int)))) (0 : Int)) ∧ ∀ (x : Int), x = (32 :
 Int) - (Nat.cast : Nat → Int) (Nt.blen (Int.toNat (List.getD b (Int.toNat (IntKind.wrap IntKind.i64 ((Nat.cast : Nat → Int) (List.length b) - (1 : Int)))) (0 : Int)))) → (Nt.Few a ∧ (0 : Int) ≤
 IntKind.wrap IntKind.u64 x ∧ IntKind.wrap IntKind.u64 x < (32 : Int)) ∧ ∀ (x_1 : List Int), x_1 = Nt.lowl (Nt.val a * (2 : Nat) ^ Int.toNat (IntKind.wrap IntKind.u64 x)) (List.length a + (1 : Nat)) →
 (Nt.Few b ∧ (0 : Int) ≤ IntKind.wrap IntKind.u64 x ∧ IntKind.wrap IntKind.u64 x < (32 : Int)) ∧ ∀ (x_2 : List Int), x_2 = Nt.lowl (Nt.val b * (2 : Nat) ^ Int.toNat (IntKind.wrap IntKind.u64 x))
 (List.length b + (1 : Nat)) → (Nt.Lim x_2 ∧ List.length x_2 ≤ (1000000000 : Nat)) ∧ ∀ (x_3 : List Int), x_3 = Nt.limbs (Nt.val x_2) → (0 : Int) ≤ IntKind.wrap IntKind.i64 ((Nat.cast : Nat → Int)
 (List.length x_3) - (1 : Int)) ∧ IntKind.wrap IntKind.i64 ((Nat.cast : Nat → Int) (List.length x_3) - (1 : Int)) < (Nat.cast : Nat → Int) (List.length x_3) ∧ (0 : Int) ≤ IntKind.wrap IntKind.i64
 ((Nat.cast : Nat → Int) (List.length x_3) - (2 : Int)) ∧ IntKind.wrap IntKind.i64 ((Nat.cast : Nat → Int) (List.length x_3) - (2 : Int)) < (Nat.cast : Nat → Int) (List.length x_3) ∧ (0 : Int) ≤
 IntKind.wrap IntKind.i64 ((Nat.cast : Nat → Int) (List.length x_1) - (Nat.cast : Nat → Int) (List.length x_3)) ∧ IntKind.wrap IntKind.i64 ((Nat.cast : Nat → Int) (List.length x_1) - (Nat.cast : Nat →
 Int) (List.length x_3)) ≤ IntKind.wrap IntKind.i64 ((Nat.cast : Nat → Int) (List.length x_1) - (Nat.cast : Nat → Int) (List.length x_3)) ∧ IntKind.wrap IntKind.i64 ((Nat.cast : Nat → Int) (List.length
 x_1) - (Nat.cast : Nat → Int) (List.length x_3)) * (4 : Int) ≤ (281474976710656 : Int) ∧ ∃ (I : Int → List Int → List Int → Prop), ∃ (m : Int → List Int → List Int → Nat), ((true, OB.ints IntKind.u32
 x_2) = (true, OB.ints IntKind.u32 x_2) ∧ I (IntKind.wrap IntKind.i64 ((Nat.cast : Nat → Int) (List.length (List.replicate (Int.toNat (IntKind.wrap IntKind.i64 ((Nat.cast : Nat → Int) (List.length x_1)
 - (Nat.cast : Nat → Int) (List.length x_3)))) (0 : Int))) - (1 : Int))) x_1 (List.replicate (Int.toNat (IntKind.wrap IntKind.i64 ((Nat.cast : Nat → Int) (List.length x_1) - (Nat.cast : Nat → Int)
 (List.length x_3)))) (0 : Int))) ∧ ∀ (v12 : Int) (o0 o2 : List Int), I v12 o0 o2 → (decide ((0 : Int) ≤ v12) = true → (0 : Int) ≤ IntKind.wrap IntKind.i64 (v12 + (Nat.cast : Nat → Int) (List.length
 x_3)) ∧ IntKind.wrap IntKind.i64 (v12 + (Nat.cast : Nat → Int) (List.length x_3)) < (Nat.cast : Nat → Int) (List.length o0) ∧ (0 : Int) ≤ IntKind.wrap IntKind.i64 (IntKind.wrap IntKind.i64 (v12 +
 (Nat.cast : Nat → Int) (List.length x_3)) - (1 : Int)) ∧ IntKind.wrap IntKind.i64 (IntKind.wrap IntKind.i64 (v12 + (Nat.cast : Nat → Int) (List.length x_3)) - (1 : Int)) < (Nat.cast : Nat → Int)
 (List.length o0) ∧ ¬IntKind.wrap IntKind.u64 (List.getD x_3 (Int.toNat (IntKind.wrap IntKind.i64 ((Nat.cast : Nat → Int) (List.length x_3) - (1 : Int)))) (0 : Int)) = (0 : Int) ∧ ¬IntKind.wrap
 IntKind.u64 (List.getD x_3 (Int.toNat (IntKind.wrap IntKind.i64 ((Nat.cast : Nat → Int) (List.length x_3) - (1 : Int)))) (0 : Int)) = (0 : Int) ∧ ∃ (J : Int → Prop), (∃ (I : Int → Int → Prop), ∃ (m :
 Int → Int → Nat), ((false, OB.ints IntKind.u32 o0) = (false, OB.ints IntKind.u32 o0) ∧ (true, OB.ints IntKind.u32 x_2) = (true, OB.ints IntKind.u32 x_2) ∧ (false, OB.ints IntKind.u32 o2) = (false,
 OB.ints IntKind.u32 o2) ∧ I (IntKind.wrap IntKind.u64 (Int.tdiv (bitop BinOp.or IntKind.u64 (IntKind.wrap IntKind.u64 (IntKind.wrap IntKind.u64 (List.getD o0 (Int.toNat (IntKind.wrap IntKind.i64 (v12
 + (Nat.cast : Nat → Int) (List.length x_3)))) (0 : Int)) * (4294967296 : Int))) (IntKind.wrap IntKind.u64 (List.getD o0 (Int.toNat (IntKind.wrap IntKind.i64 (IntKind.wrap IntKind.i64 (v12 + (Nat.cast
 : Nat → Int) (List.length x_3)) - (1 : Int)))) (0 : Int)))) (IntKind.wrap IntKind.u64 (List.getD x_3 (Int.toNat (IntKind.wrap IntKind.i64 ((Nat.cast : Nat → Int) (List.length x_3) - (1 : Int)))) (0 :
 Int))))) (Int.tmod (bitop BinOp.or IntKind.u64 (IntKind.wrap IntKind.u64 (IntKind.wrap IntKind.u64 (List.getD o0 (Int.toNat (IntKind.wrap IntKind.i64 (v12 + (Nat.cast : Nat → Int) (List.length x_3))))
 (0 : Int)) * (4294967296 : Int))) (IntKind.wrap IntKind.u64 (List.getD o0 (Int.toNat (IntKind.wrap IntKind.i64 (IntKind.wrap IntKind.i64 (v12 + (Nat.cast : Nat → Int) (List.length x_3)) - (1 : Int))))
 (0 : Int)))) (IntKind.wrap IntKind.u64 (List.getD x_3 (Int.toNat (IntKind.wrap IntKind.i64 ((Nat.cast : Nat → Int) (List.length x_3) - (1 : Int)))) (0 : Int))))) ∧ ∀ (v14 v15 : Int), I v14 v15 →
 ((!decide (Int.fdiv v14 (4294967296 : Int) = (0 : Int))) = true → ((!decide (Int.fdiv (IntKind.wrap IntKind.u64 (v15 + IntKind.wrap IntKind.u64 (List.getD x_3 (Int.toNat (IntKind.wrap IntKind.i64
 ((Nat.cast : Nat → Int) (List.length x_3) - (1 : Int)))) (0 : Int)))) (4294967296 : Int) = (0 : Int))) = true → (false, OB.ints IntKind.u32 o0) = (false, OB.ints IntKind.u32 o0) ∧ (true, OB.ints
 IntKind.u32 x_2) = (true, OB.ints IntKind.u32 x_2) ∧ (false, OB.ints IntKind.u32 o2) = (false, OB.ints IntKind.u32 o2) ∧ J (IntKind.wrap IntKind.u64 (v14 - (1 : Int)))) ∧ ((!decide (Int.fdiv
 (IntKind.wrap IntKind.u64 (v15 + IntKind.wrap IntKind.u64 (List.getD x_3 (Int.toNat (IntKind.wrap IntKind.i64 ((Nat.cast : Nat → Int) (List.length x_3) - (1 : Int)))) (0 : Int)))) (4294967296 : Int) =
 (0 : Int))) = false → (false, OB.ints IntKind.u32 o0) = (false, OB.ints IntKind.u32 o0) ∧ (true, OB.ints IntKind.u32 x_2) = (true, OB.ints IntKind.u32 x_2) ∧ (false, OB.ints IntKind.u32 o2) = (false,
 OB.ints IntKind.u32 o2) ∧ I (IntKind.wrap IntKind.u64 (v14 - (1 : Int))) (IntKind.wrap IntKind.u64 (v15 + IntKind.wrap IntKind.u64 (List.getD x_3 (Int.toNat (IntKind.wrap IntKind.i64 ((Nat.cast : Nat
 → Int) (List.length x_3) - (1 : Int)))) (0 : Int)))) ∧ m (IntKind.wrap IntKind.u64 (v14 - (1 : Int))) (IntKind.wrap IntKind.u64 (v15 + IntKind.wrap IntKind.u64 (List.getD x_3 (Int.toNat (IntKind.wrap
 IntKind.i64 ((Nat.cast : Nat → Int) (List.length x_3) - (1 : Int)))) (0 : Int)))) < m v14 v15)) ∧ ((!decide (Int.fdiv v14 (4294967296 : Int) = (0 : Int))) = false → (0 : Int) ≤ IntKind.wrap
 IntKind.i64 (IntKind.wrap IntKind.i64 (v12 + (Nat.cast : Nat → Int) (List.length x_3)) - (2 : Int)) ∧ IntKind.wrap IntKind.i64 (IntKind.wrap IntKind.i64 (v12 + (Nat.cast : Nat → Int) (List.length
 x_3)) - (2 : Int)) < (Nat.cast : Nat → Int) (List.length o0) ∧ (decide (bitop BinOp.or IntKind.u64 (IntKind.wrap IntKind.u64 (v15 * (4294967296 : Int))) (IntKind.wrap IntKind.u64 (List.getD o0
 (Int.toNat (IntKind.wrap IntKind.i64 (IntKind.wrap IntKind.i64 (v12 + (Nat.cast : Nat → Int) (List.length x_3)) - (2 : Int)))) (0 : Int))) < IntKind.wrap IntKind.u64 (v14 * IntKind.wrap IntKind.u64
 (List.getD x_3 (Int.toNat (IntKind.wrap IntKind.i64 ((Nat.cast : Nat → Int) (List.length x_3) - (2 : Int)))) (0 : Int)))) = true → ((!decide (Int.fdiv (IntKind.wrap IntKind.u64 (v15 + IntKind.wrap
 IntKind.u64 (List.getD x_3 (Int.toNat (IntKind.wrap IntKind.i64 ((Nat.cast : Nat → Int) (List.length x_3) - (1 : Int)))) (0 : Int)))) (4294967296 : Int) = (0 : Int))) = true → (false, OB.ints
 IntKind.u32 o0) = (false, OB.ints IntKind.u32 o0) ∧ (true, OB.ints IntKind.u32 x_2) = (true, OB.ints IntKind.u32 x_2) ∧ (false, OB.ints IntKind.u32 o2) = (false, OB.ints IntKind.u32 o2) ∧ J
 (IntKind.wrap IntKind.u64 (v14 - (1 : Int)))) ∧ ((!decide (Int.fdiv (IntKind.wrap IntKind.u64 (v15 + IntKind.wrap IntKind.u64 (List.getD x_3 (Int.toNat (IntKind.wrap IntKind.i64 ((Nat.cast : Nat →
 Int) (List.length x_3) - (1 : Int)))) (0 : Int)))) (4294967296 : Int) = (0 : Int))) = false → (false, OB.ints IntKind.u32 o0) = (false, OB.ints IntKind.u32 o0) ∧ (true, OB.ints IntKind.u32 x_2) =
 (true, OB.ints IntKind.u32 x_2) ∧ (false, OB.ints IntKind.u32 o2) = (false, OB.ints IntKind.u32 o2) ∧ I (IntKind.wrap IntKind.u64 (v14 - (1 : Int))) (IntKind.wrap IntKind.u64 (v15 + IntKind.wrap
 IntKind.u64 (List.getD x_3 (Int.toNat (IntKind.wrap IntKind.i64 ((Nat.cast : Nat → Int) (List.length x_3) - (1 : Int)))) (0 : Int)))) ∧ m (IntKind.wrap IntKind.u64 (v14 - (1 : Int))) (IntKind.wrap
 IntKind.u64 (v15 + IntKind.wrap IntKind.u64 (List.getD x_3 (Int.toNat (IntKind.wrap IntKind.i64 ((Nat.cast : Nat → Int) (List.length x_3) - (1 : Int)))) (0 : Int)))) < m v14 v15)) ∧ (decide (bitop
 BinOp.or IntKind.u64 (IntKind.wrap IntKind.u64 (v15 * (4294967296 : Int))) (IntKind.wrap IntKind.u64 (List.getD o0 (Int.toNat (IntKind.wrap IntKind.i64 (IntKind.wrap IntKind.i64 (v12 + (Nat.cast : Nat
 → Int) (List.length x_3)) - (2 : Int)))) (0 : Int))) < IntKind.wrap IntKind.u64 (v14 * IntKind.wrap IntKind.u64 (List.getD x_3 (Int.toNat (IntKind.wrap IntKind.i64 ((Nat.cast : Nat → Int) (List.length
 x_3) - (2 : Int)))) (0 : Int)))) = false → (false, OB.ints IntKind.u32 o0) = (false, OB.ints IntKind.u32 o0) ∧ (true, OB.ints IntKind.u32 x_2) = (true, OB.ints IntKind.u32 x_2) ∧ (false, OB.ints
 IntKind.u32 o2) = (false, OB.ints IntKind.u32 o2) ∧ J v14))) ∧ ∀ (v14 : Int), J v14 → ∃ (I_1 : Int → Int → Int → List Int → List Int → Prop), ∃ (m_1 : Int → Int → Int → List Int → List Int → Nat),
 ((true, OB.ints IntKind.u32 x_2) = (true, OB.ints IntKind.u32 x_2) ∧ I_1 (0 : Int) (0 : Int) (0 : Int) o0 o2) ∧ ∀ (v16 v17 v119 : Int) (o0_1 o2_1 : List Int), I_1 v16 v17 v119 o0_1 o2_1 → (decide
 (v119 < (Nat.cast : Nat → Int) (List.length x_3)) = true → (0 : Int) ≤ v119 ∧ v119 < (Nat.cast : Nat → Int) (List.length x_3) ∧ (0 : Int) ≤ IntKind.wrap IntKind.i64 (v12 + v119) ∧ IntKind.wrap
 IntKind.i64 (v12 + v119) < (Nat.cast : Nat → Int) (List.length o0_1) ∧ (0 : Int) ≤ IntKind.wrap IntKind.i64 (v12 + v119) ∧ IntKind.wrap IntKind.i64 (v12 + v119) < (Nat.cast : Nat → Int) (List.length
 o0_1) ∧ (true, OB.ints IntKind.u32 x_2) = (true, OB.ints IntKind.u32 x_2) ∧ I_1 (Int.fdiv (IntKind.wrap IntKind.u64 (IntKind.wrap IntKind.u64 (IntKind.wrap IntKind.u64 (List.getD o0_1 (Int.toNat
 (IntKind.wrap IntKind.i64 (v12 + v119))) (0 : Int)) - bitop BinOp.and IntKind.u64 (IntKind.wrap IntKind.u64 (v17 + IntKind.wrap IntKind.u64 (v14 * IntKind.wrap IntKind.u64 (List.getD x_3 (Int.toNat
 v119) (0 : Int))))) (4294967295 : Int)) - v16)) (9223372036854775808 : Int)) (Int.fdiv (IntKind.wrap IntKind.u64 (v17 + IntKind.wrap IntKind.u64 (v14 * IntKind.wrap IntKind.u64 (List.getD x_3
 (Int.toNat v119) (0 : Int))))) (4294967296 : Int)) (IntKind.wrap IntKind.i64 (v119 + (1 : Int))) (List.set o0_1 (Int.toNat (IntKind.wrap IntKind.i64 (v12 + v119))) (IntKind.wrap IntKind.u32
 (IntKind.wrap IntKind.u64 (IntKind.wrap IntKind.u64 (IntKind.wrap IntKind.u64 (List.getD o0_1 (Int.toNat (IntKind.wrap IntKind.i64 (v12 + v119))) (0 : Int)) - bitop BinOp.and IntKind.u64 (IntKind.wrap
 IntKind.u64 (v17 + IntKind.wrap IntKind.u64 (v14 * IntKind.wrap IntKind.u64 (List.getD x_3 (Int.toNat v119) (0 : Int))))) (4294967295 : Int)) - v16)))) o2_1 ∧ m_1 (Int.fdiv (IntKind.wrap IntKind.u64
 (IntKind.wrap IntKind.u64 (IntKind.wrap IntKind.u64 (List.getD o0_1 (Int.toNat (IntKind.wrap IntKind.i64 (v12 + v119))) (0 : Int)) - bitop BinOp.and IntKind.u64 (IntKind.wrap IntKind.u64 (v17 +
 IntKind.wrap IntKind.u64 (v14 * IntKind.wrap IntKind.u64 (List.getD x_3 (Int.toNat v119) (0 : Int))))) (4294967295 : Int)) - v16)) (9223372036854775808 : Int)) (Int.fdiv (IntKind.wrap IntKind.u64 (v17
 + IntKind.wrap IntKind.u64 (v14 * IntKind.wrap IntKind.u64 (List.getD x_3 (Int.toNat v119) (0 : Int))))) (4294967296 : Int)) (IntKind.wrap IntKind.i64 (v119 + (1 : Int))) (List.set o0_1 (Int.toNat
 (IntKind.wrap IntKind.i64 (v12 + v119))) (IntKind.wrap IntKind.u32 (IntKind.wrap IntKind.u64 (IntKind.wrap IntKind.u64 (IntKind.wrap IntKind.u64 (List.getD o0_1 (Int.toNat (IntKind.wrap IntKind.i64
 (v12 + v119))) (0 : Int)) - bitop BinOp.and IntKind.u64 (IntKind.wrap IntKind.u64 (v17 + IntKind.wrap IntKind.u64 (v14 * IntKind.wrap IntKind.u64 (List.getD x_3 (Int.toNat v119) (0 : Int)))))
 (4294967295 : Int)) - v16)))) o2_1 < m_1 v16 v17 v119 o0_1 o2_1) ∧ (decide (v119 < (Nat.cast : Nat → Int) (List.length x_3)) = false → (0 : Int) ≤ IntKind.wrap IntKind.i64 (v12 + (Nat.cast : Nat →
 Int) (List.length x_3)) ∧ IntKind.wrap IntKind.i64 (v12 + (Nat.cast : Nat → Int) (List.length x_3)) < (Nat.cast : Nat → Int) (List.length o0_1) ∧ (0 : Int) ≤ IntKind.wrap IntKind.i64 (v12 + (Nat.cast
 : Nat → Int) (List.length x_3)) ∧ IntKind.wrap IntKind.i64 (v12 + (Nat.cast : Nat → Int) (List.length x_3)) < (Nat.cast : Nat → Int) (List.length o0_1) ∧ ∃ (J : Int → List Int → List Int → Prop),
 (((!decide (Int.fdiv (IntKind.wrap IntKind.u64 (IntKind.wrap IntKind.u64 (IntKind.wrap IntKind.u64 (List.getD o0_1 (Int.toNat (IntKind.wrap IntKind.i64 (v12 + (Nat.cast : Nat → Int) (List.length
 x_3)))) (0 : Int)) - v17) - v16)) (9223372036854775808 : Int) = (0 : Int))) = true → ∃ (I : Int → Int → List Int → List Int → Prop), ∃ (m : Int → Int → List Int → List Int → Nat), ((true, OB.ints
 IntKind.u32 x_2) = (true, OB.ints IntKind.u32 x_2) ∧ I (0 : Int) (0 : Int) (List.set o0_1 (Int.toNat (IntKind.wrap IntKind.i64 (v12 + (Nat.cast : Nat → Int) (List.length x_3)))) (IntKind.wrap
 IntKind.u32 (IntKind.wrap IntKind.u64 (IntKind.wrap IntKind.u64 (IntKind.wrap IntKind.u64 (List.getD o0_1 (Int.toNat (IntKind.wrap IntKind.i64 (v12 + (Nat.cast : Nat → Int) (List.length x_3)))) (0 :
 Int)) - v17) - v16)))) o2_1) ∧ ∀ (v17 v179 : Int) (o0 o2 : List Int), I v17 v179 o0 o2 → (decide (v179 < (Nat.cast : Nat → Int) (List.length x_3)) = true → (0 : Int) ≤ v179 ∧ v179 < (Nat.cast : Nat →
 Int) (List.length x_3) ∧ (0 : Int) ≤ IntKind.wrap IntKind.i64 (v12 + v179) ∧ IntKind.wrap IntKind.i64 (v12 + v179) < (Nat.cast : Nat → Int) (List.length o0) ∧ (0 : Int) ≤ IntKind.wrap IntKind.i64 (v12
 + v179) ∧ IntKind.wrap IntKind.i64 (v12 + v179) < (Nat.cast : Nat → Int) (List.length o0) ∧ (true, OB.ints IntKind.u32 x_2) = (true, OB.ints IntKind.u32 x_2) ∧ I (Int.fdiv (IntKind.wrap IntKind.u64
 (v17 + IntKind.wrap IntKind.u64 (IntKind.wrap IntKind.u64 (List.getD o0 (Int.toNat (IntKind.wrap IntKind.i64 (v12 + v179))) (0 : Int)) + IntKind.wrap IntKind.u64 (List.getD x_3 (Int.toNat v179) (0 :
 Int))))) (4294967296 : Int)) (IntKind.wrap IntKind.i64 (v179 + (1 : Int))) (List.set o0 (Int.toNat (IntKind.wrap IntKind.i64 (v12 + v179))) (IntKind.wrap IntKind.u32 (IntKind.wrap IntKind.u64 (v17 +
 IntKind.wrap IntKind.u64 (IntKind.wrap IntKind.u64 (List.getD o0 (Int.toNat (IntKind.wrap IntKind.i64 (v12 + v179))) (0 : Int)) + IntKind.wrap IntKind.u64 (List.getD x_3 (Int.toNat v179) (0 :
 Int))))))) o2 ∧ m (Int.fdiv (IntKind.wrap IntKind.u64 (v17 + IntKind.wrap IntKind.u64 (IntKind.wrap IntKind.u64 (List.getD o0 (Int.toNat (IntKind.wrap IntKind.i64 (v12 + v179))) (0 : Int)) +
 IntKind.wrap IntKind.u64 (List.getD x_3 (Int.toNat v179) (0 : Int))))) (4294967296 : Int)) (IntKind.wrap IntKind.i64 (v179 + (1 : Int))) (List.set o0 (Int.toNat (IntKind.wrap IntKind.i64 (v12 +
 v179))) (IntKind.wrap IntKind.u32 (IntKind.wrap IntKind.u64 (v17 + IntKind.wrap IntKind.u64 (IntKind.wrap IntKind.u64 (List.getD o0 (Int.toNat (IntKind.wrap IntKind.i64 (v12 + v179))) (0 : Int)) +
 IntKind.wrap IntKind.u64 (List.getD x_3 (Int.toNat v179) (0 : Int))))))) o2 < m v17 v179 o0 o2) ∧ (decide (v179 < (Nat.cast : Nat → Int) (List.length x_3)) = false → (0 : Int) ≤ IntKind.wrap
 IntKind.i64 (v12 + (Nat.cast : Nat → Int) (List.length x_3)) ∧ IntKind.wrap IntKind.i64 (v12 + (Nat.cast : Nat → Int) (List.length x_3)) < (Nat.cast : Nat → Int) (List.length o0) ∧ (0 : Int) ≤
 IntKind.wrap IntKind.i64 (v12 + (Nat.cast : Nat → Int) (List.length x_3)) ∧ IntKind.wrap IntKind.i64 (v12 + (Nat.cast : Nat → Int) (List.length x_3)) < (Nat.cast : Nat → Int) (List.length o0) ∧ (true,
 OB.ints IntKind.u32 x_2) = (true, OB.ints IntKind.u32 x_2) ∧ J (IntKind.wrap IntKind.u64 (v14 - (1 : Int))) (List.set o0 (Int.toNat (IntKind.wrap IntKind.i64 (v12 + (Nat.cast : Nat → Int) (List.length
 x_3)))) (IntKind.wrap IntKind.u32 (List.getD o0 (Int.toNat (IntKind.wrap IntKind.i64 (v12 + (Nat.cast : Nat → Int) (List.length x_3)))) (0 : Int) + IntKind.wrap IntKind.u32 v17))) o2)) ∧ ((!decide
 (Int.fdiv (IntKind.wrap IntKind.u64 (IntKind.wrap IntKind.u64 (IntKind.wrap IntKind.u64 (List.getD o0_1 (Int.toNat (IntKind.wrap IntKind.i64 (v12 + (Nat.cast : Nat → Int) (List.length x_3)))) (0 :
 Int)) - v17) - v16)) (9223372036854775808 : Int) = (0 : Int))) = false → (true, OB.ints IntKind.u32 x_2) = (true, OB.ints IntKind.u32 x_2) ∧ J v14 (List.set o0_1 (Int.toNat (IntKind.wrap IntKind.i64
 (v12 + (Nat.cast : Nat → Int) (List.length x_3)))) (IntKind.wrap IntKind.u32 (IntKind.wrap IntKind.u64 (IntKind.wrap IntKind.u64 (IntKind.wrap IntKind.u64 (List.getD o0_1 (Int.toNat (IntKind.wrap
 IntKind.i64 (v12 + (Nat.cast : Nat → Int) (List.length x_3)))) (0 : Int)) - v17) - v16)))) o2_1)) ∧ ∀ (v14 : Int) (o0_2 o2_2 : List Int), J v14 o0_2 o2_2 → (0 : Int) ≤ v12 ∧ v12 < (Nat.cast : Nat →
 Int) (List.length o2_2) ∧ (true, OB.ints IntKind.u32 x_2) = (true, OB.ints IntKind.u32 x_2) ∧ I (IntKind.wrap IntKind.i64 (v12 - (1 : Int))) o0_2 (List.set o2_2 (Int.toNat v12) (IntKind.wrap
 IntKind.u32 v14)) ∧ m (IntKind.wrap IntKind.i64 (v12 - (1 : Int))) o0_2 (List.set o2_2 (Int.toNat v12) (IntKind.wrap IntKind.u32 v14)) < m v12 o0 o2)) ∧ (decide ((0 : Int) ≤ v12) = false → (0 : Int) ≤
 (Nat.cast : Nat → Int) (List.length x_3) ∧ (Nat.cast : Nat → Int) (List.length x_3) ≤ (Nat.cast : Nat → Int) (List.length x_3) ∧ (Nat.cast : Nat → Int) (List.length x_3) * (4 : Int) ≤ (281474976710656
 : Int) ∧ ∃ (I : Int → List Int → List Int → List Int → Prop), ∃ (m : Int → List Int → List Int → List Int → Nat), ((true, OB.ints IntKind.u32 x_2) = (true, OB.ints IntKind.u32 x_2) ∧ I (0 : Int) o0 o2
 (List.replicate (Int.toNat ((Nat.cast : Nat → Int) (List.length x_3))) (0 : Int))) ∧ ∀ (v224 : Int) (o0 o2 o3 : List Int), I v224 o0 o2 o3 → (decide (v224 < (Nat.cast : Nat → Int) (List.length x_3)) =
 true → (0 : Int) ≤ IntKind.wrap IntKind.i64 (v224 + (1 : Int)) ∧ IntKind.wrap IntKind.i64 (v224 + (1 : Int)) < (Nat.cast : Nat → Int) (List.length o0) ∧ (0 : Int) ≤ v224 ∧ v224 < (Nat.cast : Nat →
 Int) (List.length o0) ∧ (0 : Int) ≤ IntKind.wrap IntKind.u64 x ∧ (0 : Int) ≤ v224 ∧ v224 < (Nat.cast : Nat → Int) (List.length o3) ∧ (true, OB.ints IntKind.u32 x_2) = (true, OB.ints IntKind.u32 x_2) ∧
 I (IntKind.wrap IntKind.i64 (v224 + (1 : Int))) o0 o2 (List.set o3 (Int.toNat v224) (IntKind.wrap IntKind.u32 (Int.fdiv (bitop BinOp.or IntKind.u64 (IntKind.wrap IntKind.u64 (IntKind.wrap IntKind.u64
 (List.getD o0 (Int.toNat (IntKind.wrap IntKind.i64 (v224 + (1 : Int)))) (0 : Int)) * (4294967296 : Int))) (IntKind.wrap IntKind.u64 (List.getD o0 (Int.toNat v224) (0 : Int)))) ((2 : Int) ^ min
 (Int.toNat (IntKind.wrap IntKind.u64 x)) (64 : Nat))))) ∧ m (IntKind.wrap IntKind.i64 (v224 + (1 : Int))) o0 o2 (List.set o3 (Int.toNat v224) (IntKind.wrap IntKind.u32 (Int.fdiv (bitop BinOp.or
 IntKind.u64 (IntKind.wrap IntKind.u64 (IntKind.wrap IntKind.u64 (List.getD o0 (Int.toNat (IntKind.wrap IntKind.i64 (v224 + (1 : Int)))) (0 : Int)) * (4294967296 : Int))) (IntKind.wrap IntKind.u64
 (List.getD o0 (Int.toNat v224) (0 : Int)))) ((2 : Int) ^ min (Int.toNat (IntKind.wrap IntKind.u64 x)) (64 : Nat))))) < m v224 o0 o2 o3) ∧ (decide (v224 < (Nat.cast : Nat → Int) (List.length x_3)) =
 false → (Nt.Lim o2 ∧ List.length o2 ≤ (1000000000 : Nat)) ∧ ∀ (x : List Int), x = Nt.limbs (Nt.val o2) → (Nt.Lim o3 ∧ List.length o3 ≤ (1000000000 : Nat)) ∧ ∀ (x_4 : List Int), x_4 = Nt.limbs (Nt.val
 o3) → K (TV.tup [TV.d (AV.ints IntKind.u32 x), TV.d (AV.ints IntKind.u32 x_4)])))

end Nt
end

section
/- NtM: the proof of the verification condition of long. -/
open Go Go.Vc
namespace Nt

/-- A limb as a natural number. -/
def lm (a : List Int) (i : Nat) : Nat := (a.getD i 0).toNat
theorem lm_eq {a : List Int} (h : Lim a) (i : Nat) : a.getD i 0 = (lm a i : Int) := by
  have := h i
  unfold lm; omega
theorem lm_lt {a : List Int} (h : Lim a) (i : Nat) : lm a i < 4294967296 := by
  have := h i
  unfold lm; omega
theorem vd_lm (a : List Int) (i : Nat) : vd a i = lm a i + 4294967296 * vd a (i + 1) := vd_step a i
theorem vd_split {a : List Int} (h : Lim a) (i m : Nat) : ∃ l, vd a i = l + 4294967296 ^ m * vd a (i + m) ∧ l < 4294967296 ^ m := by
  refine ⟨vt (a.drop i) m, ?_, vt_lt (h.drop i) m⟩
  have := vd_vt (a.drop i) m
  unfold vd at this ⊢
  rw [List.drop_drop] at this
  exact this
theorem vd_div {a : List Int} (h : Lim a) (i : Nat) : val a / 4294967296 ^ i = vd a i := by
  rw [vd_vt a i, Nat.add_mul_div_left _ _ (Nat.pow_pos (by decide)), Nat.div_eq_of_lt (vt_lt h i), Nat.zero_add]
theorem vd_lt_of {a : List Int} {i V : Nat} (hv : val a < 4294967296 ^ i * V) : vd a i < V := by
  have := vd_vt a i
  refine Nat.lt_of_mul_lt_mul_left (a := 4294967296 ^ i) ?_
  omega

/-- A difference of machine words. -/
theorem xs {u l b : Int} (hu : 0 ≤ u ∧ u < 4294967296) (hl : 0 ≤ l ∧ l < 4294967296) (hb : 0 ≤ b ∧ b ≤ 1) :
    Int.fdiv (IntKind.wrap .u64 (IntKind.wrap .u64 (IntKind.wrap .u64 u - l) - b)) 9223372036854775808 = (if u - l - b < 0 then 1 else 0) ∧
    IntKind.wrap .u32 (IntKind.wrap .u64 (IntKind.wrap .u64 (IntKind.wrap .u64 u - l) - b)) = (u - l - b) % 4294967296 := by
  rw [wu64m u, wu64m, wu64m, wu32m, Int.fdiv_eq_ediv_of_nonneg _ (by omega)]
  refine ⟨?_, by omega⟩
  split <;> omega
theorem andu64 {p : Nat} (hp : p < 18446744073709551616) : bitop .and .u64 (p : Int) 4294967295 = ((p % 4294967296 : Nat) : Int) := by
  have e1 : ((BitVec.ofInt 64 (p : Int)) &&& (BitVec.ofInt 64 4294967295)).toNat = p % 4294967296 := by
    have : (4294967295 : Int) = ((2 ^ 32 - 1 : Nat) : Int) := rfl
    rw [this, BitVec.toNat_and, BitVec.ofInt_natCast, BitVec.ofInt_natCast, BitVec.toNat_ofNat, BitVec.toNat_ofNat, Nat.mod_eq_of_lt (by omega), Nat.mod_eq_of_lt (by omega), Nat.and_two_pow_sub_one_eq_mod]
  show IntKind.wrap .u64 _ = _
  have e2 : ((BitVec.ofInt (IntKind.u64).bits (p : Int)) &&& (BitVec.ofInt (IntKind.u64).bits 4294967295)).toNat = p % 4294967296 := e1
  have : p % 4294967296 < 4294967296 := Nat.mod_lt _ (by decide)
  rw [e2, wu64 (by omega)]
/-- Two limbs in one word. -/
theorem word2 {h l : Nat} (hh : h < 4294967296) (hl : l < 4294967296) : bitop .or .u64 (IntKind.wrap .u64 (IntKind.wrap .u64 (h : Int) * 4294967296)) (IntKind.wrap .u64 (l : Int)) = ((h * 4294967296 + l : Nat) : Int) := by
  rw [wu64 (x := (h : Int)) (by omega), wu64 (x := (h : Int) * 4294967296) (by omega), wu64 (x := (l : Int)) (by omega), or64' ⟨by omega, by omega⟩ ⟨by omega, by omega⟩]
  omega

/-- The places of a shift back. -/
theorem unshift_limb {u0 u1 A k : Nat} (hk : k < 32) : (u1 * 4294967296 + u0) / 2 ^ k % 4294967296 = (u0 + 4294967296 * (u1 + 4294967296 * A)) / 2 ^ k % 4294967296 := by
  have hp := Nat.two_pow_pos k
  have h1 : u0 + 4294967296 * (u1 + 4294967296 * A) = u1 * 4294967296 + u0 + 2 ^ k * (4294967296 * (2 ^ (32 - k) * A)) := by
    have e : 2 ^ k * (4294967296 * (2 ^ (32 - k) * A)) = 4294967296 * (4294967296 * A) := by
      have e2 : 2 ^ k * 2 ^ (32 - k) = 4294967296 := by rw [← Nat.pow_add, show k + (32 - k) = 32 by omega]
      rw [Nat.mul_left_comm, ← Nat.mul_assoc (2 ^ k), e2]
    rw [e]; omega
  rw [h1, Nat.add_mul_div_left _ _ hp, Nat.add_mul_mod_self_left]

/-- What the shift makes of the divisor. -/
theorem norm_top {b : List Int} (hb : Lim b) (hn : Norm b) (h2 : 2 ≤ b.length) :
    0 < lm b (b.length - 1) ∧ blen (lm b (b.length - 1)) ≤ 32 ∧ 0 < blen (lm b (b.length - 1)) ∧
    val b * 2 ^ (32 - blen (lm b (b.length - 1))) < 4294967296 ^ b.length ∧ 2147483648 * 4294967296 ^ (b.length - 1) ≤ val b * 2 ^ (32 - blen (lm b (b.length - 1))) := by
  have ht0 : lm b (b.length - 1) ≠ 0 := fun h0 => by
    apply hn
    have h3 := hb (b.length - 1)
    unfold lm at h0
    have h4 : b.getD (b.length - 1) 0 = 0 := by omega
    rw [List.getLast?_eq_getElem?]
    rw [List.getD_eq_getElem?_getD, List.getElem?_eq_getElem (by omega)] at h4
    rw [List.getElem?_eq_getElem (by omega)]
    exact congrArg some h4
  have hlt := lm_lt hb (b.length - 1)
  have h32 := blen_le (n := lm b (b.length - 1)) (k := 32) (by omega)
  obtain ⟨b1, b2, b3⟩ := blen_bounds ht0
  have hv := vd_vt b (b.length - 1)
  have hvt := vt_lt hb (b.length - 1)
  rw [vd_lm, show b.length - 1 + 1 = b.length by omega, vd_len b (Nat.le_refl _), Nat.mul_zero, Nat.add_zero] at hv
  refine ⟨by omega, h32, b3, ?_, ?_⟩
  · have h5 : val b < 4294967296 ^ (b.length - 1) * 2 ^ blen (lm b (b.length - 1)) := by
      have := Nat.mul_le_mul_left (4294967296 ^ (b.length - 1)) (show lm b (b.length - 1) + 1 ≤ 2 ^ blen (lm b (b.length - 1)) by omega)
      rw [Nat.mul_add, Nat.mul_one] at this
      omega
    have h6 := Nat.mul_lt_mul_of_pos_right h5 (Nat.two_pow_pos (32 - blen (lm b (b.length - 1))))
    rw [Nat.mul_assoc, ← Nat.pow_add, show blen (lm b (b.length - 1)) + (32 - blen (lm b (b.length - 1))) = 32 by omega] at h6
    have h7 : 4294967296 ^ b.length = 4294967296 ^ (b.length - 1) * 2 ^ 32 := by
      have : b.length = b.length - 1 + 1 := by omega
      rw [this, Nat.pow_succ]; rfl
    rw [h7]; exact h6
  · have h5 : 4294967296 ^ (b.length - 1) * 2 ^ (blen (lm b (b.length - 1)) - 1) ≤ val b := by
      have := Nat.mul_le_mul_left (4294967296 ^ (b.length - 1)) b1
      omega
    have h6 := Nat.mul_le_mul_right (2 ^ (32 - blen (lm b (b.length - 1)))) h5
    rw [Nat.mul_assoc, ← Nat.pow_add, show blen (lm b (b.length - 1)) - 1 + (32 - blen (lm b (b.length - 1))) = 31 by omega] at h6
    rw [Nat.mul_comm 2147483648]
    exact h6

/-- What the head of a step knows. -/
structure Hd (u v : List Int) (n j V F t s th D : Nat) (p lv ld : Nat) : Prop where
  hV : V = lv + p * (s + 4294967296 * t)
  hD : D = ld + p * (th + 4294967296 * F)
  hlv : lv < p
  hld : ld < p
  ht : 0 < t
  htl : t < 4294967296
  hs : s < 4294967296
  hth : th < 4294967296
  hDV : D < 4294967296 * V
  hF : F < t * 4294967296 + 4294967296
theorem head_of {u v : List Int} {n j V : Nat} (hu : Lim u) (hv : Lim v) (hvl : v.length = n) (hn : 2 ≤ n) (hV : val v = V) (hVt : 2147483648 * 4294967296 ^ (n - 1) ≤ V) (hlt : val u < 4294967296 ^ (j + 1) * V) :
    ∃ p lv ld, Hd u v n j V (lm u (j + n) * 4294967296 + lm u (j + n - 1)) (lm v (n - 1)) (lm v (n - 2)) (lm u (j + n - 2)) (vd u j) p lv ld := by
  obtain ⟨lv, e1, e2⟩ := vd_split hv 0 (n - 2)
  obtain ⟨ld, f1, f2⟩ := vd_split hu j (n - 2)
  have hD1 := vd_lt_of hlt
  have hVl : V < 4294967296 ^ n := by rw [← hV, ← hvl]; exact val_lt hv
  rw [vd_all, hV, Nat.zero_add, vd_lm, show n - 2 + 1 = n - 1 by omega, vd_lm, show n - 1 + 1 = n by omega, vd_len v (by omega), Nat.mul_zero, Nat.add_zero] at e1
  have hz : vd u (j + n + 1) = 0 := by
    have h1 : val u < 4294967296 ^ (j + n + 1) * 1 := by
      rw [Nat.mul_one, show j + n + 1 = j + 1 + n by omega, Nat.pow_add]
      exact Nat.lt_of_lt_of_le hlt (Nat.mul_le_mul_left _ (Nat.le_of_lt hVl))
    have := vd_lt_of h1
    omega
  have g1 : vd u (j + (n - 2)) = lm u (j + n - 2) + 4294967296 * (lm u (j + n) * 4294967296 + lm u (j + n - 1)) := by
    rw [vd_lm u (j + (n - 2)), show j + (n - 2) + 1 = j + n - 1 by omega, vd_lm u (j + n - 1), show j + n - 1 + 1 = j + n by omega, vd_lm u (j + n), hz, show j + (n - 2) = j + n - 2 by omega]
    omega
  have hDV : vd u j < 4294967296 * V := by
    have := vd_lm u j
    have := lm_lt hu j
    omega
  have htp : 0 < lm v (n - 1) := by
    rcases Nat.eq_zero_or_pos (lm v (n - 1)) with h0 | h0
    · exfalso
      rw [h0] at e1
      have hs := lm_lt hv (n - 2)
      have h3 : 4294967296 ^ (n - 2) * (lm v (n - 2) + 4294967296 * 0) + 4294967296 ^ (n - 2) ≤ 4294967296 ^ (n - 2) * 4294967296 := by
        have := Nat.mul_le_mul_left (4294967296 ^ (n - 2)) (show lm v (n - 2) + 4294967296 * 0 + 1 ≤ 4294967296 by omega)
        rw [Nat.mul_add _ _ 1, Nat.mul_one] at this
        exact this
      rw [← Nat.pow_succ, show (n - 2).succ = n - 1 by omega] at h3
      have : 1 * 4294967296 ^ (n - 1) ≤ 2147483648 * 4294967296 ^ (n - 1) := Nat.mul_le_mul_right _ (by decide)
      omega
    · exact h0
  refine ⟨4294967296 ^ (n - 2), lv, ld, e1, by rw [f1, g1], e2, f2, htp, lm_lt hv _, lm_lt hv _, lm_lt hu _, hDV, ?_⟩
  -- the top limb is at most the divisor's
  have h4 : vd u (j + 1) = vd u (j + 1) := rfl
  obtain ⟨l1, k1, k2⟩ := vd_split hu (j + 1) (n - 1)
  rw [show j + 1 + (n - 1) = j + n by omega, vd_lm u (j + n), hz, Nat.mul_zero, Nat.add_zero (lm u (j + n))] at k1
  have hV2 : V < 4294967296 ^ (n - 1) * (lm v (n - 1) + 1) := by
    have e3 : V + 4294967296 ^ (n - 2) * 1 ≤ 4294967296 ^ (n - 2) * (4294967296 * (lm v (n - 1) + 1)) + lv := by
      have := Nat.mul_le_mul_left (4294967296 ^ (n - 2)) (show lm v (n - 2) + 4294967296 * lm v (n - 1) + 1 ≤ 4294967296 * (lm v (n - 1) + 1) by have := lm_lt hv (n - 2); omega)
      rw [Nat.mul_add _ _ 1] at this
      omega
    have e4 : 4294967296 ^ (n - 1) * (lm v (n - 1) + 1) = 4294967296 ^ (n - 2) * (4294967296 * (lm v (n - 1) + 1)) := by
      rw [show n - 1 = n - 2 + 1 by omega, Nat.pow_succ, Nat.mul_assoc]
    rw [e4]; omega
  have h5 : lm u (j + n) < lm v (n - 1) + 1 := by
    refine Nat.lt_of_mul_lt_mul_left (a := 4294967296 ^ (n - 1)) ?_
    omega
  have := lm_lt hu (j + n - 1)
  have : lm u (j + n) * 4294967296 ≤ lm v (n - 1) * 4294967296 := Nat.mul_le_mul_right _ (by omega)
  omega
theorem word2' {h l : Nat} (hh : h < 4294967296) (hl : l < 4294967296) : bitop .or .u64 (IntKind.wrap .u64 ((h : Int) * 4294967296)) (IntKind.wrap .u64 (l : Int)) = ((h * 4294967296 + l : Nat) : Int) := by
  rw [wu64 (x := (h : Int) * 4294967296) (by omega), wu64 (x := (l : Int)) (by omega), or64' ⟨by omega, by omega⟩ ⟨by omega, by omega⟩]
  omega
theorem sub_fin {V2 V1 vu w A ui st Gd C B S : Nat} (a1 : V2 + w * ui = V1 + w * st) (a2 : V1 + A = vu + w * (C + B)) (a3 : st + Gd + (C + B) = ui + 4294967296 * S) : V2 + (A + w * Gd) = vu + w * (4294967296 * S) := by
  have h := congrArg (w * ·) a3
  simp only [Nat.mul_add] at h a2 ⊢
  omega
theorem add_fin {V3 V4 v2 w A ui st d C T : Nat} (a1 : V4 + w * ui = V3 + w * st) (a2 : V3 + w * C = v2 + A) (a3 : st + 4294967296 * T = C + ui + d) : V4 + w * (4294967296 * T) = v2 + (A + w * d) := by
  have h := congrArg (w * ·) a3
  simp only [Nat.mul_add] at h
  omega
theorem dig_pos {v1 v2 vu w y C B G V wj l D : Nat} (e : v1 + wj * (G * V) = vu + w * (C + B)) (hs : v2 + w * y = v1 + w * (y - C - B)) (hy : C + B ≤ y) (hvu : vu = l + wj * D) (hl : l < wj) (hDG : D < (G + 1) * V) :
    v2 + wj * (G * V) = vu ∧ v2 < wj * V := by
  have h1 : w * y = w * (y - C - B) + w * (C + B) := by rw [← Nat.mul_add]; congr 1; omega
  have h2 : v2 + wj * (G * V) = vu := by omega
  refine ⟨h2, ?_⟩
  have h3 := Nat.mul_le_mul_left wj (show D + 1 ≤ (G + 1) * V from hDG)
  rw [Nat.add_mul, Nat.one_mul, Nat.mul_add, Nat.mul_add, Nat.mul_one] at h3
  omega
theorem dig_neg {v1 v2 vu w y C B G V wj l D : Nat} (e : v1 + wj * (G * V) = vu + w * (C + B)) (hs : v2 + w * y = v1 + w * (y + 4294967296 - C - B)) (_ : y < C + B) (hC : C + B ≤ 4294967296) (h2 : v2 < w * 4294967296) (hvu : vu = l + wj * D) (hGD : G * V ≤ D + V) :
    v2 + wj * (G * V) = vu + w * 4294967296 ∧ 1 ≤ G ∧ vu < wj * (G * V) ∧ wj * ((G - 1) * V) ≤ vu ∧ wj * (G * V) = wj * ((G - 1) * V) + wj * V := by
  have h1 : w * (y + 4294967296 - C - B) + w * (C + B) = w * y + w * 4294967296 := by rw [← Nat.mul_add, ← Nat.mul_add]; congr 1; omega
  have h3 : v2 + wj * (G * V) = vu + w * 4294967296 := by omega
  have hG : 1 ≤ G := by
    rcases Nat.eq_zero_or_pos G with h0 | h0
    · rw [h0, Nat.zero_mul, Nat.mul_zero] at h3; omega
    · exact h0
  have h4 : G * V = (G - 1) * V + V := by rw [← Nat.succ_mul]; congr 1; omega
  have h5 : wj * (G * V) = wj * ((G - 1) * V) + wj * V := by rw [h4, Nat.mul_add]
  refine ⟨h3, hG, by omega, ?_, h5⟩
  have h6 : (G - 1) * V ≤ D := by omega
  have := Nat.mul_le_mul_left wj h6
  omega
theorem dig_back {v2 v3 v4 vu w y C G V wj low : Nat} (h3 : v2 + wj * (G * V) = vu + w * 4294967296) (h5 : wj * (G * V) = wj * ((G - 1) * V) + wj * V) (h6 : wj * ((G - 1) * V) ≤ vu) (h7 : vu < wj * (G * V))
    (ha : v3 + w * C = v2 + wj * V) (hlow : v3 = low + w * y) (hl : low < w) (hy : y < 4294967296) (hC : C ≤ 1) (hs : v4 + w * y = v3) :
    y + C = 4294967296 ∧ v4 + wj * ((G - 1) * V) = vu ∧ v4 < wj * V := by
  have h8 : v3 + w * C + wj * ((G - 1) * V) = vu + w * 4294967296 := by omega
  have h9 : y + C = 4294967296 := by
    refine Nat.le_antisymm (by omega) (Nat.le_of_not_lt fun hlt => ?_)
    have := Nat.mul_le_mul_left w (show y + C + 1 ≤ 4294967296 by omega)
    rw [Nat.mul_add, Nat.mul_add, Nat.mul_one] at this
    omega
  have h10 : w * y + w * C = w * 4294967296 := by rw [← Nat.mul_add, h9]
  refine ⟨h9, by omega, by omega⟩
end Nt
end
