/- Helpers for the statements: facts about numbers and fractions as lists of limbs, and the proofs of the conditions. Condition: none. -/
import Derived.Test.YtabajebkmipogaaA2
import Derived.Test.YtabajebkmipogaaB1
section
/- Verification conditions, printed. -/
open Go Go.Vc
namespace Nt
def vc_nslHasPrefix : List Int → List Int → (TV → Prop) → Prop :=
 fun (s p : List Int) (K : TV → Prop) => (decide ((Nat.cast : Nat → Int) (List.length p) ≤ (Nat.cast : Nat → Int) (List.length s)) = true → (0 : Int) ≤ (Nat.cast : Nat → Int) (List.length p) ∧ (Nat.cast : Nat
 → Int) (List.length p) ≤ (Nat.cast : Nat → Int) (List.length s) ∧ K (TV.d (AV.bool (decide (List.take (Int.toNat ((Nat.cast : Nat → Int) (List.length p))) s = p))))) ∧ (decide ((Nat.cast : Nat → Int) (List.length p) ≤ (Nat.cast : Nat
 → Int) (List.length s)) = false → K (TV.d (AV.bool false)))

def vc_nslCutPrefix : List Int → List Int → (TV → Prop) → Prop :=
 fun (s p : List Int) (K : TV → Prop) => (List.length s ≤ (1000000000000 : Nat) ∧ List.length p ≤ (1000000000000 : Nat)) ∧ ∀ (x : Bool), x = Nt.hasPre s p → ((!x) = true → K (TV.tup [TV.d (AV.str s), TV.d (AV.bool false)]))
 ∧ ((!x) = false → (0 : Int) ≤ (Nat.cast : Nat → Int) (List.length p) ∧ (Nat.cast : Nat → Int) (List.length p) ≤ (Nat.cast : Nat → Int) (List.length s) ∧ K (TV.tup [TV.d (AV.str (List.drop (Int.toNat ((Nat.cast : Nat
 → Int) (List.length p))) s)), TV.d (AV.bool true)]))

def vc_nstrings_CutPrefix : List Int → List Int → (TV → Prop) → Prop :=
 fun (s p : List Int) (K : TV → Prop) => (List.length s ≤ (1000000000000 : Nat) ∧ List.length p ≤ (1000000000000 : Nat)) ∧ ∀ (x : List Int), (x = if Nt.hasPre s p = true then List.drop (List.length p) s else s)
 → ∀ (x_1 : Bool), x_1 = Nt.hasPre s p → K (TV.tup [TV.d (AV.str x), TV.d (AV.bool x_1)])

def vc_nslIndexByte : List Int → Int → (TV → Prop) → Prop :=
 fun (s : List Int) (c : Int) (K : TV → Prop) => ((0 : Int) ≤ c ∧ c < (256 : Int)) ∧ ∀ (x : Int), x = idx c s → K (TV.d (AV.int IntKind.i64 x))

def vc_nslIndex : List Int → List Int → (TV → Prop) → Prop :=
 fun (s p : List Int) (K : TV → Prop) => (decide ((Nat.cast : Nat → Int) (List.length p) = (0 : Int)) = true → K (TV.d (AV.int IntKind.i64 (0 : Int)))) ∧ (decide ((Nat.cast : Nat → Int) (List.length p) = (0 : Int)) = false
 → (decide (p = s) = true → K (TV.d (AV.int IntKind.i64 (0 : Int)))) ∧ (decide (p = s) = false → (decide ((Nat.cast : Nat → Int) (List.length p) = (1 : Int)) = true → (0 : Int) ≤ (0 : Int) ∧ (0 : Int) < (Nat.cast : Nat
 → Int) (List.length p) ∧ ((0 : Int) ≤ List.getD p (0 : Nat) (0 : Int) ∧ List.getD p (0 : Nat) (0 : Int) < (256 : Int)) ∧ ∀ (x : Int), x = idx (List.getD p (0 : Nat) (0 : Int)) s → K (TV.d (AV.int IntKind.i64 x)))
 ∧ (decide ((Nat.cast : Nat → Int) (List.length p) = (1 : Int)) = false → (decide ((Nat.cast : Nat → Int) (List.length s) ≤ (Nat.cast : Nat → Int) (List.length p)) = true → K (TV.d (AV.int IntKind.i64 (-1 : Int))))
 ∧ (decide ((Nat.cast : Nat → Int) (List.length s) ≤ (Nat.cast : Nat → Int) (List.length p)) = false → False))))

def vc_nslCut : List Int → List Int → (TV → Prop) → Prop :=
 fun (s p : List Int) (K : TV → Prop) => (List.length p = (1 : Nat) ∧ (0 : Int) ≤ List.getD p (0 : Nat) (0 : Int) ∧ List.getD p (0 : Nat) (0 : Int) < (256 : Int) ∧ List.length s ≤ (1000000000000 : Nat))
 ∧ ∀ (x : Int), x = idx (List.getD p (0 : Nat) (0 : Int)) s → (decide ((0 : Int) ≤ x) = true → (0 : Int) ≤ x ∧ x ≤ (Nat.cast : Nat → Int) (List.length s) ∧ (0 : Int) ≤ IntKind.wrap IntKind.i64 (x + (Nat.cast : Nat
 → Int) (List.length p)) ∧ IntKind.wrap IntKind.i64 (x + (Nat.cast : Nat → Int) (List.length p)) ≤ (Nat.cast : Nat → Int) (List.length s) ∧ K (TV.tup [TV.d (AV.str (List.take (Int.toNat x) s)), TV.d (AV.str (List.drop (Int.toNat (IntKind.wrap IntKind.i64 (x + (Nat.cast : Nat
 → Int) (List.length p)))) s)), TV.d (AV.bool true)])) ∧ (decide ((0 : Int) ≤ x) = false → K (TV.tup [TV.d (AV.str s), TV.d (AV.str []), TV.d (AV.bool false)]))

def vc_nstrings_Cut : List Int → List Int → (TV → Prop) → Prop :=
 fun (s p : List Int) (K : TV → Prop) => (List.length p = (1 : Nat) ∧ (0 : Int) ≤ List.getD p (0 : Nat) (0 : Int) ∧ List.getD p (0 : Nat) (0 : Int) < (256 : Int) ∧ List.length s ≤ (1000000000000 : Nat))
 ∧ ∀ (x : List Int), (x = if idx (List.getD p (0 : Nat) (0 : Int)) s < (0 : Int) then s else List.take (Int.toNat (idx (List.getD p (0 : Nat) (0 : Int)) s)) s) → ∀ (x_1 : List Int), (x_1 = if idx (List.getD p (0 : Nat) (0 : Int)) s < (0 : Int) then [] else List.drop (Int.toNat (idx (List.getD p (0 : Nat) (0 : Int)) s) + (1 : Nat)) s)
 → ∀ (x_2 : Bool), x_2 = !decide (idx (List.getD p (0 : Nat) (0 : Int)) s < (0 : Int)) → K (TV.tup [TV.d (AV.str x), TV.d (AV.str x_1), TV.d (AV.bool x_2)])

def vc_nrreduce : Bool → List Int → List Int → (TV → Prop) → Prop :=
 fun (s : Bool) (a b : List Int) (K : TV → Prop) => Nt.Few a ∧ ∀ (x : List Int), x = Nt.limbs (Nt.val a) → Nt.Few b ∧ ∀ (x_1 : List Int), x_1 = Nt.limbs (Nt.val b) → (decide ((Nat.cast : Nat → Int) (List.length x) = (0 : Int)) = true
 → K (TV.agg [TV.d (AV.bool false), TV.d (AV.ints IntKind.u32 []), TV.d (AV.ints IntKind.u32 [(1 : Int)])])) ∧ (decide ((Nat.cast : Nat → Int) (List.length x) = (0 : Int)) = false → (Nt.Few x ∧ Nt.Few x_1)
 ∧ ∀ (x_2 : List Int), x_2 = Nt.limbs (Nat.gcd (Nt.val x) (Nt.val x_1)) → ((!decide ((Nat.cast : Nat → Int) (List.length x_2) = (1 : Int))) = true → (Nt.Few x ∧ Nt.Few x_2) ∧ ∀ (x_3 : List Int), (x_3 = if Nt.val x_2 = (0 : Nat) then [] else Nt.limbs (Nt.val x / Nt.val x_2))
 → ∀ (x_4 : List Int), (x_4 = if Nt.val x_2 = (0 : Nat) then [] else Nt.limbs (Nt.val x % Nt.val x_2)) → ∀ (x : Int), (x = if Nt.val x_2 = (0 : Nat) then (3 : Int) else (0 : Int)) → (Nt.Few x_1 ∧ Nt.Few x_2)
 ∧ ∀ (x : List Int), (x = if Nt.val x_2 = (0 : Nat) then [] else Nt.limbs (Nt.val x_1 / Nt.val x_2)) → ∀ (x_5 : List Int), (x_5 = if Nt.val x_2 = (0 : Nat) then [] else Nt.limbs (Nt.val x_1 % Nt.val x_2))
 → ∀ (x_6 : Int), (x_6 = if Nt.val x_2 = (0 : Nat) then (3 : Int) else (0 : Int)) → K (TV.agg [TV.d (AV.bool s), TV.d (AV.ints IntKind.u32 x_3), TV.d (AV.ints IntKind.u32 x)])) ∧ ((!decide ((Nat.cast : Nat
 → Int) (List.length x_2) = (1 : Int))) = false → (0 : Int) ≤ (0 : Int) ∧ (0 : Int) < (Nat.cast : Nat → Int) (List.length x_2) ∧ ((!decide (List.getD x_2 (0 : Nat) (0 : Int) = (1 : Int))) = true → (Nt.Few x
 ∧ Nt.Few x_2) ∧ ∀ (x_3 : List Int), (x_3 = if Nt.val x_2 = (0 : Nat) then [] else Nt.limbs (Nt.val x / Nt.val x_2)) → ∀ (x_4 : List Int), (x_4 = if Nt.val x_2 = (0 : Nat) then [] else Nt.limbs (Nt.val x % Nt.val x_2))
 → ∀ (x : Int), (x = if Nt.val x_2 = (0 : Nat) then (3 : Int) else (0 : Int)) → (Nt.Few x_1 ∧ Nt.Few x_2) ∧ ∀ (x : List Int), (x = if Nt.val x_2 = (0 : Nat) then [] else Nt.limbs (Nt.val x_1 / Nt.val x_2))
 → ∀ (x_5 : List Int), (x_5 = if Nt.val x_2 = (0 : Nat) then [] else Nt.limbs (Nt.val x_1 % Nt.val x_2)) → ∀ (x_6 : Int), (x_6 = if Nt.val x_2 = (0 : Nat) then (3 : Int) else (0 : Int)) → K (TV.agg [TV.d (AV.bool s), TV.d (AV.ints IntKind.u32 x_3), TV.d (AV.ints IntKind.u32 x)]))
 ∧ ((!decide (List.getD x_2 (0 : Nat) (0 : Int) = (1 : Int))) = false → K (TV.agg [TV.d (AV.bool s), TV.d (AV.ints IntKind.u32 x), TV.d (AV.ints IntKind.u32 x_1)]))))

def vc_nrisZero : List Int → (TV → Prop) → Prop :=
 fun (a : List Int) (K : TV → Prop) => (Nt.Few a ∧ Nt.Few []) ∧ ∀ (x : Int), x = Nt.cmp (Nt.val a) (0 : Nat) → K (TV.d (AV.bool (decide (x = (0 : Int)))))

def vc_nrnumber : Bool → List Int → List Int → (TV → Prop) → Prop :=
 fun (s : Bool) (a b : List Int) (K : TV → Prop) => Nt.Few b ∧ ∀ (x : Bool), x = decide (Nt.val b = (0 : Nat)) → (x = true → (Nt.Few [] ∧ Nt.Few [(1 : Int)] ∧ ¬(1 : Nat) = (0 : Nat)) ∧ ∀ (x : Bool), x = Nt.rneg (Nt.rv false [] [(1 : Int)])
 → ∀ (x_1 : List Int), x_1 = Nt.rnum (Nt.rv false [] [(1 : Int)]) → ∀ (x_2 : List Int), x_2 = Nt.rden (Nt.rv false [] [(1 : Int)]) → K (TV.agg [TV.d (AV.bool x), TV.d (AV.ints IntKind.u32 x_1), TV.d (AV.ints IntKind.u32 x_2)]))
 ∧ (x = false → (Nt.Few a ∧ Nt.Few b ∧ ¬Nt.val b = (0 : Nat)) ∧ ∀ (x : Bool), x = Nt.rneg (Nt.rv s a b) → ∀ (x_1 : List Int), x_1 = Nt.rnum (Nt.rv s a b) → ∀ (x_2 : List Int), x_2 = Nt.rden (Nt.rv s a b)
 → K (TV.agg [TV.d (AV.bool x), TV.d (AV.ints IntKind.u32 x_1), TV.d (AV.ints IntKind.u32 x_2)]))

def vc_nrone : List Int → (TV → Prop) → Prop :=
 fun (a : List Int) (K : TV → Prop) => (decide ((Nat.cast : Nat → Int) (List.length a) = (1 : Int)) = true → (0 : Int) ≤ (0 : Int) ∧ (0 : Int) < (Nat.cast : Nat → Int) (List.length a) ∧ K (TV.d (AV.bool (decide (List.getD a (0 : Nat) (0 : Int) = (1 : Int))))))
 ∧ (decide ((Nat.cast : Nat → Int) (List.length a) = (1 : Int)) = false → K (TV.d (AV.bool false)))

def vc_n_rfraction__rat : Bool → List Int → List Int → (TV → Prop) → Prop :=
 fun (s : Bool) (a b : List Int) (K : TV → Prop) => K (TV.agg [TV.d (AV.bool s), TV.d (AV.ints IntKind.u32 a), TV.d (AV.ints IntKind.u32 b)])

def vc_nrNorm : Bool → List Int → List Int → (TV → Prop) → Prop :=
 fun (s : Bool) (a b : List Int) (K : TV → Prop) => (Nt.Few a ∧ Nt.Few b) ∧ ∀ (x : Bool), x = Nt.rneg (Nt.rv s a b) → ∀ (x_1 : List Int), x_1 = Nt.rnum (Nt.rv s a b) → ∀ (x_2 : List Int), x_2 = Nt.rden (Nt.rv s a b)
 → True ∧ ∀ (x_3 : Bool), x_3 = x → ∀ (x : List Int), x = x_1 → ∀ (x_4 : List Int), x_4 = x_2 → K (TV.agg [TV.d (AV.bool x_3), TV.d (AV.ints IntKind.u32 x), TV.d (AV.ints IntKind.u32 x_4)])

def vc_nrmagnitude : Int → (TV → Prop) → Prop :=
 fun (n : Int) (K : TV → Prop) => ∃ (J : Int → Prop), ((decide (n < (0 : Int)) = true → J (IntKind.wrap IntKind.u64 ((0 : Int) - IntKind.wrap IntKind.u64 n))) ∧ (decide (n < (0 : Int)) = false → J (IntKind.wrap IntKind.u64 n)))
 ∧ ∀ (v4 : Int), J v4 → Nt.Few [IntKind.wrap IntKind.u32 v4, IntKind.wrap IntKind.u32 (Int.fdiv v4 (4294967296 : Int))] ∧ ∀ (x : List Int), x = Nt.limbs (Nt.val [IntKind.wrap IntKind.u32 v4, IntKind.wrap IntKind.u32 (Int.fdiv v4 (4294967296 : Int))])
 → K (TV.tup [TV.d (AV.bool (decide (n < (0 : Int)))), TV.d (AV.ints IntKind.u32 x)])

def vc_nrInt : Int → (TV → Prop) → Prop :=
 fun (n : Int) (K : TV → Prop) => Nt.i64 n ∧ ∀ (x : Bool), x = decide (n < (0 : Int)) → ∀ (x_1 : List Int), x_1 = Nt.limbs (Int.natAbs n) → (Nt.Few x_1 ∧ Nt.Few [(1 : Int)] ∧ ¬(1 : Nat) = (0 : Nat)) ∧ ∀ (x_2 : Bool), x_2 = Nt.rneg (Nt.rv x x_1 [(1 : Int)])
 → ∀ (x_3 : List Int), x_3 = Nt.rnum (Nt.rv x x_1 [(1 : Int)]) → ∀ (x_4 : List Int), x_4 = Nt.rden (Nt.rv x x_1 [(1 : Int)]) → True ∧ ∀ (x : Bool), x = x_2 → ∀ (x_5 : List Int), x_5 = x_3 → ∀ (x_6 : List Int), x_6 = x_4
 → K (TV.agg [TV.d (AV.bool x), TV.d (AV.ints IntKind.u32 x_5), TV.d (AV.ints IntKind.u32 x_6)])

def vc_nrNew : Int → Int → (TV → Prop) → Prop :=
 fun (n d : Int) (K : TV → Prop) => (decide (d = (0 : Int)) = true → K (TV.tup [TV.agg [TV.d (AV.bool false), TV.d (AV.ints IntKind.u32 []), TV.d (AV.ints IntKind.u32 [])], TV.d (AV.int IntKind.i64 (3 : Int))]))
 ∧ (decide (d = (0 : Int)) = false → Nt.i64 n ∧ ∀ (x : Bool), x = decide (n < (0 : Int)) → ∀ (x_1 : List Int), x_1 = Nt.limbs (Int.natAbs n) → Nt.i64 d ∧ ∀ (x_2 : Bool), x_2 = decide (d < (0 : Int)) → ∀ (x_3 : List Int), x_3 = Nt.limbs (Int.natAbs d)
 → (Nt.Few x_1 ∧ Nt.Few x_3 ∧ ¬Nt.val x_3 = (0 : Nat)) ∧ ∀ (x_4 : Bool), x_4 = Nt.rneg (Nt.rv (!x == x_2) x_1 x_3) → ∀ (x_5 : List Int), x_5 = Nt.rnum (Nt.rv (!x == x_2) x_1 x_3) → ∀ (x_6 : List Int), x_6 = Nt.rden (Nt.rv (!x == x_2) x_1 x_3)
 → True ∧ ∀ (x : Bool), x = x_4 → ∀ (x_7 : List Int), x_7 = x_5 → ∀ (x_8 : List Int), x_8 = x_6 → K (TV.tup [TV.agg [TV.d (AV.bool x), TV.d (AV.ints IntKind.u32 x_7), TV.d (AV.ints IntKind.u32 x_8)], TV.d (AV.int IntKind.i64 (0 : Int))]))

def vc_nrMake : Bool → List Int → List Int → (TV → Prop) → Prop :=
 fun (s : Bool) (a b : List Int) (K : TV → Prop) => Nt.Few b ∧ ∀ (x : Bool), x = decide (Nt.val b = (0 : Nat)) → (x = true → K (TV.tup [TV.agg [TV.d (AV.bool false), TV.d (AV.ints IntKind.u32 []), TV.d (AV.ints IntKind.u32 [])], TV.d (AV.int IntKind.i64 (3 : Int))]))
 ∧ (x = false → (Nt.Few a ∧ Nt.Few b ∧ ¬Nt.val b = (0 : Nat)) ∧ ∀ (x : Bool), x = Nt.rneg (Nt.rv s a b) → ∀ (x_1 : List Int), x_1 = Nt.rnum (Nt.rv s a b) → ∀ (x_2 : List Int), x_2 = Nt.rden (Nt.rv s a b)
 → True ∧ ∀ (x_3 : Bool), x_3 = x → ∀ (x : List Int), x = x_1 → ∀ (x_4 : List Int), x_4 = x_2 → K (TV.tup [TV.agg [TV.d (AV.bool x_3), TV.d (AV.ints IntKind.u32 x), TV.d (AV.ints IntKind.u32 x_4)], TV.d (AV.int IntKind.i64 (0 : Int))]))

def vc_nrcombine : Bool → List Int → Bool → List Int → List Int → (TV → Prop) → Prop :=
 fun (s : Bool) (a : List Int) (t : Bool) (b d : List Int) (K : TV → Prop) => ((s == t) = true → (Nt.Few a ∧ Nt.Few b) ∧ ∀ (x : List Int), x = Nt.limbs (Nt.val a + Nt.val b) → (Nt.Few x ∧ Nt.Few d ∧ ¬Nt.val d = (0 : Nat))
 ∧ ∀ (x_1 : Bool), x_1 = Nt.rneg (Nt.rv s x d) → ∀ (x_2 : List Int), x_2 = Nt.rnum (Nt.rv s x d) → ∀ (x_3 : List Int), x_3 = Nt.rden (Nt.rv s x d) → K (TV.agg [TV.d (AV.bool x_1), TV.d (AV.ints IntKind.u32 x_2), TV.d (AV.ints IntKind.u32 x_3)]))
 ∧ ((s == t) = false → ∃ (J : Bool → List Int → List Int → Prop), ((Nt.Few a ∧ Nt.Few b) ∧ ∀ (x : Int), x = Nt.cmp (Nt.val a) (Nt.val b) → (decide (x < (0 : Int)) = true → (false, OB.cells [TV.d (AV.bool false), TV.emp, TV.emp]) = (false, OB.cells [TV.d (AV.bool false), TV.emp, TV.emp])
 ∧ J t b a) ∧ (decide (x < (0 : Int)) = false → (false, OB.cells [TV.d (AV.bool false), TV.emp, TV.emp]) = (false, OB.cells [TV.d (AV.bool false), TV.emp, TV.emp]) ∧ J s a b)) ∧ ∀ (v0 : Bool) (v1 v3 : List Int), J v0 v1 v3
 → (Nt.Few v1 ∧ Nt.Few v3) ∧ ∀ (x : List Int), (x = if Nt.val v1 < Nt.val v3 then [] else Nt.limbs (Nt.val v1 - Nt.val v3)) → ∀ (x_1 : Int), (x_1 = if Nt.val v1 < Nt.val v3 then (1 : Int) else (0 : Int))
 → (Nt.Few x ∧ Nt.Few d ∧ ¬Nt.val d = (0 : Nat)) ∧ ∀ (x_2 : Bool), x_2 = Nt.rneg (Nt.rv v0 x d) → ∀ (x_3 : List Int), x_3 = Nt.rnum (Nt.rv v0 x d) → ∀ (x_4 : List Int), x_4 = Nt.rden (Nt.rv v0 x d) → K (TV.agg [TV.d (AV.bool x_2), TV.d (AV.ints IntKind.u32 x_3), TV.d (AV.ints IntKind.u32 x_4)]))

def vc_nrAdd : Bool → List Int → List Int → Bool → List Int → List Int → (TV → Prop) → Prop :=
 fun (s : Bool) (a b : List Int) (t : Bool) (c d : List Int) (K : TV → Prop) => (Nt.Few a ∧ Nt.Few b) ∧ ∀ (x : Bool), x = Nt.rneg (Nt.rv s a b) → ∀ (x_1 : List Int), x_1 = Nt.rnum (Nt.rv s a b) → ∀ (x_2 : List Int), x_2 = Nt.rden (Nt.rv s a b)
 → (Nt.Few c ∧ Nt.Few d) ∧ ∀ (x_3 : Bool), x_3 = Nt.rneg (Nt.rv t c d) → ∀ (x_4 : List Int), x_4 = Nt.rnum (Nt.rv t c d) → ∀ (x_5 : List Int), x_5 = Nt.rden (Nt.rv t c d) → True ∧ ∀ (x_6 : Bool), x_6 = decide (x_2 = [(1 : Int)])
 → (x_6 = true → True ∧ ∀ (x_7 : Bool), x_7 = decide (x_5 = [(1 : Int)]) → (x_7 = true → (Nt.Sm (50000000 : Nat) x_1 ∧ Nt.Sm (50000000 : Nat) x_4 ∧ Nt.Few x_2 ∧ ¬Nt.val x_2 = (0 : Nat)) ∧ ∀ (x_8 : Bool), x_8 = Nt.rneg (mkRat (Nt.sg x (Nt.val x_1) + Nt.sg x_3 (Nt.val x_4)) (Nt.val x_2))
 → ∀ (x_9 : List Int), x_9 = Nt.rnum (mkRat (Nt.sg x (Nt.val x_1) + Nt.sg x_3 (Nt.val x_4)) (Nt.val x_2)) → ∀ (x_10 : List Int), x_10 = Nt.rden (mkRat (Nt.sg x (Nt.val x_1) + Nt.sg x_3 (Nt.val x_4)) (Nt.val x_2))
 → True ∧ ∀ (x : Bool), x = x_8 → ∀ (x_11 : List Int), x_11 = x_9 → ∀ (x_12 : List Int), x_12 = x_10 → K (TV.agg [TV.d (AV.bool x), TV.d (AV.ints IntKind.u32 x_11), TV.d (AV.ints IntKind.u32 x_12)])) ∧ (x_7 = false
 → (Nt.Few x_1 ∧ Nt.Few x_5) ∧ ∀ (x_8 : List Int), x_8 = Nt.limbs (Nt.val x_1 * Nt.val x_5) → (Nt.Few x_4 ∧ Nt.Few x_2) ∧ ∀ (x_9 : List Int), x_9 = Nt.limbs (Nt.val x_4 * Nt.val x_2) → (Nt.Few x_2 ∧ Nt.Few x_5)
 ∧ ∀ (x_10 : List Int), x_10 = Nt.limbs (Nt.val x_2 * Nt.val x_5) → (Nt.Sm (50000000 : Nat) x_8 ∧ Nt.Sm (50000000 : Nat) x_9 ∧ Nt.Few x_10 ∧ ¬Nt.val x_10 = (0 : Nat)) ∧ ∀ (x_11 : Bool), x_11 = Nt.rneg (mkRat (Nt.sg x (Nt.val x_8) + Nt.sg x_3 (Nt.val x_9)) (Nt.val x_10))
 → ∀ (x_12 : List Int), x_12 = Nt.rnum (mkRat (Nt.sg x (Nt.val x_8) + Nt.sg x_3 (Nt.val x_9)) (Nt.val x_10)) → ∀ (x_13 : List Int), x_13 = Nt.rden (mkRat (Nt.sg x (Nt.val x_8) + Nt.sg x_3 (Nt.val x_9)) (Nt.val x_10))
 → True ∧ ∀ (x : Bool), x = x_11 → ∀ (x_14 : List Int), x_14 = x_12 → ∀ (x_15 : List Int), x_15 = x_13 → K (TV.agg [TV.d (AV.bool x), TV.d (AV.ints IntKind.u32 x_14), TV.d (AV.ints IntKind.u32 x_15)])))
 ∧ (x_6 = false → (Nt.Few x_1 ∧ Nt.Few x_5) ∧ ∀ (x_7 : List Int), x_7 = Nt.limbs (Nt.val x_1 * Nt.val x_5) → (Nt.Few x_4 ∧ Nt.Few x_2) ∧ ∀ (x_8 : List Int), x_8 = Nt.limbs (Nt.val x_4 * Nt.val x_2) → (Nt.Few x_2
 ∧ Nt.Few x_5) ∧ ∀ (x_9 : List Int), x_9 = Nt.limbs (Nt.val x_2 * Nt.val x_5) → (Nt.Sm (50000000 : Nat) x_7 ∧ Nt.Sm (50000000 : Nat) x_8 ∧ Nt.Few x_9 ∧ ¬Nt.val x_9 = (0 : Nat)) ∧ ∀ (x_10 : Bool), x_10 = Nt.rneg (mkRat (Nt.sg x (Nt.val x_7) + Nt.sg x_3 (Nt.val x_8)) (Nt.val x_9))
 → ∀ (x_11 : List Int), x_11 = Nt.rnum (mkRat (Nt.sg x (Nt.val x_7) + Nt.sg x_3 (Nt.val x_8)) (Nt.val x_9)) → ∀ (x_12 : List Int), x_12 = Nt.rden (mkRat (Nt.sg x (Nt.val x_7) + Nt.sg x_3 (Nt.val x_8)) (Nt.val x_9))
 → True ∧ ∀ (x : Bool), x = x_10 → ∀ (x_13 : List Int), x_13 = x_11 → ∀ (x_14 : List Int), x_14 = x_12 → K (TV.agg [TV.d (AV.bool x), TV.d (AV.ints IntKind.u32 x_13), TV.d (AV.ints IntKind.u32 x_14)]))

def vc_nrNeg : Bool → List Int → List Int → (TV → Prop) → Prop :=
 fun (s : Bool) (a b : List Int) (K : TV → Prop) => (Nt.Few a ∧ Nt.Few b) ∧ ∀ (x : Bool), x = Nt.rneg (Nt.rv s a b) → ∀ (x_1 : List Int), x_1 = Nt.rnum (Nt.rv s a b) → ∀ (x_2 : List Int), x_2 = Nt.rden (Nt.rv s a b)
 → ((!x) = true → True ∧ ∀ (x : Bool), x = decide ((0 : Int) < (Nat.cast : Nat → Int) (List.length x_1)) → ∀ (x_3 : List Int), x_3 = x_1 → ∀ (x_4 : List Int), x_4 = x_2 → K (TV.agg [TV.d (AV.bool x), TV.d (AV.ints IntKind.u32 x_3), TV.d (AV.ints IntKind.u32 x_4)]))
 ∧ ((!x) = false → True ∧ ∀ (x : Bool), x = false → ∀ (x_3 : List Int), x_3 = x_1 → ∀ (x_4 : List Int), x_4 = x_2 → K (TV.agg [TV.d (AV.bool x), TV.d (AV.ints IntKind.u32 x_3), TV.d (AV.ints IntKind.u32 x_4)]))

def vc_nrSub : Bool → List Int → List Int → Bool → List Int → List Int → (TV → Prop) → Prop :=
 fun (s : Bool) (a b : List Int) (t : Bool) (c d : List Int) (K : TV → Prop) => (Nt.Sm (1000000 : Nat) c ∧ Nt.Sm (1000000 : Nat) d) ∧ ∀ (x : Bool), x = Nt.rneg (-Nt.rv t c d) → ∀ (x_1 : List Int), x_1 = Nt.rnum (-Nt.rv t c d)
 → ∀ (x_2 : List Int), x_2 = Nt.rden (-Nt.rv t c d) → (Nt.Sm (1000000 : Nat) a ∧ Nt.Sm (1000000 : Nat) b ∧ Nt.Sm (1000000 : Nat) x_1 ∧ Nt.Sm (1000000 : Nat) x_2) ∧ ∀ (x_3 : Bool), x_3 = Nt.rneg (Nt.rv s a b + Nt.rv x x_1 x_2)
 → ∀ (x_4 : List Int), x_4 = Nt.rnum (Nt.rv s a b + Nt.rv x x_1 x_2) → ∀ (x_5 : List Int), x_5 = Nt.rden (Nt.rv s a b + Nt.rv x x_1 x_2) → K (TV.agg [TV.d (AV.bool x_3), TV.d (AV.ints IntKind.u32 x_4), TV.d (AV.ints IntKind.u32 x_5)])

def vc_nrMul : Bool → List Int → List Int → Bool → List Int → List Int → (TV → Prop) → Prop :=
 fun (s : Bool) (a b : List Int) (t : Bool) (c d : List Int) (K : TV → Prop) => (Nt.Few a ∧ Nt.Few b) ∧ ∀ (x : Bool), x = Nt.rneg (Nt.rv s a b) → ∀ (x_1 : List Int), x_1 = Nt.rnum (Nt.rv s a b) → ∀ (x_2 : List Int), x_2 = Nt.rden (Nt.rv s a b)
 → (Nt.Few c ∧ Nt.Few d) ∧ ∀ (x_3 : Bool), x_3 = Nt.rneg (Nt.rv t c d) → ∀ (x_4 : List Int), x_4 = Nt.rnum (Nt.rv t c d) → ∀ (x_5 : List Int), x_5 = Nt.rden (Nt.rv t c d) → (Nt.Few x_1 ∧ Nt.Few x_4) ∧ ∀ (x_6 : List Int), x_6 = Nt.limbs (Nt.val x_1 * Nt.val x_4)
 → (Nt.Few x_2 ∧ Nt.Few x_5) ∧ ∀ (x_7 : List Int), x_7 = Nt.limbs (Nt.val x_2 * Nt.val x_5) → (Nt.Few x_6 ∧ Nt.Few x_7 ∧ ¬Nt.val x_7 = (0 : Nat)) ∧ ∀ (x_8 : Bool), x_8 = Nt.rneg (Nt.rv (!x == x_3) x_6 x_7)
 → ∀ (x_9 : List Int), x_9 = Nt.rnum (Nt.rv (!x == x_3) x_6 x_7) → ∀ (x_10 : List Int), x_10 = Nt.rden (Nt.rv (!x == x_3) x_6 x_7) → True ∧ ∀ (x : Bool), x = x_8 → ∀ (x_11 : List Int), x_11 = x_9 → ∀ (x_12 : List Int), x_12 = x_10
 → K (TV.agg [TV.d (AV.bool x), TV.d (AV.ints IntKind.u32 x_11), TV.d (AV.ints IntKind.u32 x_12)])

def vc_nrDiv : Bool → List Int → List Int → Bool → List Int → List Int → (TV → Prop) → Prop :=
 fun (s : Bool) (a b : List Int) (t : Bool) (c d : List Int) (K : TV → Prop) => (Nt.Few a ∧ Nt.Few b) ∧ ∀ (x : Bool), x = Nt.rneg (Nt.rv s a b) → ∀ (x_1 : List Int), x_1 = Nt.rnum (Nt.rv s a b) → ∀ (x_2 : List Int), x_2 = Nt.rden (Nt.rv s a b)
 → (Nt.Few c ∧ Nt.Few d) ∧ ∀ (x_3 : Bool), x_3 = Nt.rneg (Nt.rv t c d) → ∀ (x_4 : List Int), x_4 = Nt.rnum (Nt.rv t c d) → ∀ (x_5 : List Int), x_5 = Nt.rden (Nt.rv t c d) → (decide ((Nat.cast : Nat → Int) (List.length x_4) = (0 : Int)) = true
 → K (TV.tup [TV.agg [TV.d (AV.bool false), TV.d (AV.ints IntKind.u32 []), TV.d (AV.ints IntKind.u32 [])], TV.d (AV.int IntKind.i64 (3 : Int))])) ∧ (decide ((Nat.cast : Nat → Int) (List.length x_4) = (0 : Int)) = false
 → (Nt.Few x_1 ∧ Nt.Few x_5) ∧ ∀ (x_6 : List Int), x_6 = Nt.limbs (Nt.val x_1 * Nt.val x_5) → (Nt.Few x_2 ∧ Nt.Few x_4) ∧ ∀ (x_7 : List Int), x_7 = Nt.limbs (Nt.val x_2 * Nt.val x_4) → (Nt.Few x_6 ∧ Nt.Few x_7
 ∧ ¬Nt.val x_7 = (0 : Nat)) ∧ ∀ (x_8 : Bool), x_8 = Nt.rneg (Nt.rv (!x == x_3) x_6 x_7) → ∀ (x_9 : List Int), x_9 = Nt.rnum (Nt.rv (!x == x_3) x_6 x_7) → ∀ (x_10 : List Int), x_10 = Nt.rden (Nt.rv (!x == x_3) x_6 x_7)
 → True ∧ ∀ (x : Bool), x = x_8 → ∀ (x_11 : List Int), x_11 = x_9 → ∀ (x_12 : List Int), x_12 = x_10 → K (TV.tup [TV.agg [TV.d (AV.bool x), TV.d (AV.ints IntKind.u32 x_11), TV.d (AV.ints IntKind.u32 x_12)], TV.d (AV.int IntKind.i64 (0 : Int))]))

def vc_nrSign : Bool → List Int → List Int → (TV → Prop) → Prop :=
 fun (s : Bool) (a b : List Int) (K : TV → Prop) => (Nt.Few a ∧ Nt.Few b) ∧ ∀ (x : Bool), x = Nt.rneg (Nt.rv s a b) → ∀ (x_1 : List Int), x_1 = Nt.rnum (Nt.rv s a b) → ∀ (x_2 : List Int), x_2 = Nt.rden (Nt.rv s a b)
 → (decide ((Nat.cast : Nat → Int) (List.length x_1) = (0 : Int)) = true → K (TV.d (AV.int IntKind.i64 (0 : Int)))) ∧ (decide ((Nat.cast : Nat → Int) (List.length x_1) = (0 : Int)) = false → (x = true
 → K (TV.d (AV.int IntKind.i64 (-1 : Int)))) ∧ (x = false → K (TV.d (AV.int IntKind.i64 (1 : Int)))))

def vc_nrCmp : Bool → List Int → List Int → Bool → List Int → List Int → (TV → Prop) → Prop :=
 fun (s : Bool) (a b : List Int) (t : Bool) (c d : List Int) (K : TV → Prop) => (Nt.Sm (1000000 : Nat) a ∧ Nt.Sm (1000000 : Nat) b ∧ Nt.Sm (1000000 : Nat) c ∧ Nt.Sm (1000000 : Nat) d) ∧ ∀ (x : Bool), x = Nt.rneg (Nt.rv s a b - Nt.rv t c d)
 → ∀ (x_1 : List Int), x_1 = Nt.rnum (Nt.rv s a b - Nt.rv t c d) → ∀ (x_2 : List Int), x_2 = Nt.rden (Nt.rv s a b - Nt.rv t c d) → (Nt.Few x_1 ∧ Nt.Few x_2) ∧ ∀ (x_3 : Int), x_3 = Nt.sgn (Nt.rv x x_1 x_2)
 → K (TV.d (AV.int IntKind.i64 x_3))

def vc_nrEqual : Bool → List Int → List Int → Bool → List Int → List Int → (TV → Prop) → Prop :=
 fun (s : Bool) (a b : List Int) (t : Bool) (c d : List Int) (K : TV → Prop) => (Nt.Sm (1000000 : Nat) a ∧ Nt.Sm (1000000 : Nat) b ∧ Nt.Sm (1000000 : Nat) c ∧ Nt.Sm (1000000 : Nat) d) ∧ ∀ (x : Int), x = Nt.sgn (Nt.rv s a b - Nt.rv t c d)
 → K (TV.d (AV.bool (decide (x = (0 : Int)))))


def vc_nrParse : List Int → (TV → Prop) → Prop :=
 fun (s : List Int) (K : TV → Prop) => (List.length s ≤ (1000000000000 : Nat) ∧ (1 : Nat) ≤ (1000000000000 : Nat)) ∧ ∀ (x : List Int), (x = if Nt.hasPre s [(45 : Int)] = true then List.drop (1 : Nat) s else s)
 → ∀ (x_1 : Bool), x_1 = Nt.hasPre s [(45 : Int)] → ((1 : Nat) = (1 : Nat) ∧ (0 : Int) ≤ (47 : Int) ∧ (47 : Int) < (256 : Int) ∧ List.length x ≤ (1000000000000 : Nat)) ∧ ∀ (x_2 : List Int), (x_2 = if idx (47 : Int) x < (0 : Int) then x else List.take (Int.toNat (idx (47 : Int) x)) x)
 → ∀ (x_3 : List Int), (x_3 = if idx (47 : Int) x < (0 : Int) then [] else List.drop (Int.toNat (idx (47 : Int) x) + (1 : Nat)) x) → ∀ (x_4 : Bool), x_4 = !decide (idx (47 : Int) x < (0 : Int)) → ∃ (J : List Int
 → Prop), (((!x_4) = true → (false, OB.cells [TV.d (AV.bool false), TV.emp, TV.emp]) = (false, OB.cells [TV.d (AV.bool false), TV.emp, TV.emp]) ∧ J [(49 : Int)]) ∧ ((!x_4) = false → (false, OB.cells [TV.d (AV.bool false), TV.emp, TV.emp]) = (false, OB.cells [TV.d (AV.bool false), TV.emp, TV.emp])
 ∧ J x_3)) ∧ ∀ (v6 : List Int), J v6 → List.length x_2 ≤ (1000000000000 : Nat) ∧ ∀ (x : List Int), x = Nt.parseV x_2 → ∀ (x_5 : Int), x_5 = Nt.parseE x_2 → List.length v6 ≤ (1000000000000 : Nat) ∧ ∀ (x_6 : List Int), x_6 = Nt.parseV v6
 → ∀ (x_7 : Int), x_7 = Nt.parseE v6 → (decide (x_5 = (4 : Int)) = true → K (TV.tup [TV.agg [TV.d (AV.bool false), TV.d (AV.ints IntKind.u32 []), TV.d (AV.ints IntKind.u32 [])], TV.d (AV.int IntKind.i64 (4 : Int))]))
 ∧ (decide (x_5 = (4 : Int)) = false → (decide (x_7 = (4 : Int)) = true → K (TV.tup [TV.agg [TV.d (AV.bool false), TV.d (AV.ints IntKind.u32 []), TV.d (AV.ints IntKind.u32 [])], TV.d (AV.int IntKind.i64 (4 : Int))]))
 ∧ (decide (x_7 = (4 : Int)) = false → ((!decide (x_5 = (0 : Int))) = true → K (TV.tup [TV.agg [TV.d (AV.bool false), TV.d (AV.ints IntKind.u32 []), TV.d (AV.ints IntKind.u32 [])], TV.d (AV.int IntKind.i64 (9 : Int))]))
 ∧ ((!decide (x_5 = (0 : Int))) = false → ((!decide (x_7 = (0 : Int))) = true → K (TV.tup [TV.agg [TV.d (AV.bool false), TV.d (AV.ints IntKind.u32 []), TV.d (AV.ints IntKind.u32 [])], TV.d (AV.int IntKind.i64 (9 : Int))]))
 ∧ ((!decide (x_7 = (0 : Int))) = false → (Nt.Few x ∧ Nt.Few x_6) ∧ ∀ (x_8 : Bool), x_8 = Nt.oneg (!decide (Nt.val x_6 = (0 : Nat))) (Nt.rv x_1 x x_6) → ∀ (x_9 : List Int), x_9 = Nt.onum (!decide (Nt.val x_6 = (0 : Nat))) (Nt.rv x_1 x x_6)
 → ∀ (x_10 : List Int), x_10 = Nt.oden (!decide (Nt.val x_6 = (0 : Nat))) (Nt.rv x_1 x x_6) → ∀ (x : Int), (x = if Nt.val x_6 = (0 : Nat) then (3 : Int) else (0 : Int)) → K (TV.tup [TV.agg [TV.d (AV.bool x_8), TV.d (AV.ints IntKind.u32 x_9), TV.d (AV.ints IntKind.u32 x_10)], TV.d (AV.int IntKind.i64 x)])))))

def vc_nrFormat : Bool → List Int → List Int → (TV → Prop) → Prop :=
 fun (s : Bool) (a b : List Int) (K : TV → Prop) => (Nt.Few a ∧ Nt.Few b) ∧ ∀ (x : Bool), x = Nt.rneg (Nt.rv s a b) → ∀ (x_1 : List Int), x_1 = Nt.rnum (Nt.rv s a b) → ∀ (x_2 : List Int), x_2 = Nt.rden (Nt.rv s a b)
 → Nt.Few x_1 ∧ ∀ (x_3 : List Int), x_3 = Nt.dec (Nt.val x_1) → ∃ (J : List Int → Prop), ((x = true → (1 : Int) + (Nat.cast : Nat → Int) (List.length x_3) ≤ (9223372036854775807 : Int) ∧ (false, OB.cells [TV.d (AV.bool s), TV.d (AV.ints IntKind.u32 a), TV.d (AV.ints IntKind.u32 b)]) = (false, OB.cells [TV.d (AV.bool s), TV.d (AV.ints IntKind.u32 a), TV.d (AV.ints IntKind.u32 b)])
 ∧ (false, OB.cells [TV.d (AV.bool x), TV.d (AV.ints IntKind.u32 x_1), TV.d (AV.ints IntKind.u32 x_2)]) = (false, OB.cells [TV.d (AV.bool x), TV.d (AV.ints IntKind.u32 x_1), TV.d (AV.ints IntKind.u32 x_2)])
 ∧ J (HAppend.hAppend [(45 : Int)] x_3)) ∧ (x = false → (false, OB.cells [TV.d (AV.bool s), TV.d (AV.ints IntKind.u32 a), TV.d (AV.ints IntKind.u32 b)]) = (false, OB.cells [TV.d (AV.bool s), TV.d (AV.ints IntKind.u32 a), TV.d (AV.ints IntKind.u32 b)])
 ∧ (false, OB.cells [TV.d (AV.bool x), TV.d (AV.ints IntKind.u32 x_1), TV.d (AV.ints IntKind.u32 x_2)]) = (false, OB.cells [TV.d (AV.bool x), TV.d (AV.ints IntKind.u32 x_1), TV.d (AV.ints IntKind.u32 x_2)])
 ∧ J x_3)) ∧ ∀ (v4 : List Int), J v4 → True ∧ ∀ (x : Bool), x = decide (x_2 = [(1 : Int)]) → ((!x) = true → Nt.Few x_2 ∧ ∀ (x : List Int), x = Nt.dec (Nt.val x_2) → (1 : Int) + (Nat.cast : Nat → Int) (List.length x) ≤ (9223372036854775807 : Int)
 ∧ (Nat.cast : Nat → Int) (List.length v4) + (Nat.cast : Nat → Int) (List.length (HAppend.hAppend [(47 : Int)] x)) ≤ (9223372036854775807 : Int) ∧ K (TV.d (AV.str (HAppend.hAppend v4 (HAppend.hAppend [(47 : Int)] x)))))
 ∧ ((!x) = false → K (TV.d (AV.str v4)))

end Nt
end

section
/- RtM: proofs of verification conditions: fractions; strings.Cut and its like. -/
open Go Go.Vc
namespace Nt

theorem lenI {a : List Int} : decide (((a.length : Nat) : Int) = 0) = true ↔ a = [] := by
  rw [decide_eq_true_iff]
  constructor
  · intro h; exact List.length_eq_zero_iff.1 (by omega)
  · rintro rfl; rfl
theorem few_limbs {a : List Int} (h : Few a) : Few (limbs (val a)) := ⟨limbs_lim _, Nat.le_trans (few_len h) h.2⟩
theorem sm_limbs {k n : Nat} (h : n < 4294967296 ^ k) : Sm k (limbs n) := ⟨limbs_lim _, limbs_len.2 h⟩
theorem limbs_one' {n : Nat} : limbs n = [1] ↔ n = 1 := by rw [← limbs_one]; exact limbs_inj
theorem gcd_le_right {a b : Nat} (h : b ≠ 0) : Nat.gcd a b ≤ b := Nat.le_of_dvd (Nat.pos_of_ne_zero h) (Nat.gcd_dvd_right a b)
theorem few_of_le {n : Nat} {b : List Int} (hb : Few b) (h : n ≤ val b) : Few (limbs n) := ⟨limbs_lim _, Nat.le_trans (limbs_len.2 (Nat.lt_of_le_of_lt h (val_lt hb.1))) hb.2⟩
theorem one_iff {n : Nat} : (limbs n).length = 1 ∧ (limbs n).getD 0 0 = 1 ↔ n = 1 := by
  constructor
  · rintro ⟨h1, h2⟩
    rw [← limbs_one']
    match limbs n, h1, h2 with
    | [x], _, h2 => simp at h2; rw [h2]
  · rintro rfl
    rw [limbs_one]; simp

/-- The three parts of a fraction that is made. -/
theorem rv_of {s : Bool} {a b : List Int} (h : val b ≠ 0) (h0 : val a ≠ 0) : rneg (rv s a b) = s := by rw [rv_neg h]; simp [h0]

theorem p_nrreduce (s : Bool) (a b : List Int) (K : TV → Prop) (h : creduce.T [.d (.bool s), .d (.ints .u32 a), .d (.ints .u32 b)] K) : vc_nrreduce s a b K := by
  obtain ⟨⟨ha, hb, hb0⟩, hk⟩ := h
  unfold vc_nrreduce
  refine ⟨ha, ?_⟩
  rintro _ rfl
  refine ⟨hb, ?_⟩
  rintro _ rfl
  refine ⟨fun h => ?_, fun h => ?_⟩
  · have h0 : val a = 0 := limbs_nil.1 (lenI.1 h)
    rw [rv_zero' h0, rneg0, rnum0, rden0] at hk
    exact hk
  · have h0 : val a ≠ 0 := fun e => by
      rw [lenI.2 (limbs_nil.2 e)] at h; cases h
    have hg : Nat.gcd (val a) (val b) ≠ 0 := fun e => hb0 (Nat.gcd_eq_zero_iff.1 e).2
    rw [rv_of hb0 h0, rv_num hb0, rv_den hb0] at hk
    refine ⟨⟨few_limbs ha, few_limbs hb⟩, ?_⟩
    rintro _ rfl
    simp only [val_limbs]
    have fg : Few (limbs (Nat.gcd (val a) (val b))) := few_of_le hb (gcd_le_right hb0)
    refine ⟨fun _ => ⟨⟨few_limbs ha, fg⟩, ?_⟩, fun h1 => ⟨by omega, ?_, fun _ => ⟨⟨few_limbs ha, fg⟩, ?_⟩, fun h2 => ?_⟩⟩
    · rintro _ rfl _ rfl _ rfl
      refine ⟨⟨few_limbs hb, fg⟩, ?_⟩
      rintro _ rfl _ rfl _ rfl
      rw [if_neg hg, if_neg hg]; exact hk
    · have : (((limbs (Nat.gcd (val a) (val b))).length : Nat) : Int) = 1 := by simpa using h1
      omega
    · rintro _ rfl _ rfl _ rfl
      refine ⟨⟨few_limbs hb, fg⟩, ?_⟩
      rintro _ rfl _ rfl _ rfl
      rw [if_neg hg, if_neg hg]; exact hk
    · have e0 : (((limbs (Nat.gcd (val a) (val b))).length : Nat) : Int) = 1 := by simpa using h1
      have e1 : (limbs (Nat.gcd (val a) (val b))).length = 1 := by omega
      have e2 : (limbs (Nat.gcd (val a) (val b))).getD 0 0 = 1 := by simpa using h2
      have e := one_iff.1 ⟨e1, e2⟩
      rw [e, Nat.div_one, Nat.div_one] at hk
      exact hk

theorem cmp_zero {n : Nat} : (decide (cmp n 0 = 0)) = decide (n = 0) := by
  unfold cmp
  by_cases h : n = 0
  · subst h; rfl
  · simp [h]
theorem few_nil : Few [] := ⟨.nil, by simp⟩
theorem few_one : Few [1] := ⟨.mk (by decide) .nil, by simp⟩
theorem p_nrisZero (a : List Int) (K : TV → Prop) (h : cisZero.T [.d (.ints .u32 a)] K) : vc_nrisZero a K := by
  obtain ⟨ha, hk⟩ := h
  unfold vc_nrisZero
  refine ⟨⟨ha, few_nil⟩, ?_⟩
  rintro _ rfl
  rw [cmp_zero]; exact hk
theorem p_nrnumber (s : Bool) (a b : List Int) (K : TV → Prop) (h : cnumber.T [r3 s a b] K) : vc_nrnumber s a b K := by
  obtain ⟨⟨ha, hb⟩, hk⟩ := h
  unfold vc_nrnumber
  refine ⟨hb, ?_⟩
  rintro _ rfl
  refine ⟨fun h0 => ⟨⟨few_nil, few_one, by decide⟩, ?_⟩, fun h0 => ⟨⟨ha, hb, by simpa using h0⟩, ?_⟩⟩
  · rintro _ rfl _ rfl _ rfl
    have h0 : val b = 0 := by simpa using h0
    rw [rv_zero h0] at hk
    rw [rv_zero' (a := []) rfl]; exact hk
  · rintro _ rfl _ rfl _ rfl
    exact hk
theorem p_nrone (a : List Int) (K : TV → Prop) (h : cone.T [.d (.ints .u32 a)] K) : vc_nrone a K := by
  obtain ⟨_, hk⟩ := h
  unfold vc_nrone
  refine ⟨fun h => ?_, fun h => ?_⟩
  · have h1 : a.length = 1 := by
      have := of_decide_eq_true h; omega
    refine ⟨by omega, by omega, ?_⟩
    match a, h1 with
    | [x], _ =>
      have e : decide ([x] = [1]) = decide (([x] : List Int).getD 0 0 = 1) := by simp
      rw [e] at hk; exact hk
  · have h1 : a ≠ [1] := by
      rintro rfl; simp at h
    have e : decide (a = [1]) = false := by simpa using h1
    rw [e] at hk; exact hk
theorem p_n_rfraction__rat (s : Bool) (a b : List Int) (K : TV → Prop) (h : crat.T [r3 s a b] K) : vc_n_rfraction__rat s a b K := h.2
theorem p_nrNorm (s : Bool) (a b : List Int) (K : TV → Prop) (h : cnumber.T [r3 s a b] K) : vc_nrNorm s a b K := by
  obtain ⟨hp, hk⟩ := h
  unfold vc_nrNorm
  refine ⟨hp, ?_⟩
  rintro _ rfl _ rfl _ rfl
  refine ⟨trivial, ?_⟩
  rintro _ rfl _ rfl _ rfl
  exact hk

theorem w64u (n : Int) (h : i64 n) : IntKind.wrap .u64 n = if n < 0 then n + 18446744073709551616 else n := by
  unfold i64 at h
  have e : IntKind.wrap .u64 n = n % 18446744073709551616 := rfl
  rw [e]
  split <;> omega
theorem p_nrmagnitude (n : Int) (K : TV → Prop) (h : cmagnitude.T [.d (.int .i64 n)] K) : vc_nrmagnitude n K := by
  obtain ⟨hn, hk⟩ := h
  unfold vc_nrmagnitude
  have hn' := hn
  unfold i64 at hn'
  refine ⟨fun v => v = (n.natAbs : Int), ⟨fun h => ?_, fun h => ?_⟩, ?_⟩
  · have h := of_decide_eq_true h
    rw [w64u n hn, if_pos h]
    have e : IntKind.wrap .u64 (0 - (n + 18446744073709551616)) = (0 - (n + 18446744073709551616)) % 18446744073709551616 := rfl
    rw [e]; omega
  · have h := of_decide_eq_false h
    rw [w64u n hn, if_neg h]; omega
  · rintro v rfl
    have e1 : IntKind.wrap .u32 (n.natAbs : Int) = (n.natAbs : Int) % 4294967296 := rfl
    have e2 : IntKind.wrap .u32 (Int.fdiv (n.natAbs : Int) 4294967296) = (Int.fdiv (n.natAbs : Int) 4294967296) % 4294967296 := rfl
    have e3 : Int.fdiv (n.natAbs : Int) 4294967296 = (n.natAbs : Int) / 4294967296 := Int.fdiv_eq_ediv_of_nonneg _ (by decide)
    rw [e1, e2, e3]
    refine ⟨⟨.mk ⟨by omega, by omega⟩ (.mk ⟨by omega, by omega⟩ .nil), by simp⟩, ?_⟩
    rintro _ rfl
    have ev : val [(n.natAbs : Int) % 4294967296, (n.natAbs : Int) / 4294967296 % 4294967296] = n.natAbs := by
      simp only [val]; omega
    rw [ev]; exact hk

theorem int_rv (n : Int) : rv (decide (n < 0)) (limbs n.natAbs) [1] = (n : Rat) := by
  unfold rv
  rw [val_limbs, val_one, sg_self, Rat.mkRat_one]
theorem i64_few {n : Int} (h : i64 n) : Few (limbs n.natAbs) := by
  unfold i64 at h
  exact ⟨limbs_lim _, Nat.le_trans ((limbs_len (k := 2)).2 (by omega)) (by decide)⟩
theorem p_nrInt (n : Int) (K : TV → Prop) (h : crInt.T [.d (.int .i64 n)] K) : vc_nrInt n K := by
  obtain ⟨hn, hk⟩ := h
  unfold vc_nrInt
  refine ⟨hn, ?_⟩
  rintro _ rfl _ rfl
  refine ⟨⟨i64_few hn, few_one, by decide⟩, ?_⟩
  rw [int_rv]
  rintro _ rfl _ rfl _ rfl
  refine ⟨trivial, ?_⟩
  rintro _ rfl _ rfl _ rfl
  exact hk
theorem sg_divInt (n d : Int) (hd : d ≠ 0) : mkRat (sg (decide (n < 0) != decide (d < 0)) n.natAbs) d.natAbs = Rat.divInt n d := by
  rw [← Rat.divInt_ofNat]
  rw [Rat.divInt_eq_divInt_iff (by omega) hd]
  unfold sg
  by_cases h1 : n < 0 <;> by_cases h2 : d < 0
  · rw [show ((n.natAbs : Nat) : Int) = -n by omega, show ((d.natAbs : Nat) : Int) = -d by omega]
    simp [h1, h2, Int.neg_mul, Int.mul_neg]
  · rw [show ((n.natAbs : Nat) : Int) = -n by omega, show ((d.natAbs : Nat) : Int) = d by omega]
    simp [h1, h2]
  · rw [show ((n.natAbs : Nat) : Int) = n by omega, show ((d.natAbs : Nat) : Int) = -d by omega]
    simp [h1, h2, Int.neg_mul, Int.mul_neg]
  · rw [show ((n.natAbs : Nat) : Int) = n by omega, show ((d.natAbs : Nat) : Int) = d by omega]
    simp [h1, h2]
theorem p_nrNew (n d : Int) (K : TV → Prop) (h : crNew.T [.d (.int .i64 n), .d (.int .i64 d)] K) : vc_nrNew n d K := by
  obtain ⟨⟨hn, hd⟩, hk⟩ := h
  unfold vc_nrNew
  refine ⟨fun h0 => ?_, fun h0 => ⟨hn, ?_⟩⟩
  · have h0 := of_decide_eq_true h0
    subst h0
    exact hk
  · have h0 := of_decide_eq_false h0
    rintro _ rfl _ rfl
    refine ⟨hd, ?_⟩
    rintro _ rfl _ rfl
    have e : rv (decide (n < 0) != decide (d < 0)) (limbs n.natAbs) (limbs d.natAbs) = Rat.divInt n d := by
      unfold rv
      rw [val_limbs, val_limbs, sg_divInt n d h0]
    refine ⟨⟨i64_few hn, i64_few hd, by rw [val_limbs]; omega⟩, ?_⟩
    rw [show (!decide (n < 0) == decide (d < 0)) = (decide (n < 0) != decide (d < 0)) from rfl, e]
    rintro _ rfl _ rfl _ rfl
    refine ⟨trivial, ?_⟩
    rintro _ rfl _ rfl _ rfl
    have e1 : (decide (d = 0)) = false := by simpa using h0
    unfold oneg onum oden at hk
    rw [e1, if_neg h0] at hk
    exact hk
theorem p_nrMake (s : Bool) (a b : List Int) (K : TV → Prop) (h : crMake.T [.d (.bool s), .d (.ints .u32 a), .d (.ints .u32 b)] K) : vc_nrMake s a b K := by
  obtain ⟨⟨ha, hb⟩, hk⟩ := h
  unfold vc_nrMake
  refine ⟨hb, ?_⟩
  rintro _ rfl
  unfold oneg onum oden at hk
  refine ⟨fun h0 => ?_, fun h0 => ⟨⟨ha, hb, by simpa using h0⟩, ?_⟩⟩
  · rw [h0, if_pos (of_decide_eq_true h0)] at hk
    exact hk
  · rintro _ rfl _ rfl _ rfl
    refine ⟨trivial, ?_⟩
    rintro _ rfl _ rfl _ rfl
    rw [h0, if_neg (of_decide_eq_false h0)] at hk
    exact hk

theorem sm_add {k : Nat} {x y : Nat} (hx : x < 4294967296 ^ k) (hy : y < 4294967296 ^ k) : x + y < 4294967296 ^ (k + 1) := by
  rw [Nat.pow_succ]
  generalize (4294967296 : Nat) ^ k = W at *
  omega
theorem cmp_ltd {a b : Nat} : decide (cmp a b < 0) = decide (a < b) := by
  unfold cmp
  by_cases h : a < b
  · simp [h]
  · by_cases h2 : a = b
    · simp [h2]
    · simp [h, h2]
theorem p_nrcombine (s : Bool) (a : List Int) (t : Bool) (b d : List Int) (K : TV → Prop) (h : ccombine.T [.d (.bool s), .d (.ints .u32 a), .d (.bool t), .d (.ints .u32 b), .d (.ints .u32 d)] K) : vc_nrcombine s a t b d K := by
  obtain ⟨⟨ha, hb, hd, hd0⟩, hk⟩ := h
  unfold vc_nrcombine
  have hfa : Few a := ha.few
  have hfb : Few b := hb.few
  refine ⟨fun h => ⟨⟨hfa, hfb⟩, ?_⟩, fun h => ⟨fun v0 v1 v3 => v0 = (if val a < val b then t else s) ∧ v1 = (if val a < val b then b else a) ∧ v3 = (if val a < val b then a else b), ⟨⟨hfa, hfb⟩, ?_⟩, ?_⟩⟩
  · obtain rfl : s = t := by simpa using h
    rintro _ rfl
    refine ⟨⟨(sm_limbs (sm_add ha.val hb.val)).few, hd, hd0⟩, ?_⟩
    rw [sg_add] at hk
    unfold rv
    rw [val_limbs]
    rintro _ rfl _ rfl _ rfl
    exact hk
  · rintro _ rfl
    rw [cmp_ltd]
    refine ⟨fun h => ⟨rfl, ?_⟩, fun h => ⟨rfl, ?_⟩⟩
    · have h := of_decide_eq_true h
      simp [if_pos h]
    · have h := of_decide_eq_false h
      simp [if_neg h]
  · have hst : s ≠ t := by intro e; subst e; simp at h
    rintro _ _ _ ⟨rfl, rfl, rfl⟩
    by_cases hlt : val a < val b
    · simp only [if_pos hlt]
      refine ⟨⟨hfb, hfa⟩, ?_⟩
      rw [if_neg (by omega), if_neg (by omega)]
      rintro _ rfl _ rfl
      refine ⟨⟨few_of_le hfb (Nat.sub_le _ _), hd, hd0⟩, ?_⟩
      rw [Int.add_comm, sg_sub_le (Ne.symm hst) (Nat.le_of_lt hlt)] at hk
      unfold rv
      rw [val_limbs]
      rintro _ rfl _ rfl _ rfl
      exact hk
    · simp only [if_neg hlt]
      refine ⟨⟨hfa, hfb⟩, ?_⟩
      rintro _ rfl _ rfl
      refine ⟨⟨few_of_le hfa (Nat.sub_le _ _), hd, hd0⟩, ?_⟩
      rw [sg_sub_le hst (by omega)] at hk
      unfold rv
      rw [val_limbs]
      rintro _ rfl _ rfl _ rfl
      exact hk

/-! ### sums and products -/
theorem of_sm {k : Nat} {s : Bool} {a b : List Int} (ha : Sm k a) (hb : Sm k b) (hk : 1 ≤ k := by decide) : RS k (rv s a b) := .of ha hb hk
theorem frac_add (r q : Rat) : mkRat (sg (rneg r) (val (rnum r) * val (rden q)) + sg (rneg q) (val (rnum q) * val (rden r))) (val (rden r) * val (rden q)) = r + q := by
  rw [val_rnum, val_rden, val_rnum, val_rden, Rat.add_def']
  have e : ∀ (x : Rat) (n : Nat), sg (rneg x) (x.num.natAbs * n) = x.num * n := fun x n => by
    have h := sg_mul (rneg x) false x.num.natAbs n
    have h2 : sg (rneg x) x.num.natAbs = x.num := sg_self x.num
    rw [h2] at h
    have h3 : sg false n = (n : Int) := rfl
    rw [h3, Bool.bne_false] at h
    exact h.symm
  rw [e, e]
theorem frac_add1 {r q : Rat} (hr : r.den = 1) (hq : q.den = 1) : mkRat (sg (rneg r) (val (rnum r)) + sg (rneg q) (val (rnum q))) (val (rden r)) = r + q := by
  have h := frac_add r q
  rw [val_rden, val_rden, hr, hq] at h
  rw [val_rden, hr]
  simpa using h
theorem frac_mul (r q : Rat) : rv (rneg r != rneg q) (limbs (val (rnum r) * val (rnum q))) (limbs (val (rden r) * val (rden q))) = r * q := by
  unfold rv
  rw [val_limbs, val_limbs, ← sg_mul, val_rnum, val_rnum, val_rden, val_rden, Rat.mul_def']
  have h1 : sg (rneg r) r.num.natAbs = r.num := sg_self r.num
  have h2 : sg (rneg q) q.num.natAbs = q.num := sg_self q.num
  rw [h1, h2]
theorem sm_mul {k j : Nat} {a b : List Int} (ha : Sm k a) (hb : Sm j b) : Sm (k + j) (limbs (val a * val b)) := sm_limbs (pow_two_mul ha.val hb.val)
theorem p_nrAdd (s : Bool) (a b : List Int) (t : Bool) (c d : List Int) (K : TV → Prop) (h : crAdd.T [r3 s a b, r3 t c d] K) : vc_nrAdd s a b t c d K := by
  obtain ⟨⟨ha, hb, hc, hd⟩, hk⟩ := h
  unfold vc_nrAdd
  have hr := of_sm (s := s) ha hb
  have hq := of_sm (s := t) hc hd
  refine ⟨⟨ha.few, hb.few⟩, ?_⟩
  generalize rv s a b = r at *
  rintro _ rfl _ rfl _ rfl
  refine ⟨⟨hc.few, hd.few⟩, ?_⟩
  generalize rv t c d = q at *
  rintro _ rfl _ rfl _ rfl
  have m1 := sm_mul hr.num hq.den
  have m2 := sm_mul hq.num hr.den
  have m3 := sm_mul hr.den hq.den
  have big : (Few (rnum r) ∧ Few (rden q)) ∧ ∀ x, x = limbs (val (rnum r) * val (rden q)) → (Few (rnum q) ∧ Few (rden r)) ∧ ∀ y, y = limbs (val (rnum q) * val (rden r)) → (Few (rden r) ∧ Few (rden q)) ∧ ∀ z, z = limbs (val (rden r) * val (rden q)) →
      (Sm 50000000 x ∧ Sm 50000000 y ∧ Few z ∧ ¬val z = 0) ∧ mkRat (sg (rneg r) (val x) + sg (rneg q) (val y)) (val z) = r + q := by
    refine ⟨⟨hr.num.few, hq.den.few⟩, ?_⟩
    rintro _ rfl
    refine ⟨⟨hq.num.few, hr.den.few⟩, ?_⟩
    rintro _ rfl
    refine ⟨⟨hr.den.few, hq.den.few⟩, ?_⟩
    rintro _ rfl
    refine ⟨⟨m1.mono (by decide), m2.mono (by decide), m3.few, ?_⟩, ?_⟩
    · rw [val_limbs]; exact Nat.mul_ne_zero (rden_ne r) (rden_ne q)
    · rw [val_limbs, val_limbs, val_limbs]; exact frac_add r q
  refine ⟨trivial, ?_⟩
  rintro _ rfl
  refine ⟨fun h1 => ⟨trivial, ?_⟩, fun h1 => ?_⟩
  · have h1 := of_decide_eq_true h1
    rintro _ rfl
    refine ⟨fun h2 => ?_, fun h2 => ?_⟩
    · have h2 := of_decide_eq_true h2
      refine ⟨⟨hr.num.mono (by decide), hq.num.mono (by decide), hr.den.few, rden_ne r⟩, ?_⟩
      rw [frac_add1 ((rden_one r).1 h1) ((rden_one q).1 h2)]
      rintro _ rfl _ rfl _ rfl
      refine ⟨trivial, ?_⟩
      rintro _ rfl _ rfl _ rfl
      exact hk
    · obtain ⟨p1, b1⟩ := big
      refine ⟨p1, fun x hx => ?_⟩
      obtain ⟨p2, b2⟩ := b1 x hx
      refine ⟨p2, fun y hy => ?_⟩
      obtain ⟨p3, b3⟩ := b2 y hy
      refine ⟨p3, fun z hz => ?_⟩
      obtain ⟨p4, b4⟩ := b3 z hz
      refine ⟨p4, ?_⟩
      rw [b4]
      rintro _ rfl _ rfl _ rfl
      refine ⟨trivial, ?_⟩
      rintro _ rfl _ rfl _ rfl
      exact hk
  · obtain ⟨p1, b1⟩ := big
    refine ⟨p1, fun x hx => ?_⟩
    obtain ⟨p2, b2⟩ := b1 x hx
    refine ⟨p2, fun y hy => ?_⟩
    obtain ⟨p3, b3⟩ := b2 y hy
    refine ⟨p3, fun z hz => ?_⟩
    obtain ⟨p4, b4⟩ := b3 z hz
    refine ⟨p4, ?_⟩
    rw [b4]
    rintro _ rfl _ rfl _ rfl
    refine ⟨trivial, ?_⟩
    rintro _ rfl _ rfl _ rfl
    exact hk
theorem neg_num (r : Rat) : rnum (-r) = rnum r := by unfold rnum; rw [Rat.neg_num, Int.natAbs_neg]
theorem neg_den (r : Rat) : rden (-r) = rden r := rfl
theorem neg_neg' (r : Rat) : rneg (-r) = (!rneg r && decide (0 < ((rnum r).length : Int))) := by
  have h : 0 < ((rnum r).length : Int) ↔ r ≠ 0 := by
    rw [Ne, ← rnum_nil r]
    constructor
    · intro h e; rw [e] at h; simp at h
    · intro h
      have : (rnum r).length ≠ 0 := fun e => h (List.length_eq_zero_iff.1 e)
      omega
  unfold rneg
  rw [Rat.neg_num]
  have h0 : r = 0 ↔ r.num = 0 := Rat.num_eq_zero.symm
  by_cases h1 : r.num < 0
  · simp [h1]; omega
  · by_cases h2 : r.num = 0
    · have : ¬ 0 < ((rnum r).length : Int) := fun hh => (h.1 hh) (h0.2 h2)
      rw [decide_eq_false this]
      simp [h2]
    · have : 0 < ((rnum r).length : Int) := h.2 fun e => h2 (h0.1 e)
      rw [decide_eq_true this]
      simp [h1]; omega
theorem p_nrNeg (s : Bool) (a b : List Int) (K : TV → Prop) (h : crNeg.T [r3 s a b] K) : vc_nrNeg s a b K := by
  obtain ⟨⟨ha, hb⟩, hk⟩ := h
  unfold vc_nrNeg
  refine ⟨⟨ha.few, hb.few⟩, ?_⟩
  rw [neg_num, neg_den, neg_neg'] at hk
  generalize rv s a b = r at *
  rintro _ rfl _ rfl _ rfl
  refine ⟨fun h => ⟨trivial, ?_⟩, fun h => ⟨trivial, ?_⟩⟩
  · rintro _ rfl _ rfl _ rfl
    rw [h, Bool.true_and] at hk; exact hk
  · rintro _ rfl _ rfl _ rfl
    rw [h, Bool.false_and] at hk; exact hk
theorem p_nrSub (s : Bool) (a b : List Int) (t : Bool) (c d : List Int) (K : TV → Prop) (h : crSub.T [r3 s a b, r3 t c d] K) : vc_nrSub s a b t c d K := by
  obtain ⟨⟨ha, hb, hc, hd⟩, hk⟩ := h
  unfold vc_nrSub
  refine ⟨⟨hc, hd⟩, ?_⟩
  have hq := (of_sm (s := t) hc hd).neg
  rw [Rat.sub_eq_add_neg] at hk
  generalize rv t c d = q at *
  rintro _ rfl _ rfl _ rfl
  refine ⟨⟨ha, hb, hq.num, hq.den⟩, ?_⟩
  rw [rv_parts]
  rintro _ rfl _ rfl _ rfl
  exact hk
theorem p_nrMul (s : Bool) (a b : List Int) (t : Bool) (c d : List Int) (K : TV → Prop) (h : crMul.T [r3 s a b, r3 t c d] K) : vc_nrMul s a b t c d K := by
  obtain ⟨⟨ha, hb, hc, hd⟩, hk⟩ := h
  unfold vc_nrMul
  have hr := of_sm (s := s) ha hb
  have hq := of_sm (s := t) hc hd
  refine ⟨⟨ha.few, hb.few⟩, ?_⟩
  generalize rv s a b = r at *
  rintro _ rfl _ rfl _ rfl
  refine ⟨⟨hc.few, hd.few⟩, ?_⟩
  generalize rv t c d = q at *
  rintro _ rfl _ rfl _ rfl
  refine ⟨⟨hr.num.few, hq.num.few⟩, ?_⟩
  rintro _ rfl
  refine ⟨⟨hr.den.few, hq.den.few⟩, ?_⟩
  rintro _ rfl
  refine ⟨⟨(sm_mul hr.num hq.num).few, (sm_mul hr.den hq.den).few, by rw [val_limbs]; exact Nat.mul_ne_zero (rden_ne r) (rden_ne q)⟩, ?_⟩
  rw [show (!rneg r == rneg q) = (rneg r != rneg q) from rfl, frac_mul]
  rintro _ rfl _ rfl _ rfl
  refine ⟨trivial, ?_⟩
  rintro _ rfl _ rfl _ rfl
  exact hk
theorem rz_iff (r : Rat) : rz r = decide ((((rnum r).length : Nat) : Int) = 0) := by
  unfold rz
  have h : r = 0 ↔ (((rnum r).length : Nat) : Int) = 0 := by
    rw [← rnum_nil r]
    constructor
    · intro h; rw [h]; rfl
    · intro h; exact List.length_eq_zero_iff.1 (by omega)
  exact decide_eq_decide.2 h
theorem frac_div {r q : Rat} (h : q ≠ 0) : rv (rneg r != rneg q) (limbs (val (rnum r) * val (rden q))) (limbs (val (rden r) * val (rnum q))) = r / q := by
  unfold rv
  rw [val_limbs, val_limbs, val_rnum, val_rnum, val_rden, val_rden]
  have hq : q.num ≠ 0 := fun e => h (Rat.num_eq_zero.1 e)
  have hn : q.num.natAbs ≠ 0 := by omega
  have key : mkRat (sg (rneg r != rneg q) (r.num.natAbs * q.den)) (r.den * q.num.natAbs) * q = r := by
    rw [← sg_mul]
    have h1 : sg (rneg r) r.num.natAbs = r.num := sg_self r.num
    rw [h1]
    conv => lhs; rhs; rw [← Rat.mkRat_self q]
    rw [Rat.mkRat_mul_mkRat]
    conv => rhs; rw [← Rat.mkRat_self r]
    rw [Rat.mkRat_eq_iff (Nat.mul_ne_zero (Nat.mul_ne_zero r.den_nz hn) q.den_nz) r.den_nz]
    have h2 : sg (rneg q) q.den * q.num = (q.den : Int) * q.num.natAbs := by
      have e := sg_self q.num
      unfold rneg
      by_cases hs : q.num < 0
      · simp only [hs, decide_true] at e ⊢
        unfold sg at e ⊢
        simp only [if_true] at e ⊢
        rw [show ((q.num.natAbs : Nat) : Int) = -q.num by omega, Int.neg_mul, Int.mul_neg]
      · simp only [hs, decide_false] at e ⊢
        unfold sg at e ⊢
        simp only [Bool.false_eq_true, if_false] at e ⊢
        rw [e]
    rw [Int.mul_assoc r.num, h2, Int.natCast_mul, Int.natCast_mul]
    ac_rfl
  rw [Rat.div_def]
  conv => rhs; rw [← key]
  rw [Rat.mul_assoc, Rat.mul_inv_cancel q h, Rat.mul_one]
theorem p_nrDiv (s : Bool) (a b : List Int) (t : Bool) (c d : List Int) (K : TV → Prop) (h : crDiv.T [r3 s a b, r3 t c d] K) : vc_nrDiv s a b t c d K := by
  obtain ⟨⟨ha, hb, hc, hd⟩, hk⟩ := h
  unfold vc_nrDiv
  have hr := of_sm (s := s) ha hb
  have hq := of_sm (s := t) hc hd
  refine ⟨⟨ha.few, hb.few⟩, ?_⟩
  generalize rv s a b = r at *
  rintro _ rfl _ rfl _ rfl
  refine ⟨⟨hc.few, hd.few⟩, ?_⟩
  generalize rv t c d = q at *
  rintro _ rfl _ rfl _ rfl
  rw [← rz_iff]
  refine ⟨fun h => ?_, fun h => ⟨⟨hr.num.few, hq.den.few⟩, ?_⟩⟩
  · unfold oneg onum oden at hk
    rw [h] at hk
    exact hk
  · have hq0 : q ≠ 0 := of_decide_eq_false h
    rintro _ rfl
    refine ⟨⟨hr.den.few, hq.num.few⟩, ?_⟩
    rintro _ rfl
    refine ⟨⟨(sm_mul hr.num hq.den).few, (sm_mul hr.den hq.num).few, ?_⟩, ?_⟩
    · rw [val_limbs]
      refine Nat.mul_ne_zero (rden_ne r) ?_
      rw [val_rnum]
      exact fun e => hq0 (Rat.num_eq_zero.1 (by omega))
    rw [show (!rneg r == rneg q) = (rneg r != rneg q) from rfl, frac_div hq0]
    rintro _ rfl _ rfl _ rfl
    refine ⟨trivial, ?_⟩
    rintro _ rfl _ rfl _ rfl
    unfold oneg onum oden at hk
    rw [h] at hk
    exact hk
theorem p_nrSign (s : Bool) (a b : List Int) (K : TV → Prop) (h : crSign.T [r3 s a b] K) : vc_nrSign s a b K := by
  obtain ⟨⟨ha, hb⟩, hk⟩ := h
  unfold vc_nrSign
  refine ⟨⟨ha, hb⟩, ?_⟩
  generalize rv s a b = r at *
  rintro _ rfl _ rfl _ rfl
  rw [← rz_iff]
  unfold sgn at hk
  refine ⟨fun h => ?_, fun h => ⟨fun h1 => ?_, fun h1 => ?_⟩⟩
  · rw [if_pos (of_decide_eq_true h)] at hk; exact hk
  · rw [if_neg (of_decide_eq_false h), if_pos ((rneg_iff r).1 h1)] at hk; exact hk
  · rw [if_neg (of_decide_eq_false h), if_neg (fun e => by rw [(rneg_iff r).2 e] at h1; cases h1)] at hk; exact hk
theorem p_nrCmp (s : Bool) (a b : List Int) (t : Bool) (c d : List Int) (K : TV → Prop) (h : crCmp.T [r3 s a b, r3 t c d] K) : vc_nrCmp s a b t c d K := by
  obtain ⟨⟨ha, hb, hc, hd⟩, hk⟩ := h
  unfold vc_nrCmp
  refine ⟨⟨ha, hb, hc, hd⟩, ?_⟩
  have hs := (of_sm (s := s) ha hb).sub (of_sm (s := t) hc hd)
  generalize rv s a b - rv t c d = r at *
  rintro _ rfl _ rfl _ rfl
  refine ⟨⟨hs.num.few, hs.den.few⟩, ?_⟩
  rw [rv_parts]
  rintro _ rfl
  exact hk
theorem p_nrEqual (s : Bool) (a b : List Int) (t : Bool) (c d : List Int) (K : TV → Prop) (h : crEqual.T [r3 s a b, r3 t c d] K) : vc_nrEqual s a b t c d K := by
  obtain ⟨hp, hk⟩ := h
  unfold vc_nrEqual
  refine ⟨hp, ?_⟩
  rintro _ rfl
  have e : decide (sgn (rv s a b - rv t c d) = 0) = decide (rv s a b = rv t c d) := decide_eq_decide.2 (by rw [sgn_zero]; grind)
  rw [e]; exact hk

/-! ### powers and texts -/

theorem dec_lenS {k : Nat} {a : List Int} (h : Sm k a) : (dec (val a)).length ≤ 10 * k + 1 := by
  have := dec_few h.1
  have h2 := h.2
  unfold dec
  split
  · simp
  · rw [List.length_reverse]; omega
theorem dec_lenR {r : Rat} {k : Nat} (h : RS k r) : (dec r.num.natAbs).length ≤ 10 * k + 1 ∧ (dec r.den).length ≤ 10 * k + 1 := by
  have h1 := dec_lenS h.num
  have h2 := dec_lenS h.den
  rw [val_rnum] at h1
  rw [val_rden] at h2
  exact ⟨h1, h2⟩
theorem p_nrFormat (s : Bool) (a b : List Int) (K : TV → Prop) (h : crFormat.T [r3 s a b] K) : vc_nrFormat s a b K := by
  obtain ⟨⟨ha, hb⟩, hk⟩ := h
  unfold vc_nrFormat
  have hr := of_sm (s := s) ha hb
  refine ⟨⟨ha.few, hb.few⟩, ?_⟩
  generalize rv s a b = r at *
  obtain ⟨l1, l2⟩ := dec_lenR hr
  rintro _ rfl _ rfl _ rfl
  refine ⟨hr.num.few, ?_⟩
  rintro _ rfl
  rw [val_rnum, val_rden]
  refine ⟨fun v => v = (if rneg r then [45] else []) ++ dec r.num.natAbs, ⟨fun h => ⟨by omega, rfl, rfl, by rw [h]; rfl⟩, fun h => ⟨rfl, rfl, by rw [h]; rfl⟩⟩, ?_⟩
  rintro _ rfl
  refine ⟨trivial, ?_⟩
  rintro _ rfl
  have hd : decide (rden r = [1]) = decide (r.den = 1) := decide_eq_decide.2 (rden_one r)
  rw [hd]
  unfold rfmt at hk
  refine ⟨fun h => ⟨hr.den.few, ?_⟩, fun h => ?_⟩
  · have h : r.den ≠ 1 := by simpa using h
    rintro _ rfl
    rw [if_neg h] at hk
    refine ⟨by omega, ?_, hk⟩
    simp only [List.length_append, List.length_cons, List.length_nil]
    have : (if rneg r then [45] else [] : List Int).length ≤ 1 := by split <;> simp
    omega
  · have h : r.den = 1 := by simpa using h
    rw [if_pos h, List.append_nil] at hk
    exact hk

/-! ### strings -/
theorem idx_ge (c : Int) : ∀ s : List Int, -1 ≤ idx c s ∧ idx c s < s.length
  | [] => by simp [idx]
  | x :: r => by
    obtain ⟨h1, h2⟩ := idx_ge c r
    unfold idx
    rw [List.length_cons]
    split
    · omega
    · split
      · omega
      · omega
theorem p_nslHasPrefix (s p : List Int) (K : TV → Prop) (h : chasPrefix.T [.d (.str s), .d (.str p)] K) : vc_nslHasPrefix s p K := by
  obtain ⟨_, hk⟩ := h
  unfold vc_nslHasPrefix
  unfold hasPre at hk
  refine ⟨fun h => ?_, fun h => ?_⟩
  · have h := of_decide_eq_true h
    refine ⟨by omega, by omega, ?_⟩
    rw [Int.toNat_natCast]
    have e : decide (p.length ≤ s.length ∧ s.take p.length = p) = decide (s.take p.length = p) := decide_eq_decide.2 ⟨fun h => h.2, fun h2 => ⟨by omega, h2⟩⟩
    rw [e] at hk; exact hk
  · have h := of_decide_eq_false h
    have e : decide (p.length ≤ s.length ∧ s.take p.length = p) = false := decide_eq_false fun hh => h (by omega)
    rw [e] at hk; exact hk
theorem hasPre_len {s p : List Int} (h : hasPre s p = true) : p.length ≤ s.length := (of_decide_eq_true h).1
theorem p_nslCutPrefix (s p : List Int) (K : TV → Prop) (h : ccutPrefixL.T [.d (.str s), .d (.str p)] K) : vc_nslCutPrefix s p K := by
  obtain ⟨hp, hk⟩ := h
  unfold vc_nslCutPrefix
  refine ⟨hp, ?_⟩
  rintro _ rfl
  refine ⟨fun h => ?_, fun h => ?_⟩
  · have h : hasPre s p = false := by simpa using h
    rw [h] at hk; exact hk
  · have h : hasPre s p = true := by simpa using h
    have := hasPre_len h
    refine ⟨by omega, by omega, ?_⟩
    rw [h] at hk
    rw [Int.toNat_natCast]; exact hk
theorem p_nstrings_CutPrefix (s p : List Int) (K : TV → Prop) (h : ccutPrefixL.T [.d (.str s), .d (.str p)] K) : vc_nstrings_CutPrefix s p K := by
  obtain ⟨hp, hk⟩ := h
  unfold vc_nstrings_CutPrefix
  refine ⟨hp, ?_⟩
  rintro _ rfl _ rfl
  exact hk
theorem p_nslIndexByte (s : List Int) (c : Int) (K : TV → Prop) (h : cIdx.T [.d (.str s), .d (.int .u8 c)] K) : vc_nslIndexByte s c K := by
  obtain ⟨hp, hk⟩ := h
  unfold vc_nslIndexByte
  refine ⟨hp, ?_⟩
  rintro _ rfl
  exact hk
theorem p_nslIndex (s p : List Int) (K : TV → Prop) (h : cindexL.T [.d (.str s), .d (.str p)] K) : vc_nslIndex s p K := by
  obtain ⟨⟨h1, h2, h3, h4⟩, hk⟩ := h
  unfold vc_nslIndex
  match p, h1 with
  | [c], _ =>
  refine ⟨fun h => by simp at h, fun _ => ⟨fun h => ?_, fun _ => ⟨fun _ => ⟨by omega, by simp, ⟨h2, h3⟩, ?_⟩, fun h => by simp at h⟩⟩⟩
  · obtain rfl : [c] = s := of_decide_eq_true h
    simpa [idx] using hk
  · rintro _ rfl
    exact hk
theorem p_nslCut (s p : List Int) (K : TV → Prop) (h : ccutL.T [.d (.str s), .d (.str p)] K) : vc_nslCut s p K := by
  obtain ⟨hp, hk⟩ := h
  unfold vc_nslCut
  refine ⟨hp, ?_⟩
  obtain ⟨h1, h2, h3, h4⟩ := hp
  obtain ⟨i1, i2⟩ := idx_ge (p.getD 0 0) s
  generalize idx (p.getD 0 0) s = i at *
  rintro j rfl
  rw [h1]
  refine ⟨fun h => ?_, fun h => ?_⟩
  · have h := of_decide_eq_true h
    have hn : ¬ j < 0 := by omega
    rw [if_neg hn, if_neg hn, decide_eq_false hn] at hk
    rw [w64 (x := j + (1 : Nat)) (by omega)]
    refine ⟨h, by omega, by omega, by omega, ?_⟩
    rw [show (j + (1 : Nat)).toNat = j.toNat + 1 by omega]
    exact hk
  · have h := of_decide_eq_false h
    have hn : j < 0 := by omega
    rw [if_pos hn, if_pos hn, decide_eq_true hn] at hk
    exact hk
theorem p_nstrings_Cut (s p : List Int) (K : TV → Prop) (h : ccutL.T [.d (.str s), .d (.str p)] K) : vc_nstrings_Cut s p K := by
  obtain ⟨hp, hk⟩ := h
  unfold vc_nstrings_Cut
  refine ⟨hp, ?_⟩
  rintro _ rfl _ rfl _ rfl
  exact hk

/-! ### Parse -/
theorem hasPre_45 (s : List Int) : hasPre s [45] = preO s := by
  unfold hasPre preO
  cases s with
  | nil => rfl
  | cons x r => exact decide_eq_decide.2 (by simp)
theorem cut_idx : ∀ s : List Int, cutA s = (if idx 47 s < 0 then s else s.take (idx 47 s).toNat) ∧ cutO s = (!decide (idx 47 s < 0)) ∧ (cutO s = true → cutB s = s.drop ((idx 47 s).toNat + 1))
  | [] => by simp [cutA, cutO, idx]
  | x :: r => by
    obtain ⟨h1, h2, h3⟩ := cut_idx r
    obtain ⟨g1, _⟩ := idx_ge 47 r
    unfold cutA cutO cutB idx
    by_cases hx : x = 47
    · simp [hx]
    · simp only [if_neg hx]
      by_cases hi : idx 47 r = -1
      · rw [if_pos hi]
        rw [hi] at h1 h2
        simp at h1 h2
        simp [h1, h2]
      · rw [if_neg hi]
        have hn : ¬ idx 47 r < 0 := by omega
        have hn' : ¬ idx 47 r + 1 < 0 := by omega
        rw [if_neg hn] at h1
        rw [decide_eq_false hn] at h2
        rw [if_neg hn', decide_eq_false hn', show (idx 47 r + 1).toNat = (idx 47 r).toNat + 1 by omega]
        refine ⟨by rw [h1]; rfl, h2, fun h => ?_⟩
        rw [h3 h]; rfl
theorem pre_len (s : List Int) : (preS s).length ≤ s.length := by unfold preS; split <;> simp
theorem cutA_len : ∀ s : List Int, (cutA s).length ≤ s.length
  | [] => by simp [cutA]
  | x :: r => by
    have := cutA_len r
    unfold cutA
    split <;> simp
    exact this
theorem cutB_len : ∀ s : List Int, (cutB s).length ≤ s.length
  | [] => by simp [cutB]
  | x :: r => by
    have := cutB_len r
    unfold cutB
    split
    · simp
    · simp; omega
theorem parse_few (s : List Int) : Few (parseV s) := by
  unfold parseV
  split
  · rename_i h
    refine ⟨limbs_lim _, Nat.le_trans ((limbs_len (k := 60)).2 ?_) (by decide)⟩
    have h1 := pv_lt s (isDec_get h.1) s.length (Nat.le_refl _)
    rw [List.take_length] at h1
    have h2 : (10 : Nat) ^ s.length ≤ 10 ^ 60 := Nat.pow_le_pow_right (by decide) h.2
    exact Nat.lt_of_lt_of_le h1 (Nat.le_trans h2 (by decide))
  · exact few_nil
theorem parse_one : parseV [49] = [1] ∧ parseE [49] = 0 := by
  have h : isDec [49] = true := by decide
  refine ⟨?_, ?_⟩
  · unfold parseV
    rw [if_pos ⟨h, by decide⟩]
    exact limbs_one
  · unfold parseE
    rw [if_pos h]; rfl
theorem p_nrParse (s : List Int) (K : TV → Prop) (h : crParse.T [.d (.str s)] K) : vc_nrParse s K := by
  obtain ⟨hl, hk⟩ := h
  unfold vc_nrParse
  refine ⟨⟨by omega, by decide⟩, ?_⟩
  rw [hasPre_45]
  have e0 : (if preO s = true then s.drop 1 else s) = preS s := rfl
  rw [e0]
  have hpl := pre_len s
  rintro x rfl _ rfl
  refine ⟨⟨rfl, by decide, by decide, by omega⟩, ?_⟩
  obtain ⟨c1, c2, c3⟩ := cut_idx (preS s)
  have la := cutA_len (preS s)
  have lb := cutB_len (preS s)
  rw [← c1]
  rintro _ rfl x3 hx3 _ rfl
  rw [← c2]
  refine ⟨fun v => v = if cutO (preS s) then cutB (preS s) else [49], ⟨fun h => ⟨rfl, ?_⟩, fun h => ⟨rfl, ?_⟩⟩, ?_⟩
  · have h : cutO (preS s) = false := by simpa using h
    rw [h]; rfl
  · have h : cutO (preS s) = true := by simpa using h
    have hn : ¬ idx 47 (preS s) < 0 := by rw [h] at c2; simpa using c2
    rw [h, hx3, if_neg hn]
    exact (c3 h).symm
  · rintro _ rfl
    have hv : parseV (if cutO (preS s) then cutB (preS s) else [49]) = (if cutO (preS s) then parseV (cutB (preS s)) else [1]) := by
      split
      · rfl
      · exact parse_one.1
    have he : parseE (if cutO (preS s) then cutB (preS s) else [49]) = pdE s := by
      unfold pdE
      split
      · rfl
      · exact parse_one.2
    have hvv : val (parseV (if cutO (preS s) then cutB (preS s) else [49])) = pdV s := by
      rw [hv]
      unfold pdV
      split
      · rfl
      · rfl
    refine ⟨by omega, ?_⟩
    rintro _ rfl _ rfl
    refine ⟨?_, ?_⟩
    · split
      · omega
      · decide
    rintro _ rfl _ rfl
    have hE : parseE (cutA (preS s)) = pnE s := rfl
    have hN : val (parseV (cutA (preS s))) = pnV s := rfl
    rw [he, hE]
    refine ⟨fun h => ?_, fun h => ⟨fun h2 => ?_, fun h2 => ⟨fun h3 => ?_, fun h3 => ⟨fun h4 => ?_, fun h4 => ⟨⟨parse_few _, parse_few _⟩, ?_⟩⟩⟩⟩⟩
    · have h := of_decide_eq_true h
      have e : rpE s = 4 := by unfold rpE; rw [if_pos (.inl h)]
      rw [e] at hk; exact hk
    · have h2 := of_decide_eq_true h2
      have e : rpE s = 4 := by unfold rpE; rw [if_pos (.inr h2)]
      rw [e] at hk; exact hk
    · have h := of_decide_eq_false h
      have h2 := of_decide_eq_false h2
      have h3 : pnE s ≠ 0 := by simpa using h3
      have e : rpE s = 9 := by unfold rpE; rw [if_neg (by rintro (h | h) <;> contradiction), if_pos (.inl h3)]
      rw [e] at hk; exact hk
    · have h := of_decide_eq_false h
      have h2 := of_decide_eq_false h2
      have h4 : pdE s ≠ 0 := by simpa using h4
      have e : rpE s = 9 := by unfold rpE; rw [if_neg (by rintro (h | h) <;> contradiction), if_pos (.inr h4)]
      rw [e] at hk; exact hk
    · have h := of_decide_eq_false h
      have h2 := of_decide_eq_false h2
      have h3 : pnE s = 0 := by simpa using h3
      have h4 : pdE s = 0 := by simpa using h4
      have e : rpE s = if pdV s = 0 then 3 else 0 := by unfold rpE; rw [if_neg (by rintro (h | h) <;> contradiction), if_neg (by rintro (h | h) <;> contradiction)]
      rw [e] at hk
      have er : rv (preO s) (parseV (cutA (preS s))) (parseV (if cutO (preS s) then cutB (preS s) else [49])) = rpR s := by
        unfold rv rpR
        rw [hN, hvv]
      rw [er, hvv]
      rintro _ rfl _ rfl _ rfl _ rfl
      have e5 : (decide ((if pdV s = 0 then (3 : Int) else 0) = 0)) = (!decide (pdV s = 0)) := by
        by_cases hh : pdV s = 0 <;> simp [hh]
      rw [e5] at hk; exact hk
end Nt
end

section
/- Verification conditions, printed. -/
open Go Go.Vc
namespace Nt
def vc_nqlowest : Bool → List Int → List Int → (TV → Prop) → Prop :=
 fun (s : Bool) (a b : List Int) (K : TV → Prop) => (Nt.Lim a ∧ List.length a ≤ (90000000 : Nat) ∧ Nt.Lim b ∧ List.length b ≤ (90000000 : Nat)) ∧ ∀ (x : List Int), x = Nt.limbs (Nat.gcd (Nt.val a) (Nt.val b))
 → (Nt.Lim a ∧ List.length a ≤ (90000000 : Nat) ∧ Nt.Lim x ∧ List.length x ≤ (90000000 : Nat)) ∧ ∀ (x_1 : List Int), (x_1 = if Nt.val x = (0 : Nat) then [] else Nt.limbs (Nt.val a / Nt.val x)) → ∀ (x_2 : List Int), (x_2 = if Nt.val x = (0 : Nat) then [] else Nt.limbs (Nt.val a % Nt.val x))
 → ∀ (x_3 : Int), (x_3 = if Nt.val x = (0 : Nat) then (3 : Int) else (0 : Int)) → (Nt.Lim b ∧ List.length b ≤ (90000000 : Nat) ∧ Nt.Lim x ∧ List.length x ≤ (90000000 : Nat)) ∧ ∀ (x_4 : List Int), (x_4 = if Nt.val x = (0 : Nat) then [] else Nt.limbs (Nt.val b / Nt.val x))
 → ∀ (x_5 : List Int), (x_5 = if Nt.val x = (0 : Nat) then [] else Nt.limbs (Nt.val b % Nt.val x)) → ∀ (x_6 : Int), (x_6 = if Nt.val x = (0 : Nat) then (3 : Int) else (0 : Int)) → (s = true → K (TV.agg [TV.d (AV.bool (decide ((0 : Int) < (Nat.cast : Nat
 → Int) (List.length x_1)))), TV.d (AV.ints IntKind.u32 x_1), TV.d (AV.ints IntKind.u32 x_4)])) ∧ (s = false → K (TV.agg [TV.d (AV.bool false), TV.d (AV.ints IntKind.u32 x_1), TV.d (AV.ints IntKind.u32 x_4)]))

def vc_nqNorm : Bool → List Int → List Int → (TV → Prop) → Prop :=
 fun (s : Bool) (a b : List Int) (K : TV → Prop) => Nt.Few b ∧ ∀ (x : List Int), x = Nt.limbs (Nt.val b) → (decide ((Nat.cast : Nat → Int) (List.length x) = (0 : Int)) = true → K (TV.agg [TV.d (AV.bool false), TV.d (AV.ints IntKind.u32 []), TV.d (AV.ints IntKind.u32 [(1 : Int)])]))
 ∧ (decide ((Nat.cast : Nat → Int) (List.length x) = (0 : Int)) = false → (Nt.Sm (90000000 : Nat) a ∧ Nt.Sm (90000000 : Nat) b ∧ ¬Nt.val b = (0 : Nat)) ∧ ∀ (x : Bool), x = Nt.rneg (Nt.rv s a b) → ∀ (x_1 : List Int), x_1 = Nt.rnum (Nt.rv s a b)
 → ∀ (x_2 : List Int), x_2 = Nt.rden (Nt.rv s a b) → K (TV.agg [TV.d (AV.bool x), TV.d (AV.ints IntKind.u32 x_1), TV.d (AV.ints IntKind.u32 x_2)]))

def vc_nqInt : Int → (TV → Prop) → Prop :=
 fun (n : Int) (K : TV → Prop) => (decide ((0 : Int) ≤ n) = true → ((-9223372036854775808 : Int) ≤ n ∧ n < (9223372036854775808 : Int)) ∧ ∀ (x : List Int), (x = if n < (0 : Int) then [] else Nt.limbs (Int.toNat n))
 → ∀ (x_1 : Int), (x_1 = if n < (0 : Int) then (1 : Int) else (0 : Int)) → K (TV.agg [TV.d (AV.bool false), TV.d (AV.ints IntKind.u32 x), TV.d (AV.ints IntKind.u32 [(1 : Int)])])) ∧ (decide ((0 : Int) ≤ n) = false
 → ((-9223372036854775808 : Int) ≤ IntKind.wrap IntKind.i64 ((0 : Int) - IntKind.wrap IntKind.i64 (n + (1 : Int))) ∧ IntKind.wrap IntKind.i64 ((0 : Int) - IntKind.wrap IntKind.i64 (n + (1 : Int))) < (9223372036854775808 : Int))
 ∧ ∀ (x : List Int), (x = if IntKind.wrap IntKind.i64 ((0 : Int) - IntKind.wrap IntKind.i64 (n + (1 : Int))) < (0 : Int) then [] else Nt.limbs (Int.toNat (IntKind.wrap IntKind.i64 ((0 : Int) - IntKind.wrap IntKind.i64 (n + (1 : Int))))))
 → ∀ (x_1 : Int), (x_1 = if IntKind.wrap IntKind.i64 ((0 : Int) - IntKind.wrap IntKind.i64 (n + (1 : Int))) < (0 : Int) then (1 : Int) else (0 : Int)) → (Nt.Lim x ∧ Nt.Lim [(1 : Int)] ∧ List.length x ≤ (90000000 : Nat)
 ∧ (1 : Nat) ≤ (90000000 : Nat)) ∧ ∀ (x_2 : List Int), x_2 = Nt.limbs (Nt.val x + (1 : Nat)) → K (TV.agg [TV.d (AV.bool true), TV.d (AV.ints IntKind.u32 x_2), TV.d (AV.ints IntKind.u32 [(1 : Int)])]))

def vc_nqNew : Int → Int → (TV → Prop) → Prop :=
 fun (n d : Int) (K : TV → Prop) => (decide (d = (0 : Int)) = true → K (TV.tup [TV.agg [TV.d (AV.bool false), TV.d (AV.ints IntKind.u32 []), TV.d (AV.ints IntKind.u32 [])], TV.d (AV.int IntKind.i64 (3 : Int))]))
 ∧ (decide (d = (0 : Int)) = false → Nt.i64 n ∧ ∀ (x : Bool), x = Nt.rneg (IntCast.intCast n) → ∀ (x_1 : List Int), x_1 = Nt.rnum (IntCast.intCast n) → ∀ (x_2 : List Int), x_2 = Nt.rden (IntCast.intCast n)
 → Nt.i64 d ∧ ∀ (x_3 : Bool), x_3 = Nt.rneg (IntCast.intCast d) → ∀ (x_4 : List Int), x_4 = Nt.rnum (IntCast.intCast d) → ∀ (x_5 : List Int), x_5 = Nt.rden (IntCast.intCast d) → (Nt.Sm (90000000 : Nat) x_1
 ∧ Nt.Sm (90000000 : Nat) x_4 ∧ ¬Nt.val x_4 = (0 : Nat)) ∧ ∀ (x_6 : Bool), x_6 = Nt.rneg (Nt.rv (!x == x_3) x_1 x_4) → ∀ (x_7 : List Int), x_7 = Nt.rnum (Nt.rv (!x == x_3) x_1 x_4) → ∀ (x_8 : List Int), x_8 = Nt.rden (Nt.rv (!x == x_3) x_1 x_4)
 → K (TV.tup [TV.agg [TV.d (AV.bool x_6), TV.d (AV.ints IntKind.u32 x_7), TV.d (AV.ints IntKind.u32 x_8)], TV.d (AV.int IntKind.i64 (0 : Int))]))

def vc_nqMake : Bool → List Int → List Int → (TV → Prop) → Prop :=
 fun (s : Bool) (a b : List Int) (K : TV → Prop) => Nt.Few b ∧ ∀ (x : List Int), x = Nt.limbs (Nt.val b) → (decide ((Nat.cast : Nat → Int) (List.length x) = (0 : Int)) = true → K (TV.tup [TV.agg [TV.d (AV.bool false), TV.d (AV.ints IntKind.u32 []), TV.d (AV.ints IntKind.u32 [])], TV.d (AV.int IntKind.i64 (3 : Int))]))
 ∧ (decide ((Nat.cast : Nat → Int) (List.length x) = (0 : Int)) = false → (Nt.Sm (90000000 : Nat) a ∧ Nt.Sm (90000000 : Nat) b ∧ ¬Nt.val b = (0 : Nat)) ∧ ∀ (x : Bool), x = Nt.rneg (Nt.rv s a b) → ∀ (x_1 : List Int), x_1 = Nt.rnum (Nt.rv s a b)
 → ∀ (x_2 : List Int), x_2 = Nt.rden (Nt.rv s a b) → K (TV.tup [TV.agg [TV.d (AV.bool x), TV.d (AV.ints IntKind.u32 x_1), TV.d (AV.ints IntKind.u32 x_2)], TV.d (AV.int IntKind.i64 (0 : Int))]))

def vc_nqAdd : Bool → List Int → List Int → Bool → List Int → List Int → (TV → Prop) → Prop :=
 fun (s : Bool) (a b : List Int) (t : Bool) (c d : List Int) (K : TV → Prop) => (Nt.Sm (90000000 : Nat) a ∧ Nt.Sm (90000000 : Nat) b) ∧ ∀ (x : Bool), x = Nt.rneg (Nt.rv s a b) → ∀ (x_1 : List Int), x_1 = Nt.rnum (Nt.rv s a b)
 → ∀ (x_2 : List Int), x_2 = Nt.rden (Nt.rv s a b) → (Nt.Sm (90000000 : Nat) c ∧ Nt.Sm (90000000 : Nat) d) ∧ ∀ (x_3 : Bool), x_3 = Nt.rneg (Nt.rv t c d) → ∀ (x_4 : List Int), x_4 = Nt.rnum (Nt.rv t c d)
 → ∀ (x_5 : List Int), x_5 = Nt.rden (Nt.rv t c d) → (Nt.Lim x_1 ∧ Nt.Lim x_5 ∧ List.length x_1 ≤ (40000000 : Nat) ∧ List.length x_5 ≤ (40000000 : Nat)) ∧ ∀ (x_6 : List Int), x_6 = Nt.limbs (Nt.val x_1 * Nt.val x_5)
 → (Nt.Lim x_4 ∧ Nt.Lim x_2 ∧ List.length x_4 ≤ (40000000 : Nat) ∧ List.length x_2 ≤ (40000000 : Nat)) ∧ ∀ (x_7 : List Int), x_7 = Nt.limbs (Nt.val x_4 * Nt.val x_2) → (Nt.Lim x_2 ∧ Nt.Lim x_5 ∧ List.length x_2 ≤ (40000000 : Nat)
 ∧ List.length x_5 ≤ (40000000 : Nat)) ∧ ∀ (x_8 : List Int), x_8 = Nt.limbs (Nt.val x_2 * Nt.val x_5) → ((x == x_3) = true → (Nt.Lim x_6 ∧ Nt.Lim x_7 ∧ List.length x_6 ≤ (90000000 : Nat) ∧ List.length x_7 ≤ (90000000 : Nat))
 ∧ ∀ (x_9 : List Int), x_9 = Nt.limbs (Nt.val x_6 + Nt.val x_7) → (Nt.Sm (90000000 : Nat) x_9 ∧ Nt.Sm (90000000 : Nat) x_8 ∧ ¬Nt.val x_8 = (0 : Nat)) ∧ ∀ (x_10 : Bool), x_10 = Nt.rneg (Nt.rv x x_9 x_8)
 → ∀ (x_11 : List Int), x_11 = Nt.rnum (Nt.rv x x_9 x_8) → ∀ (x_12 : List Int), x_12 = Nt.rden (Nt.rv x x_9 x_8) → K (TV.agg [TV.d (AV.bool x_10), TV.d (AV.ints IntKind.u32 x_11), TV.d (AV.ints IntKind.u32 x_12)]))
 ∧ ((x == x_3) = false → (Nt.Few x_6 ∧ Nt.Few x_7) ∧ ∀ (x_9 : List Int), (x_9 = if Nt.val x_6 < Nt.val x_7 then [] else Nt.limbs (Nt.val x_6 - Nt.val x_7)) → ∀ (x_10 : Int), (x_10 = if Nt.val x_6 < Nt.val x_7 then (1 : Int) else (0 : Int))
 → (decide (x_10 = (0 : Int)) = true → (Nt.Sm (90000000 : Nat) x_9 ∧ Nt.Sm (90000000 : Nat) x_8 ∧ ¬Nt.val x_8 = (0 : Nat)) ∧ ∀ (x_11 : Bool), x_11 = Nt.rneg (Nt.rv x x_9 x_8) → ∀ (x_12 : List Int), x_12 = Nt.rnum (Nt.rv x x_9 x_8)
 → ∀ (x_13 : List Int), x_13 = Nt.rden (Nt.rv x x_9 x_8) → K (TV.agg [TV.d (AV.bool x_11), TV.d (AV.ints IntKind.u32 x_12), TV.d (AV.ints IntKind.u32 x_13)])) ∧ (decide (x_10 = (0 : Int)) = false → (Nt.Few x_7
 ∧ Nt.Few x_6) ∧ ∀ (x : List Int), (x = if Nt.val x_7 < Nt.val x_6 then [] else Nt.limbs (Nt.val x_7 - Nt.val x_6)) → ∀ (x_11 : Int), (x_11 = if Nt.val x_7 < Nt.val x_6 then (1 : Int) else (0 : Int)) → (Nt.Sm (90000000 : Nat) x
 ∧ Nt.Sm (90000000 : Nat) x_8 ∧ ¬Nt.val x_8 = (0 : Nat)) ∧ ∀ (x_12 : Bool), x_12 = Nt.rneg (Nt.rv x_3 x x_8) → ∀ (x_13 : List Int), x_13 = Nt.rnum (Nt.rv x_3 x x_8) → ∀ (x_14 : List Int), x_14 = Nt.rden (Nt.rv x_3 x x_8)
 → K (TV.agg [TV.d (AV.bool x_12), TV.d (AV.ints IntKind.u32 x_13), TV.d (AV.ints IntKind.u32 x_14)])))

def vc_nqNeg : Bool → List Int → List Int → (TV → Prop) → Prop :=
 fun (s : Bool) (a b : List Int) (K : TV → Prop) => (Nt.Sm (90000000 : Nat) a ∧ Nt.Sm (90000000 : Nat) b) ∧ ∀ (x : Bool), x = Nt.rneg (Nt.rv s a b) → ∀ (x_1 : List Int), x_1 = Nt.rnum (Nt.rv s a b) → ∀ (x_2 : List Int), x_2 = Nt.rden (Nt.rv s a b)
 → ((!x) = true → K (TV.agg [TV.d (AV.bool (decide ((0 : Int) < (Nat.cast : Nat → Int) (List.length x_1)))), TV.d (AV.ints IntKind.u32 x_1), TV.d (AV.ints IntKind.u32 x_2)])) ∧ ((!x) = false → K (TV.agg [TV.d (AV.bool false), TV.d (AV.ints IntKind.u32 x_1), TV.d (AV.ints IntKind.u32 x_2)]))

def vc_nqSub : Bool → List Int → List Int → Bool → List Int → List Int → (TV → Prop) → Prop :=
 fun (s : Bool) (a b : List Int) (t : Bool) (c d : List Int) (K : TV → Prop) => (Nt.Sm (1000000 : Nat) c ∧ Nt.Sm (1000000 : Nat) d) ∧ ∀ (x : Bool), x = Nt.rneg (-Nt.rv t c d) → ∀ (x_1 : List Int), x_1 = Nt.rnum (-Nt.rv t c d)
 → ∀ (x_2 : List Int), x_2 = Nt.rden (-Nt.rv t c d) → (Nt.Sm (1000000 : Nat) a ∧ Nt.Sm (1000000 : Nat) b ∧ Nt.Sm (1000000 : Nat) x_1 ∧ Nt.Sm (1000000 : Nat) x_2) ∧ ∀ (x_3 : Bool), x_3 = Nt.rneg (Nt.rv s a b + Nt.rv x x_1 x_2)
 → ∀ (x_4 : List Int), x_4 = Nt.rnum (Nt.rv s a b + Nt.rv x x_1 x_2) → ∀ (x_5 : List Int), x_5 = Nt.rden (Nt.rv s a b + Nt.rv x x_1 x_2) → K (TV.agg [TV.d (AV.bool x_3), TV.d (AV.ints IntKind.u32 x_4), TV.d (AV.ints IntKind.u32 x_5)])

def vc_nqMul : Bool → List Int → List Int → Bool → List Int → List Int → (TV → Prop) → Prop :=
 fun (s : Bool) (a b : List Int) (t : Bool) (c d : List Int) (K : TV → Prop) => (Nt.Sm (90000000 : Nat) a ∧ Nt.Sm (90000000 : Nat) b) ∧ ∀ (x : Bool), x = Nt.rneg (Nt.rv s a b) → ∀ (x_1 : List Int), x_1 = Nt.rnum (Nt.rv s a b)
 → ∀ (x_2 : List Int), x_2 = Nt.rden (Nt.rv s a b) → (Nt.Sm (90000000 : Nat) c ∧ Nt.Sm (90000000 : Nat) d) ∧ ∀ (x_3 : Bool), x_3 = Nt.rneg (Nt.rv t c d) → ∀ (x_4 : List Int), x_4 = Nt.rnum (Nt.rv t c d)
 → ∀ (x_5 : List Int), x_5 = Nt.rden (Nt.rv t c d) → (Nt.Lim x_1 ∧ Nt.Lim x_4 ∧ List.length x_1 ≤ (40000000 : Nat) ∧ List.length x_4 ≤ (40000000 : Nat)) ∧ ∀ (x_6 : List Int), x_6 = Nt.limbs (Nt.val x_1 * Nt.val x_4)
 → (Nt.Lim x_2 ∧ Nt.Lim x_5 ∧ List.length x_2 ≤ (40000000 : Nat) ∧ List.length x_5 ≤ (40000000 : Nat)) ∧ ∀ (x_7 : List Int), x_7 = Nt.limbs (Nt.val x_2 * Nt.val x_5) → (Nt.Sm (90000000 : Nat) x_6 ∧ Nt.Sm (90000000 : Nat) x_7
 ∧ ¬Nt.val x_7 = (0 : Nat)) ∧ ∀ (x_8 : Bool), x_8 = Nt.rneg (Nt.rv (!x == x_3) x_6 x_7) → ∀ (x_9 : List Int), x_9 = Nt.rnum (Nt.rv (!x == x_3) x_6 x_7) → ∀ (x_10 : List Int), x_10 = Nt.rden (Nt.rv (!x == x_3) x_6 x_7)
 → K (TV.agg [TV.d (AV.bool x_8), TV.d (AV.ints IntKind.u32 x_9), TV.d (AV.ints IntKind.u32 x_10)])

def vc_nqDiv : Bool → List Int → List Int → Bool → List Int → List Int → (TV → Prop) → Prop :=
 fun (s : Bool) (a b : List Int) (t : Bool) (c d : List Int) (K : TV → Prop) => (Nt.Sm (90000000 : Nat) a ∧ Nt.Sm (90000000 : Nat) b) ∧ ∀ (x : Bool), x = Nt.rneg (Nt.rv s a b) → ∀ (x_1 : List Int), x_1 = Nt.rnum (Nt.rv s a b)
 → ∀ (x_2 : List Int), x_2 = Nt.rden (Nt.rv s a b) → (Nt.Sm (90000000 : Nat) c ∧ Nt.Sm (90000000 : Nat) d) ∧ ∀ (x_3 : Bool), x_3 = Nt.rneg (Nt.rv t c d) → ∀ (x_4 : List Int), x_4 = Nt.rnum (Nt.rv t c d)
 → ∀ (x_5 : List Int), x_5 = Nt.rden (Nt.rv t c d) → (decide ((Nat.cast : Nat → Int) (List.length x_4) = (0 : Int)) = true → K (TV.tup [TV.agg [TV.d (AV.bool false), TV.d (AV.ints IntKind.u32 []), TV.d (AV.ints IntKind.u32 [])], TV.d (AV.int IntKind.i64 (3 : Int))]))
 ∧ (decide ((Nat.cast : Nat → Int) (List.length x_4) = (0 : Int)) = false → (Nt.Lim x_1 ∧ Nt.Lim x_5 ∧ List.length x_1 ≤ (40000000 : Nat) ∧ List.length x_5 ≤ (40000000 : Nat)) ∧ ∀ (x_6 : List Int), x_6 = Nt.limbs (Nt.val x_1 * Nt.val x_5)
 → (Nt.Lim x_2 ∧ Nt.Lim x_4 ∧ List.length x_2 ≤ (40000000 : Nat) ∧ List.length x_4 ≤ (40000000 : Nat)) ∧ ∀ (x_7 : List Int), x_7 = Nt.limbs (Nt.val x_2 * Nt.val x_4) → (Nt.Sm (90000000 : Nat) x_6 ∧ Nt.Sm (90000000 : Nat) x_7
 ∧ ¬Nt.val x_7 = (0 : Nat)) ∧ ∀ (x_8 : Bool), x_8 = Nt.rneg (Nt.rv (!x == x_3) x_6 x_7) → ∀ (x_9 : List Int), x_9 = Nt.rnum (Nt.rv (!x == x_3) x_6 x_7) → ∀ (x_10 : List Int), x_10 = Nt.rden (Nt.rv (!x == x_3) x_6 x_7)
 → K (TV.tup [TV.agg [TV.d (AV.bool x_8), TV.d (AV.ints IntKind.u32 x_9), TV.d (AV.ints IntKind.u32 x_10)], TV.d (AV.int IntKind.i64 (0 : Int))]))

def vc_nqSign : Bool → List Int → List Int → (TV → Prop) → Prop :=
 fun (s : Bool) (a b : List Int) (K : TV → Prop) => (Nt.Sm (90000000 : Nat) a ∧ Nt.Sm (90000000 : Nat) b) ∧ ∀ (x : Bool), x = Nt.rneg (Nt.rv s a b) → ∀ (x_1 : List Int), x_1 = Nt.rnum (Nt.rv s a b) → ∀ (x_2 : List Int), x_2 = Nt.rden (Nt.rv s a b)
 → (decide ((Nat.cast : Nat → Int) (List.length x_1) = (0 : Int)) = true → K (TV.d (AV.int IntKind.i64 (0 : Int)))) ∧ (decide ((Nat.cast : Nat → Int) (List.length x_1) = (0 : Int)) = false → (x = true
 → K (TV.d (AV.int IntKind.i64 (-1 : Int)))) ∧ (x = false → K (TV.d (AV.int IntKind.i64 (1 : Int)))))

def vc_nqCmp : Bool → List Int → List Int → Bool → List Int → List Int → (TV → Prop) → Prop :=
 fun (s : Bool) (a b : List Int) (t : Bool) (c d : List Int) (K : TV → Prop) => (Nt.Sm (1000000 : Nat) a ∧ Nt.Sm (1000000 : Nat) b ∧ Nt.Sm (1000000 : Nat) c ∧ Nt.Sm (1000000 : Nat) d) ∧ ∀ (x : Bool), x = Nt.rneg (Nt.rv s a b - Nt.rv t c d)
 → ∀ (x_1 : List Int), x_1 = Nt.rnum (Nt.rv s a b - Nt.rv t c d) → ∀ (x_2 : List Int), x_2 = Nt.rden (Nt.rv s a b - Nt.rv t c d) → (Nt.Sm (90000000 : Nat) x_1 ∧ Nt.Sm (90000000 : Nat) x_2) ∧ ∀ (x_3 : Int), x_3 = Nt.sgn (Nt.rv x x_1 x_2)
 → K (TV.d (AV.int IntKind.i64 x_3))

def vc_nqEqual : Bool → List Int → List Int → Bool → List Int → List Int → (TV → Prop) → Prop :=
 fun (s : Bool) (a b : List Int) (t : Bool) (c d : List Int) (K : TV → Prop) => (Nt.Sm (1000000 : Nat) a ∧ Nt.Sm (1000000 : Nat) b ∧ Nt.Sm (1000000 : Nat) c ∧ Nt.Sm (1000000 : Nat) d) ∧ ∀ (x : Int), x = Nt.sgn (Nt.rv s a b - Nt.rv t c d)
 → K (TV.d (AV.bool (decide (x = (0 : Int)))))



def vc_nqParse : List Int → (TV → Prop) → Prop :=
 fun (s : List Int) (K : TV → Prop) => (decide ((0 : Int) < (Nat.cast : Nat → Int) (List.length s)) = true → (0 : Int) ≤ (0 : Int) ∧ (0 : Int) < (Nat.cast : Nat → Int) (List.length s) ∧ ∃ (J : List Int
 → Prop), ((decide (List.getD s (0 : Nat) (0 : Int) = (45 : Int)) = true → (0 : Int) ≤ (1 : Int) ∧ (1 : Int) ≤ (Nat.cast : Nat → Int) (List.length s) ∧ (false, OB.cells [TV.d (AV.bool false), TV.emp, TV.emp]) = (false, OB.cells [TV.d (AV.bool false), TV.emp, TV.emp])
 ∧ J (List.drop (1 : Nat) s)) ∧ (decide (List.getD s (0 : Nat) (0 : Int) = (45 : Int)) = false → (false, OB.cells [TV.d (AV.bool false), TV.emp, TV.emp]) = (false, OB.cells [TV.d (AV.bool false), TV.emp, TV.emp])
 ∧ J s)) ∧ ∀ (v0 : List Int), J v0 → ∃ (J : Int → Prop), (∃ (I : Int → Prop), ∃ (m : Int → Nat), ((false, OB.cells [TV.d (AV.bool false), TV.emp, TV.emp]) = (false, OB.cells [TV.d (AV.bool false), TV.emp, TV.emp])
 ∧ I (0 : Int)) ∧ ∀ (v5 : Int), I v5 → (decide (v5 < (Nat.cast : Nat → Int) (List.length v0)) = true → (0 : Int) ≤ v5 ∧ v5 < (Nat.cast : Nat → Int) (List.length v0) ∧ ((!decide (List.getD v0 (Int.toNat v5) (0 : Int) = (47 : Int))) = true
 → (false, OB.cells [TV.d (AV.bool false), TV.emp, TV.emp]) = (false, OB.cells [TV.d (AV.bool false), TV.emp, TV.emp]) ∧ I (IntKind.wrap IntKind.i64 (v5 + (1 : Int))) ∧ m (IntKind.wrap IntKind.i64 (v5 + (1 : Int))) < m v5)
 ∧ ((!decide (List.getD v0 (Int.toNat v5) (0 : Int) = (47 : Int))) = false → (false, OB.cells [TV.d (AV.bool false), TV.emp, TV.emp]) = (false, OB.cells [TV.d (AV.bool false), TV.emp, TV.emp]) ∧ J v5))
 ∧ (decide (v5 < (Nat.cast : Nat → Int) (List.length v0)) = false → (false, OB.cells [TV.d (AV.bool false), TV.emp, TV.emp]) = (false, OB.cells [TV.d (AV.bool false), TV.emp, TV.emp]) ∧ J v5)) ∧ ∀ (v5 : Int), J v5
 → (0 : Int) ≤ v5 ∧ v5 ≤ (Nat.cast : Nat → Int) (List.length v0) ∧ List.length (List.take (Int.toNat v5) v0) ≤ (1000000000000 : Nat) ∧ ∀ (x : List Int), x = Nt.parseV (List.take (Int.toNat v5) v0) → ∀ (x_1 : Int), x_1 = Nt.parseE (List.take (Int.toNat v5) v0)
 → (decide (x_1 = (4 : Int)) = true → K (TV.tup [TV.agg [TV.d (AV.bool false), TV.d (AV.ints IntKind.u32 []), TV.d (AV.ints IntKind.u32 [])], TV.d (AV.int IntKind.i64 x_1)])) ∧ (decide (x_1 = (4 : Int)) = false
 → ∃ (J : List Int → Int → Prop), ((decide (v5 < (Nat.cast : Nat → Int) (List.length v0)) = true → (0 : Int) ≤ IntKind.wrap IntKind.i64 (v5 + (1 : Int)) ∧ IntKind.wrap IntKind.i64 (v5 + (1 : Int)) ≤ (Nat.cast : Nat
 → Int) (List.length v0) ∧ List.length (List.drop (Int.toNat (IntKind.wrap IntKind.i64 (v5 + (1 : Int)))) v0) ≤ (1000000000000 : Nat) ∧ ∀ (x : List Int), x = Nt.parseV (List.drop (Int.toNat (IntKind.wrap IntKind.i64 (v5 + (1 : Int)))) v0)
 → ∀ (x_2 : Int), x_2 = Nt.parseE (List.drop (Int.toNat (IntKind.wrap IntKind.i64 (v5 + (1 : Int)))) v0) → (false, OB.cells [TV.d (AV.bool false), TV.emp, TV.emp]) = (false, OB.cells [TV.d (AV.bool false), TV.emp, TV.emp])
 ∧ J x x_2) ∧ (decide (v5 < (Nat.cast : Nat → Int) (List.length v0)) = false → (false, OB.cells [TV.d (AV.bool false), TV.emp, TV.emp]) = (false, OB.cells [TV.d (AV.bool false), TV.emp, TV.emp]) ∧ J [(1 : Int)] (0 : Int)))
 ∧ ∀ (v8 : List Int) (v9 : Int), J v8 v9 → (decide (v9 = (4 : Int)) = true → K (TV.tup [TV.agg [TV.d (AV.bool false), TV.d (AV.ints IntKind.u32 []), TV.d (AV.ints IntKind.u32 [])], TV.d (AV.int IntKind.i64 v9)]))
 ∧ (decide (v9 = (4 : Int)) = false → ((!decide (x_1 = (0 : Int))) = true → K (TV.tup [TV.agg [TV.d (AV.bool false), TV.d (AV.ints IntKind.u32 []), TV.d (AV.ints IntKind.u32 [])], TV.d (AV.int IntKind.i64 (9 : Int))]))
 ∧ ((!decide (x_1 = (0 : Int))) = false → ((!decide (v9 = (0 : Int))) = true → K (TV.tup [TV.agg [TV.d (AV.bool false), TV.d (AV.ints IntKind.u32 []), TV.d (AV.ints IntKind.u32 [])], TV.d (AV.int IntKind.i64 (9 : Int))]))
 ∧ ((!decide (v9 = (0 : Int))) = false → (Nt.Sm (90000000 : Nat) x ∧ Nt.Sm (90000000 : Nat) v8) ∧ ∀ (x_2 : Bool), x_2 = Nt.oneg (!decide (Nt.val v8 = (0 : Nat))) (Nt.rv (decide (List.getD s (0 : Nat) (0 : Int) = (45 : Int))) x v8)
 → ∀ (x_3 : List Int), x_3 = Nt.onum (!decide (Nt.val v8 = (0 : Nat))) (Nt.rv (decide (List.getD s (0 : Nat) (0 : Int) = (45 : Int))) x v8) → ∀ (x_4 : List Int), x_4 = Nt.oden (!decide (Nt.val v8 = (0 : Nat))) (Nt.rv (decide (List.getD s (0 : Nat) (0 : Int) = (45 : Int))) x v8)
 → ∀ (x : Int), (x = if Nt.val v8 = (0 : Nat) then (3 : Int) else (0 : Int)) → K (TV.tup [TV.agg [TV.d (AV.bool x_2), TV.d (AV.ints IntKind.u32 x_3), TV.d (AV.ints IntKind.u32 x_4)], TV.d (AV.int IntKind.i64 x)]))))))
 ∧ (decide ((0 : Int) < (Nat.cast : Nat → Int) (List.length s)) = false → ∃ (J : List Int → Prop), ((false, OB.cells [TV.d (AV.bool false), TV.emp, TV.emp]) = (false, OB.cells [TV.d (AV.bool false), TV.emp, TV.emp])
 ∧ J s) ∧ ∀ (v0 : List Int), J v0 → ∃ (J : Int → Prop), (∃ (I : Int → Prop), ∃ (m : Int → Nat), ((false, OB.cells [TV.d (AV.bool false), TV.emp, TV.emp]) = (false, OB.cells [TV.d (AV.bool false), TV.emp, TV.emp])
 ∧ I (0 : Int)) ∧ ∀ (v5 : Int), I v5 → (decide (v5 < (Nat.cast : Nat → Int) (List.length v0)) = true → (0 : Int) ≤ v5 ∧ v5 < (Nat.cast : Nat → Int) (List.length v0) ∧ ((!decide (List.getD v0 (Int.toNat v5) (0 : Int) = (47 : Int))) = true
 → (false, OB.cells [TV.d (AV.bool false), TV.emp, TV.emp]) = (false, OB.cells [TV.d (AV.bool false), TV.emp, TV.emp]) ∧ I (IntKind.wrap IntKind.i64 (v5 + (1 : Int))) ∧ m (IntKind.wrap IntKind.i64 (v5 + (1 : Int))) < m v5)
 ∧ ((!decide (List.getD v0 (Int.toNat v5) (0 : Int) = (47 : Int))) = false → (false, OB.cells [TV.d (AV.bool false), TV.emp, TV.emp]) = (false, OB.cells [TV.d (AV.bool false), TV.emp, TV.emp]) ∧ J v5))
 ∧ (decide (v5 < (Nat.cast : Nat → Int) (List.length v0)) = false → (false, OB.cells [TV.d (AV.bool false), TV.emp, TV.emp]) = (false, OB.cells [TV.d (AV.bool false), TV.emp, TV.emp]) ∧ J v5)) ∧ ∀ (v5 : Int), J v5
 → (0 : Int) ≤ v5 ∧ v5 ≤ (Nat.cast : Nat → Int) (List.length v0) ∧ List.length (List.take (Int.toNat v5) v0) ≤ (1000000000000 : Nat) ∧ ∀ (x : List Int), x = Nt.parseV (List.take (Int.toNat v5) v0) → ∀ (x_1 : Int), x_1 = Nt.parseE (List.take (Int.toNat v5) v0)
 → (decide (x_1 = (4 : Int)) = true → K (TV.tup [TV.agg [TV.d (AV.bool false), TV.d (AV.ints IntKind.u32 []), TV.d (AV.ints IntKind.u32 [])], TV.d (AV.int IntKind.i64 x_1)])) ∧ (decide (x_1 = (4 : Int)) = false
 → ∃ (J : List Int → Int → Prop), ((decide (v5 < (Nat.cast : Nat → Int) (List.length v0)) = true → (0 : Int) ≤ IntKind.wrap IntKind.i64 (v5 + (1 : Int)) ∧ IntKind.wrap IntKind.i64 (v5 + (1 : Int)) ≤ (Nat.cast : Nat
 → Int) (List.length v0) ∧ List.length (List.drop (Int.toNat (IntKind.wrap IntKind.i64 (v5 + (1 : Int)))) v0) ≤ (1000000000000 : Nat) ∧ ∀ (x : List Int), x = Nt.parseV (List.drop (Int.toNat (IntKind.wrap IntKind.i64 (v5 + (1 : Int)))) v0)
 → ∀ (x_2 : Int), x_2 = Nt.parseE (List.drop (Int.toNat (IntKind.wrap IntKind.i64 (v5 + (1 : Int)))) v0) → (false, OB.cells [TV.d (AV.bool false), TV.emp, TV.emp]) = (false, OB.cells [TV.d (AV.bool false), TV.emp, TV.emp])
 ∧ J x x_2) ∧ (decide (v5 < (Nat.cast : Nat → Int) (List.length v0)) = false → (false, OB.cells [TV.d (AV.bool false), TV.emp, TV.emp]) = (false, OB.cells [TV.d (AV.bool false), TV.emp, TV.emp]) ∧ J [(1 : Int)] (0 : Int)))
 ∧ ∀ (v8 : List Int) (v9 : Int), J v8 v9 → (decide (v9 = (4 : Int)) = true → K (TV.tup [TV.agg [TV.d (AV.bool false), TV.d (AV.ints IntKind.u32 []), TV.d (AV.ints IntKind.u32 [])], TV.d (AV.int IntKind.i64 v9)]))
 ∧ (decide (v9 = (4 : Int)) = false → ((!decide (x_1 = (0 : Int))) = true → K (TV.tup [TV.agg [TV.d (AV.bool false), TV.d (AV.ints IntKind.u32 []), TV.d (AV.ints IntKind.u32 [])], TV.d (AV.int IntKind.i64 (9 : Int))]))
 ∧ ((!decide (x_1 = (0 : Int))) = false → ((!decide (v9 = (0 : Int))) = true → K (TV.tup [TV.agg [TV.d (AV.bool false), TV.d (AV.ints IntKind.u32 []), TV.d (AV.ints IntKind.u32 [])], TV.d (AV.int IntKind.i64 (9 : Int))]))
 ∧ ((!decide (v9 = (0 : Int))) = false → (Nt.Sm (90000000 : Nat) x ∧ Nt.Sm (90000000 : Nat) v8) ∧ ∀ (x_2 : Bool), x_2 = Nt.oneg (!decide (Nt.val v8 = (0 : Nat))) (Nt.rv false x v8) → ∀ (x_3 : List Int), x_3 = Nt.onum (!decide (Nt.val v8 = (0 : Nat))) (Nt.rv false x v8)
 → ∀ (x_4 : List Int), x_4 = Nt.oden (!decide (Nt.val v8 = (0 : Nat))) (Nt.rv false x v8) → ∀ (x : Int), (x = if Nt.val v8 = (0 : Nat) then (3 : Int) else (0 : Int)) → K (TV.tup [TV.agg [TV.d (AV.bool x_2), TV.d (AV.ints IntKind.u32 x_3), TV.d (AV.ints IntKind.u32 x_4)], TV.d (AV.int IntKind.i64 x)]))))))

def vc_nqFormat : Bool → List Int → List Int → (TV → Prop) → Prop :=
 fun (s : Bool) (a b : List Int) (K : TV → Prop) => (Nt.Sm (90000000 : Nat) a ∧ Nt.Sm (90000000 : Nat) b) ∧ ∀ (x : Bool), x = Nt.rneg (Nt.rv s a b) → ∀ (x_1 : List Int), x_1 = Nt.rnum (Nt.rv s a b) → ∀ (x_2 : List Int), x_2 = Nt.rden (Nt.rv s a b)
 → Nt.Few x_1 ∧ ∀ (x_3 : List Int), x_3 = Nt.dec (Nt.val x_1) → ∃ (J : List Int → Prop), ((x = true → (1 : Int) + (Nat.cast : Nat → Int) (List.length x_3) ≤ (9223372036854775807 : Int) ∧ (false, OB.cells [TV.d (AV.bool x), TV.d (AV.ints IntKind.u32 x_1), TV.d (AV.ints IntKind.u32 x_2)]) = (false, OB.cells [TV.d (AV.bool x), TV.d (AV.ints IntKind.u32 x_1), TV.d (AV.ints IntKind.u32 x_2)])
 ∧ J (HAppend.hAppend [(45 : Int)] x_3)) ∧ (x = false → (false, OB.cells [TV.d (AV.bool x), TV.d (AV.ints IntKind.u32 x_1), TV.d (AV.ints IntKind.u32 x_2)]) = (false, OB.cells [TV.d (AV.bool x), TV.d (AV.ints IntKind.u32 x_1), TV.d (AV.ints IntKind.u32 x_2)])
 ∧ J x_3)) ∧ ∀ (v3 : List Int), J v3 → Nt.Few x_2 ∧ ∀ (x : List Int), x = Nt.dec (Nt.val x_2) → ((!decide (x = [(49 : Int)])) = true → (1 : Int) + (Nat.cast : Nat → Int) (List.length x) ≤ (9223372036854775807 : Int)
 ∧ (Nat.cast : Nat → Int) (List.length v3) + (Nat.cast : Nat → Int) (List.length (HAppend.hAppend [(47 : Int)] x)) ≤ (9223372036854775807 : Int) ∧ K (TV.d (AV.str (HAppend.hAppend v3 (HAppend.hAppend [(47 : Int)] x)))))
 ∧ ((!decide (x = [(49 : Int)])) = false → K (TV.d (AV.str v3)))

def vc_nqSame : Bool → List Int → List Int → Bool → List Int → List Int → (TV → Prop) → Prop :=
 fun (s : Bool) (a b : List Int) (t : Bool) (c d : List Int) (K : TV → Prop) => ((s == t) = true → (List.length a ≤ (1000000000 : Nat) ∧ List.length c ≤ (1000000000 : Nat)) ∧ ∀ (x : Bool), x = decide (a = c)
 → (x = true → (List.length b ≤ (1000000000 : Nat) ∧ List.length d ≤ (1000000000 : Nat)) ∧ ∀ (x : Bool), x = decide (b = d) → K (TV.d (AV.bool x))) ∧ (x = false → K (TV.d (AV.bool false)))) ∧ ((s == t) = false
 → K (TV.d (AV.bool false)))

end Nt
end

section
/- RtR: proofs of verification conditions: the slow functions over fractions. -/
open Go Go.Vc
namespace Nt

theorem limbs_lenpos (n : Nat) : decide (0 < ((limbs n).length : Int)) = decide (n ≠ 0) := by
  refine decide_eq_decide.2 ?_
  rw [Ne, ← limbs_nil]
  constructor
  · intro h e; rw [e] at h; simp at h
  · intro h
    have : (limbs n).length ≠ 0 := fun e => h (List.length_eq_zero_iff.1 e)
    omega
theorem div_gcd_ne {a b : Nat} (hb : b ≠ 0) : decide (a / Nat.gcd a b ≠ 0) = decide (a ≠ 0) := by
  refine decide_eq_decide.2 ?_
  have hg : 0 < Nat.gcd a b := Nat.gcd_pos_of_pos_right _ (by omega)
  constructor
  · rintro h rfl; simp at h
  · intro h e
    have := Nat.div_mul_cancel (Nat.gcd_dvd_left a b)
    rw [e] at this; omega
theorem sm_of_le {k n : Nat} {b : List Int} (hb : Sm k b) (h : n ≤ val b) : Sm k (limbs n) := sm_limbs (Nat.lt_of_le_of_lt h hb.val)
theorem p_nqlowest (s : Bool) (a b : List Int) (K : TV → Prop) (h : clowest.T [.d (.bool s), .d (.ints .u32 a), .d (.ints .u32 b)] K) : vc_nqlowest s a b K := by
  obtain ⟨⟨ha, hb, hb0⟩, hk⟩ := h
  unfold vc_nqlowest
  refine ⟨⟨ha.1, ha.2, hb.1, hb.2⟩, ?_⟩
  have hg : Nat.gcd (val a) (val b) ≠ 0 := fun e => hb0 (Nat.gcd_eq_zero_iff.1 e).2
  rintro _ rfl
  have fg : Sm 90000000 (limbs (Nat.gcd (val a) (val b))) := sm_of_le hb (gcd_le_right hb0)
  refine ⟨⟨ha.1, ha.2, fg.1, fg.2⟩, ?_⟩
  simp only [val_limbs, if_neg hg]
  rintro _ rfl _ rfl _ rfl
  refine ⟨⟨hb.1, hb.2, fg.1, fg.2⟩, ?_⟩
  rintro _ rfl _ rfl _ rfl
  rw [rv_num hb0, rv_den hb0, rv_neg hb0] at hk
  refine ⟨fun h => ?_, fun h => ?_⟩
  · rw [limbs_lenpos, div_gcd_ne hb0]
    rw [h, Bool.true_and] at hk; exact hk
  · rw [h, Bool.false_and] at hk; exact hk
theorem p_nqNorm (s : Bool) (a b : List Int) (K : TV → Prop) (h : cqNumber.T [r3 s a b] K) : vc_nqNorm s a b K := by
  obtain ⟨⟨ha, hb⟩, hk⟩ := h
  unfold vc_nqNorm
  refine ⟨hb.few, ?_⟩
  rintro _ rfl
  refine ⟨fun h => ?_, fun h => ⟨⟨ha, hb, fun e => ?_⟩, ?_⟩⟩
  · have h0 := limbs_nil.1 (lenI.1 h)
    rw [rv_zero h0, rneg0, rnum0, rden0] at hk
    exact hk
  · rw [lenI.2 (limbs_nil.2 e)] at h; cases h
  · rintro _ rfl _ rfl _ rfl
    exact hk
theorem int_parts (n : Int) : rneg (n : Rat) = decide (n < 0) ∧ rnum (n : Rat) = limbs n.natAbs ∧ rden (n : Rat) = [1] := by
  refine ⟨rfl, rfl, ?_⟩
  exact limbs_one
theorem p_nqInt (n : Int) (K : TV → Prop) (h : crInt.T [.d (.int .i64 n)] K) : vc_nqInt n K := by
  obtain ⟨hn, hk⟩ := h
  obtain ⟨e1, e2, e3⟩ := int_parts n
  rw [e1, e2, e3] at hk
  unfold vc_nqInt
  unfold i64 at hn
  refine ⟨fun h => ⟨hn, ?_⟩, fun h => ?_⟩
  · have h := of_decide_eq_true h
    rw [if_neg (by omega), if_neg (by omega), show n.toNat = n.natAbs by omega]
    rintro _ rfl _ rfl
    rw [decide_eq_false (by omega)] at hk
    exact hk
  · have h := of_decide_eq_false h
    have w1 : IntKind.wrap .i64 (n + 1) = n + 1 := w64 (by omega)
    rw [w1]
    have w2 : IntKind.wrap .i64 (0 - (n + 1)) = 0 - (n + 1) := w64 (by omega)
    rw [w2, if_neg (by omega), if_neg (by omega)]
    refine ⟨by omega, ?_⟩
    rintro _ rfl _ rfl
    have hs : Sm 2 (limbs (0 - (n + 1)).toNat) := sm_limbs (by omega)
    refine ⟨⟨hs.1, few_one.1, Nat.le_trans hs.2 (by decide), by decide⟩, ?_⟩
    rw [val_limbs, show (0 - (n + 1)).toNat + 1 = n.natAbs by omega]
    rintro _ rfl
    rw [decide_eq_true (by omega)] at hk
    exact hk
theorem i64_sm {n : Int} (h : i64 n) : Sm 2 (limbs n.natAbs) := by
  unfold i64 at h
  exact sm_limbs (by omega)
theorem p_nqNew (n d : Int) (K : TV → Prop) (h : crNew.T [.d (.int .i64 n), .d (.int .i64 d)] K) : vc_nqNew n d K := by
  obtain ⟨⟨hn, hd⟩, hk⟩ := h
  unfold vc_nqNew
  unfold oneg onum oden at hk
  refine ⟨fun h => ?_, fun h => ⟨hn, ?_⟩⟩
  · obtain rfl := of_decide_eq_true h
    exact hk
  · have h0 := of_decide_eq_false h
    obtain ⟨a1, a2, a3⟩ := int_parts n
    obtain ⟨b1, b2, b3⟩ := int_parts d
    have e : rv (decide (n < 0) != decide (d < 0)) (limbs n.natAbs) (limbs d.natAbs) = Rat.divInt n d := by
      unfold rv
      rw [val_limbs, val_limbs, sg_divInt n d h0]
    rintro _ rfl _ rfl _ rfl
    refine ⟨hd, ?_⟩
    rintro _ rfl _ rfl _ rfl
    have s1 := i64_sm hn
    have s2 := i64_sm hd
    have hz : val (limbs d.natAbs) ≠ 0 := by rw [val_limbs]; omega
    have goal : ∀ (x : Bool), x = rneg (Rat.divInt n d) → ∀ y, y = rnum (Rat.divInt n d) → ∀ z, z = rden (Rat.divInt n d) → K (.tup [.agg [.d (.bool x), .d (.ints .u32 y), .d (.ints .u32 z)], .d (.int .i64 0)]) := by
      rintro _ rfl _ rfl _ rfl
      rw [h, if_neg h0] at hk
      exact hk
    rw [← e] at goal
    exact ⟨⟨s1.mono (by decide), s2.mono (by decide), hz⟩, goal⟩
theorem p_nqMake (s : Bool) (a b : List Int) (K : TV → Prop) (h : cqMake.T [.d (.bool s), .d (.ints .u32 a), .d (.ints .u32 b)] K) : vc_nqMake s a b K := by
  obtain ⟨⟨ha, hb⟩, hk⟩ := h
  unfold vc_nqMake
  unfold oneg onum oden at hk
  refine ⟨hb.few, ?_⟩
  rintro _ rfl
  refine ⟨fun h => ?_, fun h => ?_⟩
  · have h0 := limbs_nil.1 (lenI.1 h)
    rw [decide_eq_true h0, if_pos h0] at hk
    exact hk
  · have h0 : val b ≠ 0 := fun e => by
      rw [lenI.2 (limbs_nil.2 e)] at h; cases h
    refine ⟨⟨ha, hb, h0⟩, ?_⟩
    rw [decide_eq_false h0, if_neg h0] at hk
    rintro _ rfl _ rfl _ rfl
    exact hk
theorem p_nqNeg (s : Bool) (a b : List Int) (K : TV → Prop) (h : crNeg.T [r3 s a b] K) : vc_nqNeg s a b K := by
  obtain ⟨⟨ha, hb⟩, hk⟩ := h
  unfold vc_nqNeg
  refine ⟨⟨ha.mono (by decide), hb.mono (by decide)⟩, ?_⟩
  rw [neg_num, neg_den, neg_neg'] at hk
  generalize rv s a b = r at *
  rintro _ rfl _ rfl _ rfl
  refine ⟨fun h => ?_, fun h => ?_⟩
  · rw [h, Bool.true_and] at hk; exact hk
  · rw [h, Bool.false_and] at hk; exact hk
theorem p_nqAdd (s : Bool) (a b : List Int) (t : Bool) (c d : List Int) (K : TV → Prop) (h : crAdd.T [r3 s a b, r3 t c d] K) : vc_nqAdd s a b t c d K := by
  obtain ⟨⟨ha, hb, hc, hd⟩, hk⟩ := h
  unfold vc_nqAdd
  have hr := of_sm (s := s) ha hb
  have hq := of_sm (s := t) hc hd
  refine ⟨⟨ha.mono (by decide), hb.mono (by decide)⟩, ?_⟩
  generalize rv s a b = r at *
  rintro _ rfl _ rfl _ rfl
  refine ⟨⟨hc.mono (by decide), hd.mono (by decide)⟩, ?_⟩
  generalize rv t c d = q at *
  rintro _ rfl _ rfl _ rfl
  have m1 := sm_mul hr.num hq.den
  have m2 := sm_mul hq.num hr.den
  have m3 := sm_mul hr.den hq.den
  have sm4 : ∀ {x y : List Int}, Sm 1000000 x → Sm 1000000 y → Lim x ∧ Lim y ∧ x.length ≤ 40000000 ∧ y.length ≤ 40000000 := fun hx hy => ⟨hx.1, hy.1, Nat.le_trans hx.2 (by decide), Nat.le_trans hy.2 (by decide)⟩
  have fa := frac_add r q
  have d0 : ¬ val (limbs (val (rden r) * val (rden q))) = 0 := by
    rw [val_limbs]; exact Nat.mul_ne_zero (rden_ne r) (rden_ne q)
  refine ⟨sm4 hr.num hq.den, ?_⟩
  rintro _ rfl
  refine ⟨sm4 hq.num hr.den, ?_⟩
  rintro _ rfl
  refine ⟨sm4 hr.den hq.den, ?_⟩
  rintro _ rfl
  have m1' := m1.val
  have m2' := m2.val
  rw [val_limbs] at m1' m2'
  have hfin : ∀ (g : Bool) (x : List Int), rv g x (limbs (val (rden r) * val (rden q))) = r + q → Sm 90000000 x → (Sm 90000000 x ∧ Sm 90000000 (limbs (val (rden r) * val (rden q))) ∧ ¬ val (limbs (val (rden r) * val (rden q))) = 0) ∧
      ∀ y, y = rneg (rv g x (limbs (val (rden r) * val (rden q)))) → ∀ z, z = rnum (rv g x (limbs (val (rden r) * val (rden q)))) → ∀ w, w = rden (rv g x (limbs (val (rden r) * val (rden q)))) → K (r3 y z w) := by
    intro g x e hx
    refine ⟨⟨hx, m3.mono (by decide), d0⟩, ?_⟩
    rw [e]
    rintro _ rfl _ rfl _ rfl
    exact hk
  have hsub : ∀ {k x y : Nat}, k ≤ 90000000 → x < 4294967296 ^ k → Sm 90000000 (limbs (x - y)) := fun hk hx => (sm_limbs (Nat.lt_of_le_of_lt (Nat.sub_le _ _) hx)).mono hk
  refine ⟨fun h => ⟨⟨m1.1, m2.1, Nat.le_trans m1.2 (by decide), Nat.le_trans m2.2 (by decide)⟩, ?_⟩, fun h => ⟨⟨m1.few, m2.few⟩, ?_⟩⟩
  · have h : rneg r = rneg q := by simpa using h
    rintro _ rfl
    rw [val_limbs (val (rnum r) * _), val_limbs (val (rnum q) * _)]
    refine hfin _ _ ?_ ((sm_limbs (sm_add m1' m2')).mono (by decide))
    rw [← fa]
    unfold rv
    rw [val_limbs, val_limbs, ← h, sg_add]
  · have h : rneg r ≠ rneg q := by simpa using h
    rw [val_limbs (val (rnum r) * _), val_limbs (val (rnum q) * _)]
    rintro _ rfl _ rfl
    refine ⟨fun h2 => ?_, fun h2 => ⟨⟨m2.few, m1.few⟩, ?_⟩⟩
    · have hlt : ¬ val (rnum r) * val (rden q) < val (rnum q) * val (rden r) := by
        intro hlt; rw [if_pos hlt] at h2; cases h2
      rw [if_neg hlt]
      refine hfin _ _ ?_ (hsub (by decide) m1')
      rw [← fa]
      unfold rv
      rw [val_limbs, val_limbs, sg_sub_le h (by omega)]
    · have hlt : val (rnum r) * val (rden q) < val (rnum q) * val (rden r) := by
        false_or_by_contra
        rename_i hlt
        rw [if_neg hlt] at h2; cases h2
      rw [if_neg (by omega), if_neg (by omega)]
      rintro _ rfl _ rfl
      refine hfin _ _ ?_ (hsub (by decide) m2')
      rw [← fa]
      unfold rv
      rw [val_limbs, val_limbs, Int.add_comm (sg (rneg r) _), sg_sub_le (Ne.symm h) (by omega)]
theorem p_nqSub (s : Bool) (a b : List Int) (t : Bool) (c d : List Int) (K : TV → Prop) (h : crSub.T [r3 s a b, r3 t c d] K) : vc_nqSub s a b t c d K := by
  obtain ⟨⟨ha, hb, hc, hd⟩, hk⟩ := h
  unfold vc_nqSub
  refine ⟨⟨hc, hd⟩, ?_⟩
  have hq := (of_sm (s := t) hc hd).neg
  rw [Rat.sub_eq_add_neg] at hk
  generalize rv t c d = q at *
  rintro _ rfl _ rfl _ rfl
  refine ⟨⟨ha, hb, hq.num, hq.den⟩, ?_⟩
  rw [rv_parts]
  rintro _ rfl _ rfl _ rfl
  exact hk
theorem p_nqMul (s : Bool) (a b : List Int) (t : Bool) (c d : List Int) (K : TV → Prop) (h : crMul.T [r3 s a b, r3 t c d] K) : vc_nqMul s a b t c d K := by
  obtain ⟨⟨ha, hb, hc, hd⟩, hk⟩ := h
  unfold vc_nqMul
  have hr := of_sm (s := s) ha hb
  have hq := of_sm (s := t) hc hd
  refine ⟨⟨ha.mono (by decide), hb.mono (by decide)⟩, ?_⟩
  generalize rv s a b = r at *
  rintro _ rfl _ rfl _ rfl
  refine ⟨⟨hc.mono (by decide), hd.mono (by decide)⟩, ?_⟩
  generalize rv t c d = q at *
  rintro _ rfl _ rfl _ rfl
  have sm4 : ∀ {x y : List Int}, Sm 1000000 x → Sm 1000000 y → Lim x ∧ Lim y ∧ x.length ≤ 40000000 ∧ y.length ≤ 40000000 := fun hx hy => ⟨hx.1, hy.1, Nat.le_trans hx.2 (by decide), Nat.le_trans hy.2 (by decide)⟩
  refine ⟨sm4 hr.num hq.num, ?_⟩
  rintro _ rfl
  refine ⟨sm4 hr.den hq.den, ?_⟩
  rintro _ rfl
  refine ⟨⟨(sm_mul hr.num hq.num).mono (by decide), (sm_mul hr.den hq.den).mono (by decide), by rw [val_limbs]; exact Nat.mul_ne_zero (rden_ne r) (rden_ne q)⟩, ?_⟩
  rw [show (!rneg r == rneg q) = (rneg r != rneg q) from rfl, frac_mul]
  rintro _ rfl _ rfl _ rfl
  exact hk
theorem p_nqDiv (s : Bool) (a b : List Int) (t : Bool) (c d : List Int) (K : TV → Prop) (h : crDiv.T [r3 s a b, r3 t c d] K) : vc_nqDiv s a b t c d K := by
  obtain ⟨⟨ha, hb, hc, hd⟩, hk⟩ := h
  unfold vc_nqDiv
  have hr := of_sm (s := s) ha hb
  have hq := of_sm (s := t) hc hd
  refine ⟨⟨ha.mono (by decide), hb.mono (by decide)⟩, ?_⟩
  generalize rv s a b = r at *
  rintro _ rfl _ rfl _ rfl
  refine ⟨⟨hc.mono (by decide), hd.mono (by decide)⟩, ?_⟩
  generalize rv t c d = q at *
  rintro _ rfl _ rfl _ rfl
  rw [← rz_iff]
  have sm4 : ∀ {x y : List Int}, Sm 1000000 x → Sm 1000000 y → Lim x ∧ Lim y ∧ x.length ≤ 40000000 ∧ y.length ≤ 40000000 := fun hx hy => ⟨hx.1, hy.1, Nat.le_trans hx.2 (by decide), Nat.le_trans hy.2 (by decide)⟩
  unfold oneg onum oden at hk
  refine ⟨fun h => ?_, fun h => ⟨sm4 hr.num hq.den, ?_⟩⟩
  · rw [h] at hk
    exact hk
  · have hq0 : q ≠ 0 := of_decide_eq_false h
    rintro _ rfl
    refine ⟨sm4 hr.den hq.num, ?_⟩
    rintro _ rfl
    refine ⟨⟨(sm_mul hr.num hq.den).mono (by decide), (sm_mul hr.den hq.num).mono (by decide), ?_⟩, ?_⟩
    · rw [val_limbs]
      refine Nat.mul_ne_zero (rden_ne r) ?_
      rw [val_rnum]
      exact fun e => hq0 (Rat.num_eq_zero.1 (by omega))
    rw [show (!rneg r == rneg q) = (rneg r != rneg q) from rfl, frac_div hq0]
    rintro _ rfl _ rfl _ rfl
    rw [h] at hk
    exact hk
theorem p_nqSign (s : Bool) (a b : List Int) (K : TV → Prop) (h : cqSign.T [r3 s a b] K) : vc_nqSign s a b K := by
  obtain ⟨⟨ha, hb⟩, hk⟩ := h
  unfold vc_nqSign
  refine ⟨⟨ha, hb⟩, ?_⟩
  generalize rv s a b = r at *
  rintro _ rfl _ rfl _ rfl
  rw [← rz_iff]
  unfold sgn at hk
  refine ⟨fun h => ?_, fun h => ⟨fun h1 => ?_, fun h1 => ?_⟩⟩
  · rw [if_pos (of_decide_eq_true h)] at hk; exact hk
  · rw [if_neg (of_decide_eq_false h), if_pos ((rneg_iff r).1 h1)] at hk; exact hk
  · rw [if_neg (of_decide_eq_false h), if_neg (fun e => by rw [(rneg_iff r).2 e] at h1; cases h1)] at hk; exact hk
theorem p_nqCmp (s : Bool) (a b : List Int) (t : Bool) (c d : List Int) (K : TV → Prop) (h : crCmp.T [r3 s a b, r3 t c d] K) : vc_nqCmp s a b t c d K := by
  obtain ⟨⟨ha, hb, hc, hd⟩, hk⟩ := h
  unfold vc_nqCmp
  refine ⟨⟨ha, hb, hc, hd⟩, ?_⟩
  have hs := (of_sm (s := s) ha hb).sub (of_sm (s := t) hc hd)
  generalize rv s a b - rv t c d = r at *
  rintro _ rfl _ rfl _ rfl
  refine ⟨⟨hs.num.mono (by decide), hs.den.mono (by decide)⟩, ?_⟩
  rw [rv_parts]
  rintro _ rfl
  exact hk
theorem p_nqEqual (s : Bool) (a b : List Int) (t : Bool) (c d : List Int) (K : TV → Prop) (h : crEqual.T [r3 s a b, r3 t c d] K) : vc_nqEqual s a b t c d K := by
  obtain ⟨hp, hk⟩ := h
  unfold vc_nqEqual
  refine ⟨hp, ?_⟩
  rintro _ rfl
  have e : decide (sgn (rv s a b - rv t c d) = 0) = decide (rv s a b = rv t c d) := decide_eq_decide.2 (by rw [sgn_zero]; grind)
  rw [e]; exact hk
theorem p_nqSame (s : Bool) (a b : List Int) (t : Bool) (c d : List Int) (K : TV → Prop) (h : crSame.T [r3 s a b, r3 t c d] K) : vc_nqSame s a b t c d K := by
  obtain ⟨⟨ha, hb, hc, hd⟩, hk⟩ := h
  unfold vc_nqSame
  refine ⟨fun h => ⟨⟨ha, hc⟩, ?_⟩, fun h => ?_⟩
  · obtain rfl : s = t := by simpa using h
    rintro _ rfl
    refine ⟨fun h2 => ⟨⟨hb, hd⟩, ?_⟩, fun h2 => ?_⟩
    · rintro _ rfl
      obtain rfl := of_decide_eq_true h2
      have e : decide (s = s ∧ a = a ∧ b = d) = decide (b = d) := decide_eq_decide.2 (by simp)
      rw [e] at hk; exact hk
    · have h2 := of_decide_eq_false h2
      have e : decide (s = s ∧ a = c ∧ b = d) = false := decide_eq_false fun hh => h2 hh.2.1
      rw [e] at hk
      exact hk
  · have h : s ≠ t := by simpa using h
    have e : decide (s = t ∧ a = c ∧ b = d) = false := decide_eq_false fun hh => h hh.1
    rw [e] at hk; exact hk
theorem dec_one {n : Nat} : decide (dec n = [49]) = decide (n = 1) := by
  refine decide_eq_decide.2 ⟨fun h => ?_, ?_⟩
  · rw [← pv_dec n, h]; rfl
  · rintro rfl
    simp [dec, decR_pos, decR_zero]
theorem p_nqFormat (s : Bool) (a b : List Int) (K : TV → Prop) (h : crFormat.T [r3 s a b] K) : vc_nqFormat s a b K := by
  obtain ⟨⟨ha, hb⟩, hk⟩ := h
  unfold vc_nqFormat
  have hr := of_sm (s := s) ha hb
  refine ⟨⟨ha.mono (by decide), hb.mono (by decide)⟩, ?_⟩
  generalize rv s a b = r at *
  obtain ⟨l1, l2⟩ := dec_lenR hr
  rintro _ rfl _ rfl _ rfl
  refine ⟨hr.num.few, ?_⟩
  rintro _ rfl
  rw [val_rnum, val_rden]
  refine ⟨fun v => v = (if rneg r then [45] else []) ++ dec r.num.natAbs, ⟨fun h => ⟨by omega, rfl, by rw [h]; rfl⟩, fun h => ⟨rfl, by rw [h]; rfl⟩⟩, ?_⟩
  rintro _ rfl
  refine ⟨hr.den.few, ?_⟩
  rintro _ rfl
  rw [dec_one]
  unfold rfmt at hk
  refine ⟨fun h => ?_, fun h => ?_⟩
  · have h : r.den ≠ 1 := by simpa using h
    rw [if_neg h] at hk
    refine ⟨by omega, ?_, hk⟩
    simp only [List.length_append, List.length_cons, List.length_nil]
    have : (if rneg r then [45] else [] : List Int).length ≤ 1 := by split <;> simp
    omega
  · have h : r.den = 1 := by simpa using h
    rw [if_pos h, List.append_nil] at hk
    exact hk
def parseTail (g : Bool) (v0 : List Int) (K : TV → Prop) : Prop := ∃ (J : Int → Prop), (∃ (I : Int → Prop), ∃ (m : Int → Nat), ((false, OB.cells [TV.d (AV.bool false), TV.emp, TV.emp]) = (false, OB.cells [TV.d (AV.bool false), TV.emp, TV.emp]) ∧ I (0 : Int)) ∧ ∀ (v5 : Int), I v5 → (decide (v5 < (Nat.cast : Nat → Int) (List.length v0)) = true → (0 : Int) ≤ v5 ∧ v5 < (Nat.cast : Nat → Int) (List.length v0) ∧ ((!decide (List.getD v0 (Int.toNat v5) (0 : Int) = (47 : Int))) = true → (false, OB.cells [TV.d (AV.bool false), TV.emp, TV.emp]) = (false, OB.cells [TV.d (AV.bool false), TV.emp, TV.emp]) ∧ I (IntKind.wrap IntKind.i64 (v5 + (1 : Int))) ∧ m (IntKind.wrap IntKind.i64 (v5 + (1 : Int))) < m v5) ∧ ((!decide (List.getD v0 (Int.toNat v5) (0 : Int) = (47 : Int))) = false → (false, OB.cells [TV.d (AV.bool false), TV.emp, TV.emp]) = (false, OB.cells [TV.d (AV.bool false), TV.emp, TV.emp]) ∧ J v5)) ∧ (decide (v5 < (Nat.cast : Nat → Int) (List.length v0)) = false → (false, OB.cells [TV.d (AV.bool false), TV.emp, TV.emp]) = (false, OB.cells [TV.d (AV.bool false), TV.emp, TV.emp]) ∧ J v5)) ∧ ∀ (v5 : Int), J v5 → (0 : Int) ≤ v5 ∧ v5 ≤ (Nat.cast : Nat → Int) (List.length v0) ∧ List.length (List.take (Int.toNat v5) v0) ≤ (1000000000000 : Nat) ∧ ∀ (x : List Int), x = Nt.parseV (List.take (Int.toNat v5) v0) → ∀ (x_1 : Int), x_1 = Nt.parseE (List.take (Int.toNat v5) v0) → (decide (x_1 = (4 : Int)) = true → K (TV.tup [TV.agg [TV.d (AV.bool false), TV.d (AV.ints IntKind.u32 []), TV.d (AV.ints IntKind.u32 [])], TV.d (AV.int IntKind.i64 x_1)])) ∧ (decide (x_1 = (4 : Int)) = false → ∃ (J : List Int → Int → Prop), ((decide (v5 < (Nat.cast : Nat → Int) (List.length v0)) = true → (0 : Int) ≤ IntKind.wrap IntKind.i64 (v5 + (1 : Int)) ∧ IntKind.wrap IntKind.i64 (v5 + (1 : Int)) ≤ (Nat.cast : Nat → Int) (List.length v0) ∧ List.length (List.drop (Int.toNat (IntKind.wrap IntKind.i64 (v5 + (1 : Int)))) v0) ≤ (1000000000000 : Nat) ∧ ∀ (x : List Int), x = Nt.parseV (List.drop (Int.toNat (IntKind.wrap IntKind.i64 (v5 + (1 : Int)))) v0) → ∀ (x_2 : Int), x_2 = Nt.parseE (List.drop (Int.toNat (IntKind.wrap IntKind.i64 (v5 + (1 : Int)))) v0) → (false, OB.cells [TV.d (AV.bool false), TV.emp, TV.emp]) = (false, OB.cells [TV.d (AV.bool false), TV.emp, TV.emp]) ∧ J x x_2) ∧ (decide (v5 < (Nat.cast : Nat → Int) (List.length v0)) = false → (false, OB.cells [TV.d (AV.bool false), TV.emp, TV.emp]) = (false, OB.cells [TV.d (AV.bool false), TV.emp, TV.emp]) ∧ J [(1 : Int)] (0 : Int))) ∧ ∀ (v8 : List Int) (v9 : Int), J v8 v9 → (decide (v9 = (4 : Int)) = true → K (TV.tup [TV.agg [TV.d (AV.bool false), TV.d (AV.ints IntKind.u32 []), TV.d (AV.ints IntKind.u32 [])], TV.d (AV.int IntKind.i64 v9)])) ∧ (decide (v9 = (4 : Int)) = false → ((!decide (x_1 = (0 : Int))) = true → K (TV.tup [TV.agg [TV.d (AV.bool false), TV.d (AV.ints IntKind.u32 []), TV.d (AV.ints IntKind.u32 [])], TV.d (AV.int IntKind.i64 (9 : Int))])) ∧ ((!decide (x_1 = (0 : Int))) = false → ((!decide (v9 = (0 : Int))) = true → K (TV.tup [TV.agg [TV.d (AV.bool false), TV.d (AV.ints IntKind.u32 []), TV.d (AV.ints IntKind.u32 [])], TV.d (AV.int IntKind.i64 (9 : Int))])) ∧ ((!decide (v9 = (0 : Int))) = false → (Nt.Sm (90000000 : Nat) x ∧ Nt.Sm (90000000 : Nat) v8) ∧ ∀ (x_2 : Bool), x_2 = Nt.oneg (!decide (Nt.val v8 = (0 : Nat))) (Nt.rv g x v8) → ∀ (x_3 : List Int), x_3 = Nt.onum (!decide (Nt.val v8 = (0 : Nat))) (Nt.rv g x v8) → ∀ (x_4 : List Int), x_4 = Nt.oden (!decide (Nt.val v8 = (0 : Nat))) (Nt.rv g x v8) → ∀ (x : Int), (x = if Nt.val v8 = (0 : Nat) then (3 : Int) else (0 : Int)) → K (TV.tup [TV.agg [TV.d (AV.bool x_2), TV.d (AV.ints IntKind.u32 x_3), TV.d (AV.ints IntKind.u32 x_4)], TV.d (AV.int IntKind.i64 x)])))))
theorem cut_at : ∀ (s : List Int) (i : Nat), i ≤ s.length → (∀ j, j < i → s.getD j 0 ≠ 47) → (i = s.length ∨ s.getD i 0 = 47) → s.take i = cutA s ∧ cutO s = decide (i < s.length) ∧ (cutO s = true → cutB s = s.drop (i + 1))
  | [], i, h, _, _ => by
    obtain rfl : i = 0 := by simpa using h
    simp [cutA, cutO]
  | x :: r, 0, _, _, h => by
    rcases h with h | h
    · simp at h
    · have h : x = 47 := h
      simp [cutA, cutO, cutB, h]
  | x :: r, i + 1, h1, h2, h3 => by
    have hx : x ≠ 47 := h2 0 (by omega)
    obtain ⟨e1, e2, e3⟩ := cut_at r i (by simpa using h1) (fun j hj => h2 (j + 1) (by omega)) (h3.imp (fun h => by simpa using h) (fun h => h))
    unfold cutA cutO cutB
    simp only [if_neg hx]
    refine ⟨by rw [← e1]; rfl, by rw [e2]; exact decide_eq_decide.2 (by simp), fun h => by rw [e3 h]; rfl⟩
theorem parse_sm (s : List Int) : Sm 60 (parseV s) := by
  unfold parseV
  split
  · rename_i h
    refine sm_limbs ?_
    have h1 := pv_lt s (isDec_get h.1) s.length (Nat.le_refl _)
    rw [List.take_length] at h1
    have h2 : (10 : Nat) ^ s.length ≤ 10 ^ 60 := Nat.pow_le_pow_right (by decide) h.2
    exact Nat.lt_of_lt_of_le h1 (Nat.le_trans h2 (by decide))
  · exact ⟨few_nil.1, by decide⟩
theorem p_parseTail (s : List Int) (K : TV → Prop) (h : crParse.T [.d (.str s)] K) : parseTail (preO s) (preS s) K := by
  obtain ⟨hl, hk⟩ := h
  unfold parseTail
  unfold oneg onum oden at hk
  have hpl := pre_len s
  have la := cutA_len (preS s)
  have lb := cutB_len (preS s)
  have hE : parseE (cutA (preS s)) = pnE s := rfl
  have hN : val (parseV (cutA (preS s))) = pnV s := rfl
  have fin : ∀ (i : Nat), i ≤ (preS s).length → (preS s).take i = cutA (preS s) ∧ cutO (preS s) = decide (i < (preS s).length) ∧ (cutO (preS s) = true → cutB (preS s) = (preS s).drop (i + 1)) → ∃ j : Nat, j = i ∧ j ≤ (preS s).length ∧ (preS s).take j = cutA (preS s) ∧ cutO (preS s) = decide (j < (preS s).length) ∧ (cutO (preS s) = true → cutB (preS s) = (preS s).drop (j + 1)) := fun i h h2 => ⟨i, rfl, h, h2⟩
  refine ⟨fun v => ∃ j : Nat, v = j ∧ j ≤ (preS s).length ∧ (preS s).take j = cutA (preS s) ∧ cutO (preS s) = decide (j < (preS s).length) ∧ (cutO (preS s) = true → cutB (preS s) = (preS s).drop (j + 1)),
    ⟨fun v => ∃ j : Nat, v = j ∧ j ≤ (preS s).length ∧ ∀ k, k < j → (preS s).getD k 0 ≠ 47, fun v => ((preS s).length - v).toNat, ⟨rfl, 0, rfl, by omega, fun k hk => by omega⟩, ?_⟩, ?_⟩
  · rintro _ ⟨j, rfl, hj, hh⟩
    refine ⟨fun h => ?_, fun h => ?_⟩
    · have h := of_decide_eq_true h
      refine ⟨by omega, h, ?_⟩
      rw [Int.toNat_natCast, w64 (x := (j : Int) + 1) (by omega)]
      refine ⟨fun h2 => ⟨rfl, ⟨j + 1, by omega, by omega, fun k hk => ?_⟩, by dsimp only; omega⟩, fun h2 => ⟨rfl, j, rfl, hj, ?_⟩⟩
      · by_cases hkj : k = j
        · subst hkj; simpa using h2
        · exact hh k (by omega)
      · exact cut_at _ j hj hh (.inr (by simpa using h2))
    · have h := of_decide_eq_false h
      refine ⟨rfl, j, rfl, hj, cut_at _ j hj hh (.inl (by omega))⟩
  · rintro _ ⟨j, rfl, hj, c1, c2, c3⟩
    rw [Int.toNat_natCast, c1]
    refine ⟨by omega, by omega, by omega, ?_⟩
    rintro _ rfl _ rfl
    rw [hE]
    refine ⟨fun h => ?_, fun h => ?_⟩
    · have h := of_decide_eq_true h
      have e : rpE s = 4 := by unfold rpE; rw [if_pos (.inl h)]
      rw [e] at hk
      rw [h]; exact hk
    have h := of_decide_eq_false h
    refine ⟨fun v w => val v = pdV s ∧ Sm 60 v ∧ w = pdE s, ⟨fun h1 => ?_, fun h1 => ?_⟩, ?_⟩
    · have h1 := of_decide_eq_true h1
      have ho : cutO (preS s) = true := by rw [c2]; exact decide_eq_true (by omega)
      rw [w64 (x := (j : Int) + 1) (by omega), show ((j : Int) + 1).toNat = j + 1 by omega, ← c3 ho]
      refine ⟨by omega, by omega, by omega, ?_⟩
      rintro _ rfl _ rfl
      refine ⟨rfl, ?_, parse_sm _, ?_⟩
      · unfold pdV; rw [if_pos ho]
      · unfold pdE; rw [if_pos ho]
    · have h1 := of_decide_eq_false h1
      have ho : ¬ cutO (preS s) = true := by rw [c2]; simp; omega
      refine ⟨rfl, ?_, ⟨few_one.1, by decide⟩, ?_⟩
      · unfold pdV; rw [if_neg ho]; rfl
      · unfold pdE; rw [if_neg ho]
    rintro v _ ⟨hv, sv, rfl⟩
    refine ⟨fun h2 => ?_, fun h2 => ⟨fun h3 => ?_, fun h3 => ⟨fun h4 => ?_, fun h4 => ⟨⟨(parse_sm _).mono (by decide), sv.mono (by decide)⟩, ?_⟩⟩⟩⟩
    · have h2 := of_decide_eq_true h2
      have e : rpE s = 4 := by unfold rpE; rw [if_pos (.inr h2)]
      rw [e] at hk
      rw [h2]; exact hk
    · have h2 := of_decide_eq_false h2
      have h3 : pnE s ≠ 0 := by simpa using h3
      have e : rpE s = 9 := by unfold rpE; rw [if_neg (by rintro (h | h) <;> contradiction), if_pos (.inl h3)]
      rw [e] at hk; exact hk
    · have h2 := of_decide_eq_false h2
      have h4 : pdE s ≠ 0 := by simpa using h4
      have e : rpE s = 9 := by unfold rpE; rw [if_neg (by rintro (h | h) <;> contradiction), if_pos (.inr h4)]
      rw [e] at hk; exact hk
    · have h2 := of_decide_eq_false h2
      have h3 : pnE s = 0 := by simpa using h3
      have h4 : pdE s = 0 := by simpa using h4
      have e : rpE s = if pdV s = 0 then 3 else 0 := by unfold rpE; rw [if_neg (by rintro (h | h) <;> contradiction), if_neg (by rintro (h | h) <;> contradiction)]
      rw [e] at hk
      have er : rv (preO s) (parseV (cutA (preS s))) v = rpR s := by
        unfold rv rpR
        rw [hN, hv]
      rw [er, hv]
      rintro _ rfl _ rfl _ rfl _ rfl
      have e5 : (decide ((if pdV s = 0 then (3 : Int) else 0) = 0)) = (!decide (pdV s = 0)) := by
        by_cases hh : pdV s = 0 <;> simp [hh]
      rw [e5] at hk; exact hk
theorem p_nqParse (s : List Int) (K : TV → Prop) (h : crParse.T [.d (.str s)] K) : vc_nqParse s K := by
  have t := p_parseTail s K h
  refine ⟨fun h0 => ?_, fun h0 => ?_⟩
  · have h0 := of_decide_eq_true h0
    refine ⟨by omega, h0, fun v => v = preS s, ⟨fun h1 => ⟨by omega, by omega, rfl, ?_⟩, fun h1 => ⟨rfl, ?_⟩⟩, ?_⟩
    · unfold preS preO; rw [if_pos h1]
    · unfold preS preO; rw [if_neg (by rw [h1]; decide)]
    · rintro _ rfl
      exact t
  · have h0 := of_decide_eq_false h0
    obtain rfl : s = [] := List.length_eq_zero_iff.1 (by omega)
    refine ⟨fun v => v = [], ⟨rfl, rfl⟩, ?_⟩
    rintro _ rfl
    exact t
end Nt
end

section
/- Verification conditions, printed. -/
open Go Go.Vc
namespace Nt
def vc_n__mkSrc__Range : List Int → Int → Int → Int → Int → (OB → TV → Prop) → Prop :=
 fun (l : List Int) (a s x y : Int) (K : OB → TV → Prop) => (Nt.StOk l a ∧ Nt.i64 (IntKind.wrap IntKind.i64 (IntKind.wrap IntKind.i64 (y - x) + (1 : Int)))) ∧ K (OB.cells [TV.d (AV.ints IntKind.i64 l), TV.d (AV.int IntKind.i64 (Nt.numA l a (IntKind.wrap IntKind.i64 (IntKind.wrap IntKind.i64 (y - x) + (1 : Int))))), TV.d (AV.int IntKind.i64 s)]) (TV.d (AV.int IntKind.i64 (IntKind.wrap IntKind.i64 (x + Nt.numV l a (IntKind.wrap IntKind.i64 (IntKind.wrap IntKind.i64 (y - x) + (1 : Int)))))))

def vc_n__mkSrc__Rat : List Int → Int → Int → (OB → TV → Prop) → Prop :=
 fun (l : List Int) (a s : Int) (K : OB → TV → Prop) => (Nt.StOk l a ∧ (-1000000000 : Int) ≤ (-6 : Int) ∧ (-6 : Int) ≤ (6 : Int) ∧ (6 : Int) ≤ (1000000000 : Int)) ∧ ∀ (x : List Int), x = l → ∀ (x_1 : Int), x_1 = Nt.numA l a (13 : Int)
 → ∀ (x_2 : Int), x_2 = s → ∀ (x_3 : Int), x_3 = Nt.rangeV l a (-6 : Int) (6 : Int) → (Nt.StOk x x_1 ∧ (-1000000000 : Int) ≤ (1 : Int) ∧ (1 : Int) ≤ (5 : Int) ∧ (5 : Int) ≤ (1000000000 : Int)) ∧ ∀ (x_4 : List Int), x_4 = x
 → ∀ (x_5 : Int), x_5 = Nt.numA x x_1 (5 : Int) → ∀ (x_6 : Int), x_6 = x_2 → ∀ (x_7 : Int), x_7 = Nt.rangeV x x_1 (1 : Int) (5 : Int) → (Nt.i64 x_3 ∧ Nt.i64 x_7) ∧ ∀ (x : Bool), x = Nt.oneg (!decide (x_7 = (0 : Int))) (Rat.divInt x_3 x_7)
 → ∀ (x_8 : List Int), x_8 = Nt.onum (!decide (x_7 = (0 : Int))) (Rat.divInt x_3 x_7) → ∀ (x_9 : List Int), x_9 = Nt.oden (!decide (x_7 = (0 : Int))) (Rat.divInt x_3 x_7) → ∀ (x_10 : Int), (x_10 = if x_7 = (0 : Int) then (3 : Int) else (0 : Int))
 → K (OB.cells [TV.d (AV.ints IntKind.i64 x_4), TV.d (AV.int IntKind.i64 x_5), TV.d (AV.int IntKind.i64 x_6)]) (TV.agg [TV.d (AV.bool x), TV.d (AV.ints IntKind.u32 x_8), TV.d (AV.ints IntKind.u32 x_9)])

def vc_n__mkSrc__Loose : List Int → Int → Int → (OB → TV → Prop) → Prop :=
 fun (l : List Int) (a s : Int) (K : OB → TV → Prop) => (Nt.StOk l a ∧ Nt.i64 (4 : Int)) ∧ ∀ (x : List Int), x = l → ∀ (x_1 : Int), x_1 = Nt.numA l a (4 : Int) → ∀ (x_2 : Int), x_2 = s → ∀ (x_3 : Int), x_3 = Nt.numV l a (4 : Int)
 → (decide (x_3 = (0 : Int)) = true → Nt.StOk x x_1 ∧ ∀ (x_4 : List Int), x_4 = x → ∀ (x_5 : Int), x_5 = Nt.ratA x x_1 → ∀ (x_6 : Int), x_6 = x_2 → ∀ (x_7 : Bool), x_7 = Nt.rneg (Nt.ratV x x_1) → ∀ (x_8 : List Int), x_8 = Nt.rnum (Nt.ratV x x_1)
 → ∀ (x_9 : List Int), x_9 = Nt.rden (Nt.ratV x x_1) → K (OB.cells [TV.d (AV.ints IntKind.i64 x_4), TV.d (AV.int IntKind.i64 x_5), TV.d (AV.int IntKind.i64 x_6)]) (TV.agg [TV.d (AV.bool x_7), TV.d (AV.ints IntKind.u32 x_8), TV.d (AV.ints IntKind.u32 x_9)]))
 ∧ (decide (x_3 = (0 : Int)) = false → (decide (x_3 = (1 : Int)) = true → (Nt.StOk x x_1 ∧ Nt.i64 (2 : Int)) ∧ ∀ (x_4 : List Int), x_4 = x → ∀ (x_5 : Int), x_5 = Nt.numA x x_1 (2 : Int) → ∀ (x_6 : Int), x_6 = x_2
 → ∀ (x_7 : Int), x_7 = Nt.numV x x_1 (2 : Int) → Nt.StOk x_4 x_5 ∧ ∀ (x : List Int), x = x_4 → ∀ (x_8 : Int), x_8 = (Nt.limbsF x_4 x_5).2 → ∀ (x_9 : Int), x_9 = x_6 → ∀ (x_10 : List Int), x_10 = (Nt.limbsF x_4 x_5).1
 → Nt.StOk x x_8 ∧ ∀ (x_11 : List Int), x_11 = x → ∀ (x_12 : Int), x_12 = (Nt.limbsF x x_8).2 → ∀ (x_13 : Int), x_13 = x_9 → ∀ (x_14 : List Int), x_14 = (Nt.limbsF x x_8).1 → K (OB.cells [TV.d (AV.ints IntKind.i64 x_11), TV.d (AV.int IntKind.i64 x_12), TV.d (AV.int IntKind.i64 x_13)]) (TV.agg [TV.d (AV.bool (decide (x_7 = (0 : Int)))), TV.d (AV.ints IntKind.u32 x_10), TV.d (AV.ints IntKind.u32 x_14)]))
 ∧ (decide (x_3 = (1 : Int)) = false → (Nt.StOk x x_1 ∧ (-1000000000 : Int) ≤ (1 : Int) ∧ (1 : Int) ≤ (6 : Int) ∧ (6 : Int) ≤ (1000000000 : Int)) ∧ ∀ (x_4 : List Int), x_4 = x → ∀ (x_5 : Int), x_5 = Nt.numA x x_1 (6 : Int)
 → ∀ (x_6 : Int), x_6 = x_2 → ∀ (x_7 : Int), x_7 = Nt.rangeV x x_1 (1 : Int) (6 : Int) → (Nt.StOk x_4 x_5 ∧ Nt.i64 (2 : Int)) ∧ ∀ (x : List Int), x = x_4 → ∀ (x_8 : Int), x_8 = Nt.numA x_4 x_5 (2 : Int)
 → ∀ (x_9 : Int), x_9 = x_6 → ∀ (x_10 : Int), x_10 = Nt.numV x_4 x_5 (2 : Int) → (Nt.StOk x x_8 ∧ Nt.i64 (9 : Int)) ∧ ∀ (x_11 : List Int), x_11 = x → ∀ (x_12 : Int), x_12 = Nt.numA x x_8 (9 : Int) → ∀ (x_13 : Int), x_13 = x_9
 → ∀ (x_14 : Int), x_14 = Nt.numV x x_8 (9 : Int) → (Nt.StOk x_11 x_12 ∧ Nt.i64 (6 : Int)) ∧ ∀ (x : List Int), x = x_11 → ∀ (x_15 : Int), x_15 = Nt.numA x_11 x_12 (6 : Int) → ∀ (x_16 : Int), x_16 = x_13
 → ∀ (x_17 : Int), x_17 = Nt.numV x_11 x_12 (6 : Int) → K (OB.cells [TV.d (AV.ints IntKind.i64 x), TV.d (AV.int IntKind.i64 x_15), TV.d (AV.int IntKind.i64 x_16)]) (TV.agg [TV.d (AV.bool (decide (x_10 = (0 : Int)))), TV.d (AV.ints IntKind.u32 [IntKind.wrap IntKind.u32 (IntKind.wrap IntKind.u32 x_7 * IntKind.wrap IntKind.u32 x_14), (0 : Int)]), TV.d (AV.ints IntKind.u32 [IntKind.wrap IntKind.u32 (IntKind.wrap IntKind.u32 x_7 * IntKind.wrap IntKind.u32 x_17)])])))

def vc_nrefNormal : List Int → (TV → Prop) → Prop :=
 fun (a : List Int) (K : TV → Prop) => (decide ((Nat.cast : Nat → Int) (List.length a) = (0 : Int)) = true → K (TV.d (AV.bool true))) ∧ (decide ((Nat.cast : Nat → Int) (List.length a) = (0 : Int)) = false
 → (0 : Int) ≤ IntKind.wrap IntKind.i64 ((Nat.cast : Nat → Int) (List.length a) - (1 : Int)) ∧ IntKind.wrap IntKind.i64 ((Nat.cast : Nat → Int) (List.length a) - (1 : Int)) < (Nat.cast : Nat → Int) (List.length a)
 ∧ K (TV.d (AV.bool !decide (List.getD a (Int.toNat (IntKind.wrap IntKind.i64 ((Nat.cast : Nat → Int) (List.length a) - (1 : Int)))) (0 : Int) = (0 : Int)))))

def vc_nlaw2short : Bool → List Int → List Int → (TV → Prop) → Prop :=
 fun (_ : Bool) (a b : List Int) (K : TV → Prop) => (decide ((Nat.cast : Nat → Int) (List.length a) ≤ (12 : Int)) = true → K (TV.d (AV.bool (decide ((Nat.cast : Nat → Int) (List.length b) ≤ (12 : Int))))))
 ∧ (decide ((Nat.cast : Nat → Int) (List.length a) ≤ (12 : Int)) = false → K (TV.d (AV.bool false)))

def vc_nlaw2awake : (TV → Prop) → Prop :=
 fun (K : TV → Prop) => (Nt.i64 (1 : Int) ∧ Nt.i64 (6 : Int)) ∧ ∀ (x : Bool), x = Nt.oneg (!decide ((6 : Int) = (0 : Int))) (Rat.divInt (1 : Int) (6 : Int)) → ∀ (x_1 : List Int), x_1 = Nt.onum (!decide ((6 : Int) = (0 : Int))) (Rat.divInt (1 : Int) (6 : Int))
 → ∀ (x_2 : List Int), x_2 = Nt.oden (!decide ((6 : Int) = (0 : Int))) (Rat.divInt (1 : Int) (6 : Int)) → ∀ (x_3 : Int), x_3 = (0 : Int) → (Nt.i64 (1 : Int) ∧ Nt.i64 (3 : Int)) ∧ ∀ (x_4 : Bool), x_4 = Nt.oneg (!decide ((3 : Int) = (0 : Int))) (Rat.divInt (1 : Int) (3 : Int))
 → ∀ (x_5 : List Int), x_5 = Nt.onum (!decide ((3 : Int) = (0 : Int))) (Rat.divInt (1 : Int) (3 : Int)) → ∀ (x_6 : List Int), x_6 = Nt.oden (!decide ((3 : Int) = (0 : Int))) (Rat.divInt (1 : Int) (3 : Int))
 → ∀ (x_7 : Int), x_7 = (0 : Int) → (decide (x_3 = (0 : Int)) = true → (decide (x_7 = (0 : Int)) = true → (Nt.Sm (1000000 : Nat) x_1 ∧ Nt.Sm (1000000 : Nat) x_2 ∧ Nt.Sm (1000000 : Nat) x_5 ∧ Nt.Sm (1000000 : Nat) x_6)
 ∧ ∀ (x_8 : Bool), x_8 = Nt.rneg (Nt.rv x x_1 x_2 + Nt.rv x_4 x_5 x_6) → ∀ (x_9 : List Int), x_9 = Nt.rnum (Nt.rv x x_1 x_2 + Nt.rv x_4 x_5 x_6) → ∀ (x_10 : List Int), x_10 = Nt.rden (Nt.rv x x_1 x_2 + Nt.rv x_4 x_5 x_6)
 → (Nt.Sm (1000000 : Nat) x_9 ∧ Nt.Sm (1000000 : Nat) x_10) ∧ ∀ (x : List Int), x = Nt.rfmt (Nt.rv x_8 x_9 x_10) → K (TV.d (AV.bool (decide (x = [(49 : Int), (47 : Int), (50 : Int)]))))) ∧ (decide (x_7 = (0 : Int)) = false
 → K (TV.d (AV.bool false)))) ∧ (decide (x_3 = (0 : Int)) = false → K (TV.d (AV.bool false)))

def vc_nlaw2agrees : Bool → List Int → List Int → Bool → List Int → List Int → (TV → Prop) → Prop :=
 fun (s : Bool) (a b : List Int) (t : Bool) (c d : List Int) (K : TV → Prop) => (Nt.Sm (1000000 : Nat) a ∧ Nt.Sm (1000000 : Nat) b ∧ Nt.Sm (1000000 : Nat) c ∧ Nt.Sm (1000000 : Nat) d) ∧ ∀ (x : Bool), x = Nt.oneg (!Nt.rz (Nt.rv t c d)) (Nt.rv s a b / Nt.rv t c d)
 → ∀ (x_1 : List Int), x_1 = Nt.onum (!Nt.rz (Nt.rv t c d)) (Nt.rv s a b / Nt.rv t c d) → ∀ (x_2 : List Int), x_2 = Nt.oden (!Nt.rz (Nt.rv t c d)) (Nt.rv s a b / Nt.rv t c d) → ∀ (x_3 : Int), (x_3 = if Nt.rz (Nt.rv t c d) = true then (3 : Int) else (0 : Int))
 → (Nt.Sm (1000000 : Nat) a ∧ Nt.Sm (1000000 : Nat) b ∧ Nt.Sm (1000000 : Nat) c ∧ Nt.Sm (1000000 : Nat) d) ∧ ∀ (x_4 : Bool), x_4 = Nt.oneg (!Nt.rz (Nt.rv t c d)) (Nt.rv s a b / Nt.rv t c d) → ∀ (x_5 : List Int), x_5 = Nt.onum (!Nt.rz (Nt.rv t c d)) (Nt.rv s a b / Nt.rv t c d)
 → ∀ (x_6 : List Int), x_6 = Nt.oden (!Nt.rz (Nt.rv t c d)) (Nt.rv s a b / Nt.rv t c d) → ∀ (x_7 : Int), (x_7 = if Nt.rz (Nt.rv t c d) = true then (3 : Int) else (0 : Int)) → (Nt.Few a ∧ Nt.Few b) ∧ ∀ (x_8 : Bool), x_8 = Nt.rneg (Nt.rv s a b)
 → ∀ (x_9 : List Int), x_9 = Nt.rnum (Nt.rv s a b) → ∀ (x_10 : List Int), x_10 = Nt.rden (Nt.rv s a b) → (Nt.Sm (90000000 : Nat) a ∧ Nt.Sm (90000000 : Nat) b) ∧ ∀ (x_11 : Bool), x_11 = Nt.rneg (Nt.rv s a b)
 → ∀ (x_12 : List Int), x_12 = Nt.rnum (Nt.rv s a b) → ∀ (x_13 : List Int), x_13 = Nt.rden (Nt.rv s a b) → (List.length x_9 ≤ (1000000000 : Nat) ∧ List.length x_10 ≤ (1000000000 : Nat) ∧ List.length x_12 ≤ (1000000000 : Nat)
 ∧ List.length x_13 ≤ (1000000000 : Nat)) ∧ ∀ (x_14 : Bool), x_14 = decide (x_8 = x_11 ∧ x_9 = x_12 ∧ x_10 = x_13) → (x_14 = true → (Nt.Sm (1000000 : Nat) a ∧ Nt.Sm (1000000 : Nat) b ∧ Nt.Sm (1000000 : Nat) c
 ∧ Nt.Sm (1000000 : Nat) d) ∧ ∀ (x_15 : Bool), x_15 = Nt.rneg (Nt.rv s a b + Nt.rv t c d) → ∀ (x_16 : List Int), x_16 = Nt.rnum (Nt.rv s a b + Nt.rv t c d) → ∀ (x_17 : List Int), x_17 = Nt.rden (Nt.rv s a b + Nt.rv t c d)
 → (Nt.Sm (1000000 : Nat) a ∧ Nt.Sm (1000000 : Nat) b ∧ Nt.Sm (1000000 : Nat) c ∧ Nt.Sm (1000000 : Nat) d) ∧ ∀ (x_18 : Bool), x_18 = Nt.rneg (Nt.rv s a b + Nt.rv t c d) → ∀ (x_19 : List Int), x_19 = Nt.rnum (Nt.rv s a b + Nt.rv t c d)
 → ∀ (x_20 : List Int), x_20 = Nt.rden (Nt.rv s a b + Nt.rv t c d) → (List.length x_16 ≤ (1000000000 : Nat) ∧ List.length x_17 ≤ (1000000000 : Nat) ∧ List.length x_19 ≤ (1000000000 : Nat) ∧ List.length x_20 ≤ (1000000000 : Nat))
 ∧ ∀ (x_21 : Bool), x_21 = decide (x_15 = x_18 ∧ x_16 = x_19 ∧ x_17 = x_20) → (x_21 = true → (Nt.Sm (1000000 : Nat) a ∧ Nt.Sm (1000000 : Nat) b ∧ Nt.Sm (1000000 : Nat) c ∧ Nt.Sm (1000000 : Nat) d) ∧ ∀ (x_22 : Bool), x_22 = Nt.rneg (Nt.rv s a b - Nt.rv t c d)
 → ∀ (x_23 : List Int), x_23 = Nt.rnum (Nt.rv s a b - Nt.rv t c d) → ∀ (x_24 : List Int), x_24 = Nt.rden (Nt.rv s a b - Nt.rv t c d) → (Nt.Sm (1000000 : Nat) a ∧ Nt.Sm (1000000 : Nat) b ∧ Nt.Sm (1000000 : Nat) c
 ∧ Nt.Sm (1000000 : Nat) d) ∧ ∀ (x_25 : Bool), x_25 = Nt.rneg (Nt.rv s a b - Nt.rv t c d) → ∀ (x_26 : List Int), x_26 = Nt.rnum (Nt.rv s a b - Nt.rv t c d) → ∀ (x_27 : List Int), x_27 = Nt.rden (Nt.rv s a b - Nt.rv t c d)
 → (List.length x_23 ≤ (1000000000 : Nat) ∧ List.length x_24 ≤ (1000000000 : Nat) ∧ List.length x_26 ≤ (1000000000 : Nat) ∧ List.length x_27 ≤ (1000000000 : Nat)) ∧ ∀ (x_28 : Bool), x_28 = decide (x_22 = x_25
 ∧ x_23 = x_26 ∧ x_24 = x_27) → (x_28 = true → (Nt.Sm (1000000 : Nat) a ∧ Nt.Sm (1000000 : Nat) b ∧ Nt.Sm (1000000 : Nat) c ∧ Nt.Sm (1000000 : Nat) d) ∧ ∀ (x_29 : Bool), x_29 = Nt.rneg (Nt.rv s a b * Nt.rv t c d)
 → ∀ (x_30 : List Int), x_30 = Nt.rnum (Nt.rv s a b * Nt.rv t c d) → ∀ (x_31 : List Int), x_31 = Nt.rden (Nt.rv s a b * Nt.rv t c d) → (Nt.Sm (1000000 : Nat) a ∧ Nt.Sm (1000000 : Nat) b ∧ Nt.Sm (1000000 : Nat) c
 ∧ Nt.Sm (1000000 : Nat) d) ∧ ∀ (x_32 : Bool), x_32 = Nt.rneg (Nt.rv s a b * Nt.rv t c d) → ∀ (x_33 : List Int), x_33 = Nt.rnum (Nt.rv s a b * Nt.rv t c d) → ∀ (x_34 : List Int), x_34 = Nt.rden (Nt.rv s a b * Nt.rv t c d)
 → (List.length x_30 ≤ (1000000000 : Nat) ∧ List.length x_31 ≤ (1000000000 : Nat) ∧ List.length x_33 ≤ (1000000000 : Nat) ∧ List.length x_34 ≤ (1000000000 : Nat)) ∧ ∀ (x_35 : Bool), x_35 = decide (x_29 = x_32
 ∧ x_30 = x_33 ∧ x_31 = x_34) → (x_35 = true → (decide (x_3 = x_7) = true → (List.length x_1 ≤ (1000000000 : Nat) ∧ List.length x_2 ≤ (1000000000 : Nat) ∧ List.length x_5 ≤ (1000000000 : Nat) ∧ List.length x_6 ≤ (1000000000 : Nat))
 ∧ ∀ (x_36 : Bool), x_36 = decide (x = x_4 ∧ x_1 = x_5 ∧ x_2 = x_6) → (x_36 = true → (Nt.Sm (1000000 : Nat) a ∧ Nt.Sm (1000000 : Nat) b) ∧ ∀ (x : Bool), x = Nt.rneg (-Nt.rv s a b) → ∀ (x_37 : List Int), x_37 = Nt.rnum (-Nt.rv s a b)
 → ∀ (x_38 : List Int), x_38 = Nt.rden (-Nt.rv s a b) → (Nt.Sm (1000000 : Nat) a ∧ Nt.Sm (1000000 : Nat) b) ∧ ∀ (x_39 : Bool), x_39 = Nt.rneg (-Nt.rv s a b) → ∀ (x_40 : List Int), x_40 = Nt.rnum (-Nt.rv s a b)
 → ∀ (x_41 : List Int), x_41 = Nt.rden (-Nt.rv s a b) → (List.length x_37 ≤ (1000000000 : Nat) ∧ List.length x_38 ≤ (1000000000 : Nat) ∧ List.length x_40 ≤ (1000000000 : Nat) ∧ List.length x_41 ≤ (1000000000 : Nat))
 ∧ ∀ (x_42 : Bool), x_42 = decide (x = x_39 ∧ x_37 = x_40 ∧ x_38 = x_41) → (x_42 = true → (Nt.Sm (1000000 : Nat) a ∧ Nt.Sm (1000000 : Nat) b ∧ Nt.Sm (1000000 : Nat) c ∧ Nt.Sm (1000000 : Nat) d) ∧ ∀ (x : Int), x = Nt.sgn (Nt.rv s a b - Nt.rv t c d)
 → (Nt.Sm (1000000 : Nat) a ∧ Nt.Sm (1000000 : Nat) b ∧ Nt.Sm (1000000 : Nat) c ∧ Nt.Sm (1000000 : Nat) d) ∧ ∀ (x_43 : Int), x_43 = Nt.sgn (Nt.rv s a b - Nt.rv t c d) → (decide (x = x_43) = true → (Nt.Few a
 ∧ Nt.Few b) ∧ ∀ (x : Int), x = Nt.sgn (Nt.rv s a b) → (Nt.Sm (90000000 : Nat) a ∧ Nt.Sm (90000000 : Nat) b) ∧ ∀ (x_44 : Int), x_44 = Nt.sgn (Nt.rv s a b) → (decide (x = x_44) = true → (Nt.Sm (1000000 : Nat) a
 ∧ Nt.Sm (1000000 : Nat) b ∧ Nt.Sm (1000000 : Nat) c ∧ Nt.Sm (1000000 : Nat) d) ∧ ∀ (x : Bool), x = decide (Nt.rv s a b = Nt.rv t c d) → (Nt.Sm (1000000 : Nat) a ∧ Nt.Sm (1000000 : Nat) b ∧ Nt.Sm (1000000 : Nat) c
 ∧ Nt.Sm (1000000 : Nat) d) ∧ ∀ (x_45 : Bool), x_45 = decide (Nt.rv s a b = Nt.rv t c d) → ((x == x_45) = true → (Nt.Sm (1000000 : Nat) a ∧ Nt.Sm (1000000 : Nat) b) ∧ ∀ (x : List Int), x = Nt.rfmt (Nt.rv s a b)
 → (Nt.Sm (1000000 : Nat) a ∧ Nt.Sm (1000000 : Nat) b) ∧ ∀ (x_46 : List Int), x_46 = Nt.rfmt (Nt.rv s a b) → K (TV.d (AV.bool (decide (x = x_46))))) ∧ ((x == x_45) = false → K (TV.d (AV.bool false))))
 ∧ (decide (x = x_44) = false → K (TV.d (AV.bool false)))) ∧ (decide (x = x_43) = false → K (TV.d (AV.bool false)))) ∧ (x_42 = false → K (TV.d (AV.bool false)))) ∧ (x_36 = false → K (TV.d (AV.bool false))))
 ∧ (decide (x_3 = x_7) = false → K (TV.d (AV.bool false)))) ∧ (x_35 = false → K (TV.d (AV.bool false)))) ∧ (x_28 = false → K (TV.d (AV.bool false)))) ∧ (x_21 = false → K (TV.d (AV.bool false)))) ∧ (x_14 = false
 → K (TV.d (AV.bool false)))





end Nt
end

section
/- RtL: proofs of verification conditions: the reader of fractions; the statements about fractions. -/
open Go Go.Vc
namespace Nt

theorem rangeV_in {l : List Int} {a lo hi : Int} (h : StOk l a) (h1 : lo ≤ hi) : lo ≤ rangeV l a lo hi ∧ rangeV l a lo hi ≤ hi := by
  obtain ⟨_, g1, g2, _⟩ := h.num (hi - lo + 1)
  have := g2 (by omega)
  unfold rangeV; omega
theorem p_n__mkSrc__Range (l : List Int) (a s x y : Int) (K : OB → TV → Prop) (h : cmkRange.T (.ptr 0 0) (st l a s) [.d (.int .i64 x), .d (.int .i64 y)] K) : vc_n__mkSrc__Range l a s x y K := by
  obtain ⟨⟨ho, h1, h2, h3⟩, hk⟩ := h
  have hr := rangeV_in ho h2
  unfold rangeV at hr hk
  unfold vc_n__mkSrc__Range
  rw [w64 (x := y - x) (by omega), w64 (x := y - x + 1) (by omega), w64 (x := x + _) (by omega)]
  exact ⟨⟨ho, by unfold i64; omega⟩, hk⟩
theorem p_n__mkSrc__Rat (l : List Int) (a s : Int) (K : OB → TV → Prop) (h : cmkRat.T (.ptr 0 0) (st l a s) [] K) : vc_n__mkSrc__Rat l a s K := by
  obtain ⟨ho, hk⟩ := h
  unfold vc_n__mkSrc__Rat
  refine ⟨⟨ho, by decide, by decide, by decide⟩, ?_⟩
  have o1 := (ho.num 13).1
  have r1 := rangeV_in (lo := -6) (hi := 6) ho (by decide)
  have r2 := rangeV_in (lo := 1) (hi := 5) o1 (by decide)
  rintro _ rfl _ rfl _ rfl _ rfl
  refine ⟨⟨o1, by decide, by decide, by decide⟩, ?_⟩
  rintro _ rfl _ rfl _ rfl x hx
  have hx0 : x ≠ 0 := by omega
  refine ⟨⟨by unfold i64; omega, by unfold i64; omega⟩, ?_⟩
  unfold oneg onum oden
  rw [decide_eq_false hx0, hx]
  rintro _ rfl _ rfl _ rfl _ _
  exact hk
theorem numV_nn {l : List Int} {a : Int} (h : StOk l a) (n : Int) (hn : 1 ≤ n := by decide) : 0 ≤ numV l a n ∧ numV l a n < n := ⟨(h.num n).2.1, (h.num n).2.2.1 hn⟩
theorem wmul {R N : Int} (h1 : 1 ≤ R) (h2 : R ≤ 6) (h3 : 0 ≤ N) (h4 : N ≤ 8) : IntKind.wrap .u32 (IntKind.wrap .u32 R * IntKind.wrap .u32 N) = R * N := by
  have w32 : ∀ {x : Int}, 0 ≤ x → x < 4294967296 → IntKind.wrap .u32 x = x := fun h1 h2 => Int.emod_eq_of_lt h1 h2
  have m9 : 0 ≤ R * N ∧ R * N ≤ 6 * 8 := ⟨Int.mul_nonneg (by omega) (by omega), Int.mul_le_mul (by omega) (by omega) (by omega) (by omega)⟩
  rw [w32 (x := R) (by omega) (by omega), w32 (x := N) (by omega) (by omega), w32 (x := R * N) (by omega) (by omega)]
theorem p_n__mkSrc__Loose (l : List Int) (a s : Int) (K : OB → TV → Prop) (h : cmkLoose.T (.ptr 0 0) (st l a s) [] K) : vc_n__mkSrc__Loose l a s K := by
  obtain ⟨ho, hk⟩ := h
  unfold vc_n__mkSrc__Loose
  unfold looseS looseN looseD looseA looseK at hk
  refine ⟨⟨ho, by unfold i64; decide⟩, ?_⟩
  have o1 := (ho.num 4).1
  rintro _ rfl _ rfl _ rfl v rfl
  refine ⟨fun h => ⟨o1, ?_⟩, fun h => ⟨fun h2 => ⟨⟨o1, by unfold i64; decide⟩, ?_⟩, fun h2 => ⟨⟨o1, by decide, by decide, by decide⟩, ?_⟩⟩⟩
  · have h := of_decide_eq_true h
    rintro _ rfl _ rfl _ rfl _ rfl _ rfl _ rfl
    simp only [h, if_true] at hk
    exact hk
  · have h := of_decide_eq_false h
    have h2 := of_decide_eq_true h2
    simp only [h2, show ¬ (1 : Int) = 0 by decide, if_true, if_false] at hk
    have o2 := (o1.num 2).1
    have o3 := o2.limbs.1
    rintro _ rfl _ rfl _ rfl _ rfl
    refine ⟨o2, ?_⟩
    rintro _ rfl _ rfl _ rfl _ rfl
    refine ⟨o3, ?_⟩
    rintro _ rfl _ rfl _ rfl _ rfl
    exact hk
  · have h := of_decide_eq_false h
    have h2 := of_decide_eq_false h2
    simp only [h, h2, if_false] at hk
    have o2 := (o1.num 6).1
    have o3 := (o2.num 2).1
    have o4 := (o3.num 9).1
    have r := rangeV_in (lo := 1) (hi := 6) o1 (by decide)
    have n9 := numV_nn o3 9
    have n6 := numV_nn o4 6
    have hw9 := wmul r.1 r.2 n9.1 (by omega)
    have hw6 := wmul r.1 r.2 n6.1 (by omega)
    rintro _ rfl _ rfl _ rfl _ rfl
    refine ⟨⟨o2, by unfold i64; decide⟩, ?_⟩
    rintro _ rfl _ rfl _ rfl _ rfl
    refine ⟨⟨o3, by unfold i64; decide⟩, ?_⟩
    rintro _ rfl _ rfl _ rfl _ rfl
    refine ⟨⟨o4, by unfold i64; decide⟩, ?_⟩
    rintro _ rfl _ rfl _ rfl _ rfl
    rw [hw9, hw6]
    exact hk
theorem p_nlaw2short (s : Bool) (a b : List Int) (K : TV → Prop) (h : cl2short.T [r3 s a b] K) : vc_nlaw2short s a b K := by
  obtain ⟨_, hk⟩ := h
  unfold vc_nlaw2short
  refine ⟨fun h => ?_, fun h => ?_⟩
  · have h := of_decide_eq_true h
    have e : decide (a.length ≤ 12 ∧ b.length ≤ 12) = decide ((b.length : Int) ≤ 12) := decide_eq_decide.2 (by omega)
    rw [e] at hk; exact hk
  · have h := of_decide_eq_false h
    have e : decide (a.length ≤ 12 ∧ b.length ≤ 12) = false := decide_eq_false (by omega)
    rw [e] at hk; exact hk
theorem p_nrefNormal (a : List Int) (K : TV → Prop) (h : crefNormal.T [.d (.ints .u32 a)] K) : vc_nrefNormal a K := by
  obtain ⟨ha, hk⟩ := h
  unfold vc_nrefNormal
  refine ⟨fun h => ?_, fun h => ?_⟩
  · obtain rfl := lenI.1 h
    have e : decide ([] = limbs (val [])) = true := decide_eq_true (by rw [show val [] = 0 from rfl, limbs_zero])
    rw [e] at hk; exact hk
  · have h := of_decide_eq_false h
    have hl := ha.2
    rw [w64 (x := (a.length : Int) - 1) (by omega), show ((a.length : Int) - 1).toNat = a.length - 1 by omega]
    refine ⟨by omega, by omega, ?_⟩
    have e : decide (a = limbs (val a)) = !decide (a.getD (a.length - 1) 0 = 0) := by
      by_cases hz : a.getD (a.length - 1) 0 = 0
      · have : a ≠ limbs (val a) := by
          intro e
          have hn := limbs_norm (val a)
          rw [← e] at hn
          unfold Norm at hn
          rw [List.getLast?_eq_getElem?] at hn
          rw [List.getD_eq_getElem?_getD] at hz
          cases e2 : a[a.length - 1]? with
          | none => rw [List.getElem?_eq_none_iff] at e2; omega
          | some x => rw [e2] at hn hz; exact hn (by rw [show x = 0 from hz])
        rw [decide_eq_false this, decide_eq_true hz]; rfl
      · rw [decide_eq_true (limbs_val ha.1 (norm_of_last (.inr hz))).symm, decide_eq_false hz]; rfl
    rw [e] at hk; exact hk

/-! ### sizes, for the simplifier -/
abbrev RM (r : Rat) : Prop := RS 1000000 r
theorem z_num {r : Rat} (h : RM r) : Sm 1000000 (rnum r) := h.num
theorem z_den {r : Rat} (h : RM r) : Sm 1000000 (rden r) := h.den
theorem z_lnum {r : Rat} (h : RM r) : (rnum r).length ≤ 1000000000 := Nat.le_trans h.num.2 (by decide)
theorem z_lden {r : Rat} (h : RM r) : (rden r).length ≤ 1000000000 := Nat.le_trans h.den.2 (by decide)
theorem z_onum {c : Bool} {r : Rat} (h : RM r) : (onum c r).length ≤ 1000000000 := by unfold onum; split; exact z_lnum h; simp
theorem z_oden {c : Bool} {r : Rat} (h : RM r) : (oden c r).length ≤ 1000000000 := by unfold oden; split; exact z_lden h; simp
theorem z_sm {a : List Int} (h : Sm 1000000 a) : Sm 90000000 a := h.mono (by decide)
theorem z_few {a : List Int} (h : Sm 1000000 a) : Few a := h.few
theorem r0 {P : Prop} : (false = true → P) = True := by simp
theorem r1 {P : Prop} : (true = true → P) = P := by simp
theorem r2 {P : Prop} : (true = false → P) = True := by simp
theorem p_nlaw2agrees (s : Bool) (a b : List Int) (t : Bool) (c d : List Int) (K : TV → Prop) (h : cl2agrees.T [r3 s a b, r3 t c d] K) : vc_nlaw2agrees s a b t c d K := by
  obtain ⟨⟨ha, hb, hc, hd⟩, hk⟩ := h
  unfold vc_nlaw2agrees
  have hr := of_sm (s := s) ha hb
  have hq := of_sm (s := t) hc hd
  have ha := ha.mono (j := 1000000) (by decide)
  have hb := hb.mono (j := 1000000) (by decide)
  have hc := hc.mono (j := 1000000) (by decide)
  have hd := hd.mono (j := 1000000) (by decide)
  generalize rv s a b = r at *
  generalize rv t c d = q at *
  have e1 : RM (r + q) := (hr.add hq).mono (by decide)
  have e2 : RM (r - q) := (hr.sub hq).mono (by decide)
  have e3 : RM (r * q) := (hr.mul hq (by decide)).mono (by decide)
  have e4 : RM (r / q) := (hr.div hq (by decide)).mono (by decide)
  have e5 : RM (-r) := hr.neg.mono (by decide)
  have e6 : RM r := hr.mono (by decide)
  have e7 : RM q := hq.mono (by decide)
  simp only [forall_eq, ha, hb, hc, hd, z_sm, z_few, z_lnum, z_lden, z_onum, z_oden, e1, e2, e3, e4, e5, e6, and_self, true_and, and_true, decide_true, r2, beq_self_eq_true, true_implies]
  exact hk

theorem p_nlaw2awake (K : TV → Prop) (h : cl2awake.T [] K) : vc_nlaw2awake K := by
  obtain ⟨_, hk⟩ := h
  unfold vc_nlaw2awake
  have e1 : RM (Rat.divInt 1 6) := by unfold RM; rw [show Rat.divInt 1 6 = mkRat 1 6 from Rat.divInt_ofNat ..]; exact (RS.mk (k := 1) (by decide) (by decide)).mono (by decide)
  have e2 : RM (Rat.divInt 1 3) := by unfold RM; rw [show Rat.divInt 1 3 = mkRat 1 3 from Rat.divInt_ofNat ..]; exact (RS.mk (k := 1) (by decide) (by decide)).mono (by decide)
  have e3 : Rat.divInt 1 6 + Rat.divInt 1 3 = mkRat 1 2 := by decide +kernel
  have e4 : RM (mkRat 1 2) := (RS.mk (k := 1) (by decide) (by decide)).mono (by decide)
  have e5 : rfmt (mkRat 1 2) = [49, 47, 50] := by
    have h1 : (mkRat 1 2).num = 1 := by decide +kernel
    have h2 : (mkRat 1 2).den = 2 := by decide +kernel
    unfold rfmt rneg
    rw [h1, h2]
    simp [dec, decR_pos, decR_zero]
  have i1 : i64 1 := by unfold i64; decide
  have i6 : i64 6 := by unfold i64; decide
  have i3 : i64 3 := by unfold i64; decide
  have d6 : (!decide ((6 : Int) = 0)) = true := by decide
  have d3 : (!decide ((3 : Int) = 0)) = true := by decide
  have o1 : ∀ r, oneg true r = rneg r := fun _ => rfl
  have o2 : ∀ r, onum true r = rnum r := fun _ => rfl
  have o3 : ∀ r, oden true r = rden r := fun _ => rfl
  simp only [forall_eq, d6, d3, o1, o2, o3, rv_parts, e3, e5, i1, i3, i6, z_num, z_den, e1, e2, e4, and_self, true_and, and_true, decide_true, r2, true_implies]
  exact hk


end Nt
end

section
/- Verification conditions, printed. -/
open Go Go.Vc
namespace Nt

end Nt
end

section
/- RtLb: proof of a verification condition: RationalBuilt. -/
open Go Go.Vc
namespace Nt

end Nt
end

section
/- Verification conditions, printed. -/
open Go Go.Vc
namespace Nt

end Nt
end

section
/- RtN: proof of a verification condition: RationalNormal. -/
open Go Go.Vc
namespace Nt

end Nt
end

section
/- Verification conditions, printed. -/
open Go Go.Vc
namespace Nt
def vc_nrefMul_f : List Int → List Int → (OB → Prop) → Prop :=
 fun (a b : List Int) (K : OB → Prop) => (0 : Int) ≤ IntKind.wrap IntKind.i64 (IntKind.wrap IntKind.i64 ((Nat.cast : Nat → Int) (List.length a) + (Nat.cast : Nat → Int) (List.length b)) + (1 : Int)) ∧ IntKind.wrap IntKind.i64 (IntKind.wrap IntKind.i64 ((Nat.cast : Nat
 → Int) (List.length a) + (Nat.cast : Nat → Int) (List.length b)) + (1 : Int)) ≤ IntKind.wrap IntKind.i64 (IntKind.wrap IntKind.i64 ((Nat.cast : Nat → Int) (List.length a) + (Nat.cast : Nat → Int) (List.length b)) + (1 : Int))
 ∧ IntKind.wrap IntKind.i64 (IntKind.wrap IntKind.i64 ((Nat.cast : Nat → Int) (List.length a) + (Nat.cast : Nat → Int) (List.length b)) + (1 : Int)) * (4 : Int) ≤ (281474976710656 : Int) ∧ ∃ (I : Int → List Int
 → Prop), ∃ (m : Int → List Int → Nat), I (0 : Int) (List.replicate (Int.toNat (IntKind.wrap IntKind.i64 (IntKind.wrap IntKind.i64 ((Nat.cast : Nat → Int) (List.length a) + (Nat.cast : Nat → Int) (List.length b)) + (1 : Int)))) (0 : Int))
 ∧ ∀ (v6 : Int) (o0 : List Int), I v6 o0 → (decide (v6 < (Nat.cast : Nat → Int) (List.length a)) = true → ∃ (I_1 : Int → Int → List Int → Prop), ∃ (m_1 : Int → Int → List Int → Nat), I_1 (0 : Int) (0 : Int) o0
 ∧ ∀ (v7 v8 : Int) (o0_1 : List Int), I_1 v7 v8 o0_1 → (decide (v8 < (Nat.cast : Nat → Int) (List.length b)) = true → (0 : Int) ≤ v6 ∧ v6 < (Nat.cast : Nat → Int) (List.length a) ∧ (0 : Int) ≤ v8 ∧ v8 < (Nat.cast : Nat
 → Int) (List.length b) ∧ (0 : Int) ≤ IntKind.wrap IntKind.i64 (v6 + v8) ∧ IntKind.wrap IntKind.i64 (v6 + v8) < (Nat.cast : Nat → Int) (List.length o0_1) ∧ (0 : Int) ≤ IntKind.wrap IntKind.i64 (v6 + v8)
 ∧ IntKind.wrap IntKind.i64 (v6 + v8) < (Nat.cast : Nat → Int) (List.length o0_1) ∧ I_1 (Int.fdiv (IntKind.wrap IntKind.u64 (IntKind.wrap IntKind.u64 (IntKind.wrap IntKind.u64 (IntKind.wrap IntKind.u64 (List.getD a (Int.toNat v6) (0 : Int)) * IntKind.wrap IntKind.u64 (List.getD b (Int.toNat v8) (0 : Int))) + IntKind.wrap IntKind.u64 (List.getD o0_1 (Int.toNat (IntKind.wrap IntKind.i64 (v6 + v8))) (0 : Int))) + v7)) (4294967296 : Int)) (IntKind.wrap IntKind.i64 (v8 + (1 : Int))) (List.set o0_1 (Int.toNat (IntKind.wrap IntKind.i64 (v6 + v8))) (IntKind.wrap IntKind.u32 (IntKind.wrap IntKind.u64 (IntKind.wrap IntKind.u64 (IntKind.wrap IntKind.u64 (IntKind.wrap IntKind.u64 (List.getD a (Int.toNat v6) (0 : Int)) * IntKind.wrap IntKind.u64 (List.getD b (Int.toNat v8) (0 : Int))) + IntKind.wrap IntKind.u64 (List.getD o0_1 (Int.toNat (IntKind.wrap IntKind.i64 (v6 + v8))) (0 : Int))) + v7))))
 ∧ m_1 (Int.fdiv (IntKind.wrap IntKind.u64 (IntKind.wrap IntKind.u64 (IntKind.wrap IntKind.u64 (IntKind.wrap IntKind.u64 (List.getD a (Int.toNat v6) (0 : Int)) * IntKind.wrap IntKind.u64 (List.getD b (Int.toNat v8) (0 : Int))) + IntKind.wrap IntKind.u64 (List.getD o0_1 (Int.toNat (IntKind.wrap IntKind.i64 (v6 + v8))) (0 : Int))) + v7)) (4294967296 : Int)) (IntKind.wrap IntKind.i64 (v8 + (1 : Int))) (List.set o0_1 (Int.toNat (IntKind.wrap IntKind.i64 (v6 + v8))) (IntKind.wrap IntKind.u32 (IntKind.wrap IntKind.u64 (IntKind.wrap IntKind.u64 (IntKind.wrap IntKind.u64 (IntKind.wrap IntKind.u64 (List.getD a (Int.toNat v6) (0 : Int)) * IntKind.wrap IntKind.u64 (List.getD b (Int.toNat v8) (0 : Int))) + IntKind.wrap IntKind.u64 (List.getD o0_1 (Int.toNat (IntKind.wrap IntKind.i64 (v6 + v8))) (0 : Int))) + v7)))) < m_1 v7 v8 o0_1)
 ∧ (decide (v8 < (Nat.cast : Nat → Int) (List.length b)) = false → ∃ (I_2 : Int → Int → List Int → Prop), ∃ (m_2 : Int → Int → List Int → Nat), I_2 v7 (IntKind.wrap IntKind.i64 (v6 + (Nat.cast : Nat → Int) (List.length b))) o0_1
 ∧ ∀ (v7 v10 : Int) (o0_2 : List Int), I_2 v7 v10 o0_2 → (decide ((0 : Int) < v7) = true → (0 : Int) ≤ v10 ∧ v10 < (Nat.cast : Nat → Int) (List.length o0_2) ∧ (0 : Int) ≤ v10 ∧ v10 < (Nat.cast : Nat → Int) (List.length o0_2)
 ∧ I_2 (Int.fdiv (IntKind.wrap IntKind.u64 (IntKind.wrap IntKind.u64 (List.getD o0_2 (Int.toNat v10) (0 : Int)) + v7)) (4294967296 : Int)) (IntKind.wrap IntKind.i64 (v10 + (1 : Int))) (List.set o0_2 (Int.toNat v10) (IntKind.wrap IntKind.u32 (IntKind.wrap IntKind.u64 (IntKind.wrap IntKind.u64 (List.getD o0_2 (Int.toNat v10) (0 : Int)) + v7))))
 ∧ m_2 (Int.fdiv (IntKind.wrap IntKind.u64 (IntKind.wrap IntKind.u64 (List.getD o0_2 (Int.toNat v10) (0 : Int)) + v7)) (4294967296 : Int)) (IntKind.wrap IntKind.i64 (v10 + (1 : Int))) (List.set o0_2 (Int.toNat v10) (IntKind.wrap IntKind.u32 (IntKind.wrap IntKind.u64 (IntKind.wrap IntKind.u64 (List.getD o0_2 (Int.toNat v10) (0 : Int)) + v7)))) < m_2 v7 v10 o0_2)
 ∧ (decide ((0 : Int) < v7) = false → I (IntKind.wrap IntKind.i64 (v6 + (1 : Int))) o0_2 ∧ m (IntKind.wrap IntKind.i64 (v6 + (1 : Int))) o0_2 < m v6 o0))) ∧ (decide (v6 < (Nat.cast : Nat → Int) (List.length a)) = false
 → Nt.Few o0 ∧ ∀ (x : List Int), x = Nt.limbs (Nt.val o0) → K (OB.ints IntKind.u32 x))

def vc_nlaw2RationalDenotes : List Int → Int → Int → (TV → Prop) → Prop :=
 fun (l : List Int) (k z : Int) (K : TV → Prop) => True ∧ ∀ (x : List Int), x = List.take (1000 : Nat) l → ∀ (x_1 : Int), x_1 = (0 : Int) → ∀ (x_2 : Int), x_2 = (0 : Int) → Nt.StOk x x_1 ∧ ∀ (x_3 : List Int), x_3 = x
 → ∀ (x_4 : Int), x_4 = Nt.ratA x x_1 → ∀ (x_5 : Int), x_5 = x_2 → ∀ (x_6 : Bool), x_6 = Nt.rneg (Nt.ratV x x_1) → ∀ (x_7 : List Int), x_7 = Nt.rnum (Nt.ratV x x_1) → ∀ (x_8 : List Int), x_8 = Nt.rden (Nt.ratV x x_1)
 → Nt.StOk x_3 x_4 ∧ ∀ (x : List Int), x = x_3 → ∀ (x_9 : Int), x_9 = Nt.ratA x_3 x_4 → ∀ (x_10 : Int), x_10 = x_5 → ∀ (x_11 : Bool), x_11 = Nt.rneg (Nt.ratV x_3 x_4) → ∀ (x_12 : List Int), x_12 = Nt.rnum (Nt.ratV x_3 x_4)
 → ∀ (x_13 : List Int), x_13 = Nt.rden (Nt.ratV x_3 x_4) → (Nt.Lim x_7 ∧ Nt.Lim [bitop BinOp.or IntKind.u32 k (1 : Int)] ∧ List.length x_7 ≤ (40000000 : Nat) ∧ List.length [bitop BinOp.or IntKind.u32 k (1 : Int)] ≤ (40000000 : Nat))
 ∧ ∀ (x_14 : List Int), x_14 = Nt.limbs (Nt.val x_7 * Nt.val [bitop BinOp.or IntKind.u32 k (1 : Int)]) → (Nt.Lim x_8 ∧ Nt.Lim [bitop BinOp.or IntKind.u32 k (1 : Int)] ∧ List.length x_8 ≤ (40000000 : Nat)
 ∧ List.length [bitop BinOp.or IntKind.u32 k (1 : Int)] ≤ (40000000 : Nat)) ∧ ∀ (x_15 : List Int), x_15 = Nt.limbs (Nt.val x_8 * Nt.val [bitop BinOp.or IntKind.u32 k (1 : Int)]) → ∃ (I : Int → List Int
 → List Int → Prop), ∃ (m : Int → List Int → List Int → Nat), ((false, OB.cells [TV.d (AV.ints IntKind.i64 x), TV.d (AV.int IntKind.i64 x_9), TV.d (AV.int IntKind.i64 x_10)]) = (false, OB.cells [TV.d (AV.ints IntKind.i64 x), TV.d (AV.int IntKind.i64 x_9), TV.d (AV.int IntKind.i64 x_10)])
 ∧ (false, OB.cells [TV.d (AV.bool x_6), TV.d (AV.ints IntKind.u32 x_7), TV.d (AV.ints IntKind.u32 x_8)]) = (false, OB.cells [TV.d (AV.bool x_6), TV.d (AV.ints IntKind.u32 x_7), TV.d (AV.ints IntKind.u32 x_8)])
 ∧ (false, OB.cells [TV.d (AV.bool x_11), TV.d (AV.ints IntKind.u32 x_12), TV.d (AV.ints IntKind.u32 x_13)]) = (false, OB.cells [TV.d (AV.bool x_11), TV.d (AV.ints IntKind.u32 x_12), TV.d (AV.ints IntKind.u32 x_13)])
 ∧ (false, OB.cells [TV.d (AV.bool x_6), TV.vec (4 : Nat), TV.vec (5 : Nat)]) = (false, OB.cells [TV.d (AV.bool x_6), TV.vec (4 : Nat), TV.vec (5 : Nat)]) ∧ I (0 : Int) x_14 x_15) ∧ ∀ (v11 : Int) (o4 o5 : List Int), I v11 o4 o5
 → (decide (v11 < IntKind.wrap IntKind.i64 (Int.tmod z (3 : Int))) = true → ((Nat.cast : Nat → Int) (List.length o4) + (1 : Int)) * (4 : Int) ≤ (70368744177664 : Int) ∧ ((Nat.cast : Nat → Int) (List.length o5) + (1 : Int)) * (4 : Int) ≤ (70368744177664 : Int)
 ∧ (false, OB.cells [TV.d (AV.ints IntKind.i64 x), TV.d (AV.int IntKind.i64 x_9), TV.d (AV.int IntKind.i64 x_10)]) = (false, OB.cells [TV.d (AV.ints IntKind.i64 x), TV.d (AV.int IntKind.i64 x_9), TV.d (AV.int IntKind.i64 x_10)])
 ∧ (false, OB.cells [TV.d (AV.bool x_6), TV.d (AV.ints IntKind.u32 x_7), TV.d (AV.ints IntKind.u32 x_8)]) = (false, OB.cells [TV.d (AV.bool x_6), TV.d (AV.ints IntKind.u32 x_7), TV.d (AV.ints IntKind.u32 x_8)])
 ∧ (false, OB.cells [TV.d (AV.bool x_11), TV.d (AV.ints IntKind.u32 x_12), TV.d (AV.ints IntKind.u32 x_13)]) = (false, OB.cells [TV.d (AV.bool x_11), TV.d (AV.ints IntKind.u32 x_12), TV.d (AV.ints IntKind.u32 x_13)])
 ∧ (false, OB.cells [TV.d (AV.bool x_6), TV.vec (4 : Nat), TV.vec (5 : Nat)]) = (false, OB.cells [TV.d (AV.bool x_6), TV.vec (4 : Nat), TV.vec (5 : Nat)]) ∧ I (IntKind.wrap IntKind.i64 (v11 + (1 : Int))) (HAppend.hAppend o4 [(0 : Int)]) (HAppend.hAppend o5 [(0 : Int)])
 ∧ m (IntKind.wrap IntKind.i64 (v11 + (1 : Int))) (HAppend.hAppend o4 [(0 : Int)]) (HAppend.hAppend o5 [(0 : Int)]) < m v11 o4 o5) ∧ (decide (v11 < IntKind.wrap IntKind.i64 (Int.tmod z (3 : Int))) = false
 → (Nt.Sm (1000000 : Nat) o4 ∧ Nt.Sm (1000000 : Nat) o5 ∧ Nt.Sm (1000000 : Nat) x_12 ∧ Nt.Sm (1000000 : Nat) x_13) ∧ ∀ (x : Bool), x = Nt.rneg (Nt.rv x_6 o4 o5 + Nt.rv x_11 x_12 x_13) → ∀ (x_16 : List Int), x_16 = Nt.rnum (Nt.rv x_6 o4 o5 + Nt.rv x_11 x_12 x_13)
 → ∀ (x_17 : List Int), x_17 = Nt.rden (Nt.rv x_6 o4 o5 + Nt.rv x_11 x_12 x_13) → (Nt.Sm (1000000 : Nat) x_7 ∧ Nt.Sm (1000000 : Nat) x_8 ∧ Nt.Sm (1000000 : Nat) x_12 ∧ Nt.Sm (1000000 : Nat) x_13) ∧ ∀ (x_18 : Bool), x_18 = Nt.rneg (Nt.rv x_6 x_7 x_8 + Nt.rv x_11 x_12 x_13)
 → ∀ (x_19 : List Int), x_19 = Nt.rnum (Nt.rv x_6 x_7 x_8 + Nt.rv x_11 x_12 x_13) → ∀ (x_20 : List Int), x_20 = Nt.rden (Nt.rv x_6 x_7 x_8 + Nt.rv x_11 x_12 x_13) → (List.length x_16 ≤ (1000000000 : Nat)
 ∧ List.length x_17 ≤ (1000000000 : Nat) ∧ List.length x_19 ≤ (1000000000 : Nat) ∧ List.length x_20 ≤ (1000000000 : Nat)) ∧ ∀ (x_21 : Bool), x_21 = decide (x = x_18 ∧ x_16 = x_19 ∧ x_17 = x_20) → (x_21 = true
 → (Nt.Sm (1000000 : Nat) x_12 ∧ Nt.Sm (1000000 : Nat) x_13 ∧ Nt.Sm (1000000 : Nat) o4 ∧ Nt.Sm (1000000 : Nat) o5) ∧ ∀ (x : Bool), x = Nt.rneg (Nt.rv x_11 x_12 x_13 * Nt.rv x_6 o4 o5) → ∀ (x_22 : List Int), x_22 = Nt.rnum (Nt.rv x_11 x_12 x_13 * Nt.rv x_6 o4 o5)
 → ∀ (x_23 : List Int), x_23 = Nt.rden (Nt.rv x_11 x_12 x_13 * Nt.rv x_6 o4 o5) → (Nt.Sm (1000000 : Nat) x_12 ∧ Nt.Sm (1000000 : Nat) x_13 ∧ Nt.Sm (1000000 : Nat) x_7 ∧ Nt.Sm (1000000 : Nat) x_8) ∧ ∀ (x_24 : Bool), x_24 = Nt.rneg (Nt.rv x_11 x_12 x_13 * Nt.rv x_6 x_7 x_8)
 → ∀ (x_25 : List Int), x_25 = Nt.rnum (Nt.rv x_11 x_12 x_13 * Nt.rv x_6 x_7 x_8) → ∀ (x_26 : List Int), x_26 = Nt.rden (Nt.rv x_11 x_12 x_13 * Nt.rv x_6 x_7 x_8) → (List.length x_22 ≤ (1000000000 : Nat)
 ∧ List.length x_23 ≤ (1000000000 : Nat) ∧ List.length x_25 ≤ (1000000000 : Nat) ∧ List.length x_26 ≤ (1000000000 : Nat)) ∧ ∀ (x_27 : Bool), x_27 = decide (x = x_24 ∧ x_22 = x_25 ∧ x_23 = x_26) → (x_27 = true
 → (Nt.Sm (1000000 : Nat) o4 ∧ Nt.Sm (1000000 : Nat) o5 ∧ Nt.Sm (1000000 : Nat) x_12 ∧ Nt.Sm (1000000 : Nat) x_13) ∧ ∀ (x : Int), x = Nt.sgn (Nt.rv x_6 o4 o5 - Nt.rv x_11 x_12 x_13) → (Nt.Sm (1000000 : Nat) x_7
 ∧ Nt.Sm (1000000 : Nat) x_8 ∧ Nt.Sm (1000000 : Nat) x_12 ∧ Nt.Sm (1000000 : Nat) x_13) ∧ ∀ (x_28 : Int), x_28 = Nt.sgn (Nt.rv x_6 x_7 x_8 - Nt.rv x_11 x_12 x_13) → (decide (x = x_28) = true → (Nt.Sm (1000000 : Nat) x_7
 ∧ Nt.Sm (1000000 : Nat) x_8 ∧ Nt.Sm (1000000 : Nat) o4 ∧ Nt.Sm (1000000 : Nat) o5) ∧ ∀ (x : Bool), x = decide (Nt.rv x_6 x_7 x_8 = Nt.rv x_6 o4 o5) → (x = true → (Nt.Sm (1000000 : Nat) o4 ∧ Nt.Sm (1000000 : Nat) o5)
 ∧ ∀ (x : List Int), x = Nt.rfmt (Nt.rv x_6 o4 o5) → (Nt.Sm (1000000 : Nat) x_7 ∧ Nt.Sm (1000000 : Nat) x_8) ∧ ∀ (x_29 : List Int), x_29 = Nt.rfmt (Nt.rv x_6 x_7 x_8) → (decide (x = x_29) = true → (Nt.Sm (1000000 : Nat) o4
 ∧ Nt.Sm (1000000 : Nat) [] ∧ Nt.Sm (1000000 : Nat) x_12 ∧ Nt.Sm (1000000 : Nat) x_13) ∧ ∀ (x : Bool), x = Nt.rneg (Nt.rv (decide (Int.tmod z (2 : Int) = (0 : Int))) o4 [] + Nt.rv x_11 x_12 x_13) → ∀ (x_30 : List Int), x_30 = Nt.rnum (Nt.rv (decide (Int.tmod z (2 : Int) = (0 : Int))) o4 [] + Nt.rv x_11 x_12 x_13)
 → ∀ (x_31 : List Int), x_31 = Nt.rden (Nt.rv (decide (Int.tmod z (2 : Int) = (0 : Int))) o4 [] + Nt.rv x_11 x_12 x_13) → (Nt.Few x_12 ∧ Nt.Few x_13) ∧ ∀ (x_32 : Bool), x_32 = Nt.rneg (Nt.rv x_11 x_12 x_13)
 → ∀ (x_33 : List Int), x_33 = Nt.rnum (Nt.rv x_11 x_12 x_13) → ∀ (x_34 : List Int), x_34 = Nt.rden (Nt.rv x_11 x_12 x_13) → (List.length x_30 ≤ (1000000000 : Nat) ∧ List.length x_31 ≤ (1000000000 : Nat)
 ∧ List.length x_33 ≤ (1000000000 : Nat) ∧ List.length x_34 ≤ (1000000000 : Nat)) ∧ ∀ (x_35 : Bool), x_35 = decide (x = x_32 ∧ x_30 = x_33 ∧ x_31 = x_34) → (x_35 = true → (Nt.Few o4 ∧ Nt.Few []) ∧ ∀ (x : Int), x = Nt.sgn (Nt.rv (decide (Int.tmod z (2 : Int) = (0 : Int))) o4 [])
 → (decide (x = (0 : Int)) = true → True ∧ ∀ (x : Bool), x = true → K (TV.d (AV.bool x))) ∧ (decide (x = (0 : Int)) = false → K (TV.d (AV.bool false)))) ∧ (x_35 = false → K (TV.d (AV.bool false)))) ∧ (decide (x = x_29) = false
 → K (TV.d (AV.bool false)))) ∧ (x = false → K (TV.d (AV.bool false)))) ∧ (decide (x = x_28) = false → K (TV.d (AV.bool false)))) ∧ (x_27 = false → K (TV.d (AV.bool false)))) ∧ (x_21 = false → K (TV.d (AV.bool false))))

end Nt
end

section
/- RtD: the statement that functions go by the number that is denoted. -/
namespace Nt
open Go Go.Vc

theorem p_nrefMul_f (a b : List Int) (K : OB → Prop) (h : crefMulF.T [.d (.ints .u32 a), .d (.ints .u32 b)] K) : vc_nrefMul_f a b K := by
  have h2 := p_nrefMul a b (fun v => match v with | .d (.ints k l) => K (.ints k l) | _ => True) h
  unfold vc_nrefMul at h2
  unfold vc_nrefMul_f
  simpa only [forall_eq] using h2

theorem or_one {k : Int} : ∃ q : Nat, bitop .or .u32 k 1 = (q : Int) ∧ 0 < q ∧ q < 4294967296 := by
  let v : BitVec 32 := BitVec.ofInt 32 k ||| BitVec.ofInt 32 1
  have h1 : v.toNat < 4294967296 := v.isLt
  have h2 : 0 < v.toNat := by
    have : v.toNat = (BitVec.ofInt 32 k).toNat ||| (BitVec.ofInt 32 1).toNat := BitVec.toNat_or ..
    rw [this]
    exact Nat.lt_of_lt_of_le (by decide) Nat.right_le_or
  refine ⟨v.toNat, ?_, h2, h1⟩
  show ((v.toNat : Nat) : Int) % 4294967296 = _
  exact Int.emod_eq_of_lt (by omega) (by omega)

theorem l32_of {n : Int} (h : (Lit.int .u32 n).wf = true) : L n := by
  have h := int_wf h
  have e1 : IntKind.u32.min = 0 := by decide
  have e2 : IntKind.u32.max = 4294967295 := by decide
  unfold L
  omega
theorem ratV_ok {l : List Int} {a : Int} (ho : StOk l a) : StOk l (ratA l a) ∧ RS 1 (ratV l a) := by
  have o2 := (ho.num 13).1
  have r1 := rangeV_in (lo := -6) (hi := 6) ho (by decide)
  have r2 := rangeV_in (lo := 1) (hi := 5) o2 (by decide)
  refine ⟨(o2.num 5).1, ?_⟩
  unfold ratV ratN ratD
  have hd : rangeV l (numA l a 13) 1 5 = ((rangeV l (numA l a 13) 1 5).toNat : Int) := by omega
  rw [hd, Rat.divInt_ofNat]
  exact .mk (by omega) (by omega)

/-- A common factor does not matter. -/
theorem rv_scale {s : Bool} {a b c d : List Int} {q : Nat} (hq : 0 < q) (h1 : val c = val a * q) (h2 : val d = val b * q) : rv s c d = rv s a b := by
  unfold rv
  have e : sg s (val a * q) = sg s (val a) * (q : Int) := by unfold sg; split <;> simp [Int.neg_mul]
  rw [h1, h2, e, Rat.mkRat_mul_right (by omega)]

set_option maxRecDepth 100000 in
theorem p_nlaw2RationalDenotes (l : List Int) (k z : Int) (K : TV → Prop) (h : cRationalDenotes.T [.d (.ints .i64 l), .d (.int .u32 k), .d (.int .u8 z)] K) : vc_nlaw2RationalDenotes l k z K := by
  obtain ⟨⟨hl, hL, hz0, hz1⟩, hk⟩ := h
  unfold vc_nlaw2RationalDenotes
  have o0 := StOk.new hl
  have l0 := ratV_ok o0
  generalize ea : ratA (l.take 1000) 0 = A at *
  have l1 := ratV_ok l0.1
  have s1 := l0.1
  have hr := l0.2
  have hq := l1.2
  obtain ⟨q, eq, q0, q1⟩ := or_one (k := k)
  have vq : val [bitop BinOp.or IntKind.u32 k 1] = q := by rw [eq]; simp [val]
  have lq : Lim [bitop BinOp.or IntKind.u32 k 1] := by
    rw [eq]
    intro i
    rcases i with _ | i
    · simp; omega
    · simp
  simp only [forall_eq, ea, o0, s1, true_and]
  generalize ratV (l.take 1000) 0 = r at *
  generalize ratV (l.take 1000) A = p at *
  have hr2 := hr.mono (j := 2) (by decide)
  have n0 := val_rnum r
  have d0 := val_rden r
  have nb : val (rnum r) < 4294967296 ^ 1 := by rw [n0]; exact hr.1
  have db : val (rden r) < 4294967296 ^ 1 := by rw [d0]; exact hr.2
  have m1 := sm_limbs (pow_two_mul (k := 1) (j := 1) nb (show q < 4294967296 ^ 1 by omega))
  have m2 := sm_limbs (pow_two_mul (k := 1) (j := 1) db (show q < 4294967296 ^ 1 by omega))
  rw [vq]
  refine ⟨⟨hr.num.1, lq, Nat.le_trans hr.num.2 (by decide), by simp⟩, ⟨hr.den.1, lq, Nat.le_trans hr.den.2 (by decide), by simp⟩, ?_⟩
  refine ⟨fun v c d => 0 ≤ v ∧ v ≤ 3 ∧ Lim c ∧ Lim d ∧ val c = val (rnum r) * q ∧ val d = val (rden r) * q ∧ (c.length : Int) ≤ 2 + v ∧ (d.length : Int) ≤ 2 + v, fun v _ _ => (4 - v).toNat, ⟨by omega, by omega, m1.1, m2.1, val_limbs _, val_limbs _, by have := m1.2; omega, by have := m2.2; omega⟩, ?_⟩
  rintro v c d ⟨i1, i2, i3, i4, i5, i6, i7, i8⟩
  have t3 : Int.tmod z 3 = z % 3 := by rw [Int.tmod_eq_emod_of_nonneg hz0]
  have tw : IntKind.wrap .i64 (Int.tmod z 3) = z % 3 := by rw [t3]; exact w64 (by omega)
  have lz : Lim [0] := fun i => by rcases i with _ | i <;> simp
  rw [tw]
  refine ⟨fun h => ?_, fun h => ?_⟩
  · have h := of_decide_eq_true h
    rw [w64 (x := v + 1) (by omega)]
    refine ⟨by omega, by omega, ⟨by omega, by omega, i3.append lz, i4.append lz, ?_, ?_, ?_, ?_⟩, by show (4 - (v + 1)).toNat < (4 - v).toNat; omega⟩
    · rw [val_append]; simpa [val] using i5
    · rw [val_append]; simpa [val] using i6
    · simp; omega
    · simp; omega
  · have e : ∀ s, rv s c d = rv s (rnum r) (rden r) := fun s => rv_scale q0 i5 i6
    have e0 : ∀ s, rv s c [] = 0 := fun s => rv_zero rfl
    have c1 : Sm 1000000 c := ⟨i3, by omega⟩
    have d1 : Sm 1000000 d := ⟨i4, by omega⟩
    have nil : Sm 1000000 [] := ⟨fun i => by simp, by simp⟩
    have e1 : RM r := hr.mono (by decide)
    have e2 : RM p := hq.mono (by decide)
    have e3 : RM (r + p) := (hr.add hq).mono (by decide)
    have e4 : RM (p * r) := (hq.mul hr (by decide)).mono (by decide)
    have f1 : (0 : Rat) + p = p := by grind
    have f2 : sgn 0 = 0 := rfl
    simp only [e, e0, rv_parts, c1, d1, nil, z_few, z_num, z_den, z_lnum, z_lden, e1, e2, e3, e4, f1, f2, and_self, true_and, and_true, decide_true, true_implies, r2]
    exact hk
end Nt
end

section
/- The shapes of arguments, printed. -/
open Go Go.Vc
theorem Nt.crat_el {M : List TV → (TV → Prop) → Prop} (H : ∀ s a b K, Nt.crat.T [.agg [.d (.bool s), .d (.ints .u32 a), .d (.ints .u32 b)]] K → M [.agg [.d (.bool s), .d (.ints .u32 a), .d (.ints .u32 b)]] K) (args : List TV) (K : TV → Prop) (hyp : Nt.crat.T args K) : M args K := by
  have e : ∃ s a b, args = [.agg [.d (.bool s), .d (.ints .u32 a), .d (.ints .u32 b)]] := by
    unfold Nt.crat.T spec at hyp
    split at hyp
    · rename_i he
      simp only at he
      split at he
      · exact ⟨_, _, _, rfl⟩
      · cases he
    · exact hyp.elim
  obtain ⟨s, a, b, eqn⟩ := e
  subst eqn
  exact H s a b K hyp
theorem Nt.creduce_el {M : List TV → (TV → Prop) → Prop} (H : ∀ s a b K, Nt.creduce.T [.d (.bool s), .d (.ints .u32 a), .d (.ints .u32 b)] K → M [.d (.bool s), .d (.ints .u32 a), .d (.ints .u32 b)] K) (args : List TV) (K : TV → Prop) (hyp : Nt.creduce.T args K) : M args K := by
  have e : ∃ s a b, args = [.d (.bool s), .d (.ints .u32 a), .d (.ints .u32 b)] := by
    unfold Nt.creduce.T spec at hyp
    split at hyp
    · rename_i he
      simp only at he
      split at he
      · exact ⟨_, _, _, rfl⟩
      · cases he
    · exact hyp.elim
  obtain ⟨s, a, b, eqn⟩ := e
  subst eqn
  exact H s a b K hyp
theorem Nt.cisZero_el {M : List TV → (TV → Prop) → Prop} (H : ∀ a K, Nt.cisZero.T [.d (.ints .u32 a)] K → M [.d (.ints .u32 a)] K) (args : List TV) (K : TV → Prop) (hyp : Nt.cisZero.T args K) : M args K := by
  have e : ∃ a, args = [.d (.ints .u32 a)] := by
    unfold Nt.cisZero.T spec at hyp
    split at hyp
    · rename_i he
      simp only at he
      split at he
      · exact ⟨_, rfl⟩
      · cases he
    · exact hyp.elim
  obtain ⟨a, eqn⟩ := e
  subst eqn
  exact H a K hyp
theorem Nt.cnumber_el {M : List TV → (TV → Prop) → Prop} (H : ∀ s a b K, Nt.cnumber.T [.agg [.d (.bool s), .d (.ints .u32 a), .d (.ints .u32 b)]] K → M [.agg [.d (.bool s), .d (.ints .u32 a), .d (.ints .u32 b)]] K) (args : List TV) (K : TV → Prop) (hyp : Nt.cnumber.T args K) : M args K := by
  have e : ∃ s a b, args = [.agg [.d (.bool s), .d (.ints .u32 a), .d (.ints .u32 b)]] := by
    unfold Nt.cnumber.T spec at hyp
    split at hyp
    · rename_i he
      simp only at he
      split at he
      · exact ⟨_, _, _, rfl⟩
      · cases he
    · exact hyp.elim
  obtain ⟨s, a, b, eqn⟩ := e
  subst eqn
  exact H s a b K hyp
theorem Nt.cone_el {M : List TV → (TV → Prop) → Prop} (H : ∀ a K, Nt.cone.T [.d (.ints .u32 a)] K → M [.d (.ints .u32 a)] K) (args : List TV) (K : TV → Prop) (hyp : Nt.cone.T args K) : M args K := by
  have e : ∃ a, args = [.d (.ints .u32 a)] := by
    unfold Nt.cone.T spec at hyp
    split at hyp
    · rename_i he
      simp only at he
      split at he
      · exact ⟨_, rfl⟩
      · cases he
    · exact hyp.elim
  obtain ⟨a, eqn⟩ := e
  subst eqn
  exact H a K hyp
theorem Nt.cmagnitude_el {M : List TV → (TV → Prop) → Prop} (H : ∀ n K, Nt.cmagnitude.T [.d (.int .i64 n)] K → M [.d (.int .i64 n)] K) (args : List TV) (K : TV → Prop) (hyp : Nt.cmagnitude.T args K) : M args K := by
  have e : ∃ n, args = [.d (.int .i64 n)] := by
    unfold Nt.cmagnitude.T spec at hyp
    split at hyp
    · rename_i he
      simp only at he
      split at he
      · exact ⟨_, rfl⟩
      · cases he
    · exact hyp.elim
  obtain ⟨n, eqn⟩ := e
  subst eqn
  exact H n K hyp
theorem Nt.crInt_el {M : List TV → (TV → Prop) → Prop} (H : ∀ n K, Nt.crInt.T [.d (.int .i64 n)] K → M [.d (.int .i64 n)] K) (args : List TV) (K : TV → Prop) (hyp : Nt.crInt.T args K) : M args K := by
  have e : ∃ n, args = [.d (.int .i64 n)] := by
    unfold Nt.crInt.T spec at hyp
    split at hyp
    · rename_i he
      simp only at he
      split at he
      · exact ⟨_, rfl⟩
      · cases he
    · exact hyp.elim
  obtain ⟨n, eqn⟩ := e
  subst eqn
  exact H n K hyp
theorem Nt.crNew_el {M : List TV → (TV → Prop) → Prop} (H : ∀ n d K, Nt.crNew.T [.d (.int .i64 n), .d (.int .i64 d)] K → M [.d (.int .i64 n), .d (.int .i64 d)] K) (args : List TV) (K : TV → Prop) (hyp : Nt.crNew.T args K) : M args K := by
  have e : ∃ n d, args = [.d (.int .i64 n), .d (.int .i64 d)] := by
    unfold Nt.crNew.T spec at hyp
    split at hyp
    · rename_i he
      simp only at he
      split at he
      · exact ⟨_, _, rfl⟩
      · cases he
    · exact hyp.elim
  obtain ⟨n, d, eqn⟩ := e
  subst eqn
  exact H n d K hyp
theorem Nt.crMake_el {M : List TV → (TV → Prop) → Prop} (H : ∀ s a b K, Nt.crMake.T [.d (.bool s), .d (.ints .u32 a), .d (.ints .u32 b)] K → M [.d (.bool s), .d (.ints .u32 a), .d (.ints .u32 b)] K) (args : List TV) (K : TV → Prop) (hyp : Nt.crMake.T args K) : M args K := by
  have e : ∃ s a b, args = [.d (.bool s), .d (.ints .u32 a), .d (.ints .u32 b)] := by
    unfold Nt.crMake.T spec at hyp
    split at hyp
    · rename_i he
      simp only at he
      split at he
      · exact ⟨_, _, _, rfl⟩
      · cases he
    · exact hyp.elim
  obtain ⟨s, a, b, eqn⟩ := e
  subst eqn
  exact H s a b K hyp
theorem Nt.ccombine_el {M : List TV → (TV → Prop) → Prop} (H : ∀ s a t b d K, Nt.ccombine.T [.d (.bool s), .d (.ints .u32 a), .d (.bool t), .d (.ints .u32 b), .d (.ints .u32 d)] K → M [.d (.bool s), .d (.ints .u32 a), .d (.bool t), .d (.ints .u32 b), .d (.ints .u32 d)] K) (args : List TV) (K : TV → Prop) (hyp : Nt.ccombine.T args K) : M args K := by
  have e : ∃ s a t b d, args = [.d (.bool s), .d (.ints .u32 a), .d (.bool t), .d (.ints .u32 b), .d (.ints .u32 d)] := by
    unfold Nt.ccombine.T spec at hyp
    split at hyp
    · rename_i he
      simp only at he
      split at he
      · exact ⟨_, _, _, _, _, rfl⟩
      · cases he
    · exact hyp.elim
  obtain ⟨s, a, t, b, d, eqn⟩ := e
  subst eqn
  exact H s a t b d K hyp
theorem Nt.crAdd_el {M : List TV → (TV → Prop) → Prop} (H : ∀ s a b t c d K, Nt.crAdd.T [.agg [.d (.bool s), .d (.ints .u32 a), .d (.ints .u32 b)], .agg [.d (.bool t), .d (.ints .u32 c), .d (.ints .u32 d)]] K → M [.agg [.d (.bool s), .d (.ints .u32 a), .d (.ints .u32 b)], .agg [.d (.bool t), .d (.ints .u32 c), .d (.ints .u32 d)]] K) (args : List TV) (K : TV → Prop) (hyp : Nt.crAdd.T args K) : M args K := by
  have e : ∃ s a b t c d, args = [.agg [.d (.bool s), .d (.ints .u32 a), .d (.ints .u32 b)], .agg [.d (.bool t), .d (.ints .u32 c), .d (.ints .u32 d)]] := by
    unfold Nt.crAdd.T spec at hyp
    split at hyp
    · rename_i he
      simp only at he
      split at he
      · exact ⟨_, _, _, _, _, _, rfl⟩
      · cases he
    · exact hyp.elim
  obtain ⟨s, a, b, t, c, d, eqn⟩ := e
  subst eqn
  exact H s a b t c d K hyp
theorem Nt.crNeg_el {M : List TV → (TV → Prop) → Prop} (H : ∀ s a b K, Nt.crNeg.T [.agg [.d (.bool s), .d (.ints .u32 a), .d (.ints .u32 b)]] K → M [.agg [.d (.bool s), .d (.ints .u32 a), .d (.ints .u32 b)]] K) (args : List TV) (K : TV → Prop) (hyp : Nt.crNeg.T args K) : M args K := by
  have e : ∃ s a b, args = [.agg [.d (.bool s), .d (.ints .u32 a), .d (.ints .u32 b)]] := by
    unfold Nt.crNeg.T spec at hyp
    split at hyp
    · rename_i he
      simp only at he
      split at he
      · exact ⟨_, _, _, rfl⟩
      · cases he
    · exact hyp.elim
  obtain ⟨s, a, b, eqn⟩ := e
  subst eqn
  exact H s a b K hyp
theorem Nt.crSub_el {M : List TV → (TV → Prop) → Prop} (H : ∀ s a b t c d K, Nt.crSub.T [.agg [.d (.bool s), .d (.ints .u32 a), .d (.ints .u32 b)], .agg [.d (.bool t), .d (.ints .u32 c), .d (.ints .u32 d)]] K → M [.agg [.d (.bool s), .d (.ints .u32 a), .d (.ints .u32 b)], .agg [.d (.bool t), .d (.ints .u32 c), .d (.ints .u32 d)]] K) (args : List TV) (K : TV → Prop) (hyp : Nt.crSub.T args K) : M args K := by
  have e : ∃ s a b t c d, args = [.agg [.d (.bool s), .d (.ints .u32 a), .d (.ints .u32 b)], .agg [.d (.bool t), .d (.ints .u32 c), .d (.ints .u32 d)]] := by
    unfold Nt.crSub.T spec at hyp
    split at hyp
    · rename_i he
      simp only at he
      split at he
      · exact ⟨_, _, _, _, _, _, rfl⟩
      · cases he
    · exact hyp.elim
  obtain ⟨s, a, b, t, c, d, eqn⟩ := e
  subst eqn
  exact H s a b t c d K hyp
theorem Nt.crMul_el {M : List TV → (TV → Prop) → Prop} (H : ∀ s a b t c d K, Nt.crMul.T [.agg [.d (.bool s), .d (.ints .u32 a), .d (.ints .u32 b)], .agg [.d (.bool t), .d (.ints .u32 c), .d (.ints .u32 d)]] K → M [.agg [.d (.bool s), .d (.ints .u32 a), .d (.ints .u32 b)], .agg [.d (.bool t), .d (.ints .u32 c), .d (.ints .u32 d)]] K) (args : List TV) (K : TV → Prop) (hyp : Nt.crMul.T args K) : M args K := by
  have e : ∃ s a b t c d, args = [.agg [.d (.bool s), .d (.ints .u32 a), .d (.ints .u32 b)], .agg [.d (.bool t), .d (.ints .u32 c), .d (.ints .u32 d)]] := by
    unfold Nt.crMul.T spec at hyp
    split at hyp
    · rename_i he
      simp only at he
      split at he
      · exact ⟨_, _, _, _, _, _, rfl⟩
      · cases he
    · exact hyp.elim
  obtain ⟨s, a, b, t, c, d, eqn⟩ := e
  subst eqn
  exact H s a b t c d K hyp
theorem Nt.crDiv_el {M : List TV → (TV → Prop) → Prop} (H : ∀ s a b t c d K, Nt.crDiv.T [.agg [.d (.bool s), .d (.ints .u32 a), .d (.ints .u32 b)], .agg [.d (.bool t), .d (.ints .u32 c), .d (.ints .u32 d)]] K → M [.agg [.d (.bool s), .d (.ints .u32 a), .d (.ints .u32 b)], .agg [.d (.bool t), .d (.ints .u32 c), .d (.ints .u32 d)]] K) (args : List TV) (K : TV → Prop) (hyp : Nt.crDiv.T args K) : M args K := by
  have e : ∃ s a b t c d, args = [.agg [.d (.bool s), .d (.ints .u32 a), .d (.ints .u32 b)], .agg [.d (.bool t), .d (.ints .u32 c), .d (.ints .u32 d)]] := by
    unfold Nt.crDiv.T spec at hyp
    split at hyp
    · rename_i he
      simp only at he
      split at he
      · exact ⟨_, _, _, _, _, _, rfl⟩
      · cases he
    · exact hyp.elim
  obtain ⟨s, a, b, t, c, d, eqn⟩ := e
  subst eqn
  exact H s a b t c d K hyp
theorem Nt.crSign_el {M : List TV → (TV → Prop) → Prop} (H : ∀ s a b K, Nt.crSign.T [.agg [.d (.bool s), .d (.ints .u32 a), .d (.ints .u32 b)]] K → M [.agg [.d (.bool s), .d (.ints .u32 a), .d (.ints .u32 b)]] K) (args : List TV) (K : TV → Prop) (hyp : Nt.crSign.T args K) : M args K := by
  have e : ∃ s a b, args = [.agg [.d (.bool s), .d (.ints .u32 a), .d (.ints .u32 b)]] := by
    unfold Nt.crSign.T spec at hyp
    split at hyp
    · rename_i he
      simp only at he
      split at he
      · exact ⟨_, _, _, rfl⟩
      · cases he
    · exact hyp.elim
  obtain ⟨s, a, b, eqn⟩ := e
  subst eqn
  exact H s a b K hyp
theorem Nt.crCmp_el {M : List TV → (TV → Prop) → Prop} (H : ∀ s a b t c d K, Nt.crCmp.T [.agg [.d (.bool s), .d (.ints .u32 a), .d (.ints .u32 b)], .agg [.d (.bool t), .d (.ints .u32 c), .d (.ints .u32 d)]] K → M [.agg [.d (.bool s), .d (.ints .u32 a), .d (.ints .u32 b)], .agg [.d (.bool t), .d (.ints .u32 c), .d (.ints .u32 d)]] K) (args : List TV) (K : TV → Prop) (hyp : Nt.crCmp.T args K) : M args K := by
  have e : ∃ s a b t c d, args = [.agg [.d (.bool s), .d (.ints .u32 a), .d (.ints .u32 b)], .agg [.d (.bool t), .d (.ints .u32 c), .d (.ints .u32 d)]] := by
    unfold Nt.crCmp.T spec at hyp
    split at hyp
    · rename_i he
      simp only at he
      split at he
      · exact ⟨_, _, _, _, _, _, rfl⟩
      · cases he
    · exact hyp.elim
  obtain ⟨s, a, b, t, c, d, eqn⟩ := e
  subst eqn
  exact H s a b t c d K hyp
theorem Nt.crEqual_el {M : List TV → (TV → Prop) → Prop} (H : ∀ s a b t c d K, Nt.crEqual.T [.agg [.d (.bool s), .d (.ints .u32 a), .d (.ints .u32 b)], .agg [.d (.bool t), .d (.ints .u32 c), .d (.ints .u32 d)]] K → M [.agg [.d (.bool s), .d (.ints .u32 a), .d (.ints .u32 b)], .agg [.d (.bool t), .d (.ints .u32 c), .d (.ints .u32 d)]] K) (args : List TV) (K : TV → Prop) (hyp : Nt.crEqual.T args K) : M args K := by
  have e : ∃ s a b t c d, args = [.agg [.d (.bool s), .d (.ints .u32 a), .d (.ints .u32 b)], .agg [.d (.bool t), .d (.ints .u32 c), .d (.ints .u32 d)]] := by
    unfold Nt.crEqual.T spec at hyp
    split at hyp
    · rename_i he
      simp only at he
      split at he
      · exact ⟨_, _, _, _, _, _, rfl⟩
      · cases he
    · exact hyp.elim
  obtain ⟨s, a, b, t, c, d, eqn⟩ := e
  subst eqn
  exact H s a b t c d K hyp
theorem Nt.crParse_el {M : List TV → (TV → Prop) → Prop} (H : ∀ s K, Nt.crParse.T [.d (.str s)] K → M [.d (.str s)] K) (args : List TV) (K : TV → Prop) (hyp : Nt.crParse.T args K) : M args K := by
  have e : ∃ s, args = [.d (.str s)] := by
    unfold Nt.crParse.T spec at hyp
    split at hyp
    · rename_i he
      simp only at he
      split at he
      · exact ⟨_, rfl⟩
      · cases he
    · exact hyp.elim
  obtain ⟨s, eqn⟩ := e
  subst eqn
  exact H s K hyp
theorem Nt.crFormat_el {M : List TV → (TV → Prop) → Prop} (H : ∀ s a b K, Nt.crFormat.T [.agg [.d (.bool s), .d (.ints .u32 a), .d (.ints .u32 b)]] K → M [.agg [.d (.bool s), .d (.ints .u32 a), .d (.ints .u32 b)]] K) (args : List TV) (K : TV → Prop) (hyp : Nt.crFormat.T args K) : M args K := by
  have e : ∃ s a b, args = [.agg [.d (.bool s), .d (.ints .u32 a), .d (.ints .u32 b)]] := by
    unfold Nt.crFormat.T spec at hyp
    split at hyp
    · rename_i he
      simp only at he
      split at he
      · exact ⟨_, _, _, rfl⟩
      · cases he
    · exact hyp.elim
  obtain ⟨s, a, b, eqn⟩ := e
  subst eqn
  exact H s a b K hyp
theorem Nt.clowest_el {M : List TV → (TV → Prop) → Prop} (H : ∀ s a b K, Nt.clowest.T [.d (.bool s), .d (.ints .u32 a), .d (.ints .u32 b)] K → M [.d (.bool s), .d (.ints .u32 a), .d (.ints .u32 b)] K) (args : List TV) (K : TV → Prop) (hyp : Nt.clowest.T args K) : M args K := by
  have e : ∃ s a b, args = [.d (.bool s), .d (.ints .u32 a), .d (.ints .u32 b)] := by
    unfold Nt.clowest.T spec at hyp
    split at hyp
    · rename_i he
      simp only at he
      split at he
      · exact ⟨_, _, _, rfl⟩
      · cases he
    · exact hyp.elim
  obtain ⟨s, a, b, eqn⟩ := e
  subst eqn
  exact H s a b K hyp
theorem Nt.cqNumber_el {M : List TV → (TV → Prop) → Prop} (H : ∀ s a b K, Nt.cqNumber.T [.agg [.d (.bool s), .d (.ints .u32 a), .d (.ints .u32 b)]] K → M [.agg [.d (.bool s), .d (.ints .u32 a), .d (.ints .u32 b)]] K) (args : List TV) (K : TV → Prop) (hyp : Nt.cqNumber.T args K) : M args K := by
  have e : ∃ s a b, args = [.agg [.d (.bool s), .d (.ints .u32 a), .d (.ints .u32 b)]] := by
    unfold Nt.cqNumber.T spec at hyp
    split at hyp
    · rename_i he
      simp only at he
      split at he
      · exact ⟨_, _, _, rfl⟩
      · cases he
    · exact hyp.elim
  obtain ⟨s, a, b, eqn⟩ := e
  subst eqn
  exact H s a b K hyp
theorem Nt.cqMake_el {M : List TV → (TV → Prop) → Prop} (H : ∀ s a b K, Nt.cqMake.T [.d (.bool s), .d (.ints .u32 a), .d (.ints .u32 b)] K → M [.d (.bool s), .d (.ints .u32 a), .d (.ints .u32 b)] K) (args : List TV) (K : TV → Prop) (hyp : Nt.cqMake.T args K) : M args K := by
  have e : ∃ s a b, args = [.d (.bool s), .d (.ints .u32 a), .d (.ints .u32 b)] := by
    unfold Nt.cqMake.T spec at hyp
    split at hyp
    · rename_i he
      simp only at he
      split at he
      · exact ⟨_, _, _, rfl⟩
      · cases he
    · exact hyp.elim
  obtain ⟨s, a, b, eqn⟩ := e
  subst eqn
  exact H s a b K hyp
theorem Nt.cqSign_el {M : List TV → (TV → Prop) → Prop} (H : ∀ s a b K, Nt.cqSign.T [.agg [.d (.bool s), .d (.ints .u32 a), .d (.ints .u32 b)]] K → M [.agg [.d (.bool s), .d (.ints .u32 a), .d (.ints .u32 b)]] K) (args : List TV) (K : TV → Prop) (hyp : Nt.cqSign.T args K) : M args K := by
  have e : ∃ s a b, args = [.agg [.d (.bool s), .d (.ints .u32 a), .d (.ints .u32 b)]] := by
    unfold Nt.cqSign.T spec at hyp
    split at hyp
    · rename_i he
      simp only at he
      split at he
      · exact ⟨_, _, _, rfl⟩
      · cases he
    · exact hyp.elim
  obtain ⟨s, a, b, eqn⟩ := e
  subst eqn
  exact H s a b K hyp
theorem Nt.crSame_el {M : List TV → (TV → Prop) → Prop} (H : ∀ s a b t c d K, Nt.crSame.T [.agg [.d (.bool s), .d (.ints .u32 a), .d (.ints .u32 b)], .agg [.d (.bool t), .d (.ints .u32 c), .d (.ints .u32 d)]] K → M [.agg [.d (.bool s), .d (.ints .u32 a), .d (.ints .u32 b)], .agg [.d (.bool t), .d (.ints .u32 c), .d (.ints .u32 d)]] K) (args : List TV) (K : TV → Prop) (hyp : Nt.crSame.T args K) : M args K := by
  have e : ∃ s a b t c d, args = [.agg [.d (.bool s), .d (.ints .u32 a), .d (.ints .u32 b)], .agg [.d (.bool t), .d (.ints .u32 c), .d (.ints .u32 d)]] := by
    unfold Nt.crSame.T spec at hyp
    split at hyp
    · rename_i he
      simp only at he
      split at he
      · exact ⟨_, _, _, _, _, _, rfl⟩
      · cases he
    · exact hyp.elim
  obtain ⟨s, a, b, t, c, d, eqn⟩ := e
  subst eqn
  exact H s a b t c d K hyp
theorem Go.Vc.cIdx_el {M : List TV → (TV → Prop) → Prop} (H : ∀ s c K, Go.Vc.cIdx.T [.d (.str s), .d (.int .u8 c)] K → M [.d (.str s), .d (.int .u8 c)] K) (args : List TV) (K : TV → Prop) (hyp : Go.Vc.cIdx.T args K) : M args K := by
  have e : ∃ s c, args = [.d (.str s), .d (.int .u8 c)] := by
    unfold Go.Vc.cIdx.T spec at hyp
    split at hyp
    · rename_i he
      simp only at he
      split at he
      · exact ⟨_, _, rfl⟩
      · cases he
    · exact hyp.elim
  obtain ⟨s, c, eqn⟩ := e
  subst eqn
  exact H s c K hyp
theorem Nt.chasPrefix_el {M : List TV → (TV → Prop) → Prop} (H : ∀ s p K, Nt.chasPrefix.T [.d (.str s), .d (.str p)] K → M [.d (.str s), .d (.str p)] K) (args : List TV) (K : TV → Prop) (hyp : Nt.chasPrefix.T args K) : M args K := by
  have e : ∃ s p, args = [.d (.str s), .d (.str p)] := by
    unfold Nt.chasPrefix.T spec at hyp
    split at hyp
    · rename_i he
      simp only at he
      split at he
      · exact ⟨_, _, rfl⟩
      · cases he
    · exact hyp.elim
  obtain ⟨s, p, eqn⟩ := e
  subst eqn
  exact H s p K hyp
theorem Nt.ccutPrefixL_el {M : List TV → (TV → Prop) → Prop} (H : ∀ s p K, Nt.ccutPrefixL.T [.d (.str s), .d (.str p)] K → M [.d (.str s), .d (.str p)] K) (args : List TV) (K : TV → Prop) (hyp : Nt.ccutPrefixL.T args K) : M args K := by
  have e : ∃ s p, args = [.d (.str s), .d (.str p)] := by
    unfold Nt.ccutPrefixL.T spec at hyp
    split at hyp
    · rename_i he
      simp only at he
      split at he
      · exact ⟨_, _, rfl⟩
      · cases he
    · exact hyp.elim
  obtain ⟨s, p, eqn⟩ := e
  subst eqn
  exact H s p K hyp
theorem Nt.cindexL_el {M : List TV → (TV → Prop) → Prop} (H : ∀ s p K, Nt.cindexL.T [.d (.str s), .d (.str p)] K → M [.d (.str s), .d (.str p)] K) (args : List TV) (K : TV → Prop) (hyp : Nt.cindexL.T args K) : M args K := by
  have e : ∃ s p, args = [.d (.str s), .d (.str p)] := by
    unfold Nt.cindexL.T spec at hyp
    split at hyp
    · rename_i he
      simp only at he
      split at he
      · exact ⟨_, _, rfl⟩
      · cases he
    · exact hyp.elim
  obtain ⟨s, p, eqn⟩ := e
  subst eqn
  exact H s p K hyp
theorem Nt.ccutL_el {M : List TV → (TV → Prop) → Prop} (H : ∀ s p K, Nt.ccutL.T [.d (.str s), .d (.str p)] K → M [.d (.str s), .d (.str p)] K) (args : List TV) (K : TV → Prop) (hyp : Nt.ccutL.T args K) : M args K := by
  have e : ∃ s p, args = [.d (.str s), .d (.str p)] := by
    unfold Nt.ccutL.T spec at hyp
    split at hyp
    · rename_i he
      simp only at he
      split at he
      · exact ⟨_, _, rfl⟩
      · cases he
    · exact hyp.elim
  obtain ⟨s, p, eqn⟩ := e
  subst eqn
  exact H s p K hyp
theorem Nt.cmkRange_el {M : TV → OB → List TV → (OB → TV → Prop) → Prop} (H : ∀ l a s x y K, Nt.cmkRange.T (.ptr 0 0) (.cells [.d (.ints .i64 l), .d (.int .i64 a), .d (.int .i64 s)]) [.d (.int .i64 x), .d (.int .i64 y)] K → M (.ptr 0 0) (.cells [.d (.ints .i64 l), .d (.int .i64 a), .d (.int .i64 s)]) [.d (.int .i64 x), .d (.int .i64 y)] K) (a0 : TV) (b0 : OB) (args : List TV) (K : OB → TV → Prop) (hyp : Nt.cmkRange.T a0 b0 args K) : M a0 b0 args K := by
  have e : ∃ l a s x y, a0 = .ptr 0 0 ∧ b0 = .cells [.d (.ints .i64 l), .d (.int .i64 a), .d (.int .i64 s)] ∧ args = [.d (.int .i64 x), .d (.int .i64 y)] := by
    unfold Nt.cmkRange.T lspec at hyp
    split at hyp
    · rename_i he
      simp only at he
      split at he
      · split at he
        · rename_i hb hc
          obtain rfl := Nat.eq_of_beq_eq_true hb
          obtain rfl := Nat.eq_of_beq_eq_true hc
          exact ⟨_, _, _, _, _, rfl, rfl, rfl⟩
        · cases he
      · cases he
    · exact hyp.elim
  obtain ⟨l, a, s, x, y, e0, e1, e2⟩ := e
  subst e0 e1 e2
  exact H l a s x y K hyp
theorem Nt.cmkRat_el {M : TV → OB → List TV → (OB → TV → Prop) → Prop} (H : ∀ l a s K, Nt.cmkRat.T (.ptr 0 0) (.cells [.d (.ints .i64 l), .d (.int .i64 a), .d (.int .i64 s)]) [] K → M (.ptr 0 0) (.cells [.d (.ints .i64 l), .d (.int .i64 a), .d (.int .i64 s)]) [] K) (a0 : TV) (b0 : OB) (args : List TV) (K : OB → TV → Prop) (hyp : Nt.cmkRat.T a0 b0 args K) : M a0 b0 args K := by
  have e : ∃ l a s, a0 = .ptr 0 0 ∧ b0 = .cells [.d (.ints .i64 l), .d (.int .i64 a), .d (.int .i64 s)] ∧ args = [] := by
    unfold Nt.cmkRat.T lspec at hyp
    split at hyp
    · rename_i he
      simp only at he
      split at he
      · split at he
        · rename_i hb hc
          obtain rfl := Nat.eq_of_beq_eq_true hb
          obtain rfl := Nat.eq_of_beq_eq_true hc
          exact ⟨_, _, _, rfl, rfl, rfl⟩
        · cases he
      · cases he
    · exact hyp.elim
  obtain ⟨l, a, s, e0, e1, e2⟩ := e
  subst e0 e1 e2
  exact H l a s K hyp
theorem Nt.cmkLoose_el {M : TV → OB → List TV → (OB → TV → Prop) → Prop} (H : ∀ l a s K, Nt.cmkLoose.T (.ptr 0 0) (.cells [.d (.ints .i64 l), .d (.int .i64 a), .d (.int .i64 s)]) [] K → M (.ptr 0 0) (.cells [.d (.ints .i64 l), .d (.int .i64 a), .d (.int .i64 s)]) [] K) (a0 : TV) (b0 : OB) (args : List TV) (K : OB → TV → Prop) (hyp : Nt.cmkLoose.T a0 b0 args K) : M a0 b0 args K := by
  have e : ∃ l a s, a0 = .ptr 0 0 ∧ b0 = .cells [.d (.ints .i64 l), .d (.int .i64 a), .d (.int .i64 s)] ∧ args = [] := by
    unfold Nt.cmkLoose.T lspec at hyp
    split at hyp
    · rename_i he
      simp only at he
      split at he
      · split at he
        · rename_i hb hc
          obtain rfl := Nat.eq_of_beq_eq_true hb
          obtain rfl := Nat.eq_of_beq_eq_true hc
          exact ⟨_, _, _, rfl, rfl, rfl⟩
        · cases he
      · cases he
    · exact hyp.elim
  obtain ⟨l, a, s, e0, e1, e2⟩ := e
  subst e0 e1 e2
  exact H l a s K hyp
theorem Nt.crefNormal_el {M : List TV → (TV → Prop) → Prop} (H : ∀ a K, Nt.crefNormal.T [.d (.ints .u32 a)] K → M [.d (.ints .u32 a)] K) (args : List TV) (K : TV → Prop) (hyp : Nt.crefNormal.T args K) : M args K := by
  have e : ∃ a, args = [.d (.ints .u32 a)] := by
    unfold Nt.crefNormal.T spec at hyp
    split at hyp
    · rename_i he
      simp only at he
      split at he
      · exact ⟨_, rfl⟩
      · cases he
    · exact hyp.elim
  obtain ⟨a, eqn⟩ := e
  subst eqn
  exact H a K hyp
theorem Nt.cl2short_el {M : List TV → (TV → Prop) → Prop} (H : ∀ s a b K, Nt.cl2short.T [.agg [.d (.bool s), .d (.ints .u32 a), .d (.ints .u32 b)]] K → M [.agg [.d (.bool s), .d (.ints .u32 a), .d (.ints .u32 b)]] K) (args : List TV) (K : TV → Prop) (hyp : Nt.cl2short.T args K) : M args K := by
  have e : ∃ s a b, args = [.agg [.d (.bool s), .d (.ints .u32 a), .d (.ints .u32 b)]] := by
    unfold Nt.cl2short.T spec at hyp
    split at hyp
    · rename_i he
      simp only at he
      split at he
      · exact ⟨_, _, _, rfl⟩
      · cases he
    · exact hyp.elim
  obtain ⟨s, a, b, eqn⟩ := e
  subst eqn
  exact H s a b K hyp
theorem Nt.cl2awake_el {M : List TV → (TV → Prop) → Prop} (H : ∀ K, Nt.cl2awake.T [] K → M [] K) (args : List TV) (K : TV → Prop) (hyp : Nt.cl2awake.T args K) : M args K := by
  have e : args = [] := by
    unfold Nt.cl2awake.T spec at hyp
    split at hyp
    · rename_i he
      simp only at he
      split at he
      · exact rfl
      · cases he
    · exact hyp.elim
  have eqn := e
  subst eqn
  exact H  K hyp
theorem Nt.cl2agrees_el {M : List TV → (TV → Prop) → Prop} (H : ∀ s a b t c d K, Nt.cl2agrees.T [.agg [.d (.bool s), .d (.ints .u32 a), .d (.ints .u32 b)], .agg [.d (.bool t), .d (.ints .u32 c), .d (.ints .u32 d)]] K → M [.agg [.d (.bool s), .d (.ints .u32 a), .d (.ints .u32 b)], .agg [.d (.bool t), .d (.ints .u32 c), .d (.ints .u32 d)]] K) (args : List TV) (K : TV → Prop) (hyp : Nt.cl2agrees.T args K) : M args K := by
  have e : ∃ s a b t c d, args = [.agg [.d (.bool s), .d (.ints .u32 a), .d (.ints .u32 b)], .agg [.d (.bool t), .d (.ints .u32 c), .d (.ints .u32 d)]] := by
    unfold Nt.cl2agrees.T spec at hyp
    split at hyp
    · rename_i he
      simp only at he
      split at he
      · exact ⟨_, _, _, _, _, _, rfl⟩
      · cases he
    · exact hyp.elim
  obtain ⟨s, a, b, t, c, d, eqn⟩ := e
  subst eqn
  exact H s a b t c d K hyp
theorem Nt.cRationalDenotes_el {M : List TV → (TV → Prop) → Prop} (H : ∀ l k z K, Nt.cRationalDenotes.T [.d (.ints .i64 l), .d (.int .u32 k), .d (.int .u8 z)] K → M [.d (.ints .i64 l), .d (.int .u32 k), .d (.int .u8 z)] K) (args : List TV) (K : TV → Prop) (hyp : Nt.cRationalDenotes.T args K) : M args K := by
  have e : ∃ l k z, args = [.d (.ints .i64 l), .d (.int .u32 k), .d (.int .u8 z)] := by
    unfold Nt.cRationalDenotes.T spec at hyp
    split at hyp
    · rename_i he
      simp only at he
      split at he
      · exact ⟨_, _, _, rfl⟩
      · cases he
    · exact hyp.elim
  obtain ⟨l, k, z, eqn⟩ := e
  subst eqn
  exact H l k z K hyp
theorem Nt.crefMulF_el {M : List TV → (OB → Prop) → Prop} (H : ∀ a b K, Nt.crefMulF.T [.d (.ints .u32 a), .d (.ints .u32 b)] K → M [.d (.ints .u32 a), .d (.ints .u32 b)] K) (args : List TV) (K : OB → Prop) (hyp : Nt.crefMulF.T args K) : M args K := by
  have e : ∃ a b, args = [.d (.ints .u32 a), .d (.ints .u32 b)] := by
    unfold Nt.crefMulF.T fspec at hyp
    split at hyp
    · rename_i he
      simp only at he
      split at he
      · exact ⟨_, _, rfl⟩
      · cases he
    · exact hyp.elim
  obtain ⟨a, b, eqn⟩ := e
  subst eqn
  exact H a b K hyp
end

section
/- RtF: what an argument that is a fraction holds. -/
namespace Nt
open Go Go.Vc
end Nt
end
