/- Helpers for the statements: facts about numbers as lists of limbs, and the proofs of the conditions. Condition: none. -/
import Derived.Test.YtcnaceleinmbcaaA1
import Derived.Test.YtcnaceleinmbcaaB0
section
/- Verification conditions, printed. -/
open Go Go.Vc
namespace Nt
def vc_nlong : List Int → List Int → (TV → Prop) → Prop :=
 fun (a b : List Int) (K : TV → Prop) => (0 : Int) ≤ IntKind.wrap IntKind.i64 ((Nat.cast : Nat → Int) (List.length b) - (1 : Int)) ∧ IntKind.wrap IntKind.i64 ((Nat.cast : Nat → Int) (List.length b) -
 (1 : Int)) < (Nat.cast : Nat → Int) (List.length b) ∧ Nt.L (List.getD b (Int.toNat (IntKind.wrap IntKind.i64 ((Nat.cast : Nat → Int) (List.length b) - (1 : Int)))) (0 : Int)) ∧ ∀ (x : Int), x = (32 :
 Int) - (Nat.cast : Nat → Int) (Nt.blen (Int.toNat (List.getD b (Int.toNat (IntKind.wrap IntKind.i64 ((Nat.cast : Nat → Int) (List.length b) - (1 : Int)))) (0 : Int)))) → (Nt.Few a ∧ (0 : Int) ≤
 IntKind.wrap IntKind.u64 x ∧ IntKind.wrap IntKind.u64 x < (32 : Int)) ∧ ∀ (x_1 : List Int), x_1 = Nt.lowl (Nt.val a * (2 : Nat) ^ Int.toNat (IntKind.wrap IntKind.u64 x)) (List.length a + (1 : Nat)) →
 (Nt.Few b ∧ (0 : Int) ≤ IntKind.wrap IntKind.u64 x ∧ IntKind.wrap IntKind.u64 x < (32 : Int)) ∧ ∀ (x_2 : List Int), x_2 = Nt.lowl (Nt.val b * (2 : Nat) ^ Int.toNat (IntKind.wrap IntKind.u64 x))
 (List.length b + (1 : Nat)) → (Nt.Lim x_2 ∧ List.length x_2 ≤ (1000000000 : Nat)) ∧ ∀ (x_3 : List Int), x_3 = Nt.limbs (Nt.val x_2) → (0 : Int) ≤ IntKind.wrap IntKind.i64 ((Nat.cast : Nat → Int)
 (List.length x_3) - (1 : Int)) ∧ IntKind.wrap IntKind.i64 ((Nat.cast : Nat → Int) (List.length x_3) - (1 : Int)) < (Nat.cast : Nat → Int) (List.length x_3) ∧ (0 : Int) ≤ IntKind.wrap IntKind.i64
 ((Nat.cast : Nat → Int) (List.length x_3) - (2 : Int)) ∧ IntKind.wrap IntKind.i64 ((Nat.cast : Nat → Int) (List.length x_3) - (2 : Int)) < (Nat.cast : Nat → Int) (List.length x_3) ∧ (0 : Int) ≤
 IntKind.wrap IntKind.i64 ((Nat.cast : Nat → Int) (List.length x_1) - (Nat.cast : Nat → Int) (List.length x_3)) ∧ IntKind.wrap IntKind.i64 ((Nat.cast : Nat → Int) (List.length x_1) - (Nat.cast : Nat →
 Int) (List.length x_3)) ≤ IntKind.wrap IntKind.i64 ((Nat.cast : Nat → Int) (List.length x_1) - (Nat.cast : Nat → Int) (List.length x_3)) ∧ IntKind.wrap IntKind.i64 ((Nat.cast : Nat → Int) (List.length
 x_1) - (Nat.cast : Nat → Int) (List.length x_3)) * (4 : Int) ≤ (281474976710656 : Int) ∧ ∃ (I : Int → List Int → List Int → Prop), ∃ (m : Int → List Int → List Int → Nat), ((true, OB.ints IntKind.u32
 x_2) = (true, OB.ints IntKind.u32 x_2) ∧ I (IntKind.wrap IntKind.i64 ((Nat.cast : Nat → Int) (List.length (List.replicate (Int.toNat (IntKind.wrap IntKind.i64 ((Nat.cast : Nat → Int) (List.length x_1)
 - (Nat.cast : Nat → Int) (List.length x_3)))) (0 : Int))) - (1 : Int))) x_1 (List.replicate (Int.toNat (IntKind.wrap IntKind.i64 ((Nat.cast : Nat → Int) (List.length x_1) - (Nat.cast : Nat → Int)
 (List.length x_3)))) (0 : Int))) ∧ ∀ (v12 : Int) (o0 o2 : List Int), I v12 o0 o2 → (decide ((0 : Int) ≤ v12) = true → (0 : Int) ≤ IntKind.wrap IntKind.i64 (v12 + (Nat.cast : Nat → Int) (List.length
 x_3)) ∧ IntKind.wrap IntKind.i64 (v12 + (Nat.cast : Nat → Int) (List.length x_3)) < (Nat.cast : Nat → Int) (List.length o0) ∧ (0 : Int) ≤ IntKind.wrap IntKind.i64 (IntKind.wrap IntKind.i64 (v12 +
 (Nat.cast : Nat → Int) (List.length x_3)) - (1 : Int)) ∧ IntKind.wrap IntKind.i64 (IntKind.wrap IntKind.i64 (v12 + (Nat.cast : Nat → Int) (List.length x_3)) - (1 : Int)) < (Nat.cast : Nat → Int)
 (List.length o0) ∧ ¬IntKind.wrap IntKind.u64 (List.getD x_3 (Int.toNat (IntKind.wrap IntKind.i64 ((Nat.cast : Nat → Int) (List.length x_3) - (1 : Int)))) (0 : Int)) = (0 : Int) ∧ ¬IntKind.wrap
 IntKind.u64 (List.getD x_3 (Int.toNat (IntKind.wrap IntKind.i64 ((Nat.cast : Nat → Int) (List.length x_3) - (1 : Int)))) (0 : Int)) = (0 : Int) ∧ ∃ (J : Int → Prop), (∃ (I : Int → Int → Prop), ∃ (m :
 Int → Int → Nat), ((false, OB.ints IntKind.u32 o0) = (false, OB.ints IntKind.u32 o0) ∧ (true, OB.ints IntKind.u32 x_2) = (true, OB.ints IntKind.u32 x_2) ∧ (false, OB.ints IntKind.u32 o2) = (false,
 OB.ints IntKind.u32 o2) ∧ I (IntKind.wrap IntKind.u64 (Int.tdiv (bitop BinOp.or IntKind.u64 (IntKind.wrap IntKind.u64 (IntKind.wrap IntKind.u64 (List.getD o0 (Int.toNat (IntKind.wrap IntKind.i64 (v12
 + (Nat.cast : Nat → Int) (List.length x_3)))) (0 : Int)) * (4294967296 : Int))) (IntKind.wrap IntKind.u64 (List.getD o0 (Int.toNat (IntKind.wrap IntKind.i64 (IntKind.wrap IntKind.i64 (v12 + (Nat.cast
 : Nat → Int) (List.length x_3)) - (1 : Int)))) (0 : Int)))) (IntKind.wrap IntKind.u64 (List.getD x_3 (Int.toNat (IntKind.wrap IntKind.i64 ((Nat.cast : Nat → Int) (List.length x_3) - (1 : Int)))) (0 :
 Int))))) (Int.tmod (bitop BinOp.or IntKind.u64 (IntKind.wrap IntKind.u64 (IntKind.wrap IntKind.u64 (List.getD o0 (Int.toNat (IntKind.wrap IntKind.i64 (v12 + (Nat.cast : Nat → Int) (List.length x_3))))
 (0 : Int)) * (4294967296 : Int))) (IntKind.wrap IntKind.u64 (List.getD o0 (Int.toNat (IntKind.wrap IntKind.i64 (IntKind.wrap IntKind.i64 (v12 + (Nat.cast : Nat → Int) (List.length x_3)) - (1 : Int))))
 (0 : Int)))) (IntKind.wrap IntKind.u64 (List.getD x_3 (Int.toNat (IntKind.wrap IntKind.i64 ((Nat.cast : Nat → Int) (List.length x_3) - (1 : Int)))) (0 : Int))))) ∧ ∀ (v14 v15 : Int), I v14 v15 →
 ((!decide (Int.fdiv v14 (4294967296 : Int) = (0 : Int))) = true → ((!decide (Int.fdiv (IntKind.wrap IntKind.u64 (v15 + IntKind.wrap IntKind.u64 (List.getD x_3 (Int.toNat (IntKind.wrap IntKind.i64
 ((Nat.cast : Nat → Int) (List.length x_3) - (1 : Int)))) (0 : Int)))) (4294967296 : Int) = (0 : Int))) = true → (false, OB.ints IntKind.u32 o0) = (false, OB.ints IntKind.u32 o0) ∧ (true, OB.ints
 IntKind.u32 x_2) = (true, OB.ints IntKind.u32 x_2) ∧ (false, OB.ints IntKind.u32 o2) = (false, OB.ints IntKind.u32 o2) ∧ J (IntKind.wrap IntKind.u64 (v14 - (1 : Int)))) ∧ ((!decide (Int.fdiv
 (IntKind.wrap IntKind.u64 (v15 + IntKind.wrap IntKind.u64 (List.getD x_3 (Int.toNat (IntKind.wrap IntKind.i64 ((Nat.cast : Nat → Int) (List.length x_3) - (1 : Int)))) (0 : Int)))) (4294967296 : Int) =
 (0 : Int))) = false → (false, OB.ints IntKind.u32 o0) = (false, OB.ints IntKind.u32 o0) ∧ (true, OB.ints IntKind.u32 x_2) = (true, OB.ints IntKind.u32 x_2) ∧ (false, OB.ints IntKind.u32 o2) = (false,
 OB.ints IntKind.u32 o2) ∧ I (IntKind.wrap IntKind.u64 (v14 - (1 : Int))) (IntKind.wrap IntKind.u64 (v15 + IntKind.wrap IntKind.u64 (List.getD x_3 (Int.toNat (IntKind.wrap IntKind.i64 ((Nat.cast : Nat
 → Int) (List.length x_3) - (1 : Int)))) (0 : Int)))) ∧ m (IntKind.wrap IntKind.u64 (v14 - (1 : Int))) (IntKind.wrap IntKind.u64 (v15 + IntKind.wrap IntKind.u64 (List.getD x_3 (Int.toNat (IntKind.wrap
 IntKind.i64 ((Nat.cast : Nat → Int) (List.length x_3) - (1 : Int)))) (0 : Int)))) < m v14 v15)) ∧ ((!decide (Int.fdiv v14 (4294967296 : Int) = (0 : Int))) = false → (0 : Int) ≤ IntKind.wrap
 IntKind.i64 (IntKind.wrap IntKind.i64 (v12 + (Nat.cast : Nat → Int) (List.length x_3)) - (2 : Int)) ∧ IntKind.wrap IntKind.i64 (IntKind.wrap IntKind.i64 (v12 + (Nat.cast : Nat → Int) (List.length
 x_3)) - (2 : Int)) < (Nat.cast : Nat → Int) (List.length o0) ∧ (decide (bitop BinOp.or IntKind.u64 (IntKind.wrap IntKind.u64 (v15 * (4294967296 : Int))) (IntKind.wrap IntKind.u64 (List.getD o0
 (Int.toNat (IntKind.wrap IntKind.i64 (IntKind.wrap IntKind.i64 (v12 + (Nat.cast : Nat → Int) (List.length x_3)) - (2 : Int)))) (0 : Int))) < IntKind.wrap IntKind.u64 (v14 * IntKind.wrap IntKind.u64
 (List.getD x_3 (Int.toNat (IntKind.wrap IntKind.i64 ((Nat.cast : Nat → Int) (List.length x_3) - (2 : Int)))) (0 : Int)))) = true → ((!decide (Int.fdiv (IntKind.wrap IntKind.u64 (v15 + IntKind.wrap
 IntKind.u64 (List.getD x_3 (Int.toNat (IntKind.wrap IntKind.i64 ((Nat.cast : Nat → Int) (List.length x_3) - (1 : Int)))) (0 : Int)))) (4294967296 : Int) = (0 : Int))) = true → (false, OB.ints
 IntKind.u32 o0) = (false, OB.ints IntKind.u32 o0) ∧ (true, OB.ints IntKind.u32 x_2) = (true, OB.ints IntKind.u32 x_2) ∧ (false, OB.ints IntKind.u32 o2) = (false, OB.ints IntKind.u32 o2) ∧ J
 (IntKind.wrap IntKind.u64 (v14 - (1 : Int)))) ∧ ((!decide (Int.fdiv (IntKind.wrap IntKind.u64 (v15 + IntKind.wrap IntKind.u64 (List.getD x_3 (Int.toNat (IntKind.wrap IntKind.i64 ((Nat.cast : Nat →
 Int) (List.length x_3) - (1 : Int)))) (0 : Int)))) (4294967296 : Int) = (0 : Int))) = false → (false, OB.ints IntKind.u32 o0) = (false, OB.ints IntKind.u32 o0) ∧ (true, OB.ints IntKind.u32 x_2) =
 (true, OB.ints IntKind.u32 x_2) ∧ (false, OB.ints IntKind.u32 o2) = (false, OB.ints IntKind.u32 o2) ∧ I (IntKind.wrap IntKind.u64 (v14 - (1 : Int))) (IntKind.wrap IntKind.u64 (v15 + IntKind.wrap
 IntKind.u64 (List.getD x_3 (Int.toNat (IntKind.wrap IntKind.i64 ((Nat.cast : Nat → Int) (List.length x_3) - (1 : Int)))) (0 : Int)))) ∧ m (IntKind.wrap IntKind.u64 (v14 - (1 : Int))) (IntKind.wrap
 IntKind.u64 (v15 + IntKind.wrap IntKind.u64 (List.getD x_3 (Int.toNat (IntKind.wrap IntKind.i64 ((Nat.cast : Nat → Int) (List.length x_3) - (1 : Int)))) (0 : Int)))) < m v14 v15)) ∧ (decide (bitop
 BinOp.or IntKind.u64 (IntKind.wrap IntKind.u64 (v15 * (4294967296 : Int))) (IntKind.wrap IntKind.u64 (List.getD o0 (Int.toNat (IntKind.wrap IntKind.i64 (IntKind.wrap IntKind.i64 (v12 + (Nat.cast : Nat
 → Int) (List.length x_3)) - (2 : Int)))) (0 : Int))) < IntKind.wrap IntKind.u64 (v14 * IntKind.wrap IntKind.u64 (List.getD x_3 (Int.toNat (IntKind.wrap IntKind.i64 ((Nat.cast : Nat → Int) (List.length
 x_3) - (2 : Int)))) (0 : Int)))) = false → (false, OB.ints IntKind.u32 o0) = (false, OB.ints IntKind.u32 o0) ∧ (true, OB.ints IntKind.u32 x_2) = (true, OB.ints IntKind.u32 x_2) ∧ (false, OB.ints
 IntKind.u32 o2) = (false, OB.ints IntKind.u32 o2) ∧ J v14))) ∧ ∀ (v14 : Int), J v14 → ∃ (I_1 : Int → Int → Int → List Int → List Int → Prop), ∃ (m_1 : Int → Int → Int → List Int → List Int → Nat),
 ((true, OB.ints IntKind.u32 x_2) = (true, OB.ints IntKind.u32 x_2) ∧ I_1 (0 : Int) (0 : Int) (0 : Int) o0 o2) ∧ ∀ (v16 v17 v119 : Int) (o0_1 o2_1 : List Int), I_1 v16 v17 v119 o0_1 o2_1 → (decide
 (v119 < (Nat.cast : Nat → Int) (List.length x_3)) = true → (0 : Int) ≤ v119 ∧ v119 < (Nat.cast : Nat → Int) (List.length x_3) ∧ (0 : Int) ≤ IntKind.wrap IntKind.i64 (v12 + v119) ∧ IntKind.wrap
 IntKind.i64 (v12 + v119) < (Nat.cast : Nat → Int) (List.length o0_1) ∧ (0 : Int) ≤ IntKind.wrap IntKind.i64 (v12 + v119) ∧ IntKind.wrap IntKind.i64 (v12 + v119) < (Nat.cast : Nat → Int) (List.length
 o0_1) ∧ (true, OB.ints IntKind.u32 x_2) = (true, OB.ints IntKind.u32 x_2) ∧ I_1 (Int.fdiv (IntKind.wrap IntKind.u64 (IntKind.wrap IntKind.u64 (IntKind.wrap IntKind.u64 (List.getD o0_1 (Int.toNat
 (IntKind.wrap IntKind.i64 (v12 + v119))) (0 : Int)) - bitop BinOp.and IntKind.u64 (IntKind.wrap IntKind.u64 (v17 + IntKind.wrap IntKind.u64 (v14 * IntKind.wrap IntKind.u64 (List.getD x_3 (Int.toNat
 v119) (0 : Int))))) (4294967295 : Int)) - v16)) (9223372036854775808 : Int)) (Int.fdiv (IntKind.wrap IntKind.u64 (v17 + IntKind.wrap IntKind.u64 (v14 * IntKind.wrap IntKind.u64 (List.getD x_3
 (Int.toNat v119) (0 : Int))))) (4294967296 : Int)) (IntKind.wrap IntKind.i64 (v119 + (1 : Int))) (List.set o0_1 (Int.toNat (IntKind.wrap IntKind.i64 (v12 + v119))) (IntKind.wrap IntKind.u32
 (IntKind.wrap IntKind.u64 (IntKind.wrap IntKind.u64 (IntKind.wrap IntKind.u64 (List.getD o0_1 (Int.toNat (IntKind.wrap IntKind.i64 (v12 + v119))) (0 : Int)) - bitop BinOp.and IntKind.u64 (IntKind.wrap
 IntKind.u64 (v17 + IntKind.wrap IntKind.u64 (v14 * IntKind.wrap IntKind.u64 (List.getD x_3 (Int.toNat v119) (0 : Int))))) (4294967295 : Int)) - v16)))) o2_1 ∧ m_1 (Int.fdiv (IntKind.wrap IntKind.u64
 (IntKind.wrap IntKind.u64 (IntKind.wrap IntKind.u64 (List.getD o0_1 (Int.toNat (IntKind.wrap IntKind.i64 (v12 + v119))) (0 : Int)) - bitop BinOp.and IntKind.u64 (IntKind.wrap IntKind.u64 (v17 +
 IntKind.wrap IntKind.u64 (v14 * IntKind.wrap IntKind.u64 (List.getD x_3 (Int.toNat v119) (0 : Int))))) (4294967295 : Int)) - v16)) (9223372036854775808 : Int)) (Int.fdiv (IntKind.wrap IntKind.u64 (v17
 + IntKind.wrap IntKind.u64 (v14 * IntKind.wrap IntKind.u64 (List.getD x_3 (Int.toNat v119) (0 : Int))))) (4294967296 : Int)) (IntKind.wrap IntKind.i64 (v119 + (1 : Int))) (List.set o0_1 (Int.toNat
 (IntKind.wrap IntKind.i64 (v12 + v119))) (IntKind.wrap IntKind.u32 (IntKind.wrap IntKind.u64 (IntKind.wrap IntKind.u64 (IntKind.wrap IntKind.u64 (List.getD o0_1 (Int.toNat (IntKind.wrap IntKind.i64
 (v12 + v119))) (0 : Int)) - bitop BinOp.and IntKind.u64 (IntKind.wrap IntKind.u64 (v17 + IntKind.wrap IntKind.u64 (v14 * IntKind.wrap IntKind.u64 (List.getD x_3 (Int.toNat v119) (0 : Int)))))
 (4294967295 : Int)) - v16)))) o2_1 < m_1 v16 v17 v119 o0_1 o2_1) ∧ (decide (v119 < (Nat.cast : Nat → Int) (List.length x_3)) = false → (0 : Int) ≤ IntKind.wrap IntKind.i64 (v12 + (Nat.cast : Nat →
 Int) (List.length x_3)) ∧ IntKind.wrap IntKind.i64 (v12 + (Nat.cast : Nat → Int) (List.length x_3)) < (Nat.cast : Nat → Int) (List.length o0_1) ∧ (0 : Int) ≤ IntKind.wrap IntKind.i64 (v12 + (Nat.cast
 : Nat → Int) (List.length x_3)) ∧ IntKind.wrap IntKind.i64 (v12 + (Nat.cast : Nat → Int) (List.length x_3)) < (Nat.cast : Nat → Int) (List.length o0_1) ∧ ∃ (J : Int → List Int → List Int → Prop),
 (((!decide (Int.fdiv (IntKind.wrap IntKind.u64 (IntKind.wrap IntKind.u64 (IntKind.wrap IntKind.u64 (List.getD o0_1 (Int.toNat (IntKind.wrap IntKind.i64 (v12 + (Nat.cast : Nat → Int) (List.length
 x_3)))) (0 : Int)) - v17) - v16)) (9223372036854775808 : Int) = (0 : Int))) = true → ∃ (I : Int → Int → List Int → List Int → Prop), ∃ (m : Int → Int → List Int → List Int → Nat), ((true, OB.ints
 IntKind.u32 x_2) = (true, OB.ints IntKind.u32 x_2) ∧ I (0 : Int) (0 : Int) (List.set o0_1 (Int.toNat (IntKind.wrap IntKind.i64 (v12 + (Nat.cast : Nat → Int) (List.length x_3)))) (IntKind.wrap
 IntKind.u32 (IntKind.wrap IntKind.u64 (IntKind.wrap IntKind.u64 (IntKind.wrap IntKind.u64 (List.getD o0_1 (Int.toNat (IntKind.wrap IntKind.i64 (v12 + (Nat.cast : Nat → Int) (List.length x_3)))) (0 :
 Int)) - v17) - v16)))) o2_1) ∧ ∀ (v17 v179 : Int) (o0 o2 : List Int), I v17 v179 o0 o2 → (decide (v179 < (Nat.cast : Nat → Int) (List.length x_3)) = true → (0 : Int) ≤ v179 ∧ v179 < (Nat.cast : Nat →
 Int) (List.length x_3) ∧ (0 : Int) ≤ IntKind.wrap IntKind.i64 (v12 + v179) ∧ IntKind.wrap IntKind.i64 (v12 + v179) < (Nat.cast : Nat → Int) (List.length o0) ∧ (0 : Int) ≤ IntKind.wrap IntKind.i64 (v12
 + v179) ∧ IntKind.wrap IntKind.i64 (v12 + v179) < (Nat.cast : Nat → Int) (List.length o0) ∧ (true, OB.ints IntKind.u32 x_2) = (true, OB.ints IntKind.u32 x_2) ∧ I (Int.fdiv (IntKind.wrap IntKind.u64
 (v17 + IntKind.wrap IntKind.u64 (IntKind.wrap IntKind.u64 (List.getD o0 (Int.toNat (IntKind.wrap IntKind.i64 (v12 + v179))) (0 : Int)) + IntKind.wrap IntKind.u64 (List.getD x_3 (Int.toNat v179) (0 :
 Int))))) (4294967296 : Int)) (IntKind.wrap IntKind.i64 (v179 + (1 : Int))) (List.set o0 (Int.toNat (IntKind.wrap IntKind.i64 (v12 + v179))) (IntKind.wrap IntKind.u32 (IntKind.wrap IntKind.u64 (v17 +
 IntKind.wrap IntKind.u64 (IntKind.wrap IntKind.u64 (List.getD o0 (Int.toNat (IntKind.wrap IntKind.i64 (v12 + v179))) (0 : Int)) + IntKind.wrap IntKind.u64 (List.getD x_3 (Int.toNat v179) (0 :
 Int))))))) o2 ∧ m (Int.fdiv (IntKind.wrap IntKind.u64 (v17 + IntKind.wrap IntKind.u64 (IntKind.wrap IntKind.u64 (List.getD o0 (Int.toNat (IntKind.wrap IntKind.i64 (v12 + v179))) (0 : Int)) +
 IntKind.wrap IntKind.u64 (List.getD x_3 (Int.toNat v179) (0 : Int))))) (4294967296 : Int)) (IntKind.wrap IntKind.i64 (v179 + (1 : Int))) (List.set o0 (Int.toNat (IntKind.wrap IntKind.i64 (v12 +
 v179))) (IntKind.wrap IntKind.u32 (IntKind.wrap IntKind.u64 (v17 + IntKind.wrap IntKind.u64 (IntKind.wrap IntKind.u64 (List.getD o0 (Int.toNat (IntKind.wrap IntKind.i64 (v12 + v179))) (0 : Int)) +
 IntKind.wrap IntKind.u64 (List.getD x_3 (Int.toNat v179) (0 : Int))))))) o2 < m v17 v179 o0 o2) ∧ (decide (v179 < (Nat.cast : Nat → Int) (List.length x_3)) = false → (0 : Int) ≤ IntKind.wrap
 IntKind.i64 (v12 + (Nat.cast : Nat → Int) (List.length x_3)) ∧ IntKind.wrap IntKind.i64 (v12 + (Nat.cast : Nat → Int) (List.length x_3)) < (Nat.cast : Nat → Int) (List.length o0) ∧ (0 : Int) ≤
 IntKind.wrap IntKind.i64 (v12 + (Nat.cast : Nat → Int) (List.length x_3)) ∧ IntKind.wrap IntKind.i64 (v12 + (Nat.cast : Nat → Int) (List.length x_3)) < (Nat.cast : Nat → Int) (List.length o0) ∧ (true,
 OB.ints IntKind.u32 x_2) = (true, OB.ints IntKind.u32 x_2) ∧ J (IntKind.wrap IntKind.u64 (v14 - (1 : Int))) (List.set o0 (Int.toNat (IntKind.wrap IntKind.i64 (v12 + (Nat.cast : Nat → Int) (List.length
 x_3)))) (IntKind.wrap IntKind.u32 (List.getD o0 (Int.toNat (IntKind.wrap IntKind.i64 (v12 + (Nat.cast : Nat → Int) (List.length x_3)))) (0 : Int) + IntKind.wrap IntKind.u32 v17))) o2)) ∧ ((!decide
 (Int.fdiv (IntKind.wrap IntKind.u64 (IntKind.wrap IntKind.u64 (IntKind.wrap IntKind.u64 (List.getD o0_1 (Int.toNat (IntKind.wrap IntKind.i64 (v12 + (Nat.cast : Nat → Int) (List.length x_3)))) (0 :
 Int)) - v17) - v16)) (9223372036854775808 : Int) = (0 : Int))) = false → (true, OB.ints IntKind.u32 x_2) = (true, OB.ints IntKind.u32 x_2) ∧ J v14 (List.set o0_1 (Int.toNat (IntKind.wrap IntKind.i64
 (v12 + (Nat.cast : Nat → Int) (List.length x_3)))) (IntKind.wrap IntKind.u32 (IntKind.wrap IntKind.u64 (IntKind.wrap IntKind.u64 (IntKind.wrap IntKind.u64 (List.getD o0_1 (Int.toNat (IntKind.wrap
 IntKind.i64 (v12 + (Nat.cast : Nat → Int) (List.length x_3)))) (0 : Int)) - v17) - v16)))) o2_1)) ∧ ∀ (v14 : Int) (o0_2 o2_2 : List Int), J v14 o0_2 o2_2 → (0 : Int) ≤ v12 ∧ v12 < (Nat.cast : Nat →
 Int) (List.length o2_2) ∧ (true, OB.ints IntKind.u32 x_2) = (true, OB.ints IntKind.u32 x_2) ∧ I (IntKind.wrap IntKind.i64 (v12 - (1 : Int))) o0_2 (List.set o2_2 (Int.toNat v12) (IntKind.wrap
 IntKind.u32 v14)) ∧ m (IntKind.wrap IntKind.i64 (v12 - (1 : Int))) o0_2 (List.set o2_2 (Int.toNat v12) (IntKind.wrap IntKind.u32 v14)) < m v12 o0 o2)) ∧ (decide ((0 : Int) ≤ v12) = false → (0 : Int) ≤
 (Nat.cast : Nat → Int) (List.length x_3) ∧ (Nat.cast : Nat → Int) (List.length x_3) ≤ (Nat.cast : Nat → Int) (List.length x_3) ∧ (Nat.cast : Nat → Int) (List.length x_3) * (4 : Int) ≤ (281474976710656
 : Int) ∧ ∃ (I : Int → List Int → List Int → List Int → Prop), ∃ (m : Int → List Int → List Int → List Int → Nat), ((true, OB.ints IntKind.u32 x_2) = (true, OB.ints IntKind.u32 x_2) ∧ I (0 : Int) o0 o2
 (List.replicate (Int.toNat ((Nat.cast : Nat → Int) (List.length x_3))) (0 : Int))) ∧ ∀ (v224 : Int) (o0 o2 o3 : List Int), I v224 o0 o2 o3 → (decide (v224 < (Nat.cast : Nat → Int) (List.length x_3)) =
 true → (0 : Int) ≤ IntKind.wrap IntKind.i64 (v224 + (1 : Int)) ∧ IntKind.wrap IntKind.i64 (v224 + (1 : Int)) < (Nat.cast : Nat → Int) (List.length o0) ∧ (0 : Int) ≤ v224 ∧ v224 < (Nat.cast : Nat →
 Int) (List.length o0) ∧ (0 : Int) ≤ IntKind.wrap IntKind.u64 x ∧ (0 : Int) ≤ v224 ∧ v224 < (Nat.cast : Nat → Int) (List.length o3) ∧ (true, OB.ints IntKind.u32 x_2) = (true, OB.ints IntKind.u32 x_2) ∧
 I (IntKind.wrap IntKind.i64 (v224 + (1 : Int))) o0 o2 (List.set o3 (Int.toNat v224) (IntKind.wrap IntKind.u32 (Int.fdiv (bitop BinOp.or IntKind.u64 (IntKind.wrap IntKind.u64 (IntKind.wrap IntKind.u64
 (List.getD o0 (Int.toNat (IntKind.wrap IntKind.i64 (v224 + (1 : Int)))) (0 : Int)) * (4294967296 : Int))) (IntKind.wrap IntKind.u64 (List.getD o0 (Int.toNat v224) (0 : Int)))) ((2 : Int) ^ min
 (Int.toNat (IntKind.wrap IntKind.u64 x)) (64 : Nat))))) ∧ m (IntKind.wrap IntKind.i64 (v224 + (1 : Int))) o0 o2 (List.set o3 (Int.toNat v224) (IntKind.wrap IntKind.u32 (Int.fdiv (bitop BinOp.or
 IntKind.u64 (IntKind.wrap IntKind.u64 (IntKind.wrap IntKind.u64 (List.getD o0 (Int.toNat (IntKind.wrap IntKind.i64 (v224 + (1 : Int)))) (0 : Int)) * (4294967296 : Int))) (IntKind.wrap IntKind.u64
 (List.getD o0 (Int.toNat v224) (0 : Int)))) ((2 : Int) ^ min (Int.toNat (IntKind.wrap IntKind.u64 x)) (64 : Nat))))) < m v224 o0 o2 o3) ∧ (decide (v224 < (Nat.cast : Nat → Int) (List.length x_3)) =
 false → (Nt.Lim o2 ∧ List.length o2 ≤ (1000000000 : Nat)) ∧ ∀ (x : List Int), x = Nt.limbs (Nt.val o2) → (Nt.Lim o3 ∧ List.length o3 ≤ (1000000000 : Nat)) ∧ ∀ (x_4 : List Int), x_4 = Nt.limbs (Nt.val
 o3) → K (TV.tup [TV.d (AV.ints IntKind.u32 x), TV.d (AV.ints IntKind.u32 x_4)])))

end Nt
end

section
/- NtM: the proof of the verification condition of long. -/
open Go Go.Vc
namespace Nt

/-- A limb as a natural number. -/
def lm (a : List Int) (i : Nat) : Nat := (a.getD i 0).toNat
theorem lm_eq {a : List Int} (h : Lim a) (i : Nat) : a.getD i 0 = (lm a i : Int) := by
  have := h i
  unfold lm; omega
theorem lm_lt {a : List Int} (h : Lim a) (i : Nat) : lm a i < 4294967296 := by
  have := h i
  unfold lm; omega
theorem vd_lm (a : List Int) (i : Nat) : vd a i = lm a i + 4294967296 * vd a (i + 1) := vd_step a i
theorem vd_split {a : List Int} (h : Lim a) (i m : Nat) : ∃ l, vd a i = l + 4294967296 ^ m * vd a (i + m) ∧ l < 4294967296 ^ m := by
  refine ⟨vt (a.drop i) m, ?_, vt_lt (h.drop i) m⟩
  have := vd_vt (a.drop i) m
  unfold vd at this ⊢
  rw [List.drop_drop] at this
  exact this
theorem vd_div {a : List Int} (h : Lim a) (i : Nat) : val a / 4294967296 ^ i = vd a i := by
  rw [vd_vt a i, Nat.add_mul_div_left _ _ (Nat.pow_pos (by decide)), Nat.div_eq_of_lt (vt_lt h i), Nat.zero_add]
theorem vd_lt_of {a : List Int} {i V : Nat} (hv : val a < 4294967296 ^ i * V) : vd a i < V := by
  have := vd_vt a i
  refine Nat.lt_of_mul_lt_mul_left (a := 4294967296 ^ i) ?_
  omega

/-- A difference of machine words. -/
theorem xs {u l b : Int} (hu : 0 ≤ u ∧ u < 4294967296) (hl : 0 ≤ l ∧ l < 4294967296) (hb : 0 ≤ b ∧ b ≤ 1) :
    Int.fdiv (IntKind.wrap .u64 (IntKind.wrap .u64 (IntKind.wrap .u64 u - l) - b)) 9223372036854775808 = (if u - l - b < 0 then 1 else 0) ∧
    IntKind.wrap .u32 (IntKind.wrap .u64 (IntKind.wrap .u64 (IntKind.wrap .u64 u - l) - b)) = (u - l - b) % 4294967296 := by
  rw [wu64m u, wu64m, wu64m, wu32m, Int.fdiv_eq_ediv_of_nonneg _ (by omega)]
  refine ⟨?_, by omega⟩
  split <;> omega
theorem andu64 {p : Nat} (hp : p < 18446744073709551616) : bitop .and .u64 (p : Int) 4294967295 = ((p % 4294967296 : Nat) : Int) := by
  have e1 : ((BitVec.ofInt 64 (p : Int)) &&& (BitVec.ofInt 64 4294967295)).toNat = p % 4294967296 := by
    have : (4294967295 : Int) = ((2 ^ 32 - 1 : Nat) : Int) := rfl
    rw [this, BitVec.toNat_and, BitVec.ofInt_natCast, BitVec.ofInt_natCast, BitVec.toNat_ofNat, BitVec.toNat_ofNat, Nat.mod_eq_of_lt (by omega), Nat.mod_eq_of_lt (by omega), Nat.and_two_pow_sub_one_eq_mod]
  show IntKind.wrap .u64 _ = _
  have e2 : ((BitVec.ofInt (IntKind.u64).bits (p : Int)) &&& (BitVec.ofInt (IntKind.u64).bits 4294967295)).toNat = p % 4294967296 := e1
  have : p % 4294967296 < 4294967296 := Nat.mod_lt _ (by decide)
  rw [e2, wu64 (by omega)]
/-- Two limbs in one word. -/
theorem word2 {h l : Nat} (hh : h < 4294967296) (hl : l < 4294967296) : bitop .or .u64 (IntKind.wrap .u64 (IntKind.wrap .u64 (h : Int) * 4294967296)) (IntKind.wrap .u64 (l : Int)) = ((h * 4294967296 + l : Nat) : Int) := by
  rw [wu64 (x := (h : Int)) (by omega), wu64 (x := (h : Int) * 4294967296) (by omega), wu64 (x := (l : Int)) (by omega), or64' ⟨by omega, by omega⟩ ⟨by omega, by omega⟩]
  omega

/-- The places of a shift back. -/
theorem unshift_limb {u0 u1 A k : Nat} (hk : k < 32) : (u1 * 4294967296 + u0) / 2 ^ k % 4294967296 = (u0 + 4294967296 * (u1 + 4294967296 * A)) / 2 ^ k % 4294967296 := by
  have hp := Nat.two_pow_pos k
  have h1 : u0 + 4294967296 * (u1 + 4294967296 * A) = u1 * 4294967296 + u0 + 2 ^ k * (4294967296 * (2 ^ (32 - k) * A)) := by
    have e : 2 ^ k * (4294967296 * (2 ^ (32 - k) * A)) = 4294967296 * (4294967296 * A) := by
      have e2 : 2 ^ k * 2 ^ (32 - k) = 4294967296 := by rw [← Nat.pow_add, show k + (32 - k) = 32 by omega]
      rw [Nat.mul_left_comm, ← Nat.mul_assoc (2 ^ k), e2]
    rw [e]; omega
  rw [h1, Nat.add_mul_div_left _ _ hp, Nat.add_mul_mod_self_left]

/-- What the shift makes of the divisor. -/
theorem norm_top {b : List Int} (hb : Lim b) (hn : Norm b) (h2 : 2 ≤ b.length) :
    0 < lm b (b.length - 1) ∧ blen (lm b (b.length - 1)) ≤ 32 ∧ 0 < blen (lm b (b.length - 1)) ∧
    val b * 2 ^ (32 - blen (lm b (b.length - 1))) < 4294967296 ^ b.length ∧ 2147483648 * 4294967296 ^ (b.length - 1) ≤ val b * 2 ^ (32 - blen (lm b (b.length - 1))) := by
  have ht0 : lm b (b.length - 1) ≠ 0 := fun h0 => by
    apply hn
    have h3 := hb (b.length - 1)
    unfold lm at h0
    have h4 : b.getD (b.length - 1) 0 = 0 := by omega
    rw [List.getLast?_eq_getElem?]
    rw [List.getD_eq_getElem?_getD, List.getElem?_eq_getElem (by omega)] at h4
    rw [List.getElem?_eq_getElem (by omega)]
    exact congrArg some h4
  have hlt := lm_lt hb (b.length - 1)
  have h32 := blen_le (n := lm b (b.length - 1)) (k := 32) (by omega)
  obtain ⟨b1, b2, b3⟩ := blen_bounds ht0
  have hv := vd_vt b (b.length - 1)
  have hvt := vt_lt hb (b.length - 1)
  rw [vd_lm, show b.length - 1 + 1 = b.length by omega, vd_len b (Nat.le_refl _), Nat.mul_zero, Nat.add_zero] at hv
  refine ⟨by omega, h32, b3, ?_, ?_⟩
  · have h5 : val b < 4294967296 ^ (b.length - 1) * 2 ^ blen (lm b (b.length - 1)) := by
      have := Nat.mul_le_mul_left (4294967296 ^ (b.length - 1)) (show lm b (b.length - 1) + 1 ≤ 2 ^ blen (lm b (b.length - 1)) by omega)
      rw [Nat.mul_add, Nat.mul_one] at this
      omega
    have h6 := Nat.mul_lt_mul_of_pos_right h5 (Nat.two_pow_pos (32 - blen (lm b (b.length - 1))))
    rw [Nat.mul_assoc, ← Nat.pow_add, show blen (lm b (b.length - 1)) + (32 - blen (lm b (b.length - 1))) = 32 by omega] at h6
    have h7 : 4294967296 ^ b.length = 4294967296 ^ (b.length - 1) * 2 ^ 32 := by
      have : b.length = b.length - 1 + 1 := by omega
      rw [this, Nat.pow_succ]; rfl
    rw [h7]; exact h6
  · have h5 : 4294967296 ^ (b.length - 1) * 2 ^ (blen (lm b (b.length - 1)) - 1) ≤ val b := by
      have := Nat.mul_le_mul_left (4294967296 ^ (b.length - 1)) b1
      omega
    have h6 := Nat.mul_le_mul_right (2 ^ (32 - blen (lm b (b.length - 1)))) h5
    rw [Nat.mul_assoc, ← Nat.pow_add, show blen (lm b (b.length - 1)) - 1 + (32 - blen (lm b (b.length - 1))) = 31 by omega] at h6
    rw [Nat.mul_comm 2147483648]
    exact h6

/-- What the head of a step knows. -/
structure Hd (u v : List Int) (n j V F t s th D : Nat) (p lv ld : Nat) : Prop where
  hV : V = lv + p * (s + 4294967296 * t)
  hD : D = ld + p * (th + 4294967296 * F)
  hlv : lv < p
  hld : ld < p
  ht : 0 < t
  htl : t < 4294967296
  hs : s < 4294967296
  hth : th < 4294967296
  hDV : D < 4294967296 * V
  hF : F < t * 4294967296 + 4294967296
theorem head_of {u v : List Int} {n j V : Nat} (hu : Lim u) (hv : Lim v) (hvl : v.length = n) (hn : 2 ≤ n) (hV : val v = V) (hVt : 2147483648 * 4294967296 ^ (n - 1) ≤ V) (hlt : val u < 4294967296 ^ (j + 1) * V) :
    ∃ p lv ld, Hd u v n j V (lm u (j + n) * 4294967296 + lm u (j + n - 1)) (lm v (n - 1)) (lm v (n - 2)) (lm u (j + n - 2)) (vd u j) p lv ld := by
  obtain ⟨lv, e1, e2⟩ := vd_split hv 0 (n - 2)
  obtain ⟨ld, f1, f2⟩ := vd_split hu j (n - 2)
  have hD1 := vd_lt_of hlt
  have hVl : V < 4294967296 ^ n := by rw [← hV, ← hvl]; exact val_lt hv
  rw [vd_all, hV, Nat.zero_add, vd_lm, show n - 2 + 1 = n - 1 by omega, vd_lm, show n - 1 + 1 = n by omega, vd_len v (by omega), Nat.mul_zero, Nat.add_zero] at e1
  have hz : vd u (j + n + 1) = 0 := by
    have h1 : val u < 4294967296 ^ (j + n + 1) * 1 := by
      rw [Nat.mul_one, show j + n + 1 = j + 1 + n by omega, Nat.pow_add]
      exact Nat.lt_of_lt_of_le hlt (Nat.mul_le_mul_left _ (Nat.le_of_lt hVl))
    have := vd_lt_of h1
    omega
  have g1 : vd u (j + (n - 2)) = lm u (j + n - 2) + 4294967296 * (lm u (j + n) * 4294967296 + lm u (j + n - 1)) := by
    rw [vd_lm u (j + (n - 2)), show j + (n - 2) + 1 = j + n - 1 by omega, vd_lm u (j + n - 1), show j + n - 1 + 1 = j + n by omega, vd_lm u (j + n), hz, show j + (n - 2) = j + n - 2 by omega]
    omega
  have hDV : vd u j < 4294967296 * V := by
    have := vd_lm u j
    have := lm_lt hu j
    omega
  have htp : 0 < lm v (n - 1) := by
    rcases Nat.eq_zero_or_pos (lm v (n - 1)) with h0 | h0
    · exfalso
      rw [h0] at e1
      have hs := lm_lt hv (n - 2)
      have h3 : 4294967296 ^ (n - 2) * (lm v (n - 2) + 4294967296 * 0) + 4294967296 ^ (n - 2) ≤ 4294967296 ^ (n - 2) * 4294967296 := by
        have := Nat.mul_le_mul_left (4294967296 ^ (n - 2)) (show lm v (n - 2) + 4294967296 * 0 + 1 ≤ 4294967296 by omega)
        rw [Nat.mul_add _ _ 1, Nat.mul_one] at this
        exact this
      rw [← Nat.pow_succ, show (n - 2).succ = n - 1 by omega] at h3
      have : 1 * 4294967296 ^ (n - 1) ≤ 2147483648 * 4294967296 ^ (n - 1) := Nat.mul_le_mul_right _ (by decide)
      omega
    · exact h0
  refine ⟨4294967296 ^ (n - 2), lv, ld, e1, by rw [f1, g1], e2, f2, htp, lm_lt hv _, lm_lt hv _, lm_lt hu _, hDV, ?_⟩
  -- the top limb is at most the divisor's
  have h4 : vd u (j + 1) = vd u (j + 1) := rfl
  obtain ⟨l1, k1, k2⟩ := vd_split hu (j + 1) (n - 1)
  rw [show j + 1 + (n - 1) = j + n by omega, vd_lm u (j + n), hz, Nat.mul_zero, Nat.add_zero (lm u (j + n))] at k1
  have hV2 : V < 4294967296 ^ (n - 1) * (lm v (n - 1) + 1) := by
    have e3 : V + 4294967296 ^ (n - 2) * 1 ≤ 4294967296 ^ (n - 2) * (4294967296 * (lm v (n - 1) + 1)) + lv := by
      have := Nat.mul_le_mul_left (4294967296 ^ (n - 2)) (show lm v (n - 2) + 4294967296 * lm v (n - 1) + 1 ≤ 4294967296 * (lm v (n - 1) + 1) by have := lm_lt hv (n - 2); omega)
      rw [Nat.mul_add _ _ 1] at this
      omega
    have e4 : 4294967296 ^ (n - 1) * (lm v (n - 1) + 1) = 4294967296 ^ (n - 2) * (4294967296 * (lm v (n - 1) + 1)) := by
      rw [show n - 1 = n - 2 + 1 by omega, Nat.pow_succ, Nat.mul_assoc]
    rw [e4]; omega
  have h5 : lm u (j + n) < lm v (n - 1) + 1 := by
    refine Nat.lt_of_mul_lt_mul_left (a := 4294967296 ^ (n - 1)) ?_
    omega
  have := lm_lt hu (j + n - 1)
  have : lm u (j + n) * 4294967296 ≤ lm v (n - 1) * 4294967296 := Nat.mul_le_mul_right _ (by omega)
  omega
theorem word2' {h l : Nat} (hh : h < 4294967296) (hl : l < 4294967296) : bitop .or .u64 (IntKind.wrap .u64 ((h : Int) * 4294967296)) (IntKind.wrap .u64 (l : Int)) = ((h * 4294967296 + l : Nat) : Int) := by
  rw [wu64 (x := (h : Int) * 4294967296) (by omega), wu64 (x := (l : Int)) (by omega), or64' ⟨by omega, by omega⟩ ⟨by omega, by omega⟩]
  omega
theorem sub_fin {V2 V1 vu w A ui st Gd C B S : Nat} (a1 : V2 + w * ui = V1 + w * st) (a2 : V1 + A = vu + w * (C + B)) (a3 : st + Gd + (C + B) = ui + 4294967296 * S) : V2 + (A + w * Gd) = vu + w * (4294967296 * S) := by
  have h := congrArg (w * ·) a3
  simp only [Nat.mul_add] at h a2 ⊢
  omega
theorem add_fin {V3 V4 v2 w A ui st d C T : Nat} (a1 : V4 + w * ui = V3 + w * st) (a2 : V3 + w * C = v2 + A) (a3 : st + 4294967296 * T = C + ui + d) : V4 + w * (4294967296 * T) = v2 + (A + w * d) := by
  have h := congrArg (w * ·) a3
  simp only [Nat.mul_add] at h
  omega
theorem dig_pos {v1 v2 vu w y C B G V wj l D : Nat} (e : v1 + wj * (G * V) = vu + w * (C + B)) (hs : v2 + w * y = v1 + w * (y - C - B)) (hy : C + B ≤ y) (hvu : vu = l + wj * D) (hl : l < wj) (hDG : D < (G + 1) * V) :
    v2 + wj * (G * V) = vu ∧ v2 < wj * V := by
  have h1 : w * y = w * (y - C - B) + w * (C + B) := by rw [← Nat.mul_add]; congr 1; omega
  have h2 : v2 + wj * (G * V) = vu := by omega
  refine ⟨h2, ?_⟩
  have h3 := Nat.mul_le_mul_left wj (show D + 1 ≤ (G + 1) * V from hDG)
  rw [Nat.add_mul, Nat.one_mul, Nat.mul_add, Nat.mul_add, Nat.mul_one] at h3
  omega
theorem dig_neg {v1 v2 vu w y C B G V wj l D : Nat} (e : v1 + wj * (G * V) = vu + w * (C + B)) (hs : v2 + w * y = v1 + w * (y + 4294967296 - C - B)) (hy : y < C + B) (hC : C + B ≤ 4294967296) (h2 : v2 < w * 4294967296) (hvu : vu = l + wj * D) (hGD : G * V ≤ D + V) :
    v2 + wj * (G * V) = vu + w * 4294967296 ∧ 1 ≤ G ∧ vu < wj * (G * V) ∧ wj * ((G - 1) * V) ≤ vu ∧ wj * (G * V) = wj * ((G - 1) * V) + wj * V := by
  have h1 : w * (y + 4294967296 - C - B) + w * (C + B) = w * y + w * 4294967296 := by rw [← Nat.mul_add, ← Nat.mul_add]; congr 1; omega
  have h3 : v2 + wj * (G * V) = vu + w * 4294967296 := by omega
  have hG : 1 ≤ G := by
    rcases Nat.eq_zero_or_pos G with h0 | h0
    · rw [h0, Nat.zero_mul, Nat.mul_zero] at h3; omega
    · exact h0
  have h4 : G * V = (G - 1) * V + V := by rw [← Nat.succ_mul]; congr 1; omega
  have h5 : wj * (G * V) = wj * ((G - 1) * V) + wj * V := by rw [h4, Nat.mul_add]
  refine ⟨h3, hG, by omega, ?_, h5⟩
  have h6 : (G - 1) * V ≤ D := by omega
  have := Nat.mul_le_mul_left wj h6
  omega
theorem dig_back {v2 v3 v4 vu w y C G V wj low : Nat} (h3 : v2 + wj * (G * V) = vu + w * 4294967296) (h5 : wj * (G * V) = wj * ((G - 1) * V) + wj * V) (h6 : wj * ((G - 1) * V) ≤ vu) (h7 : vu < wj * (G * V))
    (ha : v3 + w * C = v2 + wj * V) (hlow : v3 = low + w * y) (hl : low < w) (hy : y < 4294967296) (hC : C ≤ 1) (hs : v4 + w * y = v3) :
    y + C = 4294967296 ∧ v4 + wj * ((G - 1) * V) = vu ∧ v4 < wj * V := by
  have h8 : v3 + w * C + wj * ((G - 1) * V) = vu + w * 4294967296 := by omega
  have h9 : y + C = 4294967296 := by
    refine Nat.le_antisymm (by omega) (Nat.le_of_not_lt fun hlt => ?_)
    have := Nat.mul_le_mul_left w (show y + C + 1 ≤ 4294967296 by omega)
    rw [Nat.mul_add, Nat.mul_add, Nat.mul_one] at this
    omega
  have h10 : w * y + w * C = w * 4294967296 := by rw [← Nat.mul_add, h9]
  refine ⟨h9, by omega, by omega⟩
end Nt
end

section
/- NtO: the proof of the verification condition of long, whole. -/
open Go Go.Vc
namespace Nt

/-- What the subtraction of one digit leaves. -/
structure Dig (u u' : List Int) (j n V Q : Nat) : Prop where
  lim : Lim u'
  len : u'.length = u.length
  dig : Q < 4294967296
  eq : val u' + 4294967296 ^ j * (Q * V) = val u
  lt : val u' < 4294967296 ^ j * V

set_option maxHeartbeats 1000000 in
theorem p_nlong (a b : List Int) (K : TV → Prop) (h : clong.T [.d (.ints .u32 a), .d (.ints .u32 b)] K) : vc_nlong a b K := by
  obtain ⟨⟨ha, hb, hna, hnb, hb2, hle⟩, hk⟩ := h
  have hal := ha.2
  have hbl := hb.2
  obtain ⟨n1, n2, n3, n4, n5⟩ := norm_top hb.1 hnb hb2
  unfold vc_nlong
  have e1 : IntKind.wrap .i64 ((Nat.cast : Nat → Int) b.length - 1) = ((b.length - 1 : Nat) : Int) := by rw [w64 (by omega)]; omega
  rw [e1, Int.toNat_natCast, lm_eq hb.1, Int.toNat_natCast]
  have hlb := lm_lt hb.1 (b.length - 1)
  refine ⟨by omega, by omega, ⟨by omega, by omega⟩, ?_⟩
  rintro x rfl
  obtain ⟨k, hk0⟩ : ∃ k, 32 - blen (lm b (b.length - 1)) = k := ⟨_, rfl⟩
  rw [hk0] at n4 n5
  have hk32 : k < 32 := by omega
  have e2 : IntKind.wrap .u64 (32 - (blen (lm b (b.length - 1)) : Int)) = (k : Int) := by rw [wu64 (by omega)]; omega
  rw [e2]
  simp only [Int.toNat_natCast]
  have p31 : 2 ^ k ≤ 2147483648 := by
    have := Nat.pow_le_pow_right (show 0 < 2 by decide) (show k ≤ 31 by omega)
    exact this
  have hbval : 4294967296 ^ (b.length - 1) ≤ val b := by
    have h1 := vd_vt b (b.length - 1)
    rw [vd_lm] at h1
    have h2 := Nat.mul_le_mul_left (4294967296 ^ (b.length - 1)) (show 1 ≤ lm b (b.length - 1) + 4294967296 * vd b (b.length - 1 + 1) by omega)
    omega
  have hlen : b.length ≤ a.length := by
    have h1 := val_lt ha.1
    have h2 : 4294967296 ^ (b.length - 1) < 4294967296 ^ a.length := by omega
    have := (Nat.pow_lt_pow_iff_right (by decide : 1 < 4294967296)).1 h2
    omega
  refine ⟨⟨ha, by omega, by omega⟩, ?_⟩
  rintro u0 hu0
  refine ⟨⟨hb, by omega, by omega⟩, ?_⟩
  rintro v0 hv0
  have hv0v : val v0 = val b * 2 ^ k := by
    rw [hv0]
    refine lowl_val _ _ (Nat.lt_of_lt_of_le n4 (Nat.pow_le_pow_right (by decide) (by omega)))
  have hu0v : val u0 = val a * 2 ^ k := by
    rw [hu0]
    refine lowl_val _ _ ?_
    rw [Nat.pow_succ]
    exact Nat.mul_lt_mul'' (val_lt ha.1) (by omega)
  have hu0L : Lim u0 := hu0 ▸ lowl_lim _ _
  have hv0L : Lim v0 := hv0 ▸ lowl_lim _ _
  have hu0l : u0.length = a.length + 1 := by rw [hu0, lowl_len]
  have hv0l : v0.length = b.length + 1 := by rw [hv0, lowl_len]
  refine ⟨⟨hv0L, by omega⟩, ?_⟩
  rintro v hv
  have hvv : val v = val b * 2 ^ k := by rw [hv, val_limbs, hv0v]
  have hvL : Lim v := hv ▸ limbs_lim _
  have hvl : v.length = b.length := by
    rw [hv, hv0v]
    refine Nat.le_antisymm (limbs_len.2 n4) ?_
    refine Nat.le_of_not_lt fun hx => ?_
    have h1 := limbs_len.1 (show (limbs (val b * 2 ^ k)).length ≤ b.length - 1 by omega)
    have h2 : 1 * 4294967296 ^ (b.length - 1) ≤ 2147483648 * 4294967296 ^ (b.length - 1) := Nat.mul_le_mul_right _ (by decide)
    omega
  have hd1 : val a / val b = val u0 / val v := by rw [hu0v, hvv, Nat.mul_div_mul_right _ _ (Nat.two_pow_pos k)]
  have hd2 : (val a % val b) * 2 ^ k = val u0 % val v := by rw [hu0v, hvv, Nat.mul_mod_mul_right]
  have hVpos : 0 < val b := Nat.lt_of_lt_of_le (Nat.pow_pos (by decide)) hbval
  have hVt : 2147483648 * 4294967296 ^ (b.length - 1) ≤ val v := by rw [hvv]; exact n5
  have hVn : val v < 4294967296 ^ b.length := by rw [hvv]; exact n4
  have hU : val u0 < 4294967296 ^ (a.length + 1 - b.length) * val v := by
    rw [hu0v]
    have h1 : val a * 2 ^ k < 4294967296 ^ a.length * 2147483648 := Nat.lt_of_lt_of_le (Nat.mul_lt_mul_of_pos_right (val_lt ha.1) (Nat.two_pow_pos k)) (Nat.mul_le_mul_left _ p31)
    have h2 := Nat.mul_le_mul_left (4294967296 ^ (a.length + 1 - b.length)) hVt
    rw [Nat.mul_left_comm, ← Nat.pow_add, show a.length + 1 - b.length + (b.length - 1) = a.length by omega, Nat.mul_comm 2147483648] at h2
    exact Nat.lt_of_lt_of_le h1 h2
  rw [hvl, hu0l]
  clear hv hu0 hv0 hvv hu0v hv0v n4 n5 hbval hle e2 e1 hk0 n1 n2 n3 hlb hv0L hv0l
  obtain ⟨m, hm⟩ : ∃ m, a.length + 1 - b.length = m := ⟨_, rfl⟩
  obtain ⟨n, hn⟩ : ∃ n, b.length = n := ⟨_, rfl⟩
  have hm1 : 1 ≤ m := by omega
  rw [hm] at hU
  rw [hn] at hVt hVn hvl hb2 hlen ⊢
  have e4 : IntKind.wrap .i64 ((n : Int) - 1) = ((n - 1 : Nat) : Int) := by rw [w64 (by omega)]; omega
  have e5 : IntKind.wrap .i64 ((n : Int) - 2) = ((n - 2 : Nat) : Int) := by rw [w64 (by omega)]; omega
  have e6 : IntKind.wrap .i64 (((a.length + 1 : Nat) : Int) - (n : Int)) = (m : Int) := by rw [w64 (by omega)]; omega
  rw [e4, e5, e6]
  simp only [Int.toNat_natCast, List.length_replicate]
  refine ⟨by omega, by omega, by omega, by omega, by omega, by omega, by omega, fun j u q => -1 ≤ j ∧ j < m ∧ Lim u ∧ u.length = m + n ∧ Lim q ∧ q.length = m ∧ val u0 = val q * val v + val u ∧ val u < 4294967296 ^ (j + 1).toNat * val v ∧ ∀ p : Nat, (p : Int) ≤ j → q.getD p 0 = 0,
    fun j u q => (j + 1).toNat, ⟨by first | rfl | trivial, ?_⟩, ?_⟩
  · rw [w64 (by omega)]
    refine ⟨by omega, by omega, hu0L, by omega, Lim.zeros _, by simp, by rw [val_zeros, Nat.zero_mul, Nat.zero_add], ?_, fun p _ => by simp [List.getD_eq_getElem?_getD, List.getElem?_replicate]; split <;> rfl⟩
    rw [show ((m : Int) - 1 + 1).toNat = m by omega]; exact hU
  rintro j u q ⟨hj0, hj1, hu, hul, hq, hql, heq, hlt, hqz⟩
  refine ⟨fun hj => ?_, fun hj => ?_⟩
  · simp only [decide_eq_true_eq] at hj
    obtain ⟨j, rfl⟩ : ∃ i : Nat, j = i := ⟨j.toNat, by omega⟩
    rw [show ((j : Int) + 1).toNat = j + 1 by omega] at hlt
    have e7 : IntKind.wrap .i64 ((j : Int) + (n : Int)) = ((j + n : Nat) : Int) := by rw [w64 (by omega)]; omega
    have e8 : IntKind.wrap .i64 (((j + n : Nat) : Int) - 1) = ((j + n - 1 : Nat) : Int) := by rw [w64 (by omega)]; omega
    have e9 : IntKind.wrap .i64 (((j + n : Nat) : Int) - 2) = ((j + n - 2 : Nat) : Int) := by rw [w64 (by omega)]; omega
    rw [e7, e8, e9]
    simp only [Int.toNat_natCast]
    obtain ⟨p, lv, ld, hd⟩ := head_of (j := j) hu hvL hvl hb2 rfl hVt hlt
    simp only [lm_eq hu, lm_eq hvL, word2 (lm_lt hu (j + n)) (lm_lt hu (j + n - 1))]
    have htI : IntKind.wrap .u64 ((lm v (n - 1) : Nat) : Int) = ((lm v (n - 1) : Nat) : Int) := wu64 (by have := hd.htl; omega)
    have hsI : IntKind.wrap .u64 ((lm v (n - 2) : Nat) : Int) = ((lm v (n - 2) : Nat) : Int) := wu64 (by have := hd.hs; omega)
    simp only [htI, hsI]
    obtain ⟨F, hFe⟩ : ∃ F, lm u (j + n) * 4294967296 + lm u (j + n - 1) = F := ⟨_, rfl⟩
    rw [hFe] at hd
    simp only [hFe]
    have hD : ∃ D, vd u j = D := ⟨_, rfl⟩
    obtain ⟨D, hDe⟩ := hD
    rw [hDe] at hd
    obtain ⟨t, hte⟩ : ∃ t, lm v (n - 1) = t := ⟨_, rfl⟩
    obtain ⟨s, hse⟩ : ∃ s, lm v (n - 2) = s := ⟨_, rfl⟩
    obtain ⟨th, hthe⟩ : ∃ s, lm u (j + n - 2) = s := ⟨_, rfl⟩
    rw [hte, hse, hthe] at hd
    rw [hte] at htI
    rw [hse] at hsI
    simp only [hte, hse, hthe]
    obtain ⟨hV, hDq, hlv, hld, ht, htl, hs, hth, hDV, hF⟩ := hd
    have eF : Int.tdiv (F : Int) (t : Int) = ((F / t : Nat) : Int) := by rw [Int.tdiv_eq_ediv_of_nonneg (by omega), Int.natCast_ediv]
    have eR : Int.tmod (F : Int) (t : Int) = ((F % t : Nat) : Int) := by rw [Int.tmod_eq_emod_of_nonneg (by omega), Int.natCast_emod]
    simp only [eF, eR]
    have hF2 : F < 18446744073709551616 := by omega
    have hFt : F / t ≤ F := Nat.div_le_self _ _
    have hRt : F % t < t := Nat.mod_lt _ ht
    have eW : ∀ G0 : Nat, G0 ≤ F → IntKind.wrap .u64 (G0 : Int) = (G0 : Int) := fun G0 h => wu64 (by omega)
    simp only [eW _ hFt]
    refine ⟨by omega, by omega, by omega, by omega, by omega, by omega, fun g => ∃ G : Nat, g = G ∧ G < 4294967296 ∧ D < (G + 1) * val v ∧ G * val v ≤ D + val v, ?_, ?_⟩
    · refine ⟨fun g r => ∃ G R : Nat, g = G ∧ r = R ∧ t * G + R = F ∧ R < 4294967296 ∧ D < (G + 1) * val v, fun g r => g.toNat, ⟨by first | rfl | trivial, by first | rfl | trivial, by first | rfl | trivial, F / t, F % t, rfl, rfl, Nat.div_add_mod F t, by omega, ?_⟩, ?_⟩
      · rw [hDq, hV]
        exact (est_init (lv := lv) (s := s) rfl rfl ht hld hth).1
      rintro g r ⟨G, R, rfl, rfl, hGR, hR, hDG⟩
      have hGF : G ≤ F := by
        have : 1 * G ≤ t * G := Nat.mul_le_mul_right _ ht
        omega
      have eRt : IntKind.wrap .u64 ((R : Int) + (t : Int)) = ((R + t : Nat) : Int) := by rw [wu64 (by omega)]; omega
      have eRd : ((R + t : Nat) : Int).fdiv 4294967296 = ((R + t : Nat) : Int) / 4294967296 := Int.fdiv_eq_ediv_of_nonneg _ (by omega)
      have eGd : (G : Int).fdiv 4294967296 = (G : Int) / 4294967296 := Int.fdiv_eq_ediv_of_nonneg _ (by omega)
      simp only [eRt, eRd, eGd]
      refine ⟨fun hG => ?_, fun hG => ⟨by omega, by omega, ?_⟩⟩
      · have hGW : ¬ ((G : Int) / 4294967296 = 0) := by simpa using hG
        have hlt' : D < G * val v := Nat.lt_of_lt_of_le hDV (Nat.mul_le_mul_right _ (by omega))
        have hG1 : 1 ≤ G := by
          rcases Nat.eq_zero_or_pos G with h0 | h0
          · rw [h0, Nat.zero_mul] at hlt'; omega
          · exact h0
        have eG : IntKind.wrap .u64 ((G : Int) - 1) = ((G - 1 : Nat) : Int) := by rw [wu64 (by omega)]; omega
        have hGR' : t * (G - 1) + (R + t) = F := by
          have : t * G = t * (G - 1) + t := by rw [← Nat.mul_succ]; congr 1; omega
          omega
        have hDG' : D < (G - 1 + 1) * val v := by rw [show G - 1 + 1 = G by omega]; exact hlt'
        simp only [eG]
        refine ⟨fun hr => ⟨by first | rfl | trivial, by first | rfl | trivial, by first | rfl | trivial, G - 1, rfl, ?_, hDG', ?_⟩, fun hr => ⟨by first | rfl | trivial, by first | rfl | trivial, by first | rfl | trivial, ⟨G - 1, R + t, rfl, rfl, hGR', ?_, hDG'⟩, ?_⟩⟩
        · have hr' : ¬ (((R + t : Nat) : Int) / 4294967296 = 0) := by simpa using hr
          refine Nat.lt_of_mul_lt_mul_left (a := t) ?_
          omega
        · have hr' : ¬ (((R + t : Nat) : Int) / 4294967296 = 0) := by simpa using hr
          have hg1 : G - 1 < 4294967296 := by
            refine Nat.lt_of_mul_lt_mul_left (a := t) ?_
            omega
          have hc1 : (G - 1) * s ≤ (R + t) * 4294967296 + th := by
            have h1 : (G - 1) * s ≤ 4294967296 * 4294967296 := Nat.mul_le_mul (by omega) (by omega)
            have h2 : 4294967296 * 4294967296 ≤ (R + t) * 4294967296 := Nat.mul_le_mul_right _ (by omega)
            omega
          rw [hDq, hV]
          exact est_exit hGR' ht hlv hg1 hc1
        · have hr' : ((R + t : Nat) : Int) / 4294967296 = 0 := by simpa using hr
          omega
        · show ((G - 1 : Nat) : Int).toNat < (G : Int).toNat
          omega
      · have hGW : (G : Int) / 4294967296 = 0 := by simpa using hG
        have eM : IntKind.wrap .u64 ((G : Int) * (s : Int)) = ((G * s : Nat) : Int) := by
          have : G * s ≤ 4294967295 * 4294967295 := Nat.mul_le_mul (by omega) (by omega)
          rw [← Int.natCast_mul, wu64 ⟨Int.natCast_nonneg _, by omega⟩]
        have eO := word2' (h := R) (l := th) hR hth
        simp only [eM, eO]
        refine ⟨fun hc => ?_, fun hc => ⟨by first | rfl | trivial, by first | rfl | trivial, by first | rfl | trivial, G, rfl, by omega, hDG, ?_⟩⟩
        · simp only [decide_eq_true_eq, Int.ofNat_lt] at hc
          have hlt' : D < G * val v := by rw [hDq, hV]; exact est_cond hGR hld hc
          have hG1 : 1 ≤ G := by
            rcases Nat.eq_zero_or_pos G with h0 | h0
            · rw [h0, Nat.zero_mul] at hlt'; omega
            · exact h0
          have eG : IntKind.wrap .u64 ((G : Int) - 1) = ((G - 1 : Nat) : Int) := by rw [wu64 (by omega)]; omega
          have hGR' : t * (G - 1) + (R + t) = F := by
            have : t * G = t * (G - 1) + t := by rw [← Nat.mul_succ]; congr 1; omega
            omega
          have hDG' : D < (G - 1 + 1) * val v := by rw [show G - 1 + 1 = G by omega]; exact hlt'
          simp only [eG]
          refine ⟨fun hr => ⟨by first | rfl | trivial, by first | rfl | trivial, by first | rfl | trivial, G - 1, rfl, ?_, hDG', ?_⟩, fun hr => ⟨by first | rfl | trivial, by first | rfl | trivial, by first | rfl | trivial, ⟨G - 1, R + t, rfl, rfl, hGR', ?_, hDG'⟩, ?_⟩⟩
          · have hr' : ¬ (((R + t : Nat) : Int) / 4294967296 = 0) := by simpa using hr
            refine Nat.lt_of_mul_lt_mul_left (a := t) ?_
            omega
          · have hr' : ¬ (((R + t : Nat) : Int) / 4294967296 = 0) := by simpa using hr
            have hg1 : G - 1 < 4294967296 := by
              refine Nat.lt_of_mul_lt_mul_left (a := t) ?_
              omega
            have hc1 : (G - 1) * s ≤ (R + t) * 4294967296 + th := by
              have h1 : (G - 1) * s ≤ 4294967296 * 4294967296 := Nat.mul_le_mul (by omega) (by omega)
              have h2 : 4294967296 * 4294967296 ≤ (R + t) * 4294967296 := Nat.mul_le_mul_right _ (by omega)
              omega
            rw [hDq, hV]
            exact est_exit hGR' ht hlv hg1 hc1
          · have hr' : ((R + t : Nat) : Int) / 4294967296 = 0 := by simpa using hr
            omega
          · show ((G - 1 : Nat) : Int).toNat < (G : Int).toNat
            omega
        · simp only [decide_eq_false_iff_not, Int.ofNat_lt] at hc
          rw [hDq, hV]
          exact est_exit hGR ht hlv (by omega) (by omega)
    · rintro g ⟨G, rfl, hGW, hDG, hGD⟩
      have hvu : ∃ l, val u = l + 4294967296 ^ j * D ∧ l < 4294967296 ^ j := ⟨vt u j, by rw [← hDe]; exact vd_vt u j, vt_lt hu j⟩
      obtain ⟨l, hvu, hl⟩ := hvu
      have hz : ∀ p, j + n < p → u.getD p 0 = 0 := fun p hp => by
        refine hi_zero hu (m := j + n + 1) ?_ p (by omega)
        rw [show j + n + 1 = j + 1 + n by omega, Nat.pow_add]
        exact Nat.lt_of_lt_of_le hlt (Nat.mul_le_mul_left _ (Nat.le_of_lt hVn))
      refine ⟨fun bo c i u' q' => q' = q ∧ Lim u' ∧ u'.length = m + n ∧ ∃ C B i0 : Nat, bo = B ∧ c = C ∧ i = i0 ∧ i0 ≤ n ∧ B ≤ 1 ∧ C < 4294967296 ∧ val u' + 4294967296 ^ j * (G * vt v i0) = val u + 4294967296 ^ (j + i0) * (C + B) ∧ ∀ p, j + n < p → u'.getD p 0 = 0,
        fun _ _ i _ _ => n - i.toNat, ⟨by first | rfl | trivial, rfl, hu, hul, 0, 0, 0, rfl, rfl, rfl, by omega, by omega, by omega, by rw [vt_zero, Nat.mul_zero, Nat.mul_zero, Nat.mul_zero], hz⟩, ?_⟩
      rintro bo c i u' q' ⟨rfl, hu', hul', C, B, i, rfl, rfl, rfl, hin, hB, hC, hval, hz'⟩
      refine ⟨fun h => ?_, fun h => ?_⟩
      · simp only [decide_eq_true_eq] at h
        have ei : IntKind.wrap .i64 ((j : Int) + (i : Int)) = ((j + i : Nat) : Int) := by rw [w64 (by omega)]; omega
        have ei1 : IntKind.wrap .i64 ((i : Int) + 1) = ((i + 1 : Nat) : Int) := by rw [w64 (by omega)]; omega
        simp only [ei, ei1, Int.toNat_natCast, lm_eq hu']
        have hdl := lm_lt hvL i
        have hul2 := lm_lt hu' (j + i)
        obtain ⟨d, hde⟩ : ∃ d, lm v i = d := ⟨_, rfl⟩
        obtain ⟨ui, hui⟩ : ∃ d, lm u' (j + i) = d := ⟨_, rfl⟩
        rw [hde] at hdl
        rw [hui] at hul2
        simp only [hde, hui]
        obtain ⟨t1, lo, T2, st, B2, hlo2, hT2, hlo, t2, hst, hst2, hB2, hB3, t4⟩ := sub_step' (g := G) (d := d) (c := C) (b := B) (u := ui) hGW hdl hC hB hul2
        have hGd : G * d ≤ 4294967295 * 4294967295 := Nat.mul_le_mul (by omega) (by omega)
        have w1 : IntKind.wrap .u64 (d : Int) = (d : Int) := wu64 (by omega)
        have w2 : IntKind.wrap .u64 ((G : Int) * (d : Int)) = ((G * d : Nat) : Int) := by rw [← Int.natCast_mul, wu64 ⟨Int.natCast_nonneg _, by omega⟩]
        have w3 : IntKind.wrap .u64 ((C : Int) + ((G * d : Nat) : Int)) = ((C + G * d : Nat) : Int) := by rw [← Int.natCast_add, wu64 ⟨Int.natCast_nonneg _, by omega⟩]
        have w4 := andu64 t1
        rw [hlo2] at w4
        have w5 : ((C + G * d : Nat) : Int).fdiv 4294967296 = (((C + G * d) / 4294967296 : Nat) : Int) := by rw [Int.fdiv_eq_ediv_of_nonneg _ (by omega), Int.natCast_ediv]; rfl
        obtain ⟨x1, x2⟩ := xs (u := (ui : Int)) (l := (lo : Int)) (b := (B : Int)) (by omega) (by omega) (by omega)
        rw [hB2] at x1
        rw [hst] at x2
        rw [hT2] at w5
        simp only [w1, w2, w3, w4, w5, x1, x2]
        have hvs := val_set u' (j + i) (st : Int) (by omega)
        rw [show (u'.getD (j + i) 0).toNat = ui from hui, Int.toNat_natCast] at hvs
        have hvt : vt v (i + 1) = vt v i + 4294967296 ^ i * d := by rw [vt_succ, show (v.getD i 0).toNat = d from hde]
        have hfin := sub_fin hvs hval t4
        refine ⟨by omega, by omega, by omega, by omega, by omega, by omega, by first | rfl | trivial, ⟨by first | rfl | trivial, hu'.set _ ⟨by omega, by omega⟩, by rw [List.length_set]; exact hul', T2, B2, i + 1, rfl, rfl, rfl, by omega, hB3, t2, ?_, fun p hp => ?_⟩, by show n - ((i + 1 : Nat) : Int).toNat < n - (i : Int).toNat; omega⟩
        · have e10 : 4294967296 ^ j * (G * vt v (i + 1)) = 4294967296 ^ j * (G * vt v i) + 4294967296 ^ (j + i) * (G * d) := by
            rw [hvt, Nat.mul_add, Nat.mul_add, Nat.pow_add, Nat.mul_left_comm G, Nat.mul_assoc]
          have e11 : 4294967296 ^ (j + (i + 1)) * (T2 + B2) = 4294967296 ^ (j + i) * (4294967296 * (T2 + B2)) := by
            rw [← Nat.add_assoc, Nat.pow_succ, Nat.mul_assoc]
          rw [e10, e11]; exact hfin
        · rw [getD_set, if_neg (by omega)]; exact hz' p hp
      · simp only [decide_eq_false_iff_not] at h
        obtain rfl : i = n := by omega
        rw [vt_all v (by omega)] at hval
        have hy := lm_lt hu' (j + i)
        simp only [lm_eq hu']
        obtain ⟨y, hye⟩ : ∃ y, lm u' (j + i) = y := ⟨_, rfl⟩
        rw [hye] at hy
        simp only [hye]
        obtain ⟨x1, x2⟩ := xs (u := (y : Int)) (l := (C : Int)) (b := (B : Int)) (by omega) (by omega) (by omega)
        simp only [x1, x2]
        have hvs := val_set u' (j + i) (((y : Int) - (C : Int) - (B : Int)) % 4294967296) (by omega)
        rw [show (u'.getD (j + i) 0).toNat = y from hye] at hvs
        refine ⟨by omega, by omega, by omega, by omega, fun g u'' q'' => ∃ Q : Nat, g = Q ∧ q'' = q' ∧ Dig u u'' j i (val v) Q, ⟨fun hx => ?_, fun hx => ?_⟩, ?_⟩
        · have hyc : y < C + B := by
            by_cases hc : (y : Int) - C - B < 0
            · omega
            · rw [if_neg hc] at hx; simp at hx
          rw [show (((y : Int) - (C : Int) - (B : Int)) % 4294967296) = ((y + 4294967296 - C - B : Nat) : Int) by omega] at hvs
          simp only [show (((y : Int) - (C : Int) - (B : Int)) % 4294967296) = ((y + 4294967296 - C - B : Nat) : Int) by omega]
          rw [Int.toNat_natCast] at hvs
          have hu2L : Lim (u'.set (j + i) ((y + 4294967296 - C - B : Nat) : Int)) := hu'.set _ ⟨by omega, by omega⟩
          have hu2l : (u'.set (j + i) ((y + 4294967296 - C - B : Nat) : Int)).length = m + i := by rw [List.length_set]; exact hul'
          have hz2 : ∀ p, j + i < p → (u'.set (j + i) ((y + 4294967296 - C - B : Nat) : Int)).getD p 0 = 0 := fun p hp => by
            rw [getD_set, if_neg (by omega)]; exact hz' p hp
          obtain ⟨u2, hu2⟩ : ∃ u2, u'.set (j + i) ((y + 4294967296 - C - B : Nat) : Int) = u2 := ⟨_, rfl⟩
          rw [hu2] at hvs hu2L hu2l hz2
          simp only [hu2]
          have hv2 : val u2 < 4294967296 ^ (j + i) * 4294967296 := by rw [← Nat.pow_succ]; exact val_hi hu2L (m := j + i + 1) fun p hp => hz2 p (by omega)
          obtain ⟨g3, g1, g7, g6, g5⟩ := dig_neg hval hvs hyc (by omega) hv2 hvu hGD
          have eG : IntKind.wrap .u64 ((G : Int) - 1) = ((G - 1 : Nat) : Int) := by rw [wu64 (by omega)]; omega
          simp only [eG]
          refine ⟨fun c i3 u3 q3 => q3 = q' ∧ Lim u3 ∧ u3.length = m + i ∧ ∃ C3 i0 : Nat, c = C3 ∧ i3 = i0 ∧ i0 ≤ i ∧ C3 ≤ 1 ∧ val u3 + 4294967296 ^ (j + i0) * C3 = val u2 + 4294967296 ^ j * vt v i0 ∧ ∀ p, j + i < p → u3.getD p 0 = 0, fun _ i3 _ _ => i - i3.toNat,
            ⟨by first | rfl | trivial, by first | rfl | trivial, hu2L, hu2l, 0, 0, rfl, rfl, by omega, by omega, by rw [vt_zero, Nat.mul_zero, Nat.mul_zero], hz2⟩, ?_⟩
          rintro c i3 u3 q3 ⟨rfl, hu3, hu3l, C3, i3, rfl, rfl, hi3, hC3, hval3, hz3⟩
          refine ⟨fun h3 => ?_, fun h3 => ?_⟩
          · simp only [decide_eq_true_eq] at h3
            have ej : IntKind.wrap .i64 ((j : Int) + (i3 : Int)) = ((j + i3 : Nat) : Int) := by rw [w64 (by omega)]; omega
            have ej1 : IntKind.wrap .i64 ((i3 : Int) + 1) = ((i3 + 1 : Nat) : Int) := by rw [w64 (by omega)]; omega
            simp only [ej, ej1, Int.toNat_natCast, lm_eq hu3]
            have hdl := lm_lt hvL i3
            have hul2 := lm_lt hu3 (j + i3)
            obtain ⟨d, hde⟩ : ∃ d, lm v i3 = d := ⟨_, rfl⟩
            obtain ⟨ui, hui⟩ : ∃ d, lm u3 (j + i3) = d := ⟨_, rfl⟩
            rw [hde] at hdl
            rw [hui] at hul2
            simp only [hde, hui]
            have w1 : IntKind.wrap .u64 (C3 + IntKind.wrap .u64 (IntKind.wrap .u64 (ui : Int) + IntKind.wrap .u64 (d : Int))) = ((C3 + (ui + d) : Nat) : Int) := by
              rw [wu64 (x := (d : Int)) (by omega), wu64 (x := (ui : Int)) (by omega), wu64 (x := (ui : Int) + (d : Int)) (by omega), wu64 (by omega)]; omega
            have w2 : ((C3 + (ui + d) : Nat) : Int).fdiv 4294967296 = (((C3 + (ui + d)) / 4294967296 : Nat) : Int) := by rw [Int.fdiv_eq_ediv_of_nonneg _ (by omega), Int.natCast_ediv]; rfl
            have w3 : IntKind.wrap .u32 ((C3 + (ui + d) : Nat) : Int) = (((C3 + (ui + d)) % 4294967296 : Nat) : Int) := by rw [wu32m]; omega
            simp only [w1, w2, w3]
            have hst : (C3 + (ui + d)) % 4294967296 < 4294967296 := Nat.mod_lt _ (by decide)
            have hvs3 := val_set u3 (j + i3) (((C3 + (ui + d)) % 4294967296 : Nat) : Int) (by omega)
            rw [show (u3.getD (j + i3) 0).toNat = ui from hui, Int.toNat_natCast] at hvs3
            have hvt : vt v (i3 + 1) = vt v i3 + 4294967296 ^ i3 * d := by rw [vt_succ, show (v.getD i3 0).toNat = d from hde]
            have hfin := add_fin (T := (C3 + (ui + d)) / 4294967296) (d := d) hvs3 hval3 (by omega)
            refine ⟨by omega, by omega, by omega, by omega, by omega, by omega, by first | rfl | trivial, ⟨by first | rfl | trivial, hu3.set _ ⟨by omega, by omega⟩, by rw [List.length_set]; exact hu3l, (C3 + (ui + d)) / 4294967296, i3 + 1, rfl, rfl, by omega, by omega, ?_, fun p hp => ?_⟩, by show i - ((i3 + 1 : Nat) : Int).toNat < i - (i3 : Int).toNat; omega⟩
            · have e10 : 4294967296 ^ j * vt v (i3 + 1) = 4294967296 ^ j * vt v i3 + 4294967296 ^ (j + i3) * d := by
                rw [hvt, Nat.mul_add, Nat.pow_add, Nat.mul_assoc]
              have e11 : 4294967296 ^ (j + (i3 + 1)) * ((C3 + (ui + d)) / 4294967296) = 4294967296 ^ (j + i3) * (4294967296 * ((C3 + (ui + d)) / 4294967296)) := by
                rw [← Nat.add_assoc, Nat.pow_succ, Nat.mul_assoc]
              rw [e10, e11]; exact hfin
            · rw [getD_set, if_neg (by omega)]; exact hz3 p hp
          · simp only [decide_eq_false_iff_not] at h3
            obtain rfl : i3 = i := by omega
            rw [vt_all v (by omega)] at hval3
            have hy3 := lm_lt hu3 (j + i3)
            simp only [lm_eq hu3]
            obtain ⟨y3, hy3e⟩ : ∃ y, lm u3 (j + i3) = y := ⟨_, rfl⟩
            rw [hy3e] at hy3
            simp only [hy3e]
            have hlow := vd_vt u3 (j + i3)
            have hzz : vd u3 (j + i3 + 1) = 0 := by
              have := vd_lt_of (a := u3) (i := j + i3 + 1) (V := 1) (by rw [Nat.mul_one]; exact val_hi hu3 fun p hp => hz3 p (by omega))
              omega
            rw [vd_lm, hzz, Nat.mul_zero, Nat.add_zero, hy3e] at hlow
            have hvs4 := val_set u3 (j + i3) 0 (by omega)
            rw [show (u3.getD (j + i3) 0).toNat = y3 from hy3e, show Int.toNat 0 = 0 from rfl, Nat.mul_zero, Nat.add_zero] at hvs4
            obtain ⟨k1, k2, k3⟩ := dig_back g3 g5 g6 g7 hval3 hlow (vt_lt hu3 _) hy3 hC3 hvs4
            have w1 : IntKind.wrap .u32 ((y3 : Int) + IntKind.wrap .u32 (C3 : Int)) = 0 := by
              rw [wu32 (x := (C3 : Int)) (by omega), wu32m]; omega
            simp only [w1]
            exact ⟨by omega, by omega, by omega, by omega, by first | rfl | trivial, G - 1, rfl, by first | rfl | trivial, hu3.set _ (by omega), by rw [List.length_set, hu3l, hul], by omega, k2, k3⟩
        · have hyc : C + B ≤ y := by
            by_cases hc : (y : Int) - C - B < 0
            · rw [if_pos hc] at hx; simp at hx
            · omega
          rw [show (((y : Int) - (C : Int) - (B : Int)) % 4294967296) = ((y - C - B : Nat) : Int) by omega] at hvs ⊢
          rw [Int.toNat_natCast] at hvs
          obtain ⟨f1, f2⟩ := dig_pos hval hvs hyc hvu hl hDG
          exact ⟨by first | rfl | trivial, G, rfl, rfl, hu'.set _ ⟨by omega, by omega⟩, by rw [List.length_set, hul', hul], hGW, f1, f2⟩
        · rintro g u'' q'' ⟨Q, rfl, rfl, hdg⟩
          have hQ := hdg.dig
          have wQ : IntKind.wrap .u32 (Q : Int) = (Q : Int) := wu32 (by omega)
          have wj : IntKind.wrap .i64 ((j : Int) - 1) = (j : Int) - 1 := w64 (by omega)
          rw [wQ, wj]
          have hqj := hqz j (by omega)
          have hqs := val_set q'' j (Q : Int) (by omega)
          rw [hqj, show Int.toNat 0 = 0 from rfl, Nat.mul_zero, Nat.add_zero, Int.toNat_natCast] at hqs
          have heq2 : val u0 = (val q'' + 4294967296 ^ j * Q) * val v + val u'' := by
            rw [heq, ← hdg.eq, Nat.add_mul, Nat.mul_assoc]; omega
          refine ⟨by omega, by omega, by first | rfl | trivial, ⟨by omega, by omega, hdg.lim, by rw [hdg.len]; exact hul, hq.set _ ⟨by omega, by omega⟩, by rw [List.length_set]; exact hql, by rw [hqs]; exact heq2, ?_, fun p hp => ?_⟩, ?_⟩
          · rw [show ((j : Int) - 1 + 1).toNat = j by omega]; exact hdg.lt
          · rw [getD_set, if_neg (by omega)]; exact hqz p (by omega)
          · show ((j : Int) - 1 + 1).toNat < ((j : Int) + 1).toNat
            omega
  · simp only [decide_eq_false_iff_not] at hj
    obtain rfl : j = -1 := by omega
    rw [show ((-1 : Int) + 1).toNat = 0 from rfl, Nat.pow_zero, Nat.one_mul] at hlt
    have hq1 : val u0 / val v = val q := by
      rw [heq, Nat.mul_comm, Nat.mul_add_div (by omega), Nat.div_eq_of_lt hlt, Nat.add_zero]
    have hq2 : val u0 % val v = val u := by
      rw [heq, Nat.mul_comm, Nat.mul_add_mod, Nat.mod_eq_of_lt hlt]
    have hR : val u / 2 ^ k = val a % val b := by rw [← hq2, ← hd2, Nat.mul_div_cancel _ (Nat.two_pow_pos k)]
    refine ⟨by omega, by omega, by omega, fun i u' q' r => u' = u ∧ q' = q ∧ Lim r ∧ r.length = n ∧ ∃ i0 : Nat, i = i0 ∧ i0 ≤ n ∧ vt r i0 = val u / 2 ^ k % 4294967296 ^ i0, fun i _ _ _ => n - i.toNat, ⟨by first | rfl | trivial, rfl, rfl, Lim.zeros _, by simp, 0, rfl, by omega, by rw [vt_zero, Nat.pow_zero, Nat.mod_one]⟩, ?_⟩
    rintro i u' q' r ⟨rfl, rfl, hr, hrl, i, rfl, hin, hvr⟩
    refine ⟨fun h => ?_, fun h => ?_⟩
    · simp only [decide_eq_true_eq] at h
      have ei1 : IntKind.wrap .i64 ((i : Int) + 1) = ((i + 1 : Nat) : Int) := by rw [w64 (by omega)]; omega
      simp only [ei1, Int.toNat_natCast, lm_eq hu, word2 (lm_lt hu (i + 1)) (lm_lt hu i), show min k 64 = k by omega]
      have p1 : (2 : Int) ^ k = ((2 ^ k : Nat) : Int) := by simp
      have w1 : Int.fdiv ((lm u' (i + 1) * 4294967296 + lm u' i : Nat) : Int) ((2 : Int) ^ k) = (((lm u' (i + 1) * 4294967296 + lm u' i) / 2 ^ k : Nat) : Int) := by
        rw [p1, Int.fdiv_eq_ediv_of_nonneg _ (Int.natCast_nonneg _), Int.natCast_ediv]
      have w2 : IntKind.wrap .u32 (((lm u' (i + 1) * 4294967296 + lm u' i) / 2 ^ k : Nat) : Int) = (((lm u' (i + 1) * 4294967296 + lm u' i) / 2 ^ k % 4294967296 : Nat) : Int) := by
        rw [wu32m, Int.natCast_emod]; rfl
      simp only [w1, w2]
      have hlimb : (lm u' (i + 1) * 4294967296 + lm u' i) / 2 ^ k % 4294967296 = val u' / 2 ^ k / 4294967296 ^ i % 4294967296 := by
        rw [unshift_limb (A := vd u' (i + 2)) hk32, ← vd_lm, ← vd_lm, ← vd_div hu i, Nat.div_div_eq_div_mul, Nat.div_div_eq_div_mul, Nat.mul_comm]
      rw [hlimb]
      have hX : val u' / 2 ^ k / 4294967296 ^ i % 4294967296 < 4294967296 := Nat.mod_lt _ (by decide)
      refine ⟨by omega, by omega, by omega, by omega, by omega, by omega, by omega, by first | rfl | trivial, ⟨by first | rfl | trivial, by first | rfl | trivial, hr.set _ ⟨Int.natCast_nonneg _, by omega⟩, by rw [List.length_set]; exact hrl, i + 1, rfl, by omega, ?_⟩, by show n - ((i + 1 : Nat) : Int).toNat < n - (i : Int).toNat; omega⟩
      rw [vt_succ, vt_set _ _ _ _ (Nat.le_refl _), getD_set, if_pos ⟨rfl, by omega⟩, Int.toNat_natCast, hvr, Nat.pow_succ, Nat.mod_mul]
    · simp only [decide_eq_false_iff_not] at h
      obtain rfl : i = n := by omega
      rw [vt_all r (by omega), Nat.mod_eq_of_lt (Nat.lt_of_le_of_lt (Nat.div_le_self _ _) (Nat.lt_trans hlt hVn)), hR] at hvr
      refine ⟨⟨hq, by omega⟩, ?_⟩
      rintro x rfl
      refine ⟨⟨hr, by omega⟩, ?_⟩
      rintro x4 rfl
      rw [hvr, ← hq1, ← hd1]
      exact hk
end Nt
end

section
/- Verification conditions, printed. -/
open Go Go.Vc
namespace Nt
def vc_nDivMod : List Int → List Int → (TV → Prop) → Prop :=
 fun (a b : List Int) (K : TV → Prop) => (Nt.Lim a ∧ List.length a ≤ (1000000000 : Nat)) ∧ (Nt.Lim b ∧ List.length b ≤ (1000000000 : Nat)) ∧ (decide ((Nat.cast : Nat → Int) (List.length (Nt.limbs
 (Nt.val b))) = (0 : Int)) = true → K (TV.tup [TV.d (AV.ints IntKind.u32 []), TV.d (AV.ints IntKind.u32 []), TV.d (AV.int IntKind.i64 (3 : Int))])) ∧ (decide ((Nat.cast : Nat → Int) (List.length
 (Nt.limbs (Nt.val b))) = (0 : Int)) = false → (Nt.Few (Nt.limbs (Nt.val a)) ∧ Nt.Few (Nt.limbs (Nt.val b))) ∧ (decide (Nt.cmp (Nt.val (Nt.limbs (Nt.val a))) (Nt.val (Nt.limbs (Nt.val b))) < (0 : Int))
 = true → List.length (Nt.limbs (Nt.val a)) ≤ (100000000 : Nat) ∧ K (TV.tup [TV.d (AV.ints IntKind.u32 []), TV.d (AV.ints IntKind.u32 (Nt.limbs (Nt.val a))), TV.d (AV.int IntKind.i64 (0 : Int))])) ∧
 (decide (Nt.cmp (Nt.val (Nt.limbs (Nt.val a))) (Nt.val (Nt.limbs (Nt.val b))) < (0 : Int)) = false → (decide ((Nat.cast : Nat → Int) (List.length (Nt.limbs (Nt.val b))) = (1 : Int)) = true → (0 : Int)
 ≤ (0 : Int) ∧ (0 : Int) < (Nat.cast : Nat → Int) (List.length (Nt.limbs (Nt.val b))) ∧ (Nt.Few (Nt.limbs (Nt.val a)) ∧ Nt.L (List.getD (Nt.limbs (Nt.val b)) (0 : Nat) (0 : Int)) ∧ (0 : Int) <
 List.getD (Nt.limbs (Nt.val b)) (0 : Nat) (0 : Int)) ∧ ((0 : Int) ≤ IntKind.wrap IntKind.u64 ((Nat.cast : Nat → Int) (Nt.val (Nt.limbs (Nt.val a)) % Int.toNat (List.getD (Nt.limbs (Nt.val b)) (0 :
 Nat) (0 : Int)))) ∧ IntKind.wrap IntKind.u64 ((Nat.cast : Nat → Int) (Nt.val (Nt.limbs (Nt.val a)) % Int.toNat (List.getD (Nt.limbs (Nt.val b)) (0 : Nat) (0 : Int)))) < (18446744073709551616 : Int)) ∧
 K (TV.tup [TV.d (AV.ints IntKind.u32 (Nt.limbs (Nt.val (Nt.limbs (Nt.val a)) / Int.toNat (List.getD (Nt.limbs (Nt.val b)) (0 : Nat) (0 : Int))))), TV.d (AV.ints IntKind.u32 (Nt.limbs (Int.toNat
 (IntKind.wrap IntKind.u64 ((Nat.cast : Nat → Int) (Nt.val (Nt.limbs (Nt.val a)) % Int.toNat (List.getD (Nt.limbs (Nt.val b)) (0 : Nat) (0 : Int)))))))), TV.d (AV.int IntKind.i64 (0 : Int))])) ∧
 (decide ((Nat.cast : Nat → Int) (List.length (Nt.limbs (Nt.val b))) = (1 : Int)) = false → (Nt.Few (Nt.limbs (Nt.val a)) ∧ Nt.Few (Nt.limbs (Nt.val b)) ∧ Nt.Norm (Nt.limbs (Nt.val a)) ∧ Nt.Norm
 (Nt.limbs (Nt.val b)) ∧ (2 : Nat) ≤ List.length (Nt.limbs (Nt.val b)) ∧ Nt.val (Nt.limbs (Nt.val b)) ≤ Nt.val (Nt.limbs (Nt.val a))) ∧ K (TV.tup [TV.d (AV.ints IntKind.u32 (Nt.limbs (Nt.val (Nt.limbs
 (Nt.val a)) / Nt.val (Nt.limbs (Nt.val b))))), TV.d (AV.ints IntKind.u32 (Nt.limbs (Nt.val (Nt.limbs (Nt.val a)) % Nt.val (Nt.limbs (Nt.val b))))), TV.d (AV.int IntKind.i64 (0 : Int))]))))

end Nt
end

section
/- NtN: the proof of the verification condition of DivMod. -/
open Go Go.Vc
namespace Nt
theorem p_nDivMod (a b : List Int) (K : TV → Prop) (h : cDivMod.T [.d (.ints .u32 a), .d (.ints .u32 b)] K) : vc_nDivMod a b K := by
  obtain ⟨⟨ha, hb⟩, hk⟩ := h
  have hal := few_len ha
  have hbl := few_len hb
  have ha2 := ha.2
  have hb2 := hb.2
  unfold vc_nDivMod
  simp only [val_limbs]
  refine ⟨⟨ha.1, by omega⟩, ⟨hb.1, by omega⟩, fun h => ?_, fun h => ?_⟩
  · simp only [decide_eq_true_eq] at h
    have h0 : val b = 0 := limbs0 (by omega)
    simp only [h0, if_true] at hk; exact hk
  · simp only [decide_eq_false_iff_not] at h
    have h0 : val b ≠ 0 := fun e => h (by rw [e, limbs_zero]; rfl)
    simp only [if_neg h0] at hk
    refine ⟨⟨⟨limbs_lim _, by omega⟩, ⟨limbs_lim _, by omega⟩⟩, fun h1 => ⟨by omega, ?_⟩, fun h1 => ⟨fun h2 => ?_, fun h2 => ?_⟩⟩
    · simp only [decide_eq_true_eq] at h1
      have hlt : val a < val b := by
        unfold cmp at h1
        split at h1
        · assumption
        · split at h1 <;> omega
      rw [Nat.div_eq_of_lt hlt, Nat.mod_eq_of_lt hlt, limbs_zero] at hk; exact hk
    · simp only [decide_eq_true_eq] at h2
      have hB : ((limbs (val b)).getD 0 0).toNat = val b := by
        have := vt_all (limbs (val b)) (i := 1) (by omega)
        rw [vt_succ, vt_zero, val_limbs] at this
        simpa using this
      have hB' := limbs_lim (val b) 0
      rw [hB]
      have hm : val a % val b < val b := Nat.mod_lt _ (by omega)
      rw [wu64 (by omega), Int.toNat_natCast]
      exact ⟨by omega, by omega, ⟨⟨limbs_lim _, by omega⟩, hB', by omega⟩, ⟨by omega, by omega⟩, hk⟩
    · simp only [decide_eq_false_iff_not] at h1 h2
      have hge : val b ≤ val a := by
        unfold cmp at h1
        split at h1
        · exact absurd (by decide) h1
        · omega
      exact ⟨⟨⟨limbs_lim _, by omega⟩, ⟨limbs_lim _, by omega⟩, limbs_norm _, limbs_norm _, by omega, hge⟩, hk⟩
end Nt
end

section
/- Verification conditions, printed. -/
open Go Go.Vc
namespace Nt
def vc_nlawNaturalDivides : List Int → List Int → (TV → Prop) → Prop :=
 fun (a b : List Int) (K : TV → Prop) => True ∧ ∀ (x : Bool), x = decide (List.length a ≤ (24 : Nat)) → ((!x) = true → True ∧ ∀ (x : Bool), x = true → K (TV.d (AV.bool x))) ∧ ((!x) = false → True ∧ ∀
 (x : Bool), x = decide (List.length b ≤ (24 : Nat)) → ((!x) = true → True ∧ ∀ (x : Bool), x = true → K (TV.d (AV.bool x))) ∧ ((!x) = false → (Nt.Few a ∧ Nt.Few b) ∧ ∀ (x : List Int), (x = if Nt.val b
 = (0 : Nat) then [] else Nt.limbs (Nt.val a / Nt.val b)) → ∀ (x_1 : List Int), (x_1 = if Nt.val b = (0 : Nat) then [] else Nt.limbs (Nt.val a % Nt.val b)) → ∀ (x_2 : Int), (x_2 = if Nt.val b = (0 :
 Nat) then (3 : Int) else (0 : Int)) → Nt.Few b ∧ ∀ (x_3 : List Int), x_3 = Nt.limbs (Nt.val b) → (decide ((Nat.cast : Nat → Int) (List.length x_3) = (0 : Int)) = true → (decide (x_2 = (3 : Int)) =
 true → (decide ((Nat.cast : Nat → Int) (List.length x) = (0 : Int)) = true → (decide ((Nat.cast : Nat → Int) (List.length x_1) = (0 : Int)) = true → True ∧ ∀ (x : Bool), x = true → K (TV.d (AV.bool
 x))) ∧ (decide ((Nat.cast : Nat → Int) (List.length x_1) = (0 : Int)) = false → K (TV.d (AV.bool false)))) ∧ (decide ((Nat.cast : Nat → Int) (List.length x) = (0 : Int)) = false → K (TV.d (AV.bool
 false)))) ∧ (decide (x_2 = (3 : Int)) = false → K (TV.d (AV.bool false)))) ∧ (decide ((Nat.cast : Nat → Int) (List.length x_3) = (0 : Int)) = false → (Nt.Few x ∧ Nt.Few b) ∧ ∀ (x_4 : List Int), x_4 =
 Nt.limbs (Nt.val x * Nt.val b) → (Nt.Few x_4 ∧ Nt.Few x_1) ∧ ∀ (x_5 : List Int), x_5 = Nt.limbs (Nt.val x_4 + Nt.val x_1) → (Nt.Few x_5 ∧ Nt.Few b) ∧ ∀ (x_6 : List Int), (x_6 = if Nt.val b = (0 : Nat)
 then [] else Nt.limbs (Nt.val x_5 / Nt.val b)) → ∀ (x_7 : List Int), (x_7 = if Nt.val b = (0 : Nat) then [] else Nt.limbs (Nt.val x_5 % Nt.val b)) → ∀ (x_8 : Int), (x_8 = if Nt.val b = (0 : Nat) then
 (3 : Int) else (0 : Int)) → (decide (x_2 = (0 : Int)) = true → (decide (x_8 = (0 : Int)) = true → (Nt.Few x_1 ∧ Nt.Few b) ∧ ∀ (x_9 : Int), x_9 = Nt.cmp (Nt.val x_1) (Nt.val b) → (decide (x_9 < (0 :
 Int)) = true → Nt.Few a ∧ ∀ (x_10 : List Int), x_10 = Nt.limbs (Nt.val a) → (List.length x_5 ≤ (1000000000 : Nat) ∧ List.length x_10 ≤ (1000000000 : Nat)) ∧ ∀ (x_11 : Bool), x_11 = decide (x_5 = x_10)
 → (x_11 = true → (List.length x_6 ≤ (1000000000 : Nat) ∧ List.length x ≤ (1000000000 : Nat)) ∧ ∀ (x_12 : Bool), x_12 = decide (x_6 = x) → (x_12 = true → (List.length x_7 ≤ (1000000000 : Nat) ∧
 List.length x_1 ≤ (1000000000 : Nat)) ∧ ∀ (x : Bool), x = decide (x_7 = x_1) → (x = true → True ∧ ∀ (x : Bool), x = true → K (TV.d (AV.bool x))) ∧ (x = false → K (TV.d (AV.bool false)))) ∧ (x_12 =
 false → K (TV.d (AV.bool false)))) ∧ (x_11 = false → K (TV.d (AV.bool false)))) ∧ (decide (x_9 < (0 : Int)) = false → K (TV.d (AV.bool false)))) ∧ (decide (x_8 = (0 : Int)) = false → K (TV.d (AV.bool
 false)))) ∧ (decide (x_2 = (0 : Int)) = false → K (TV.d (AV.bool false))))))

def vc_nGCD : List Int → List Int → (TV → Prop) → Prop :=
 fun (a b : List Int) (K : TV → Prop) => Nt.Few a ∧ ∀ (x : List Int), x = Nt.limbs (Nt.val a) → Nt.Few b ∧ ∀ (x_1 : List Int), x_1 = Nt.limbs (Nt.val b) → ∃ (I : List Int → List Int → Prop), ∃ (m :
 List Int → List Int → Nat), I x x_1 ∧ ∀ (v0 v1 : List Int), I v0 v1 → (decide ((2 : Int) < (Nat.cast : Nat → Int) (List.length v0)) = true → (decide ((Nat.cast : Nat → Int) (List.length v1) = (0 :
 Int)) = true → K (TV.d (AV.ints IntKind.u32 v0))) ∧ (decide ((Nat.cast : Nat → Int) (List.length v1) = (0 : Int)) = false → (Nt.Few v0 ∧ Nt.Few v1) ∧ ∀ (x : List Int), (x = if Nt.val v1 = (0 : Nat)
 then [] else Nt.limbs (Nt.val v0 / Nt.val v1)) → ∀ (x : List Int), (x = if Nt.val v1 = (0 : Nat) then [] else Nt.limbs (Nt.val v0 % Nt.val v1)) → ∀ (x_2 : Int), (x_2 = if Nt.val v1 = (0 : Nat) then (3
 : Int) else (0 : Int)) → I v1 x ∧ m v1 x < m v0 v1)) ∧ (decide ((2 : Int) < (Nat.cast : Nat → Int) (List.length v0)) = false → (decide ((2 : Int) < (Nat.cast : Nat → Int) (List.length v1)) = true →
 (decide ((Nat.cast : Nat → Int) (List.length v1) = (0 : Int)) = true → K (TV.d (AV.ints IntKind.u32 v0))) ∧ (decide ((Nat.cast : Nat → Int) (List.length v1) = (0 : Int)) = false → (Nt.Few v0 ∧ Nt.Few
 v1) ∧ ∀ (x : List Int), (x = if Nt.val v1 = (0 : Nat) then [] else Nt.limbs (Nt.val v0 / Nt.val v1)) → ∀ (x : List Int), (x = if Nt.val v1 = (0 : Nat) then [] else Nt.limbs (Nt.val v0 % Nt.val v1)) →
 ∀ (x_2 : Int), (x_2 = if Nt.val v1 = (0 : Nat) then (3 : Int) else (0 : Int)) → I v1 x ∧ m v1 x < m v0 v1)) ∧ (decide ((2 : Int) < (Nat.cast : Nat → Int) (List.length v1)) = false → (Nt.Lim v0 ∧
 List.length v0 ≤ (2 : Nat)) ∧ ∀ (x : Int), x = (Nat.cast : Nat → Int) (Nt.val v0) → (Nt.Lim v1 ∧ List.length v1 ≤ (2 : Nat)) ∧ ∀ (x_2 : Int), x_2 = (Nat.cast : Nat → Int) (Nt.val v1) → ∃ (I : Int →
 Int → Prop), ∃ (m : Int → Int → Nat), I x x_2 ∧ ∀ (v8 v9 : Int), I v8 v9 → ((!decide (v9 = (0 : Int))) = true → ¬v9 = (0 : Int) ∧ I v9 (Int.tmod v8 v9) ∧ m v9 (Int.tmod v8 v9) < m v8 v9) ∧ ((!decide
 (v9 = (0 : Int))) = false → ((0 : Int) ≤ v8 ∧ v8 < (18446744073709551616 : Int)) ∧ ∀ (x : List Int), x = Nt.limbs (Int.toNat v8) → K (TV.d (AV.ints IntKind.u32 x)))))

def vc_nrefTrim : List Int → (OB → Prop) → Prop :=
 fun (a : List Int) (K : OB → Prop) => ∃ (I : Int → Prop), ∃ (m : Int → Nat), I ((Nat.cast : Nat → Int) (List.length a)) ∧ ∀ (v3 : Int), I v3 → (decide ((0 : Int) < v3) = true → (0 : Int) ≤
 IntKind.wrap IntKind.i64 (v3 - (1 : Int)) ∧ IntKind.wrap IntKind.i64 (v3 - (1 : Int)) < (Nat.cast : Nat → Int) (List.length a) ∧ (decide (List.getD a (Int.toNat (IntKind.wrap IntKind.i64 (v3 - (1 :
 Int)))) (0 : Int) = (0 : Int)) = true → I (IntKind.wrap IntKind.i64 (v3 - (1 : Int))) ∧ m (IntKind.wrap IntKind.i64 (v3 - (1 : Int))) < m v3) ∧ (decide (List.getD a (Int.toNat (IntKind.wrap
 IntKind.i64 (v3 - (1 : Int)))) (0 : Int) = (0 : Int)) = false → (0 : Int) ≤ v3 ∧ v3 ≤ (Nat.cast : Nat → Int) (List.length a) ∧ (Nat.cast : Nat → Int) (List.length (List.take (Int.toNat v3) a)) * (4 :
 Int) ≤ (70368744177664 : Int) ∧ K (OB.ints IntKind.u32 (List.take (Int.toNat v3) a)))) ∧ (decide ((0 : Int) < v3) = false → (0 : Int) ≤ v3 ∧ v3 ≤ (Nat.cast : Nat → Int) (List.length a) ∧ (Nat.cast :
 Nat → Int) (List.length (List.take (Int.toNat v3) a)) * (4 : Int) ≤ (70368744177664 : Int) ∧ K (OB.ints IntKind.u32 (List.take (Int.toNat v3) a)))

def vc_nrefCmp : List Int → List Int → (TV → Prop) → Prop :=
 fun (a b : List Int) (K : TV → Prop) => Nt.Few a ∧ Nt.Few b ∧ ((!decide ((Nat.cast : Nat → Int) (List.length (Nt.limbs (Nt.val a))) = (Nat.cast : Nat → Int) (List.length (Nt.limbs (Nt.val b))))) =
 true → (decide ((Nat.cast : Nat → Int) (List.length (Nt.limbs (Nt.val a))) < (Nat.cast : Nat → Int) (List.length (Nt.limbs (Nt.val b)))) = true → K (TV.d (AV.int IntKind.i64 (-1 : Int)))) ∧ (decide
 ((Nat.cast : Nat → Int) (List.length (Nt.limbs (Nt.val a))) < (Nat.cast : Nat → Int) (List.length (Nt.limbs (Nt.val b)))) = false → K (TV.d (AV.int IntKind.i64 (1 : Int))))) ∧ ((!decide ((Nat.cast :
 Nat → Int) (List.length (Nt.limbs (Nt.val a))) = (Nat.cast : Nat → Int) (List.length (Nt.limbs (Nt.val b))))) = false → ∃ (I : Int → Prop), ∃ (m : Int → Nat), ((false, OB.ints IntKind.u32 (Nt.limbs
 (Nt.val a))) = (false, OB.ints IntKind.u32 (Nt.limbs (Nt.val a))) ∧ (false, OB.ints IntKind.u32 (Nt.limbs (Nt.val b))) = (false, OB.ints IntKind.u32 (Nt.limbs (Nt.val b))) ∧ I (IntKind.wrap
 IntKind.i64 ((Nat.cast : Nat → Int) (List.length (Nt.limbs (Nt.val a))) - (1 : Int)))) ∧ ∀ (v5 : Int), I v5 → (decide ((0 : Int) ≤ v5) = true → (0 : Int) ≤ v5 ∧ v5 < (Nat.cast : Nat → Int)
 (List.length (Nt.limbs (Nt.val a))) ∧ (0 : Int) ≤ v5 ∧ v5 < (Nat.cast : Nat → Int) (List.length (Nt.limbs (Nt.val b))) ∧ (decide (List.getD (Nt.limbs (Nt.val a)) (Int.toNat v5) (0 : Int) < List.getD
 (Nt.limbs (Nt.val b)) (Int.toNat v5) (0 : Int)) = true → K (TV.d (AV.int IntKind.i64 (-1 : Int)))) ∧ (decide (List.getD (Nt.limbs (Nt.val a)) (Int.toNat v5) (0 : Int) < List.getD (Nt.limbs (Nt.val b))
 (Int.toNat v5) (0 : Int)) = false → (0 : Int) ≤ v5 ∧ v5 < (Nat.cast : Nat → Int) (List.length (Nt.limbs (Nt.val a))) ∧ (0 : Int) ≤ v5 ∧ v5 < (Nat.cast : Nat → Int) (List.length (Nt.limbs (Nt.val b)))
 ∧ (decide (List.getD (Nt.limbs (Nt.val b)) (Int.toNat v5) (0 : Int) < List.getD (Nt.limbs (Nt.val a)) (Int.toNat v5) (0 : Int)) = true → K (TV.d (AV.int IntKind.i64 (1 : Int)))) ∧ (decide (List.getD
 (Nt.limbs (Nt.val b)) (Int.toNat v5) (0 : Int) < List.getD (Nt.limbs (Nt.val a)) (Int.toNat v5) (0 : Int)) = false → (false, OB.ints IntKind.u32 (Nt.limbs (Nt.val a))) = (false, OB.ints IntKind.u32
 (Nt.limbs (Nt.val a))) ∧ (false, OB.ints IntKind.u32 (Nt.limbs (Nt.val b))) = (false, OB.ints IntKind.u32 (Nt.limbs (Nt.val b))) ∧ I (IntKind.wrap IntKind.i64 (v5 - (1 : Int))) ∧ m (IntKind.wrap
 IntKind.i64 (v5 - (1 : Int))) < m v5))) ∧ (decide ((0 : Int) ≤ v5) = false → K (TV.d (AV.int IntKind.i64 (0 : Int)))))

def vc_nrefshort : List Int → Int → (TV → Prop) → Prop :=
 fun (a : List Int) (d : Int) (K : TV → Prop) => (0 : Int) ≤ (Nat.cast : Nat → Int) (List.length a) ∧ (Nat.cast : Nat → Int) (List.length a) ≤ (Nat.cast : Nat → Int) (List.length a) ∧ (Nat.cast : Nat →
 Int) (List.length a) * (4 : Int) ≤ (281474976710656 : Int) ∧ ∃ (I : Int → Int → List Int → Prop), ∃ (m : Int → Int → List Int → Nat), I (0 : Int) (IntKind.wrap IntKind.i64 ((Nat.cast : Nat → Int)
 (List.length a) - (1 : Int))) (List.replicate (Int.toNat ((Nat.cast : Nat → Int) (List.length a))) (0 : Int)) ∧ ∀ (v7 v8 : Int) (o0 : List Int), I v7 v8 o0 → (decide ((0 : Int) ≤ v8) = true → (0 :
 Int) ≤ v8 ∧ v8 < (Nat.cast : Nat → Int) (List.length a) ∧ ¬IntKind.wrap IntKind.u64 d = (0 : Int) ∧ (0 : Int) ≤ v8 ∧ v8 < (Nat.cast : Nat → Int) (List.length o0) ∧ ¬IntKind.wrap IntKind.u64 d = (0 :
 Int) ∧ I (Int.tmod (bitop BinOp.or IntKind.u64 (IntKind.wrap IntKind.u64 (v7 * (4294967296 : Int))) (IntKind.wrap IntKind.u64 (List.getD a (Int.toNat v8) (0 : Int)))) (IntKind.wrap IntKind.u64 d))
 (IntKind.wrap IntKind.i64 (v8 - (1 : Int))) (List.set o0 (Int.toNat v8) (IntKind.wrap IntKind.u32 (IntKind.wrap IntKind.u64 (Int.tdiv (bitop BinOp.or IntKind.u64 (IntKind.wrap IntKind.u64 (v7 *
 (4294967296 : Int))) (IntKind.wrap IntKind.u64 (List.getD a (Int.toNat v8) (0 : Int)))) (IntKind.wrap IntKind.u64 d))))) ∧ m (Int.tmod (bitop BinOp.or IntKind.u64 (IntKind.wrap IntKind.u64 (v7 *
 (4294967296 : Int))) (IntKind.wrap IntKind.u64 (List.getD a (Int.toNat v8) (0 : Int)))) (IntKind.wrap IntKind.u64 d)) (IntKind.wrap IntKind.i64 (v8 - (1 : Int))) (List.set o0 (Int.toNat v8)
 (IntKind.wrap IntKind.u32 (IntKind.wrap IntKind.u64 (Int.tdiv (bitop BinOp.or IntKind.u64 (IntKind.wrap IntKind.u64 (v7 * (4294967296 : Int))) (IntKind.wrap IntKind.u64 (List.getD a (Int.toNat v8) (0
 : Int)))) (IntKind.wrap IntKind.u64 d))))) < m v7 v8 o0) ∧ (decide ((0 : Int) ≤ v8) = false → Nt.Few o0 ∧ K (TV.tup [TV.d (AV.ints IntKind.u32 (Nt.limbs (Nt.val o0))), TV.d (AV.int IntKind.u32
 (IntKind.wrap IntKind.u32 v7))]))

def vc_nrefDivMod : List Int → List Int → (TV → Prop) → Prop :=
 fun (a b : List Int) (K : TV → Prop) => Nt.Few a ∧ ∀ (x : List Int), x = Nt.limbs (Nt.val a) → Nt.Few b ∧ ∀ (x_1 : List Int), x_1 = Nt.limbs (Nt.val b) → (decide ((Nat.cast : Nat → Int) (List.length
 x_1) = (0 : Int)) = true → K (TV.tup [TV.d (AV.ints IntKind.u32 []), TV.d (AV.ints IntKind.u32 []), TV.d (AV.int IntKind.i64 (3 : Int))])) ∧ (decide ((Nat.cast : Nat → Int) (List.length x_1) = (0 :
 Int)) = false → (Nt.Few x ∧ Nt.Few x_1) ∧ ∀ (x_2 : Int), x_2 = Nt.cmp (Nt.val x) (Nt.val x_1) → (decide (x_2 < (0 : Int)) = true → K (TV.tup [TV.d (AV.ints IntKind.u32 []), TV.d (AV.ints IntKind.u32
 x), TV.d (AV.int IntKind.i64 (0 : Int))])) ∧ (decide (x_2 < (0 : Int)) = false → (decide ((Nat.cast : Nat → Int) (List.length x_1) = (1 : Int)) = true → (0 : Int) ≤ (0 : Int) ∧ (0 : Int) < (Nat.cast :
 Nat → Int) (List.length x_1) ∧ (Nt.Few x ∧ Nt.L (List.getD x_1 (0 : Nat) (0 : Int)) ∧ (0 : Int) < List.getD x_1 (0 : Nat) (0 : Int)) ∧ ∀ (x_3 : List Int), x_3 = Nt.limbs (Nt.val x / Int.toNat
 (List.getD x_1 (0 : Nat) (0 : Int))) → ∀ (x_4 : Int), x_4 = (Nat.cast : Nat → Int) (Nt.val x % Int.toNat (List.getD x_1 (0 : Nat) (0 : Int))) → Nt.Few [x_4] ∧ ∀ (x : List Int), x = Nt.limbs (Nt.val
 [x_4]) → K (TV.tup [TV.d (AV.ints IntKind.u32 x_3), TV.d (AV.ints IntKind.u32 x), TV.d (AV.int IntKind.i64 (0 : Int))])) ∧ (decide ((Nat.cast : Nat → Int) (List.length x_1) = (1 : Int)) = false → ∃ (I
 : Int → Prop), ∃ (m : Int → Nat), ((true, OB.ints IntKind.u32 x) = (true, OB.ints IntKind.u32 x) ∧ (true, OB.ints IntKind.u32 x_1) = (true, OB.ints IntKind.u32 x_1) ∧ I (0 : Int)) ∧ ∀ (v9 : Int), I v9
 → (0 : Int) ≤ IntKind.wrap IntKind.i64 ((Nat.cast : Nat → Int) (List.length x_1) - (1 : Int)) ∧ IntKind.wrap IntKind.i64 ((Nat.cast : Nat → Int) (List.length x_1) - (1 : Int)) < (Nat.cast : Nat → Int)
 (List.length x_1) ∧ (0 : Int) ≤ IntKind.wrap IntKind.u64 v9 ∧ (decide (IntKind.wrap IntKind.u32 (List.getD x_1 (Int.toNat (IntKind.wrap IntKind.i64 ((Nat.cast : Nat → Int) (List.length x_1) - (1 :
 Int)))) (0 : Int) * (2 : Int) ^ min (Int.toNat (IntKind.wrap IntKind.u64 v9)) (32 : Nat)) < (2147483648 : Int)) = true → (true, OB.ints IntKind.u32 x) = (true, OB.ints IntKind.u32 x) ∧ (true, OB.ints
 IntKind.u32 x_1) = (true, OB.ints IntKind.u32 x_1) ∧ I (IntKind.wrap IntKind.i64 (v9 + (1 : Int))) ∧ m (IntKind.wrap IntKind.i64 (v9 + (1 : Int))) < m v9) ∧ (decide (IntKind.wrap IntKind.u32
 (List.getD x_1 (Int.toNat (IntKind.wrap IntKind.i64 ((Nat.cast : Nat → Int) (List.length x_1) - (1 : Int)))) (0 : Int) * (2 : Int) ^ min (Int.toNat (IntKind.wrap IntKind.u64 v9)) (32 : Nat)) <
 (2147483648 : Int)) = false → False))))

def vc_nlawNaturalCommon : List Int → List Int → List Int → (TV → Prop) → Prop :=
 fun (a b c : List Int) (K : TV → Prop) => (decide ((8 : Int) < (Nat.cast : Nat → Int) (List.length a)) = true → True ∧ ∀ (x : Bool), x = true → K (TV.d (AV.bool x))) ∧ (decide ((8 : Int) < (Nat.cast :
 Nat → Int) (List.length a)) = false → (decide ((8 : Int) < (Nat.cast : Nat → Int) (List.length b)) = true → True ∧ ∀ (x : Bool), x = true → K (TV.d (AV.bool x))) ∧ (decide ((8 : Int) < (Nat.cast : Nat
 → Int) (List.length b)) = false → (decide ((8 : Int) < (Nat.cast : Nat → Int) (List.length c)) = true → True ∧ ∀ (x : Bool), x = true → K (TV.d (AV.bool x))) ∧ (decide ((8 : Int) < (Nat.cast : Nat →
 Int) (List.length c)) = false → (Nt.Few a ∧ Nt.Few b) ∧ ∀ (x : List Int), x = Nt.limbs (Nat.gcd (Nt.val a) (Nt.val b)) → (Nt.Few a ∧ Nt.Few c) ∧ ∀ (x_1 : List Int), x_1 = Nt.limbs (Nt.val a * Nt.val
 c) → (Nt.Few b ∧ Nt.Few c) ∧ ∀ (x_2 : List Int), x_2 = Nt.limbs (Nt.val b * Nt.val c) → (Nt.Few x_1 ∧ Nt.Few x_2) ∧ ∀ (x_3 : List Int), x_3 = Nt.limbs (Nat.gcd (Nt.val x_1) (Nt.val x_2)) → (Nt.Few x ∧
 Nt.Few c) ∧ ∀ (x_4 : List Int), x_4 = Nt.limbs (Nt.val x * Nt.val c) → (List.length x_3 ≤ (1000000000 : Nat) ∧ List.length x_4 ≤ (1000000000 : Nat)) ∧ ∀ (x_5 : Bool), x_5 = decide (x_3 = x_4) →
 ((!x_5) = true → K (TV.d (AV.bool false))) ∧ ((!x_5) = false → (decide ((Nat.cast : Nat → Int) (List.length x) = (0 : Int)) = true → Nt.Few a ∧ ∀ (x : List Int), x = Nt.limbs (Nt.val a) → (decide
 ((Nat.cast : Nat → Int) (List.length x) = (0 : Int)) = true → Nt.Few b ∧ ∀ (x : List Int), x = Nt.limbs (Nt.val b) → (decide ((Nat.cast : Nat → Int) (List.length x) = (0 : Int)) = true → True ∧ ∀ (x :
 Bool), x = true → K (TV.d (AV.bool x))) ∧ (decide ((Nat.cast : Nat → Int) (List.length x) = (0 : Int)) = false → K (TV.d (AV.bool false)))) ∧ (decide ((Nat.cast : Nat → Int) (List.length x) = (0 :
 Int)) = false → K (TV.d (AV.bool false)))) ∧ (decide ((Nat.cast : Nat → Int) (List.length x) = (0 : Int)) = false → (Nt.Few a ∧ Nt.Few x) ∧ ∀ (x_6 : List Int), (x_6 = if Nt.val x = (0 : Nat) then []
 else Nt.limbs (Nt.val a / Nt.val x)) → ∀ (x_7 : List Int), (x_7 = if Nt.val x = (0 : Nat) then [] else Nt.limbs (Nt.val a % Nt.val x)) → ∀ (x_8 : Int), (x_8 = if Nt.val x = (0 : Nat) then (3 : Int)
 else (0 : Int)) → (Nt.Few b ∧ Nt.Few x) ∧ ∀ (x_9 : List Int), (x_9 = if Nt.val x = (0 : Nat) then [] else Nt.limbs (Nt.val b / Nt.val x)) → ∀ (x_10 : List Int), (x_10 = if Nt.val x = (0 : Nat) then []
 else Nt.limbs (Nt.val b % Nt.val x)) → ∀ (x_11 : Int), (x_11 = if Nt.val x = (0 : Nat) then (3 : Int) else (0 : Int)) → ((!decide (x_8 = (0 : Int))) = true → K (TV.d (AV.bool false))) ∧ ((!decide (x_8
 = (0 : Int))) = false → ((!decide (x_11 = (0 : Int))) = true → K (TV.d (AV.bool false))) ∧ ((!decide (x_11 = (0 : Int))) = false → (decide ((0 : Int) < (Nat.cast : Nat → Int) (List.length x_7)) = true
 → K (TV.d (AV.bool false))) ∧ (decide ((0 : Int) < (Nat.cast : Nat → Int) (List.length x_7)) = false → (decide ((0 : Int) < (Nat.cast : Nat → Int) (List.length x_10)) = true → K (TV.d (AV.bool
 false))) ∧ (decide ((0 : Int) < (Nat.cast : Nat → Int) (List.length x_10)) = false → ∃ (I : Int → Prop), ∃ (m : Int → Nat), I (2 : Int) ∧ ∀ (v14 : Int), I v14 → (decide (v14 < (40 : Int)) = true →
 (Nt.Few a ∧ Nt.Few [v14] ∧ Nt.val [v14] < (4294967296 : Nat)) ∧ ∀ (x_12 : List Int), (x_12 = if Nt.val [v14] = (0 : Nat) then [] else Nt.limbs (Nt.val a / Nt.val [v14])) → ∀ (x_13 : List Int), (x_13 =
 if Nt.val [v14] = (0 : Nat) then [] else Nt.limbs (Nt.val a % Nt.val [v14])) → ∀ (x_14 : Int), (x_14 = if Nt.val [v14] = (0 : Nat) then (3 : Int) else (0 : Int)) → (Nt.Few b ∧ Nt.Few [v14] ∧ Nt.val
 [v14] < (4294967296 : Nat)) ∧ ∀ (x_15 : List Int), (x_15 = if Nt.val [v14] = (0 : Nat) then [] else Nt.limbs (Nt.val b / Nt.val [v14])) → ∀ (x_16 : List Int), (x_16 = if Nt.val [v14] = (0 : Nat) then
 [] else Nt.limbs (Nt.val b % Nt.val [v14])) → ∀ (x_17 : Int), (x_17 = if Nt.val [v14] = (0 : Nat) then (3 : Int) else (0 : Int)) → (Nt.Few x ∧ Nt.Few [v14] ∧ Nt.val [v14] < (4294967296 : Nat)) ∧ ∀
 (x_18 : List Int), (x_18 = if Nt.val [v14] = (0 : Nat) then [] else Nt.limbs (Nt.val x / Nt.val [v14])) → ∀ (x_19 : List Int), (x_19 = if Nt.val [v14] = (0 : Nat) then [] else Nt.limbs (Nt.val x %
 Nt.val [v14])) → ∀ (x : Int), (x = if Nt.val [v14] = (0 : Nat) then (3 : Int) else (0 : Int)) → (decide ((Nat.cast : Nat → Int) (List.length x_13) = (0 : Int)) = true → ((!decide ((Nat.cast : Nat →
 Int) (List.length x_16) = (0 : Int)) == decide ((Nat.cast : Nat → Int) (List.length x_19) = (0 : Int))) = true → K (TV.d (AV.bool false))) ∧ ((!decide ((Nat.cast : Nat → Int) (List.length x_16) = (0 :
 Int)) == decide ((Nat.cast : Nat → Int) (List.length x_19) = (0 : Int))) = false → I (IntKind.wrap IntKind.u32 (v14 + (1 : Int))) ∧ m (IntKind.wrap IntKind.u32 (v14 + (1 : Int))) < m v14)) ∧ (decide
 ((Nat.cast : Nat → Int) (List.length x_13) = (0 : Int)) = false → ((!false == decide ((Nat.cast : Nat → Int) (List.length x_19) = (0 : Int))) = true → K (TV.d (AV.bool false))) ∧ ((!false == decide
 ((Nat.cast : Nat → Int) (List.length x_19) = (0 : Int))) = false → I (IntKind.wrap IntKind.u32 (v14 + (1 : Int))) ∧ m (IntKind.wrap IntKind.u32 (v14 + (1 : Int))) < m v14))) ∧ (decide (v14 < (40 :
 Int)) = false → True ∧ ∀ (x : Bool), x = true → K (TV.d (AV.bool x))))))))))))

end Nt
end

section
/- NtT: proofs of verification conditions: NaturalDivides, GCD, NaturalCommon, and of the specification's Trim, Cmp, short, DivMod by one limb. -/
open Go Go.Vc
namespace Nt

theorem yes {K : TV → Prop} (hk : K (.d (.bool true))) : ∀ x : Bool, x = true → K (.d (.bool x)) := fun x h => by subst h; exact hk

theorem p_nlawNaturalDivides (a b : List Int) (K : TV → Prop) (h : cNaturalDivides.T [.d (.ints .u32 a), .d (.ints .u32 b)] K) : vc_nlawNaturalDivides a b K := by
  obtain ⟨⟨ha, hb⟩, hk⟩ := h
  have hy := yes hk
  unfold vc_nlawNaturalDivides
  refine ⟨trivial, ?_⟩
  rintro _ rfl
  refine ⟨fun _ => ⟨trivial, hy⟩, fun h1 => ⟨trivial, ?_⟩⟩
  rintro _ rfl
  refine ⟨fun _ => ⟨trivial, hy⟩, fun h2 => ?_⟩
  have h1 : a.length ≤ 24 := by simpa using h1
  have h2 : b.length ≤ 24 := by simpa using h2
  have fa : Few a := ⟨ha, by omega⟩
  have fb : Few b := ⟨hb, by omega⟩
  have sa : Sz (val a) 24 := .of ha h1
  have sb : Sz (val b) 24 := .of hb h2
  refine ⟨⟨fa, fb⟩, ?_⟩
  rintro q rfl r rfl e rfl
  refine ⟨fb, ?_⟩
  rintro t rfl
  by_cases hb0 : val b = 0
  · simp only [hb0, if_true, limbs_zero, List.length_nil]
    refine ⟨fun _ => ⟨fun _ => ⟨fun _ => ⟨fun _ => ⟨trivial, hy⟩, fun h => ?_⟩, fun h => ?_⟩, fun h => ?_⟩, fun h => ?_⟩
    all_goals simp at h
  · simp only [if_neg hb0]
    have fle : ∀ n, n ≤ val a → Few (limbs n) := fun n hn => (sa.le hn).few (by decide)
    have lle : ∀ n, n ≤ val a → (limbs n).length ≤ 1000000000 := fun n hn => (sa.le hn).len (by decide)
    have d1 : val a / val b ≤ val a := Nat.div_le_self _ _
    have d2 : val a % val b ≤ val a := Nat.mod_le _ _
    have d3 : val a / val b * val b ≤ val a := Nat.div_mul_le_self _ _
    have d4 : val a / val b * val b + val a % val b = val a := Nat.div_add_mod' _ _
    have hc : cmp (val a % val b) (val b) = -1 := cmp_lt (Nat.mod_lt _ (by omega))
    refine ⟨fun h => ?_, fun _ => ⟨⟨fle _ d1, fb⟩, ?_⟩⟩
    · simp only [decide_eq_true_eq] at h
      exact absurd (limbs0 (by omega)) hb0
    rintro x4 rfl
    rw [val_limbs]
    refine ⟨⟨fle _ d3, fle _ d2⟩, ?_⟩
    rintro x5 rfl
    rw [val_limbs, val_limbs, d4]
    refine ⟨⟨fle _ (Nat.le_refl _), fb⟩, ?_⟩
    rintro x6 rfl x7 rfl x8 rfl
    rw [val_limbs]
    refine ⟨fun _ => ⟨fun _ => ⟨⟨fle _ d2, fb⟩, ?_⟩, fun h => ?_⟩, fun h => ?_⟩
    rotate_left
    · simp at h
    · simp at h
    rintro x9 rfl
    rw [hc]
    refine ⟨fun _ => ⟨fa, ?_⟩, fun h => ?_⟩
    rotate_left
    · simp at h
    rintro x10 rfl
    refine ⟨⟨lle _ (Nat.le_refl _), lle _ (Nat.le_refl _)⟩, ?_⟩
    rintro x11 rfl
    refine ⟨fun _ => ⟨⟨lle _ d1, lle _ d1⟩, ?_⟩, fun h => ?_⟩
    rotate_left
    · simp at h
    rintro x12 rfl
    refine ⟨fun _ => ⟨⟨lle _ d2, lle _ d2⟩, ?_⟩, fun h => ?_⟩
    rotate_left
    · simp at h
    rintro x13 rfl
    refine ⟨fun _ => ⟨trivial, hy⟩, fun h => ?_⟩
    simp at h

theorem gcd_step {A B : Nat} : Nat.gcd B (A % B) = Nat.gcd A B := by
  rw [Nat.gcd_comm A B, Nat.gcd_rec B A, Nat.gcd_comm]
theorem p_nGCD (a b : List Int) (K : TV → Prop) (h : cGCD.T [.d (.ints .u32 a), .d (.ints .u32 b)] K) : vc_nGCD a b K := by
  obtain ⟨⟨ha, hb⟩, hk⟩ := h
  unfold vc_nGCD
  obtain ⟨G, hG⟩ : ∃ G, Nat.gcd (val a) (val b) = G := ⟨_, rfl⟩
  rw [hG] at hk
  refine ⟨ha, ?_⟩
  rintro x rfl
  refine ⟨hb, ?_⟩
  rintro y rfl
  have hal := few_len ha
  have hbl := few_len hb
  have ha2 := ha.2
  have hb2 := hb.2
  refine ⟨fun u v => ∃ A B : Nat, u = limbs A ∧ v = limbs B ∧ Nat.gcd A B = G ∧ (limbs A).length ≤ 100000000 ∧ (limbs B).length ≤ 100000000, fun u v => val v, ⟨val a, val b, rfl, rfl, hG, by omega, by omega⟩, ?_⟩
  rintro u v ⟨A, B, rfl, rfl, hAB, hA, hB⟩
  have fA : Few (limbs A) := ⟨limbs_lim _, hA⟩
  have fB : Few (limbs B) := ⟨limbs_lim _, hB⟩
  simp only [val_limbs]
  have zero : ∀ {n : Nat}, decide ((Nat.cast : Nat → Int) (limbs n).length = 0) = true → n = 0 := fun h => by
    simp only [decide_eq_true_eq] at h
    exact limbs0 (by omega)
  have nz : ∀ {n : Nat}, decide ((Nat.cast : Nat → Int) (limbs n).length = 0) = false → n ≠ 0 := fun h e => by
    subst e
    rw [limbs_zero] at h
    simp at h
  have stop : B = 0 → K (.d (.ints .u32 (limbs A))) := fun h => by
    subst h
    rw [Nat.gcd_zero_right] at hAB
    rw [hAB]; exact hk
  have hlt : B ≠ 0 → A % B < B := fun h => Nat.mod_lt _ (by omega)
  have hlen : B ≠ 0 → (limbs (A % B)).length ≤ 100000000 := fun h => by
    refine Nat.le_trans (limbs_len.2 ?_) hB
    exact Nat.lt_trans (hlt h) (limbs_len.1 (Nat.le_refl _))
  refine ⟨fun _ => ⟨fun h => stop (zero h), fun h => ⟨⟨fA, fB⟩, ?_⟩⟩, fun h1 => ⟨fun _ => ⟨fun h => stop (zero h), fun h => ⟨⟨fA, fB⟩, ?_⟩⟩, fun h2 => ?_⟩⟩
  · have hB0 := nz h
    rintro q rfl r rfl e rfl
    rw [if_neg hB0]
    exact ⟨⟨B, A % B, rfl, rfl, by rw [gcd_step]; exact hAB, hB, hlen hB0⟩, by rw [val_limbs]; exact hlt hB0⟩
  · have hB0 := nz h
    rintro q rfl r rfl e rfl
    rw [if_neg hB0]
    exact ⟨⟨B, A % B, rfl, rfl, by rw [gcd_step]; exact hAB, hB, hlen hB0⟩, by rw [val_limbs]; exact hlt hB0⟩
  · simp only [decide_eq_false_iff_not] at h1 h2
    have p2 : (4294967296 : Nat) ^ 2 = 18446744073709551616 := by decide
    have hA2 : A < 18446744073709551616 := by rw [← p2]; exact limbs_len.1 (by omega)
    have hB2 : B < 18446744073709551616 := by rw [← p2]; exact limbs_len.1 (by omega)
    refine ⟨⟨limbs_lim _, by omega⟩, ?_⟩
    rintro x rfl
    refine ⟨⟨limbs_lim _, by omega⟩, ?_⟩
    rintro y rfl
    refine ⟨fun x y => ∃ p q : Nat, x = p ∧ y = q ∧ p < 18446744073709551616 ∧ q < 18446744073709551616 ∧ Nat.gcd p q = G, fun x y => y.toNat, ⟨A, B, rfl, rfl, hA2, hB2, hAB⟩, ?_⟩
    rintro x y ⟨p, q, rfl, rfl, hp, hq, hg⟩
    refine ⟨fun h => ?_, fun h => ?_⟩
    · have hq0 : ¬ ((q : Int) = 0) := by simpa using h
      have ht : Int.tmod (p : Int) (q : Int) = ((p % q : Nat) : Int) := by rw [Int.tmod_eq_emod_of_nonneg (by omega), Int.natCast_emod]
      have hm : p % q < q := Nat.mod_lt _ (by omega)
      rw [ht]
      refine ⟨hq0, ⟨q, p % q, rfl, rfl, hq, by omega, by rw [gcd_step]; exact hg⟩, ?_⟩
      show ((p % q : Nat) : Int).toNat < (q : Int).toNat
      rw [Int.toNat_natCast, Int.toNat_natCast]; exact hm
    · have hq0 : ((q : Int) = 0) := by simpa using h
      obtain rfl : q = 0 := by omega
      rw [Nat.gcd_zero_right] at hg
      refine ⟨⟨by omega, by omega⟩, ?_⟩
      rintro r rfl
      rw [Int.toNat_natCast, hg]; exact hk

theorem take_pred {a : List Int} {k : Nat} (hk : 0 < k) (hl : k ≤ a.length) (h : a.getD (k - 1) 0 = 0) : val (a.take (k - 1)) = val (a.take k) := by
  have := vt_succ a (k - 1)
  rw [show k - 1 + 1 = k by omega, h] at this
  unfold vt at this
  rw [this]; simp
theorem p_nrefTrim (a : List Int) (K : OB → Prop) (h : crefTrim.T [.d (.ints .u32 a)] K) : vc_nrefTrim a K := by
  obtain ⟨ha, hk⟩ := h
  have hal := ha.2
  unfold vc_nrefTrim
  refine ⟨fun i => ∃ k : Nat, i = k ∧ k ≤ a.length ∧ val (a.take k) = val a, fun i => i.toNat, ⟨a.length, rfl, Nat.le_refl _, by rw [List.take_length]⟩, ?_⟩
  rintro i ⟨k, rfl, hkl, hv⟩
  have hgd : ∀ j, j < k → (a.take k).getD j 0 = a.getD j 0 := fun j hj => by simp [List.getD_eq_getElem?_getD, List.getElem?_take, hj]
  refine ⟨fun h => ?_, fun h => ?_⟩
  · simp only [decide_eq_true_eq] at h
    have e : IntKind.wrap .i64 ((k : Int) - 1) = ((k - 1 : Nat) : Int) := by rw [w64 (by omega)]; omega
    rw [e]
    simp only [Int.toNat_natCast]
    refine ⟨by omega, by omega, fun h0 => ?_, fun h0 => ⟨by omega, by omega, ?_, ?_⟩⟩
    · simp only [decide_eq_true_eq] at h0
      exact ⟨⟨k - 1, rfl, by omega, by rw [take_pred (by omega) hkl h0, hv]⟩, by show ((k - 1 : Nat) : Int).toNat < (k : Int).toNat; omega⟩
    · rw [List.length_take]; omega
    · simp only [decide_eq_false_iff_not] at h0
      rw [← limbs_val (ha.1.take k) (norm_of_last (.inr ?_)), hv]
      · exact hk
      · rw [List.length_take, Nat.min_eq_left hkl, hgd _ (by omega)]; exact h0
  · simp only [decide_eq_false_iff_not] at h
    obtain rfl : k = 0 := by omega
    simp only [Int.toNat_natCast]
    refine ⟨by omega, by omega, by rw [List.length_take]; omega, ?_⟩
    rw [← limbs_val (ha.1.take 0) (norm_of_last (.inl (by simp))), hv]; exact hk

theorem p_nrefshort (a : List Int) (d : Int) (K : TV → Prop) (h : crefshort.T [.d (.ints .u32 a), .d (.int .u32 d)] K) : vc_nrefshort a d K := by
  obtain ⟨⟨ha, hd, hd0⟩, hk⟩ := h
  have hal := ha.2
  unfold L at hd
  obtain ⟨D, rfl⟩ : ∃ D : Nat, d = D := ⟨d.toNat, by omega⟩
  simp only [Int.toNat_natCast] at hk
  unfold vc_nrefshort
  rw [Int.toNat_natCast]
  have wD : IntKind.wrap .u64 (D : Int) = D := wu64 (by omega)
  simp only [wD]
  refine ⟨by omega, by omega, by omega, fun r i o => Lim o ∧ o.length = a.length ∧ 0 ≤ r ∧ r < D ∧ -1 ≤ i ∧ i < a.length ∧ vd a (i + 1).toNat = vd o (i + 1).toNat * D + r.toNat, fun r i o => (i + 1).toNat, ⟨Lim.zeros _, by simp, by omega, by omega, ?_⟩, ?_⟩
  · rw [w64 (by omega)]
    refine ⟨by omega, by omega, ?_⟩
    rw [vd_len a (by omega), vd_len _ (by simp)]; simp
  rintro r i o ⟨ho, hol, hr0, hrd, hi0, hi1, hv⟩
  refine ⟨fun h => ?_, fun h => ?_⟩
  · simp only [decide_eq_true_eq] at h
    obtain ⟨n, rfl⟩ : ∃ n : Nat, i = n := ⟨i.toNat, by omega⟩
    simp only [Int.toNat_natCast, lm_eq ha.1]
    rw [w64 (by omega)]
    obtain ⟨R, rfl⟩ : ∃ R : Nat, r = R := ⟨r.toNat, by omega⟩
    have hx := lm_lt ha.1 n
    have hxe : (a.getD n 0).toNat = lm a n := rfl
    obtain ⟨x, hx'⟩ : ∃ x, lm a n = x := ⟨_, rfl⟩
    rw [hx'] at hx hxe
    simp only [hx', word2' (h := R) (l := x) (by omega) hx]
    have e1 : Int.tdiv ((R * 4294967296 + x : Nat) : Int) (D : Int) = (((R * 4294967296 + x) / D : Nat) : Int) := by rw [Int.tdiv_eq_ediv_of_nonneg (Int.natCast_nonneg _), Int.natCast_ediv]
    have e2 : Int.tmod ((R * 4294967296 + x : Nat) : Int) (D : Int) = (((R * 4294967296 + x) % D : Nat) : Int) := by rw [Int.tmod_eq_emod_of_nonneg (Int.natCast_nonneg _), Int.natCast_emod]
    rw [show ((n : Int) + 1).toNat = n + 1 by omega] at hv
    have hst := short_step (z := vd o (n + 1)) 4294967296 rfl (show R < D by omega) hx (by simpa using hv)
    obtain ⟨hq, hm, he⟩ := hst
    have hva : vd a n = x + 4294967296 * vd a (n + 1) := by rw [vd_step a n, hxe]
    rw [← hva] at he
    simp only [e1, e2]
    generalize (R * 4294967296 + x) / D = q at hq he ⊢
    generalize (R * 4294967296 + x) % D = m at hm he ⊢
    have w1 : IntKind.wrap .u32 (IntKind.wrap .u64 (q : Int)) = (q : Int) := by rw [wu64 (by omega), wu32 (by omega)]
    simp only [w1]
    have hset : vd (o.set n (q : Int)) n = q + 4294967296 * vd o (n + 1) := by
      rw [vd_step _ n, vd_set _ _ _ _ (by omega), getD_set, if_pos ⟨rfl, by omega⟩, Int.toNat_natCast]
    rw [← hset] at he
    refine ⟨by omega, by omega, by omega, by omega, by omega, by omega, ⟨ho.set _ ⟨by omega, by omega⟩, by simpa using hol, by omega, by omega, by omega, by omega, ?_⟩, by show (((n : Int) - 1) + 1).toNat < ((n : Int) + 1).toNat; omega⟩
    rw [show ((n : Int) - 1 + 1).toNat = n by omega, Int.toNat_natCast]
    exact he
  · simp only [decide_eq_false_iff_not] at h
    obtain rfl : i = -1 := by omega
    simp only [show ((-1 : Int) + 1).toNat = 0 from rfl, vd_all] at hv
    refine ⟨⟨ho, by omega⟩, ?_⟩
    have h1 : val a / D = val o := by
      rw [hv, Nat.mul_comm, Nat.mul_add_div (by omega), Nat.div_eq_of_lt (by omega)]; omega
    have h2 : ((val a % D : Nat) : Int) = r := by
      rw [hv, Nat.mul_comm, Nat.mul_add_mod, Nat.mod_eq_of_lt (by omega)]; omega
    rw [h1, h2] at hk
    rw [wu32 (by omega)]; exact hk
theorem p_nrefCmp (a b : List Int) (K : TV → Prop) (h : crefCmp.T [.d (.ints .u32 a), .d (.ints .u32 b)] K) : vc_nrefCmp a b K := by
  obtain ⟨⟨ha, hb⟩, hk⟩ := h
  have hal := few_len ha
  have hbl := few_len hb
  have ha2 := ha.2
  have hb2 := hb.2
  unfold vc_nrefCmp
  refine ⟨ha, hb, fun h => ⟨fun h1 => ?_, fun h1 => ?_⟩, fun h => ?_⟩
  · simp only [decide_eq_true_eq] at h1
    rw [cmp_lt (len_lt (by omega))] at hk; exact hk
  · have h2 : ¬ ((Nat.cast : Nat → Int) (limbs (val a)).length = (Nat.cast : Nat → Int) (limbs (val b)).length) := by simpa using h
    simp only [decide_eq_false_iff_not] at h1
    rw [cmp_gt (len_lt (by omega))] at hk; exact hk
  · have h2 : (Nat.cast : Nat → Int) (limbs (val a)).length = (Nat.cast : Nat → Int) (limbs (val b)).length := by simpa using h
    have hA := limbs_lim (val a)
    have hB := limbs_lim (val b)
    have hva := val_limbs (val a)
    have hvb := val_limbs (val b)
    rw [← hva, ← hvb] at hk
    generalize limbs (val a) = A at *
    generalize limbs (val b) = B at *
    refine ⟨fun i => -1 ≤ i ∧ i < A.length ∧ vd A (i + 1).toNat = vd B (i + 1).toNat, fun i => (i + 1).toNat, ⟨by first | rfl | trivial, by first | rfl | trivial, ?_⟩, ?_⟩
    · rw [w64 (by omega)]
      refine ⟨by omega, by omega, ?_⟩
      rw [vd_len A (by omega), vd_len B (by omega)]
    rintro i ⟨h3, h4, h5⟩
    refine ⟨fun h6 => ?_, fun h6 => ?_⟩
    · simp only [decide_eq_true_eq] at h6
      obtain ⟨n, rfl⟩ : ∃ n : Nat, i = n := ⟨i.toNat, by omega⟩
      rw [show ((n : Int) + 1).toNat = n + 1 by omega] at h5
      simp only [Int.toNat_natCast]
      have hx := hA n
      have hy := hB n
      refine ⟨by omega, by omega, by omega, by omega, fun h7 => ?_, fun h7 => ⟨by omega, by omega, by omega, by omega, fun h8 => ?_, fun h8 => ?_⟩⟩
      · simp only [decide_eq_true_eq] at h7
        rw [cmp_lt (vd_less n hA h5 (by omega))] at hk; exact hk
      · simp only [decide_eq_true_eq] at h8
        rw [cmp_gt (vd_less n hB h5.symm (by omega))] at hk; exact hk
      · simp only [decide_eq_false_iff_not] at h7 h8
        rw [w64 (by omega)]
        refine ⟨by first | rfl | trivial, by first | rfl | trivial, ⟨by omega, by omega, ?_⟩, by show (((n : Int) - 1) + 1).toNat < ((n : Int) + 1).toNat; omega⟩
        rw [show ((n : Int) - 1 + 1).toNat = n by omega, vd_step A n, vd_step B n, h5, show A.getD n 0 = B.getD n 0 by omega]
    · simp only [decide_eq_false_iff_not] at h6
      obtain rfl : i = -1 := by omega
      simp only [show ((-1 : Int) + 1).toNat = 0 from rfl, vd_all] at h5
      rw [h5, cmp_eq] at hk; exact hk

end Nt
end

section
/- NtU: proofs of verification conditions: the specification's DivMod by one limb, NaturalCommon. -/
open Go Go.Vc
namespace Nt

theorem p_nrefDivMod (a b : List Int) (K : TV → Prop) (h : crefDivMod1.T [.d (.ints .u32 a), .d (.ints .u32 b)] K) : vc_nrefDivMod a b K := by
  obtain ⟨⟨ha, hb, hs⟩, hk⟩ := h
  have hal := few_len ha
  have hbl := few_len hb
  have ha2 := ha.2
  have hb2 := hb.2
  unfold vc_nrefDivMod
  refine ⟨ha, ?_⟩
  rintro x rfl
  refine ⟨hb, ?_⟩
  rintro y rfl
  simp only [val_limbs]
  have fa : Few (limbs (val a)) := ⟨limbs_lim _, by omega⟩
  have fb : Few (limbs (val b)) := ⟨limbs_lim _, by omega⟩
  refine ⟨fun h => ?_, fun h => ⟨⟨fa, fb⟩, ?_⟩⟩
  · simp only [decide_eq_true_eq] at h
    have h0 : val b = 0 := limbs0 (by omega)
    simp only [h0, if_true] at hk; exact hk
  rintro c rfl
  simp only [decide_eq_false_iff_not] at h
  have h0 : val b ≠ 0 := fun e => h (by rw [e, limbs_zero]; rfl)
  simp only [if_neg h0] at hk
  have hb1 : (limbs (val b)).length ≤ 1 := limbs_len.2 (by simpa using hs)
  refine ⟨fun h1 => ?_, fun h1 => ⟨fun h2 => ?_, fun h2 => ?_⟩⟩
  · simp only [decide_eq_true_eq] at h1
    have hlt : val a < val b := by
      unfold cmp at h1
      split at h1
      · assumption
      · split at h1 <;> omega
    rw [Nat.div_eq_of_lt hlt, Nat.mod_eq_of_lt hlt, limbs_zero] at hk; exact hk
  · have hB : ((limbs (val b)).getD 0 0).toNat = val b := by
      have := vt_all (limbs (val b)) hb1
      rw [vt_succ, vt_zero, val_limbs] at this
      simpa using this
    have hB' := limbs_lim (val b) 0
    rw [hB]
    have hm : val a % val b < val b := Nat.mod_lt _ (by omega)
    simp only [decide_eq_true_eq] at h2
    refine ⟨by omega, by omega, ⟨fa, hB', by omega⟩, ?_⟩
    rintro q rfl r rfl
    refine ⟨few1 (by omega), ?_⟩
    rintro t rfl
    have hv : val [((val a % val b : Nat) : Int)] = val a % val b := by simp only [val, Nat.mul_zero, Nat.add_zero, Int.toNat_natCast]
    rw [hv]; exact hk
  · simp only [decide_eq_false_iff_not] at h2
    omega

theorem gcd_mod {A B d : Nat} : Nat.gcd A B % d = 0 ↔ A % d = 0 ∧ B % d = 0 := by
  rw [← Nat.dvd_iff_mod_eq_zero, ← Nat.dvd_iff_mod_eq_zero, ← Nat.dvd_iff_mod_eq_zero]
  exact Nat.dvd_gcd_iff
theorem len0_iff {n : Nat} : ((Nat.cast : Nat → Int) (limbs n).length = 0) ↔ n = 0 := by
  refine ⟨fun h => limbs0 (by omega), fun h => ?_⟩
  subst h; rw [limbs_zero]; rfl

theorem p_nlawNaturalCommon (a b c : List Int) (K : TV → Prop) (h : cNaturalCommon.T [.d (.ints .u32 a), .d (.ints .u32 b), .d (.ints .u32 c)] K) : vc_nlawNaturalCommon a b c K := by
  obtain ⟨⟨ha, hb, hc⟩, hk⟩ := h
  have hy := yes hk
  unfold vc_nlawNaturalCommon
  refine ⟨fun _ => ⟨trivial, hy⟩, fun h1 => ⟨fun _ => ⟨trivial, hy⟩, fun h2 => ⟨fun _ => ⟨trivial, hy⟩, fun h3 => ?_⟩⟩⟩
  simp only [decide_eq_false_iff_not] at h1 h2 h3
  have fa : Few a := ⟨ha, by omega⟩
  have fb : Few b := ⟨hb, by omega⟩
  have fc : Few c := ⟨hc, by omega⟩
  have sa : Sz (val a) 8 := .of ha (by omega)
  have sb : Sz (val b) 8 := .of hb (by omega)
  have sc : Sz (val c) 8 := .of hc (by omega)
  have hgle : Nat.gcd (val a) (val b) ≤ val a + val b := by
    rcases Nat.eq_zero_or_pos (val a) with h0 | h0
    · rw [h0, Nat.gcd_zero_left]; omega
    · have := Nat.gcd_le_left (val b) h0
      omega
  have sg : Sz (Nat.gcd (val a) (val b)) 17 := (sa.add sb).le hgle
  refine ⟨⟨fa, fb⟩, ?_⟩
  rintro g rfl
  refine ⟨⟨fa, fc⟩, ?_⟩
  rintro ac rfl
  refine ⟨⟨fb, fc⟩, ?_⟩
  rintro bc rfl
  simp only [val_limbs, Nat.gcd_mul_right]
  have fg : Few (limbs (Nat.gcd (val a) (val b))) := sg.few (by decide)
  refine ⟨⟨(sa.mul sc).few (by decide), (sb.mul sc).few (by decide)⟩, ?_⟩
  rintro g2 rfl
  refine ⟨⟨fg, fc⟩, ?_⟩
  rintro g3 rfl
  refine ⟨⟨(sg.mul sc).len (by decide), (sg.mul sc).len (by decide)⟩, ?_⟩
  rintro e rfl
  have hgm := @gcd_mod (val a) (val b)
  have hga := Nat.mod_eq_zero_of_dvd (Nat.gcd_dvd_left (val a) (val b))
  have hgb := Nat.mod_eq_zero_of_dvd (Nat.gcd_dvd_right (val a) (val b))
  have hg0 := @Nat.gcd_eq_zero_iff (val a) (val b)
  generalize Nat.gcd (val a) (val b) = G at *
  refine ⟨fun h => ?_, fun _ => ⟨fun h => ⟨fa, ?_⟩, fun h => ⟨⟨fa, fg⟩, ?_⟩⟩⟩
  · simp at h
  · simp only [decide_eq_true_eq, len0_iff] at h
    obtain ⟨za, zb⟩ := hg0.1 h
    rintro x rfl
    rw [za, limbs_zero]
    refine ⟨fun _ => ⟨fb, ?_⟩, fun h => ?_⟩
    rotate_left
    · simp at h
    rintro y rfl
    rw [zb, limbs_zero]
    refine ⟨fun _ => ⟨trivial, hy⟩, fun h => ?_⟩
    simp at h
  · simp only [decide_eq_false_iff_not, len0_iff] at h
    simp only [if_neg h, hga, hgb, limbs_zero]
    rintro q1 rfl r1 rfl e1 rfl
    refine ⟨⟨fb, fg⟩, ?_⟩
    rintro q2 rfl r2 rfl e2 rfl
    refine ⟨fun h => ?_, fun _ => ⟨fun h => ?_, fun _ => ⟨fun h => ?_, fun _ => ⟨fun h => ?_, fun _ => ?_⟩⟩⟩⟩
    · simp at h
    · simp at h
    · simp at h
    · simp at h
    refine ⟨fun d => ∃ k : Nat, d = k ∧ 2 ≤ k ∧ k ≤ 40, fun d => 40 - d.toNat, ⟨2, rfl, by omega, by omega⟩, ?_⟩
    rintro d ⟨k, rfl, hk2, hk40⟩
    refine ⟨fun hd => ?_, fun _ => ⟨trivial, hy⟩⟩
    simp only [decide_eq_true_eq] at hd
    have hvd : val [(k : Int)] = k := by simp [val]
    have fk : Few [(k : Int)] := few1 (by omega)
    have k0 : ¬ k = 0 := by omega
    have step : IntKind.wrap .u32 ((k : Int) + 1) = ((k + 1 : Nat) : Int) := by rw [wu32 (by omega)]; omega
    have go : (∃ j : Nat, ((k + 1 : Nat) : Int) = j ∧ 2 ≤ j ∧ j ≤ 40) ∧ 40 - ((k + 1 : Nat) : Int).toNat < 40 - (k : Int).toNat := ⟨⟨k + 1, rfl, by omega, by omega⟩, by omega⟩
    simp only [hvd, if_neg k0, step]
    refine ⟨⟨fa, fk, by omega⟩, ?_⟩
    rintro q1 rfl r1 rfl e1 rfl
    refine ⟨⟨fb, fk, by omega⟩, ?_⟩
    rintro q2 rfl r2 rfl e2 rfl
    refine ⟨⟨fg, fk, by omega⟩, ?_⟩
    rintro q3 rfl r3 rfl e3 rfl
    simp only [len0_iff]
    have hm := @hgm k
    refine ⟨fun h1 => ⟨fun h2 => ?_, fun _ => go⟩, fun h1 => ⟨fun h2 => ?_, fun _ => go⟩⟩
    · exfalso
      simp only [decide_eq_true_eq] at h1
      by_cases hb0 : val b % k = 0
      · have : G % k = 0 := hm.2 ⟨h1, hb0⟩
        simp [hb0, this] at h2
      · have : ¬ G % k = 0 := fun hx => hb0 (hm.1 hx).2
        simp [hb0, this] at h2
    · exfalso
      simp only [decide_eq_false_iff_not] at h1
      have : ¬ G % k = 0 := fun hx => h1 (hm.1 hx).1
      simp [this] at h2
end Nt
end
