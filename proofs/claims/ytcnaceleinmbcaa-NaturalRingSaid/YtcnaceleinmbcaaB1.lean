/- Helpers for the statements: facts about numbers as lists of limbs, and the proofs of the conditions. Condition: none. -/
import Derived.Test.YtcnaceleinmbcaaA1
import Derived.Test.YtcnaceleinmbcaaB0
section
/- Verification conditions, printed. -/
open Go Go.Vc
namespace Nt
def vc_nslReverse : List Int → (OB → TV → Prop) → Prop :=
  fun (l : List Int) (K : OB → TV → Prop) =>
  ∃ (I : Int → Int → List Int → Prop),
    ∃ (m : Int → Int → List Int → Nat),
      I (0 : Int) (IntKind.wrap IntKind.i64 ((Nat.cast : Nat → Int) (List.length l) - (1 : Int))) l ∧
        ∀ (v2 v3 : Int) (o0 : List Int),
          I v2 v3 o0 →
            (decide (v2 < v3) = true →
                (0 : Int) ≤ v3 ∧
                  v3 < (Nat.cast : Nat → Int) (List.length o0) ∧
                    (0 : Int) ≤ v2 ∧
                      v2 < (Nat.cast : Nat → Int) (List.length o0) ∧
                        (0 : Int) ≤ v2 ∧
                          v2 < (Nat.cast : Nat → Int) (List.length o0) ∧
                            (0 : Int) ≤ v3 ∧
                              v3 <
                                  (Nat.cast : Nat → Int)
                                    (List.length (List.set o0 (Int.toNat v2) (List.getD o0 (Int.toNat v3) (0 : Int)))) ∧
                                I (IntKind.wrap IntKind.i64 (v2 + (1 : Int)))
                                    (IntKind.wrap IntKind.i64 (v3 - (1 : Int)))
                                    (List.set (List.set o0 (Int.toNat v2) (List.getD o0 (Int.toNat v3) (0 : Int)))
                                      (Int.toNat v3) (List.getD o0 (Int.toNat v2) (0 : Int))) ∧
                                  m (IntKind.wrap IntKind.i64 (v2 + (1 : Int)))
                                      (IntKind.wrap IntKind.i64 (v3 - (1 : Int)))
                                      (List.set (List.set o0 (Int.toNat v2) (List.getD o0 (Int.toNat v3) (0 : Int)))
                                        (Int.toNat v3) (List.getD o0 (Int.toNat v2) (0 : Int))) <
                                    m v2 v3 o0) ∧
              (decide (v2 < v3) = false → K (OB.ints IntKind.u8 o0) (TV.tup []))

def vc_nFormat : List Int → (TV → Prop) → Prop :=
  fun (a : List Int) (K : TV → Prop) =>
  (Nt.Lim a ∧ List.length a ≤ (1000000000 : Nat)) ∧
    ∃ (I : List Int → List Int → Prop),
      ∃ (m : List Int → List Int → Nat),
        I (Nt.limbs (Nt.val a)) [] ∧
          ∀ (v0 o0 : List Int),
            I v0 o0 →
              (decide ((0 : Int) < (Nat.cast : Nat → Int) (List.length v0)) = true →
                  (Nt.Few v0 ∧ Nt.L (1000000000 : Int) ∧ (0 : Int) < (1000000000 : Int)) ∧
                    ∃ (I_1 : Int → Int → List Int → Prop),
                      ∃ (m_1 : Int → Int → List Int → Nat),
                        I_1 ((Nat.cast : Nat → Int) (Nt.val v0 % (1000000000 : Nat))) (0 : Int) o0 ∧
                          ∀ (v4 v15 : Int) (o0_1 : List Int),
                            I_1 v4 v15 o0_1 →
                              (decide (v15 < (9 : Int)) = true →
                                  (decide
                                          ((Nat.cast : Nat → Int) (List.length (Nt.limbs (Nt.val v0 / (1000000000 : Nat)))) =
                                            (0 : Int)) =
                                        true →
                                      (decide (v4 = (0 : Int)) = true →
                                          I (Nt.limbs (Nt.val v0 / (1000000000 : Nat))) o0_1 ∧
                                            m (Nt.limbs (Nt.val v0 / (1000000000 : Nat))) o0_1 < m v0 o0) ∧
                                        (decide (v4 = (0 : Int)) = false →
                                          ((Nat.cast : Nat → Int) (List.length o0_1) +
                                                  (Nat.cast : Nat → Int)
                                                    (List.length
                                                      [IntKind.wrap IntKind.u8
                                                          (IntKind.wrap IntKind.u32
                                                            ((48 : Int) + Int.tmod v4 (10 : Int)))])) *
                                                (1 : Int) ≤
                                              (70368744177664 : Int) ∧
                                            I_1 (IntKind.wrap IntKind.u32 (Int.tdiv v4 (10 : Int)))
                                                (IntKind.wrap IntKind.i64 (v15 + (1 : Int)))
                                                (instHAppendOfAppend.1 o0_1
                                                  [IntKind.wrap IntKind.u8
                                                      (IntKind.wrap IntKind.u32
                                                        ((48 : Int) + Int.tmod v4 (10 : Int)))]) ∧
                                              m_1 (IntKind.wrap IntKind.u32 (Int.tdiv v4 (10 : Int)))
                                                  (IntKind.wrap IntKind.i64 (v15 + (1 : Int)))
                                                  (instHAppendOfAppend.1 o0_1
                                                    [IntKind.wrap IntKind.u8
                                                        (IntKind.wrap IntKind.u32
                                                          ((48 : Int) + Int.tmod v4 (10 : Int)))]) <
                                                m_1 v4 v15 o0_1)) ∧
                                    (decide
                                          ((Nat.cast : Nat → Int) (List.length (Nt.limbs (Nt.val v0 / (1000000000 : Nat)))) =
                                            (0 : Int)) =
                                        false →
                                      ((Nat.cast : Nat → Int) (List.length o0_1) +
                                              (Nat.cast : Nat → Int)
                                                (List.length
                                                  [IntKind.wrap IntKind.u8
                                                      (IntKind.wrap IntKind.u32
                                                        ((48 : Int) + Int.tmod v4 (10 : Int)))])) *
                                            (1 : Int) ≤
                                          (70368744177664 : Int) ∧
                                        I_1 (IntKind.wrap IntKind.u32 (Int.tdiv v4 (10 : Int)))
                                            (IntKind.wrap IntKind.i64 (v15 + (1 : Int)))
                                            (instHAppendOfAppend.1 o0_1
                                              [IntKind.wrap IntKind.u8
                                                  (IntKind.wrap IntKind.u32 ((48 : Int) + Int.tmod v4 (10 : Int)))]) ∧
                                          m_1 (IntKind.wrap IntKind.u32 (Int.tdiv v4 (10 : Int)))
                                              (IntKind.wrap IntKind.i64 (v15 + (1 : Int)))
                                              (instHAppendOfAppend.1 o0_1
                                                [IntKind.wrap IntKind.u8
                                                    (IntKind.wrap IntKind.u32 ((48 : Int) + Int.tmod v4 (10 : Int)))]) <
                                            m_1 v4 v15 o0_1)) ∧
                                (decide (v15 < (9 : Int)) = false →
                                  I (Nt.limbs (Nt.val v0 / (1000000000 : Nat))) o0_1 ∧
                                    m (Nt.limbs (Nt.val v0 / (1000000000 : Nat))) o0_1 < m v0 o0)) ∧
                (decide ((0 : Int) < (Nat.cast : Nat → Int) (List.length v0)) = false →
                  (decide ((Nat.cast : Nat → Int) (List.length o0) = (0 : Int)) = true → K (TV.d (AV.str [(48 : Int)]))) ∧
                    (decide ((Nat.cast : Nat → Int) (List.length o0) = (0 : Int)) = false →
                      (0 : Nat) < List.length o0 ∧
                        List.length o0 ≤ (1000000000000 : Nat) ∧
                          (∀ (x : Int), x ∈ List.reverse o0 → (0 : Int) ≤ x ∧ x < (256 : Int)) ∧
                            K (TV.d (AV.str (List.reverse o0)))))

def vc_nDivMod : List Int → List Int → (TV → Prop) → Prop :=
  fun (a b : List Int) (K : TV → Prop) =>
  (Nt.Lim a ∧ List.length a ≤ (1000000000 : Nat)) ∧
    (Nt.Lim b ∧ List.length b ≤ (1000000000 : Nat)) ∧
      (decide ((Nat.cast : Nat → Int) (List.length (Nt.limbs (Nt.val b))) = (0 : Int)) = true →
          K
            (TV.tup
              [TV.d (AV.ints IntKind.u32 []), TV.d (AV.ints IntKind.u32 []), TV.d (AV.int IntKind.i64 (3 : Int))])) ∧
        (decide ((Nat.cast : Nat → Int) (List.length (Nt.limbs (Nt.val b))) = (0 : Int)) = false →
          (Nt.Few (Nt.limbs (Nt.val a)) ∧ Nt.Few (Nt.limbs (Nt.val b))) ∧
            (decide (Nt.cmp (Nt.val (Nt.limbs (Nt.val a))) (Nt.val (Nt.limbs (Nt.val b))) < (0 : Int)) = true →
                List.length (Nt.limbs (Nt.val a)) ≤ (100000000 : Nat) ∧
                  K
                    (TV.tup
                      [TV.d (AV.ints IntKind.u32 []), TV.d (AV.ints IntKind.u32 (Nt.limbs (Nt.val a))),
                        TV.d (AV.int IntKind.i64 (0 : Int))])) ∧
              (decide (Nt.cmp (Nt.val (Nt.limbs (Nt.val a))) (Nt.val (Nt.limbs (Nt.val b))) < (0 : Int)) = false →
                (decide ((Nat.cast : Nat → Int) (List.length (Nt.limbs (Nt.val b))) = (1 : Int)) = true →
                    (0 : Int) ≤ (0 : Int) ∧
                      (0 : Int) < (Nat.cast : Nat → Int) (List.length (Nt.limbs (Nt.val b))) ∧
                        (Nt.Few (Nt.limbs (Nt.val a)) ∧
                            Nt.L (List.getD (Nt.limbs (Nt.val b)) (0 : Nat) (0 : Int)) ∧
                              (0 : Int) < List.getD (Nt.limbs (Nt.val b)) (0 : Nat) (0 : Int)) ∧
                          ((0 : Int) ≤
                                IntKind.wrap IntKind.u64
                                  ((Nat.cast : Nat → Int)
                                    (Nt.val (Nt.limbs (Nt.val a)) %
                                      Int.toNat (List.getD (Nt.limbs (Nt.val b)) (0 : Nat) (0 : Int)))) ∧
                              IntKind.wrap IntKind.u64
                                  ((Nat.cast : Nat → Int)
                                    (Nt.val (Nt.limbs (Nt.val a)) %
                                      Int.toNat (List.getD (Nt.limbs (Nt.val b)) (0 : Nat) (0 : Int)))) <
                                (18446744073709551616 : Int)) ∧
                            K
                              (TV.tup
                                [TV.d
                                    (AV.ints IntKind.u32
                                      (Nt.limbs
                                        (Nt.val (Nt.limbs (Nt.val a)) /
                                          Int.toNat (List.getD (Nt.limbs (Nt.val b)) (0 : Nat) (0 : Int))))),
                                  TV.d
                                    (AV.ints IntKind.u32
                                      (Nt.limbs
                                        (Int.toNat
                                          (IntKind.wrap IntKind.u64
                                            ((Nat.cast : Nat → Int)
                                              (Nt.val (Nt.limbs (Nt.val a)) %
                                                Int.toNat (List.getD (Nt.limbs (Nt.val b)) (0 : Nat) (0 : Int)))))))),
                                  TV.d (AV.int IntKind.i64 (0 : Int))])) ∧
                  (decide ((Nat.cast : Nat → Int) (List.length (Nt.limbs (Nt.val b))) = (1 : Int)) = false → False)))

def vc_nlawawake : (TV → Prop) → Prop :=
  fun (K : TV → Prop) =>
  (Nt.Few [(17 : Int)] ∧ Nt.Few [(5 : Int)] ∧ (5 : Nat) < (4294967296 : Nat)) ∧
    Nt.Few [(0 : Int), (1 : Int)] ∧
      (decide
              (Nt.dec (4294967296 : Nat) =
                [(52 : Int), (50 : Int), (57 : Int), (52 : Int), (57 : Int), (54 : Int), (55 : Int), (50 : Int),
                  (57 : Int), (54 : Int)]) =
            true →
          (decide ((0 : Int) = (0 : Int)) = true →
              Nt.Few (if (5 : Nat) = (0 : Nat) then [] else Nt.limbs (3 : Nat)) ∧
                (decide (Nt.dec (3 : Nat) = [(51 : Int)]) = true →
                    Nt.Few (if (5 : Nat) = (0 : Nat) then [] else Nt.limbs (2 : Nat)) ∧
                      K (TV.d (AV.bool (decide (Nt.dec (2 : Nat) = [(50 : Int)]))))) ∧
                  (decide (Nt.dec (3 : Nat) = [(51 : Int)]) = false → K (TV.d (AV.bool false)))) ∧
            (decide ((0 : Int) = (0 : Int)) = false → K (TV.d (AV.bool false)))) ∧
        (decide
              (Nt.dec (4294967296 : Nat) =
                [(52 : Int), (50 : Int), (57 : Int), (52 : Int), (57 : Int), (54 : Int), (55 : Int), (50 : Int),
                  (57 : Int), (54 : Int)]) =
            false →
          K (TV.d (AV.bool false)))

def vc_nlawNaturalPowers : List Int → Int → Int → (TV → Prop) → Prop :=
  fun (a : List Int) (m n : Int) (K : TV → Prop) =>
  (decide ((4 : Int) < (Nat.cast : Nat → Int) (List.length a)) = true → True ∧ K (TV.d (AV.bool true))) ∧
    (decide ((4 : Int) < (Nat.cast : Nat → Int) (List.length a)) = false →
      (Nt.Lim a ∧ List.length a ≤ (1000000 : Nat)) ∧
        (Nt.Lim a ∧ List.length a ≤ (1000000 : Nat)) ∧
          (Nt.Lim a ∧ List.length a ≤ (1000000 : Nat)) ∧
            (Nt.Lim a ∧ List.length a ≤ (1000000 : Nat)) ∧
              (Nt.Lim a ∧ List.length a ≤ (1000000 : Nat)) ∧
                (decide
                        ((if
                              (0 : Int) ≤ IntKind.wrap IntKind.i64 (Int.tmod m (12 : Int)) ∧
                                IntKind.wrap IntKind.i64 (Int.tmod m (12 : Int)) ≤ (64 : Int) then
                            (0 : Int)
                          else (1 : Int)) =
                          (0 : Int)) =
                      true →
                    (decide
                            ((if
                                  (0 : Int) ≤ IntKind.wrap IntKind.i64 (Int.tmod n (12 : Int)) ∧
                                    IntKind.wrap IntKind.i64 (Int.tmod n (12 : Int)) ≤ (64 : Int) then
                                (0 : Int)
                              else (1 : Int)) =
                              (0 : Int)) =
                          true →
                        (decide
                                ((if
                                      (0 : Int) ≤
                                          IntKind.wrap IntKind.i64
                                            (IntKind.wrap IntKind.i64 (Int.tmod m (12 : Int)) +
                                              IntKind.wrap IntKind.i64 (Int.tmod n (12 : Int))) ∧
                                        IntKind.wrap IntKind.i64
                                            (IntKind.wrap IntKind.i64 (Int.tmod m (12 : Int)) +
                                              IntKind.wrap IntKind.i64 (Int.tmod n (12 : Int))) ≤
                                          (64 : Int) then
                                    (0 : Int)
                                  else (1 : Int)) =
                                  (0 : Int)) =
                              true →
                            (decide
                                    ((if
                                          (0 : Int) ≤
                                              IntKind.wrap IntKind.i64
                                                ((65 : Int) + IntKind.wrap IntKind.i64 (Int.tmod m (12 : Int))) ∧
                                            IntKind.wrap IntKind.i64
                                                ((65 : Int) + IntKind.wrap IntKind.i64 (Int.tmod m (12 : Int))) ≤
                                              (64 : Int) then
                                        (0 : Int)
                                      else (1 : Int)) =
                                      (1 : Int)) =
                                  true →
                                (decide
                                        ((if
                                              (0 : Int) ≤
                                                  IntKind.wrap IntKind.i64
                                                    ((-1 : Int) - IntKind.wrap IntKind.i64 (Int.tmod n (12 : Int))) ∧
                                                IntKind.wrap IntKind.i64
                                                    ((-1 : Int) - IntKind.wrap IntKind.i64 (Int.tmod n (12 : Int))) ≤
                                                  (64 : Int) then
                                            (0 : Int)
                                          else (1 : Int)) =
                                          (1 : Int)) =
                                      true →
                                    (Nt.Few
                                          (if
                                              (0 : Int) ≤ IntKind.wrap IntKind.i64 (Int.tmod m (12 : Int)) ∧
                                                IntKind.wrap IntKind.i64 (Int.tmod m (12 : Int)) ≤ (64 : Int) then
                                            Nt.limbs
                                              (Nt.val a ^ Int.toNat (IntKind.wrap IntKind.i64 (Int.tmod m (12 : Int))))
                                          else []) ∧
                                        Nt.Few
                                          (if
                                              (0 : Int) ≤ IntKind.wrap IntKind.i64 (Int.tmod n (12 : Int)) ∧
                                                IntKind.wrap IntKind.i64 (Int.tmod n (12 : Int)) ≤ (64 : Int) then
                                            Nt.limbs
                                              (Nt.val a ^ Int.toNat (IntKind.wrap IntKind.i64 (Int.tmod n (12 : Int))))
                                          else [])) ∧
                                      (List.length
                                              (if
                                                  (0 : Int) ≤
                                                      IntKind.wrap IntKind.i64
                                                        (IntKind.wrap IntKind.i64 (Int.tmod m (12 : Int)) +
                                                          IntKind.wrap IntKind.i64 (Int.tmod n (12 : Int))) ∧
                                                    IntKind.wrap IntKind.i64
                                                        (IntKind.wrap IntKind.i64 (Int.tmod m (12 : Int)) +
                                                          IntKind.wrap IntKind.i64 (Int.tmod n (12 : Int))) ≤
                                                      (64 : Int) then
                                                Nt.limbs
                                                  (Nt.val a ^
                                                    Int.toNat
                                                      (IntKind.wrap IntKind.i64
                                                        (IntKind.wrap IntKind.i64 (Int.tmod m (12 : Int)) +
                                                          IntKind.wrap IntKind.i64 (Int.tmod n (12 : Int)))))
                                              else []) ≤
                                            (1000000000 : Nat) ∧
                                          List.length
                                              (Nt.limbs
                                                (Nt.val
                                                    (if
                                                        (0 : Int) ≤ IntKind.wrap IntKind.i64 (Int.tmod m (12 : Int)) ∧
                                                          IntKind.wrap IntKind.i64 (Int.tmod m (12 : Int)) ≤
                                                            (64 : Int) then
                                                      Nt.limbs
                                                        (Nt.val a ^
                                                          Int.toNat (IntKind.wrap IntKind.i64 (Int.tmod m (12 : Int))))
                                                    else []) *
                                                  Nt.val
                                                    (if
                                                        (0 : Int) ≤ IntKind.wrap IntKind.i64 (Int.tmod n (12 : Int)) ∧
                                                          IntKind.wrap IntKind.i64 (Int.tmod n (12 : Int)) ≤
                                                            (64 : Int) then
                                                      Nt.limbs
                                                        (Nt.val a ^
                                                          Int.toNat (IntKind.wrap IntKind.i64 (Int.tmod n (12 : Int))))
                                                    else []))) ≤
                                            (1000000000 : Nat)) ∧
                                        (decide
                                                ((if
                                                      (0 : Int) ≤
                                                          IntKind.wrap IntKind.i64
                                                            (IntKind.wrap IntKind.i64 (Int.tmod m (12 : Int)) +
                                                              IntKind.wrap IntKind.i64 (Int.tmod n (12 : Int))) ∧
                                                        IntKind.wrap IntKind.i64
                                                            (IntKind.wrap IntKind.i64 (Int.tmod m (12 : Int)) +
                                                              IntKind.wrap IntKind.i64 (Int.tmod n (12 : Int))) ≤
                                                          (64 : Int) then
                                                    Nt.limbs
                                                      (Nt.val a ^
                                                        Int.toNat
                                                          (IntKind.wrap IntKind.i64
                                                            (IntKind.wrap IntKind.i64 (Int.tmod m (12 : Int)) +
                                                              IntKind.wrap IntKind.i64 (Int.tmod n (12 : Int)))))
                                                  else []) =
                                                  Nt.limbs
                                                    (Nt.val
                                                        (if
                                                            (0 : Int) ≤
                                                                IntKind.wrap IntKind.i64 (Int.tmod m (12 : Int)) ∧
                                                              IntKind.wrap IntKind.i64 (Int.tmod m (12 : Int)) ≤
                                                                (64 : Int) then
                                                          Nt.limbs
                                                            (Nt.val a ^
                                                              Int.toNat
                                                                (IntKind.wrap IntKind.i64 (Int.tmod m (12 : Int))))
                                                        else []) *
                                                      Nt.val
                                                        (if
                                                            (0 : Int) ≤
                                                                IntKind.wrap IntKind.i64 (Int.tmod n (12 : Int)) ∧
                                                              IntKind.wrap IntKind.i64 (Int.tmod n (12 : Int)) ≤
                                                                (64 : Int) then
                                                          Nt.limbs
                                                            (Nt.val a ^
                                                              Int.toNat
                                                                (IntKind.wrap IntKind.i64 (Int.tmod n (12 : Int))))
                                                        else []))) =
                                              true →
                                            True ∧ K (TV.d (AV.bool true))) ∧
                                          (decide
                                                ((if
                                                      (0 : Int) ≤
                                                          IntKind.wrap IntKind.i64
                                                            (IntKind.wrap IntKind.i64 (Int.tmod m (12 : Int)) +
                                                              IntKind.wrap IntKind.i64 (Int.tmod n (12 : Int))) ∧
                                                        IntKind.wrap IntKind.i64
                                                            (IntKind.wrap IntKind.i64 (Int.tmod m (12 : Int)) +
                                                              IntKind.wrap IntKind.i64 (Int.tmod n (12 : Int))) ≤
                                                          (64 : Int) then
                                                    Nt.limbs
                                                      (Nt.val a ^
                                                        Int.toNat
                                                          (IntKind.wrap IntKind.i64
                                                            (IntKind.wrap IntKind.i64 (Int.tmod m (12 : Int)) +
                                                              IntKind.wrap IntKind.i64 (Int.tmod n (12 : Int)))))
                                                  else []) =
                                                  Nt.limbs
                                                    (Nt.val
                                                        (if
                                                            (0 : Int) ≤
                                                                IntKind.wrap IntKind.i64 (Int.tmod m (12 : Int)) ∧
                                                              IntKind.wrap IntKind.i64 (Int.tmod m (12 : Int)) ≤
                                                                (64 : Int) then
                                                          Nt.limbs
                                                            (Nt.val a ^
                                                              Int.toNat
                                                                (IntKind.wrap IntKind.i64 (Int.tmod m (12 : Int))))
                                                        else []) *
                                                      Nt.val
                                                        (if
                                                            (0 : Int) ≤
                                                                IntKind.wrap IntKind.i64 (Int.tmod n (12 : Int)) ∧
                                                              IntKind.wrap IntKind.i64 (Int.tmod n (12 : Int)) ≤
                                                                (64 : Int) then
                                                          Nt.limbs
                                                            (Nt.val a ^
                                                              Int.toNat
                                                                (IntKind.wrap IntKind.i64 (Int.tmod n (12 : Int))))
                                                        else []))) =
                                              false →
                                            K (TV.d (AV.bool false)))) ∧
                                  (decide
                                        ((if
                                              (0 : Int) ≤
                                                  IntKind.wrap IntKind.i64
                                                    ((-1 : Int) - IntKind.wrap IntKind.i64 (Int.tmod n (12 : Int))) ∧
                                                IntKind.wrap IntKind.i64
                                                    ((-1 : Int) - IntKind.wrap IntKind.i64 (Int.tmod n (12 : Int))) ≤
                                                  (64 : Int) then
                                            (0 : Int)
                                          else (1 : Int)) =
                                          (1 : Int)) =
                                      false →
                                    K (TV.d (AV.bool false)))) ∧
                              (decide
                                    ((if
                                          (0 : Int) ≤
                                              IntKind.wrap IntKind.i64
                                                ((65 : Int) + IntKind.wrap IntKind.i64 (Int.tmod m (12 : Int))) ∧
                                            IntKind.wrap IntKind.i64
                                                ((65 : Int) + IntKind.wrap IntKind.i64 (Int.tmod m (12 : Int))) ≤
                                              (64 : Int) then
                                        (0 : Int)
                                      else (1 : Int)) =
                                      (1 : Int)) =
                                  false →
                                K (TV.d (AV.bool false)))) ∧
                          (decide
                                ((if
                                      (0 : Int) ≤
                                          IntKind.wrap IntKind.i64
                                            (IntKind.wrap IntKind.i64 (Int.tmod m (12 : Int)) +
                                              IntKind.wrap IntKind.i64 (Int.tmod n (12 : Int))) ∧
                                        IntKind.wrap IntKind.i64
                                            (IntKind.wrap IntKind.i64 (Int.tmod m (12 : Int)) +
                                              IntKind.wrap IntKind.i64 (Int.tmod n (12 : Int))) ≤
                                          (64 : Int) then
                                    (0 : Int)
                                  else (1 : Int)) =
                                  (0 : Int)) =
                              false →
                            K (TV.d (AV.bool false)))) ∧
                      (decide
                            ((if
                                  (0 : Int) ≤ IntKind.wrap IntKind.i64 (Int.tmod n (12 : Int)) ∧
                                    IntKind.wrap IntKind.i64 (Int.tmod n (12 : Int)) ≤ (64 : Int) then
                                (0 : Int)
                              else (1 : Int)) =
                              (0 : Int)) =
                          false →
                        K (TV.d (AV.bool false)))) ∧
                  (decide
                        ((if
                              (0 : Int) ≤ IntKind.wrap IntKind.i64 (Int.tmod m (12 : Int)) ∧
                                IntKind.wrap IntKind.i64 (Int.tmod m (12 : Int)) ≤ (64 : Int) then
                            (0 : Int)
                          else (1 : Int)) =
                          (0 : Int)) =
                      false →
                    K (TV.d (AV.bool false))))

def vc_nFromInt : Int → (TV → Prop) → Prop :=
  fun (n : Int) (K : TV → Prop) =>
  (decide (n < (0 : Int)) = true → K (TV.tup [TV.d (AV.ints IntKind.u32 []), TV.d (AV.int IntKind.i64 (1 : Int))])) ∧
    (decide (n < (0 : Int)) = false →
      ((0 : Int) ≤ IntKind.wrap IntKind.u64 n ∧ IntKind.wrap IntKind.u64 n < (18446744073709551616 : Int)) ∧
        K
          (TV.tup
            [TV.d (AV.ints IntKind.u32 (Nt.limbs (Int.toNat (IntKind.wrap IntKind.u64 n)))),
              TV.d (AV.int IntKind.i64 (0 : Int))]))

def vc_nInt : List Int → (TV → Prop) → Prop :=
  fun (a : List Int) (K : TV → Prop) =>
  (Nt.Lim a ∧ List.length a ≤ (1000000000 : Nat)) ∧
    (decide ((2 : Int) < (Nat.cast : Nat → Int) (List.length (Nt.limbs (Nt.val a)))) = true →
        K (TV.tup [TV.d (AV.int IntKind.i64 (0 : Int)), TV.d (AV.int IntKind.i64 (1 : Int))])) ∧
      (decide ((2 : Int) < (Nat.cast : Nat → Int) (List.length (Nt.limbs (Nt.val a)))) = false →
        (decide ((Nat.cast : Nat → Int) (List.length (Nt.limbs (Nt.val a))) = (2 : Int)) = true →
            (0 : Int) ≤ (1 : Int) ∧
              (1 : Int) < (Nat.cast : Nat → Int) (List.length (Nt.limbs (Nt.val a))) ∧
                ((!decide
                          (Int.fdiv (List.getD (Nt.limbs (Nt.val a)) (1 : Nat) (0 : Int)) (2147483648 : Int) =
                            (0 : Int))) =
                      true →
                    K (TV.tup [TV.d (AV.int IntKind.i64 (0 : Int)), TV.d (AV.int IntKind.i64 (1 : Int))])) ∧
                  ((!decide
                          (Int.fdiv (List.getD (Nt.limbs (Nt.val a)) (1 : Nat) (0 : Int)) (2147483648 : Int) =
                            (0 : Int))) =
                      false →
                    (Nt.Lim (Nt.limbs (Nt.val a)) ∧ List.length (Nt.limbs (Nt.val a)) ≤ (2 : Nat)) ∧
                      K
                        (TV.tup
                          [TV.d
                              (AV.int IntKind.i64 (IntKind.wrap IntKind.i64 ((Nat.cast : Nat → Int) (Nt.val (Nt.limbs (Nt.val a)))))),
                            TV.d (AV.int IntKind.i64 (0 : Int))]))) ∧
          (decide ((Nat.cast : Nat → Int) (List.length (Nt.limbs (Nt.val a))) = (2 : Int)) = false →
            (Nt.Lim (Nt.limbs (Nt.val a)) ∧ List.length (Nt.limbs (Nt.val a)) ≤ (2 : Nat)) ∧
              K
                (TV.tup
                  [TV.d (AV.int IntKind.i64 (IntKind.wrap IntKind.i64 ((Nat.cast : Nat → Int) (Nt.val (Nt.limbs (Nt.val a)))))),
                    TV.d (AV.int IntKind.i64 (0 : Int))])))

def vc_nParse : List Int → (TV → Prop) → Prop :=
  fun (s : List Int) (K : TV → Prop) =>
  (decide (s = []) = true → K (TV.tup [TV.d (AV.ints IntKind.u32 []), TV.d (AV.int IntKind.i64 (4 : Int))])) ∧
    (decide (s = []) = false →
      ∃ (I : Int → Prop),
        ∃ (m : Int → Nat),
          I (0 : Int) ∧
            ∀ (v11 : Int),
              I v11 →
                (decide (v11 < (Nat.cast : Nat → Int) (List.length s)) = true →
                    (0 : Int) ≤ v11 ∧
                      v11 < (Nat.cast : Nat → Int) (List.length s) ∧
                        (decide ((48 : Int) ≤ List.getD s (Int.toNat v11) (0 : Int)) = true →
                            (0 : Int) ≤ v11 ∧
                              v11 < (Nat.cast : Nat → Int) (List.length s) ∧
                                (decide (List.getD s (Int.toNat v11) (0 : Int) ≤ (57 : Int)) = true →
                                    I (IntKind.wrap IntKind.i64 (v11 + (1 : Int))) ∧
                                      m (IntKind.wrap IntKind.i64 (v11 + (1 : Int))) < m v11) ∧
                                  (decide (List.getD s (Int.toNat v11) (0 : Int) ≤ (57 : Int)) = false →
                                    K (TV.tup [TV.d (AV.ints IntKind.u32 []), TV.d (AV.int IntKind.i64 (4 : Int))]))) ∧
                          (decide ((48 : Int) ≤ List.getD s (Int.toNat v11) (0 : Int)) = false →
                            K (TV.tup [TV.d (AV.ints IntKind.u32 []), TV.d (AV.int IntKind.i64 (4 : Int))]))) ∧
                  (decide (v11 < (Nat.cast : Nat → Int) (List.length s)) = false →
                    (decide ((60 : Int) < (Nat.cast : Nat → Int) (List.length s)) = true →
                        K (TV.tup [TV.d (AV.ints IntKind.u32 []), TV.d (AV.int IntKind.i64 (9 : Int))])) ∧
                      (decide ((60 : Int) < (Nat.cast : Nat → Int) (List.length s)) = false →
                        ∃ (I : List Int → Int → Prop),
                          ∃ (m : List Int → Int → Nat),
                            I [] (0 : Int) ∧
                              ∀ (v5 : List Int) (v30 : Int),
                                I v5 v30 →
                                  (decide (v30 < (Nat.cast : Nat → Int) (List.length s)) = true →
                                      (Nt.Few v5 ∧ Nt.Few [(10 : Int)]) ∧
                                        (0 : Int) ≤ v30 ∧
                                          v30 < (Nat.cast : Nat → Int) (List.length s) ∧
                                            (Nt.Few (Nt.limbs (Nt.val v5 * (10 : Nat))) ∧
                                                Nt.Few
                                                  [IntKind.wrap IntKind.u32
                                                      (IntKind.wrap IntKind.u8
                                                        (List.getD s (Int.toNat v30) (0 : Int) - (48 : Int)))]) ∧
                                              I
                                                  (Nt.limbs
                                                    (Nt.val (Nt.limbs (Nt.val v5 * (10 : Nat))) +
                                                      Nt.val
                                                        [IntKind.wrap IntKind.u32
                                                            (IntKind.wrap IntKind.u8
                                                              (List.getD s (Int.toNat v30) (0 : Int) - (48 : Int)))]))
                                                  (IntKind.wrap IntKind.i64 (v30 + (1 : Int))) ∧
                                                m
                                                    (Nt.limbs
                                                      (Nt.val (Nt.limbs (Nt.val v5 * (10 : Nat))) +
                                                        Nt.val
                                                          [IntKind.wrap IntKind.u32
                                                              (IntKind.wrap IntKind.u8
                                                                (List.getD s (Int.toNat v30) (0 : Int) - (48 : Int)))]))
                                                    (IntKind.wrap IntKind.i64 (v30 + (1 : Int))) <
                                                  m v5 v30) ∧
                                    (decide (v30 < (Nat.cast : Nat → Int) (List.length s)) = false →
                                      K
                                        (TV.tup
                                          [TV.d (AV.ints IntKind.u32 v5), TV.d (AV.int IntKind.i64 (0 : Int))])))))

def vc_nlawshort : List Int → (TV → Prop) → Prop :=
  fun (a : List Int) (K : TV → Prop) => K (TV.d (AV.bool (decide ((Nat.cast : Nat → Int) (List.length a) ≤ (24 : Int)))))

def vc_nlawNaturalRing : List Int → List Int → List Int → (TV → Prop) → Prop :=
  fun (a b c : List Int) (K : TV → Prop) =>
  True ∧
    ((!decide (List.length a ≤ (24 : Nat))) = true → True ∧ K (TV.d (AV.bool true))) ∧
      ((!decide (List.length a ≤ (24 : Nat))) = false →
        True ∧
          ((!decide (List.length b ≤ (24 : Nat))) = true → True ∧ K (TV.d (AV.bool true))) ∧
            ((!decide (List.length b ≤ (24 : Nat))) = false →
              True ∧
                ((!decide (List.length c ≤ (24 : Nat))) = true → True ∧ K (TV.d (AV.bool true))) ∧
                  ((!decide (List.length c ≤ (24 : Nat))) = false →
                    (Nt.Few a ∧ Nt.Few b) ∧
                      (Nt.Few (Nt.limbs (Nt.val a + Nt.val b)) ∧ Nt.Few b) ∧
                        (decide
                                ((if Nt.val (Nt.limbs (Nt.val a + Nt.val b)) < Nt.val b then (1 : Int) else (0 : Int)) =
                                  (0 : Int)) =
                              true →
                            Nt.Few a ∧
                              (List.length
                                      (if Nt.val (Nt.limbs (Nt.val a + Nt.val b)) < Nt.val b then []
                                      else Nt.limbs (Nt.val (Nt.limbs (Nt.val a + Nt.val b)) - Nt.val b)) ≤
                                    (1000000000 : Nat) ∧
                                  List.length (Nt.limbs (Nt.val a)) ≤ (1000000000 : Nat)) ∧
                                (decide
                                        ((if Nt.val (Nt.limbs (Nt.val a + Nt.val b)) < Nt.val b then []
                                          else Nt.limbs (Nt.val (Nt.limbs (Nt.val a + Nt.val b)) - Nt.val b)) =
                                          Nt.limbs (Nt.val a)) =
                                      true →
                                    (Nt.Few a ∧ Nt.Few b) ∧
                                      (Nt.Few b ∧ Nt.Few a) ∧
                                        (List.length (Nt.limbs (Nt.val a + Nt.val b)) ≤ (1000000000 : Nat) ∧
                                            List.length (Nt.limbs (Nt.val b + Nt.val a)) ≤ (1000000000 : Nat)) ∧
                                          (decide (Nt.limbs (Nt.val a + Nt.val b) = Nt.limbs (Nt.val b + Nt.val a)) =
                                                true →
                                              (Nt.Few a ∧ Nt.Few b) ∧
                                                (Nt.Few b ∧ Nt.Few a) ∧
                                                  (List.length (Nt.limbs (Nt.val a * Nt.val b)) ≤ (1000000000 : Nat) ∧
                                                      List.length (Nt.limbs (Nt.val b * Nt.val a)) ≤
                                                        (1000000000 : Nat)) ∧
                                                    (decide
                                                            (Nt.limbs (Nt.val a * Nt.val b) =
                                                              Nt.limbs (Nt.val b * Nt.val a)) =
                                                          true →
                                                        (Nt.Few a ∧ Nt.Few b) ∧
                                                          (Nt.Few (Nt.limbs (Nt.val a + Nt.val b)) ∧ Nt.Few c) ∧
                                                            (Nt.Few b ∧ Nt.Few c) ∧
                                                              (Nt.Few a ∧ Nt.Few (Nt.limbs (Nt.val b + Nt.val c))) ∧
                                                                (List.length
                                                                        (Nt.limbs
                                                                          (Nt.val (Nt.limbs (Nt.val a + Nt.val b)) +
                                                                            Nt.val c)) ≤
                                                                      (1000000000 : Nat) ∧
                                                                    List.length
                                                                        (Nt.limbs
                                                                          (Nt.val a +
                                                                            Nt.val (Nt.limbs (Nt.val b + Nt.val c)))) ≤
                                                                      (1000000000 : Nat)) ∧
                                                                  (decide
                                                                          (Nt.limbs
                                                                              (Nt.val (Nt.limbs (Nt.val a + Nt.val b)) +
                                                                                Nt.val c) =
                                                                            Nt.limbs
                                                                              (Nt.val a +
                                                                                Nt.val
                                                                                  (Nt.limbs (Nt.val b + Nt.val c)))) =
                                                                        true →
                                                                      (Nt.Few a ∧ Nt.Few b) ∧
                                                                        (Nt.Few (Nt.limbs (Nt.val a * Nt.val b)) ∧
                                                                            Nt.Few c) ∧
                                                                          (Nt.Few b ∧ Nt.Few c) ∧
                                                                            (Nt.Few a ∧
                                                                                Nt.Few
                                                                                  (Nt.limbs (Nt.val b * Nt.val c))) ∧
                                                                              (List.length
                                                                                      (Nt.limbs
                                                                                        (Nt.val
                                                                                            (Nt.limbs
                                                                                              (Nt.val a * Nt.val b)) *
                                                                                          Nt.val c)) ≤
                                                                                    (1000000000 : Nat) ∧
                                                                                  List.length
                                                                                      (Nt.limbs
                                                                                        (Nt.val a *
                                                                                          Nt.val
                                                                                            (Nt.limbs
                                                                                              (Nt.val b * Nt.val c)))) ≤
                                                                                    (1000000000 : Nat)) ∧
                                                                                (decide
                                                                                        (Nt.limbs
                                                                                            (Nt.val
                                                                                                (Nt.limbs
                                                                                                  (Nt.val a *
                                                                                                    Nt.val b)) *
                                                                                              Nt.val c) =
                                                                                          Nt.limbs
                                                                                            (Nt.val a *
                                                                                              Nt.val
                                                                                                (Nt.limbs
                                                                                                  (Nt.val b *
                                                                                                    Nt.val c)))) =
                                                                                      true →
                                                                                    (Nt.Few b ∧ Nt.Few c) ∧
                                                                                      (Nt.Few a ∧
                                                                                          Nt.Few
                                                                                            (Nt.limbs
                                                                                              (Nt.val b + Nt.val c))) ∧
                                                                                        (Nt.Few a ∧ Nt.Few b) ∧
                                                                                          (Nt.Few a ∧ Nt.Few c) ∧
                                                                                            (Nt.Few
                                                                                                  (Nt.limbs
                                                                                                    (Nt.val a *
                                                                                                      Nt.val b)) ∧
                                                                                                Nt.Few
                                                                                                  (Nt.limbs
                                                                                                    (Nt.val a *
                                                                                                      Nt.val c))) ∧
                                                                                              (List.length
                                                                                                      (Nt.limbs
                                                                                                        (Nt.val a *
                                                                                                          Nt.val
                                                                                                            (Nt.limbs
                                                                                                              (Nt.val
                                                                                                                  b +
                                                                                                                Nt.val
                                                                                                                  c)))) ≤
                                                                                                    (1000000000 : Nat) ∧
                                                                                                  List.length
                                                                                                      (Nt.limbs
                                                                                                        (Nt.val
                                                                                                            (Nt.limbs
                                                                                                              (Nt.val
                                                                                                                  a *
                                                                                                                Nt.val
                                                                                                                  b)) +
                                                                                                          Nt.val
                                                                                                            (Nt.limbs
                                                                                                              (Nt.val
                                                                                                                  a *
                                                                                                                Nt.val
                                                                                                                  c)))) ≤
                                                                                                    nat_lit
                                                                                                      1000000000) ∧
                                                                                                (decide
                                                                                                        (Nt.limbs
                                                                                                            (Nt.val a *
                                                                                                              Nt.val
                                                                                                                (Nt.limbs
                                                                                                                  (Nt.val
                                                                                                                      b +
                                                                                                                    Nt.val
                                                                                                                      c))) =
                                                                                                          Nt.limbs
                                                                                                            (Nt.val
                                                                                                                (Nt.limbs
                                                                                                                  (Nt.val
                                                                                                                      a *
                                                                                                                    Nt.val
                                                                                                                      b)) +
                                                                                                              Nt.val
                                                                                                                (Nt.limbs
                                                                                                                  (Nt.val
                                                                                                                      a *
                                                                                                                    Nt.val
                                                                                                                      c)))) =
                                                                                                      true →
                                                                                                    True ∧
                                                                                                      K
                                                                                                        (TV.d
                                                                                                          (AV.bool
                                                                                                            true))) ∧
                                                                                                  (decide
                                                                                                        (Nt.limbs
                                                                                                            (Nt.val a *
                                                                                                              Nt.val
                                                                                                                (Nt.limbs
                                                                                                                  (Nt.val
                                                                                                                      b +
                                                                                                                    Nt.val
                                                                                                                      c))) =
                                                                                                          Nt.limbs
                                                                                                            (Nt.val
                                                                                                                (Nt.limbs
                                                                                                                  (Nt.val
                                                                                                                      a *
                                                                                                                    Nt.val
                                                                                                                      b)) +
                                                                                                              Nt.val
                                                                                                                (Nt.limbs
                                                                                                                  (Nt.val
                                                                                                                      a *
                                                                                                                    Nt.val
                                                                                                                      c)))) =
                                                                                                      false →
                                                                                                    K
                                                                                                      (TV.d
                                                                                                        (AV.bool
                                                                                                          false)))) ∧
                                                                                  (decide
                                                                                        (Nt.limbs
                                                                                            (Nt.val
                                                                                                (Nt.limbs
                                                                                                  (Nt.val a *
                                                                                                    Nt.val b)) *
                                                                                              Nt.val c) =
                                                                                          Nt.limbs
                                                                                            (Nt.val a *
                                                                                              Nt.val
                                                                                                (Nt.limbs
                                                                                                  (Nt.val b *
                                                                                                    Nt.val c)))) =
                                                                                      false →
                                                                                    K (TV.d (AV.bool false)))) ∧
                                                                    (decide
                                                                          (Nt.limbs
                                                                              (Nt.val (Nt.limbs (Nt.val a + Nt.val b)) +
                                                                                Nt.val c) =
                                                                            Nt.limbs
                                                                              (Nt.val a +
                                                                                Nt.val
                                                                                  (Nt.limbs (Nt.val b + Nt.val c)))) =
                                                                        false →
                                                                      K (TV.d (AV.bool false)))) ∧
                                                      (decide
                                                            (Nt.limbs (Nt.val a * Nt.val b) =
                                                              Nt.limbs (Nt.val b * Nt.val a)) =
                                                          false →
                                                        K (TV.d (AV.bool false)))) ∧
                                            (decide (Nt.limbs (Nt.val a + Nt.val b) = Nt.limbs (Nt.val b + Nt.val a)) =
                                                false →
                                              K (TV.d (AV.bool false)))) ∧
                                  (decide
                                        ((if Nt.val (Nt.limbs (Nt.val a + Nt.val b)) < Nt.val b then []
                                          else Nt.limbs (Nt.val (Nt.limbs (Nt.val a + Nt.val b)) - Nt.val b)) =
                                          Nt.limbs (Nt.val a)) =
                                      false →
                                    K (TV.d (AV.bool false)))) ∧
                          (decide
                                ((if Nt.val (Nt.limbs (Nt.val a + Nt.val b)) < Nt.val b then (1 : Int) else (0 : Int)) =
                                  (0 : Int)) =
                              false →
                            K (TV.d (AV.bool false))))))

def vc_nlawNaturalInts : Int → Int → (TV → Prop) → Prop :=
  fun (m n : Int) (K : TV → Prop) =>
  ((-9223372036854775808 : Int) ≤ m ∧ m < (9223372036854775808 : Int)) ∧
    ((-9223372036854775808 : Int) ≤ n ∧ n < (9223372036854775808 : Int)) ∧
      (decide (m < (0 : Int)) = true →
          ((decide ((if m < (0 : Int) then (1 : Int) else (0 : Int)) = (1 : Int)) == decide (m < (0 : Int))) = true →
              ((decide ((if n < (0 : Int) then (1 : Int) else (0 : Int)) = (1 : Int)) == decide (n < (0 : Int))) =
                    true →
                  True ∧ K (TV.d (AV.bool true))) ∧
                ((decide ((if n < (0 : Int) then (1 : Int) else (0 : Int)) = (1 : Int)) == decide (n < (0 : Int))) =
                    false →
                  K (TV.d (AV.bool false)))) ∧
            ((decide ((if m < (0 : Int) then (1 : Int) else (0 : Int)) = (1 : Int)) == decide (m < (0 : Int))) = false →
              K (TV.d (AV.bool false)))) ∧
        (decide (m < (0 : Int)) = false →
          (decide (n < (0 : Int)) = true →
              ((decide ((if m < (0 : Int) then (1 : Int) else (0 : Int)) = (1 : Int)) == decide (m < (0 : Int))) =
                    true →
                  ((decide ((if n < (0 : Int) then (1 : Int) else (0 : Int)) = (1 : Int)) == decide (n < (0 : Int))) =
                        true →
                      True ∧ K (TV.d (AV.bool true))) ∧
                    ((decide ((if n < (0 : Int) then (1 : Int) else (0 : Int)) = (1 : Int)) == decide (n < (0 : Int))) =
                        false →
                      K (TV.d (AV.bool false)))) ∧
                ((decide ((if m < (0 : Int) then (1 : Int) else (0 : Int)) = (1 : Int)) == decide (m < (0 : Int))) =
                    false →
                  K (TV.d (AV.bool false)))) ∧
            (decide (n < (0 : Int)) = false →
              Nt.Few (if m < (0 : Int) then [] else Nt.limbs (Int.toNat m)) ∧
                ∃ (J : Int → Prop),
                  ((decide (m < n) = true → J (-1 : Int)) ∧
                      (decide (m < n) = false →
                        (decide (n < m) = true → J (1 : Int)) ∧ (decide (n < m) = false → J (0 : Int)))) ∧
                    ∀ (v11 : Int),
                      J v11 →
                        ((!decide ((if m < (0 : Int) then (1 : Int) else (0 : Int)) = (0 : Int))) = true →
                            K (TV.d (AV.bool false))) ∧
                          ((!decide ((if m < (0 : Int) then (1 : Int) else (0 : Int)) = (0 : Int))) = false →
                            ((!decide ((if n < (0 : Int) then (1 : Int) else (0 : Int)) = (0 : Int))) = true →
                                K (TV.d (AV.bool false))) ∧
                              ((!decide ((if n < (0 : Int) then (1 : Int) else (0 : Int)) = (0 : Int))) = false →
                                ((!decide
                                          ((if
                                                Nt.val (if m < (0 : Int) then [] else Nt.limbs (Int.toNat m)) <
                                                  (9223372036854775808 : Nat) then
                                              (0 : Int)
                                            else (1 : Int)) =
                                            (0 : Int))) =
                                      true →
                                    K (TV.d (AV.bool false))) ∧
                                  ((!decide
                                          ((if
                                                Nt.val (if m < (0 : Int) then [] else Nt.limbs (Int.toNat m)) <
                                                  (9223372036854775808 : Nat) then
                                              (0 : Int)
                                            else (1 : Int)) =
                                            (0 : Int))) =
                                      false →
                                    ((!decide
                                              ((if
                                                    Nt.val (if m < (0 : Int) then [] else Nt.limbs (Int.toNat m)) <
                                                      (9223372036854775808 : Nat) then
                                                  (Nat.cast : Nat → Int)
                                                    (Nt.val (if m < (0 : Int) then [] else Nt.limbs (Int.toNat m)))
                                                else (0 : Int)) =
                                                m)) =
                                          true →
                                        K (TV.d (AV.bool false))) ∧
                                      ((!decide
                                              ((if
                                                    Nt.val (if m < (0 : Int) then [] else Nt.limbs (Int.toNat m)) <
                                                      (9223372036854775808 : Nat) then
                                                  (Nat.cast : Nat → Int)
                                                    (Nt.val (if m < (0 : Int) then [] else Nt.limbs (Int.toNat m)))
                                                else (0 : Int)) =
                                                m)) =
                                          false →
                                        (Nt.Few (if m < (0 : Int) then [] else Nt.limbs (Int.toNat m)) ∧
                                            Nt.Few (if n < (0 : Int) then [] else Nt.limbs (Int.toNat n))) ∧
                                          ((!decide
                                                    (Nt.cmp
                                                        (Nt.val (if m < (0 : Int) then [] else Nt.limbs (Int.toNat m)))
                                                        (Nt.val
                                                          (if n < (0 : Int) then [] else Nt.limbs (Int.toNat n))) =
                                                      v11)) =
                                                true →
                                              K (TV.d (AV.bool false))) ∧
                                            ((!decide
                                                    (Nt.cmp
                                                        (Nt.val (if m < (0 : Int) then [] else Nt.limbs (Int.toNat m)))
                                                        (Nt.val
                                                          (if n < (0 : Int) then [] else Nt.limbs (Int.toNat n))) =
                                                      v11)) =
                                                false →
                                              ((-9223372036854775808 : Int) ≤
                                                    bitop BinOp.and IntKind.i64 m (2147483647 : Int) ∧
                                                  bitop BinOp.and IntKind.i64 m (2147483647 : Int) <
                                                    (9223372036854775808 : Int)) ∧
                                                ((-9223372036854775808 : Int) ≤
                                                      bitop BinOp.and IntKind.i64 n (1073741823 : Int) ∧
                                                    bitop BinOp.and IntKind.i64 n (1073741823 : Int) <
                                                      (9223372036854775808 : Int)) ∧
                                                  (Nt.Few
                                                        (if
                                                            bitop BinOp.and IntKind.i64 m (2147483647 : Int) <
                                                              (0 : Int) then
                                                          []
                                                        else
                                                          Nt.limbs
                                                            (Int.toNat
                                                              (bitop BinOp.and IntKind.i64 m (2147483647 : Int)))) ∧
                                                      Nt.Few
                                                        (if
                                                            bitop BinOp.and IntKind.i64 n (1073741823 : Int) <
                                                              (0 : Int) then
                                                          []
                                                        else
                                                          Nt.limbs
                                                            (Int.toNat
                                                              (bitop BinOp.and IntKind.i64 n (1073741823 : Int))))) ∧
                                                    Nt.Few
                                                        (Nt.limbs
                                                          (Nt.val
                                                              (if
                                                                  bitop BinOp.and IntKind.i64 m (2147483647 : Int) <
                                                                    (0 : Int) then
                                                                []
                                                              else
                                                                Nt.limbs
                                                                  (Int.toNat
                                                                    (bitop BinOp.and IntKind.i64 m
                                                                      (2147483647 : Int)))) +
                                                            Nt.val
                                                              (if
                                                                  bitop BinOp.and IntKind.i64 n (1073741823 : Int) <
                                                                    (0 : Int) then
                                                                []
                                                              else
                                                                Nt.limbs
                                                                  (Int.toNat
                                                                    (bitop BinOp.and IntKind.i64 n
                                                                      (1073741823 : Int)))))) ∧
                                                      (Nt.Few
                                                            (if
                                                                bitop BinOp.and IntKind.i64 m (2147483647 : Int) <
                                                                  (0 : Int) then
                                                              []
                                                            else
                                                              Nt.limbs
                                                                (Int.toNat
                                                                  (bitop BinOp.and IntKind.i64 m (2147483647 : Int)))) ∧
                                                          Nt.Few
                                                            (if
                                                                bitop BinOp.and IntKind.i64 n (1073741823 : Int) <
                                                                  (0 : Int) then
                                                              []
                                                            else
                                                              Nt.limbs
                                                                (Int.toNat
                                                                  (bitop BinOp.and IntKind.i64 n
                                                                    (1073741823 : Int))))) ∧
                                                        Nt.Few
                                                            (Nt.limbs
                                                              (Nt.val
                                                                  (if
                                                                      bitop BinOp.and IntKind.i64 m (2147483647 : Int) <
                                                                        (0 : Int) then
                                                                    []
                                                                  else
                                                                    Nt.limbs
                                                                      (Int.toNat
                                                                        (bitop BinOp.and IntKind.i64 m
                                                                          (2147483647 : Int)))) *
                                                                Nt.val
                                                                  (if
                                                                      bitop BinOp.and IntKind.i64 n (1073741823 : Int) <
                                                                        (0 : Int) then
                                                                    []
                                                                  else
                                                                    Nt.limbs
                                                                      (Int.toNat
                                                                        (bitop BinOp.and IntKind.i64 n
                                                                          (1073741823 : Int)))))) ∧
                                                          (decide
                                                                  ((if
                                                                        bitop BinOp.and IntKind.i64 m
                                                                            (2147483647 : Int) <
                                                                          (0 : Int) then
                                                                      (1 : Int)
                                                                    else (0 : Int)) =
                                                                    (0 : Int)) =
                                                                true →
                                                              (decide
                                                                      ((if
                                                                            bitop BinOp.and IntKind.i64 n
                                                                                (1073741823 : Int) <
                                                                              (0 : Int) then
                                                                          (1 : Int)
                                                                        else (0 : Int)) =
                                                                        (0 : Int)) =
                                                                    true →
                                                                  (decide
                                                                          ((if
                                                                                Nt.val
                                                                                    (Nt.limbs
                                                                                      (Nt.val
                                                                                          (if
                                                                                              bitop BinOp.and
                                                                                                  IntKind.i64 m
                                                                                                  (2147483647 : Int) <
                                                                                                (0 : Int) then
                                                                                            []
                                                                                          else
                                                                                            Nt.limbs
                                                                                              (Int.toNat
                                                                                                (bitop BinOp.and
                                                                                                  IntKind.i64 m
                                                                                                  (2147483647 :
                                                                                                    Int)))) +
                                                                                        Nt.val
                                                                                          (if
                                                                                              bitop BinOp.and
                                                                                                  IntKind.i64 n
                                                                                                  (1073741823 : Int) <
                                                                                                (0 : Int) then
                                                                                            []
                                                                                          else
                                                                                            Nt.limbs
                                                                                              (Int.toNat
                                                                                                (bitop BinOp.and
                                                                                                  IntKind.i64 n
                                                                                                  (1073741823 :
                                                                                                    Int)))))) <
                                                                                  (9223372036854775808 : Nat) then
                                                                              (0 : Int)
                                                                            else (1 : Int)) =
                                                                            (0 : Int)) =
                                                                        true →
                                                                      (decide
                                                                              ((if
                                                                                    Nt.val
                                                                                        (Nt.limbs
                                                                                          (Nt.val
                                                                                              (if
                                                                                                  bitop BinOp.and
                                                                                                      IntKind.i64 m
                                                                                                      (2147483647 :
                                                                                                        Int) <
                                                                                                    (0 : Int) then
                                                                                                []
                                                                                              else
                                                                                                Nt.limbs
                                                                                                  (Int.toNat
                                                                                                    (bitop BinOp.and
                                                                                                      IntKind.i64 m
                                                                                                      (2147483647 :
                                                                                                        Int)))) *
                                                                                            Nt.val
                                                                                              (if
                                                                                                  bitop BinOp.and
                                                                                                      IntKind.i64 n
                                                                                                      (1073741823 :
                                                                                                        Int) <
                                                                                                    (0 : Int) then
                                                                                                []
                                                                                              else
                                                                                                Nt.limbs
                                                                                                  (Int.toNat
                                                                                                    (bitop BinOp.and
                                                                                                      IntKind.i64 n
                                                                                                      (1073741823 :
                                                                                                        Int)))))) <
                                                                                      (9223372036854775808 : Nat) then
                                                                                  (0 : Int)
                                                                                else (1 : Int)) =
                                                                                (0 : Int)) =
                                                                            true →
                                                                          (decide
                                                                                  ((if
                                                                                        Nt.val
                                                                                            (Nt.limbs
                                                                                              (Nt.val
                                                                                                  (if
                                                                                                      bitop BinOp.and
                                                                                                          IntKind.i64 m
                                                                                                          (2147483647 :
                                                                                                            Int) <
                                                                                                        (0 : Int) then
                                                                                                    []
                                                                                                  else
                                                                                                    Nt.limbs
                                                                                                      (Int.toNat
                                                                                                        (bitop BinOp.and
                                                                                                          IntKind.i64 m
                                                                                                          (2147483647 :
                                                                                                            Int)))) +
                                                                                                Nt.val
                                                                                                  (if
                                                                                                      bitop BinOp.and
                                                                                                          IntKind.i64 n
                                                                                                          (1073741823 :
                                                                                                            Int) <
                                                                                                        (0 : Int) then
                                                                                                    []
                                                                                                  else
                                                                                                    Nt.limbs
                                                                                                      (Int.toNat
                                                                                                        (bitop BinOp.and
                                                                                                          IntKind.i64 n
                                                                                                          (1073741823 :
                                                                                                            Int)))))) <
                                                                                          nat_lit
                                                                                            9223372036854775808 then
                                                                                      (Nat.cast : Nat → Int)
                                                                                        (Nt.val
                                                                                          (Nt.limbs
                                                                                            (Nt.val
                                                                                                (if
                                                                                                    bitop BinOp.and
                                                                                                        IntKind.i64 m
                                                                                                        (2147483647 :
                                                                                                          Int) <
                                                                                                      (0 : Int) then
                                                                                                  []
                                                                                                else
                                                                                                  Nt.limbs
                                                                                                    (Int.toNat
                                                                                                      (bitop BinOp.and
                                                                                                        IntKind.i64 m
                                                                                                        (2147483647 :
                                                                                                          Int)))) +
                                                                                              Nt.val
                                                                                                (if
                                                                                                    bitop BinOp.and
                                                                                                        IntKind.i64 n
                                                                                                        (1073741823 :
                                                                                                          Int) <
                                                                                                      (0 : Int) then
                                                                                                  []
                                                                                                else
                                                                                                  Nt.limbs
                                                                                                    (Int.toNat
                                                                                                      (bitop BinOp.and
                                                                                                        IntKind.i64 n
                                                                                                        (1073741823 :
                                                                                                          Int)))))))
                                                                                    else (0 : Int)) =
                                                                                    IntKind.wrap IntKind.i64
                                                                                      (bitop BinOp.and IntKind.i64 m
                                                                                          (2147483647 : Int) +
                                                                                        bitop BinOp.and IntKind.i64 n
                                                                                          (1073741823 : Int))) =
                                                                                true →
                                                                              (decide
                                                                                      ((if
                                                                                            Nt.val
                                                                                                (Nt.limbs
                                                                                                  (Nt.val
                                                                                                      (if
                                                                                                          bitop
                                                                                                              BinOp.and
                                                                                                              IntKind.i64
                                                                                                              m
                                                                                                              (2147483647 :
                                                                                                                Int) <
                                                                                                            (0 :
                                                                                                              Int) then
                                                                                                        []
                                                                                                      else
                                                                                                        Nt.limbs
                                                                                                          (Int.toNat
                                                                                                            (bitop
                                                                                                              BinOp.and
                                                                                                              IntKind.i64
                                                                                                              m
                                                                                                              (2147483647 :
                                                                                                                Int)))) *
                                                                                                    Nt.val
                                                                                                      (if
                                                                                                          bitop
                                                                                                              BinOp.and
                                                                                                              IntKind.i64
                                                                                                              n
                                                                                                              (1073741823 :
                                                                                                                Int) <
                                                                                                            (0 :
                                                                                                              Int) then
                                                                                                        []
                                                                                                      else
                                                                                                        Nt.limbs
                                                                                                          (Int.toNat
                                                                                                            (bitop
                                                                                                              BinOp.and
                                                                                                              IntKind.i64
                                                                                                              n
                                                                                                              (1073741823 :
                                                                                                                Int)))))) <
                                                                                              nat_lit
                                                                                                9223372036854775808 then
                                                                                          (Nat.cast : Nat → Int)
                                                                                            (Nt.val
                                                                                              (Nt.limbs
                                                                                                (Nt.val
                                                                                                    (if
                                                                                                        bitop BinOp.and
                                                                                                            IntKind.i64
                                                                                                            m
                                                                                                            (2147483647 :
                                                                                                              Int) <
                                                                                                          (0 : Int) then
                                                                                                      []
                                                                                                    else
                                                                                                      Nt.limbs
                                                                                                        (Int.toNat
                                                                                                          (bitop
                                                                                                            BinOp.and
                                                                                                            IntKind.i64
                                                                                                            m
                                                                                                            (2147483647 :
                                                                                                              Int)))) *
                                                                                                  Nt.val
                                                                                                    (if
                                                                                                        bitop BinOp.and
                                                                                                            IntKind.i64
                                                                                                            n
                                                                                                            (1073741823 :
                                                                                                              Int) <
                                                                                                          (0 : Int) then
                                                                                                      []
                                                                                                    else
                                                                                                      Nt.limbs
                                                                                                        (Int.toNat
                                                                                                          (bitop
                                                                                                            BinOp.and
                                                                                                            IntKind.i64
                                                                                                            n
                                                                                                            (1073741823 :
                                                                                                              Int)))))))
                                                                                        else (0 : Int)) =
                                                                                        IntKind.wrap IntKind.i64
                                                                                          (bitop BinOp.and IntKind.i64 m
                                                                                              (2147483647 : Int) *
                                                                                            bitop BinOp.and IntKind.i64
                                                                                              n (1073741823 : Int))) =
                                                                                    true →
                                                                                  True ∧ K (TV.d (AV.bool true))) ∧
                                                                                (decide
                                                                                      ((if
                                                                                            Nt.val
                                                                                                (Nt.limbs
                                                                                                  (Nt.val
                                                                                                      (if
                                                                                                          bitop
                                                                                                              BinOp.and
                                                                                                              IntKind.i64
                                                                                                              m
                                                                                                              (2147483647 :
                                                                                                                Int) <
                                                                                                            (0 :
                                                                                                              Int) then
                                                                                                        []
                                                                                                      else
                                                                                                        Nt.limbs
                                                                                                          (Int.toNat
                                                                                                            (bitop
                                                                                                              BinOp.and
                                                                                                              IntKind.i64
                                                                                                              m
                                                                                                              (2147483647 :
                                                                                                                Int)))) *
                                                                                                    Nt.val
                                                                                                      (if
                                                                                                          bitop
                                                                                                              BinOp.and
                                                                                                              IntKind.i64
                                                                                                              n
                                                                                                              (1073741823 :
                                                                                                                Int) <
                                                                                                            (0 :
                                                                                                              Int) then
                                                                                                        []
                                                                                                      else
                                                                                                        Nt.limbs
                                                                                                          (Int.toNat
                                                                                                            (bitop
                                                                                                              BinOp.and
                                                                                                              IntKind.i64
                                                                                                              n
                                                                                                              (1073741823 :
                                                                                                                Int)))))) <
                                                                                              nat_lit
                                                                                                9223372036854775808 then
                                                                                          (Nat.cast : Nat → Int)
                                                                                            (Nt.val
                                                                                              (Nt.limbs
                                                                                                (Nt.val
                                                                                                    (if
                                                                                                        bitop BinOp.and
                                                                                                            IntKind.i64
                                                                                                            m
                                                                                                            (2147483647 :
                                                                                                              Int) <
                                                                                                          (0 : Int) then
                                                                                                      []
                                                                                                    else
                                                                                                      Nt.limbs
                                                                                                        (Int.toNat
                                                                                                          (bitop
                                                                                                            BinOp.and
                                                                                                            IntKind.i64
                                                                                                            m
                                                                                                            (2147483647 :
                                                                                                              Int)))) *
                                                                                                  Nt.val
                                                                                                    (if
                                                                                                        bitop BinOp.and
                                                                                                            IntKind.i64
                                                                                                            n
                                                                                                            (1073741823 :
                                                                                                              Int) <
                                                                                                          (0 : Int) then
                                                                                                      []
                                                                                                    else
                                                                                                      Nt.limbs
                                                                                                        (Int.toNat
                                                                                                          (bitop
                                                                                                            BinOp.and
                                                                                                            IntKind.i64
                                                                                                            n
                                                                                                            (1073741823 :
                                                                                                              Int)))))))
                                                                                        else (0 : Int)) =
                                                                                        IntKind.wrap IntKind.i64
                                                                                          (bitop BinOp.and IntKind.i64 m
                                                                                              (2147483647 : Int) *
                                                                                            bitop BinOp.and IntKind.i64
                                                                                              n (1073741823 : Int))) =
                                                                                    false →
                                                                                  K (TV.d (AV.bool false)))) ∧
                                                                            (decide
                                                                                  ((if
                                                                                        Nt.val
                                                                                            (Nt.limbs
                                                                                              (Nt.val
                                                                                                  (if
                                                                                                      bitop BinOp.and
                                                                                                          IntKind.i64 m
                                                                                                          (2147483647 :
                                                                                                            Int) <
                                                                                                        (0 : Int) then
                                                                                                    []
                                                                                                  else
                                                                                                    Nt.limbs
                                                                                                      (Int.toNat
                                                                                                        (bitop BinOp.and
                                                                                                          IntKind.i64 m
                                                                                                          (2147483647 :
                                                                                                            Int)))) +
                                                                                                Nt.val
                                                                                                  (if
                                                                                                      bitop BinOp.and
                                                                                                          IntKind.i64 n
                                                                                                          (1073741823 :
                                                                                                            Int) <
                                                                                                        (0 : Int) then
                                                                                                    []
                                                                                                  else
                                                                                                    Nt.limbs
                                                                                                      (Int.toNat
                                                                                                        (bitop BinOp.and
                                                                                                          IntKind.i64 n
                                                                                                          (1073741823 :
                                                                                                            Int)))))) <
                                                                                          nat_lit
                                                                                            9223372036854775808 then
                                                                                      (Nat.cast : Nat → Int)
                                                                                        (Nt.val
                                                                                          (Nt.limbs
                                                                                            (Nt.val
                                                                                                (if
                                                                                                    bitop BinOp.and
                                                                                                        IntKind.i64 m
                                                                                                        (2147483647 :
                                                                                                          Int) <
                                                                                                      (0 : Int) then
                                                                                                  []
                                                                                                else
                                                                                                  Nt.limbs
                                                                                                    (Int.toNat
                                                                                                      (bitop BinOp.and
                                                                                                        IntKind.i64 m
                                                                                                        (2147483647 :
                                                                                                          Int)))) +
                                                                                              Nt.val
                                                                                                (if
                                                                                                    bitop BinOp.and
                                                                                                        IntKind.i64 n
                                                                                                        (1073741823 :
                                                                                                          Int) <
                                                                                                      (0 : Int) then
                                                                                                  []
                                                                                                else
                                                                                                  Nt.limbs
                                                                                                    (Int.toNat
                                                                                                      (bitop BinOp.and
                                                                                                        IntKind.i64 n
                                                                                                        (1073741823 :
                                                                                                          Int)))))))
                                                                                    else (0 : Int)) =
                                                                                    IntKind.wrap IntKind.i64
                                                                                      (bitop BinOp.and IntKind.i64 m
                                                                                          (2147483647 : Int) +
                                                                                        bitop BinOp.and IntKind.i64 n
                                                                                          (1073741823 : Int))) =
                                                                                false →
                                                                              K (TV.d (AV.bool false)))) ∧
                                                                        (decide
                                                                              ((if
                                                                                    Nt.val
                                                                                        (Nt.limbs
                                                                                          (Nt.val
                                                                                              (if
                                                                                                  bitop BinOp.and
                                                                                                      IntKind.i64 m
                                                                                                      (2147483647 :
                                                                                                        Int) <
                                                                                                    (0 : Int) then
                                                                                                []
                                                                                              else
                                                                                                Nt.limbs
                                                                                                  (Int.toNat
                                                                                                    (bitop BinOp.and
                                                                                                      IntKind.i64 m
                                                                                                      (2147483647 :
                                                                                                        Int)))) *
                                                                                            Nt.val
                                                                                              (if
                                                                                                  bitop BinOp.and
                                                                                                      IntKind.i64 n
                                                                                                      (1073741823 :
                                                                                                        Int) <
                                                                                                    (0 : Int) then
                                                                                                []
                                                                                              else
                                                                                                Nt.limbs
                                                                                                  (Int.toNat
                                                                                                    (bitop BinOp.and
                                                                                                      IntKind.i64 n
                                                                                                      (1073741823 :
                                                                                                        Int)))))) <
                                                                                      (9223372036854775808 : Nat) then
                                                                                  (0 : Int)
                                                                                else (1 : Int)) =
                                                                                (0 : Int)) =
                                                                            false →
                                                                          K (TV.d (AV.bool false)))) ∧
                                                                    (decide
                                                                          ((if
                                                                                Nt.val
                                                                                    (Nt.limbs
                                                                                      (Nt.val
                                                                                          (if
                                                                                              bitop BinOp.and
                                                                                                  IntKind.i64 m
                                                                                                  (2147483647 : Int) <
                                                                                                (0 : Int) then
                                                                                            []
                                                                                          else
                                                                                            Nt.limbs
                                                                                              (Int.toNat
                                                                                                (bitop BinOp.and
                                                                                                  IntKind.i64 m
                                                                                                  (2147483647 :
                                                                                                    Int)))) +
                                                                                        Nt.val
                                                                                          (if
                                                                                              bitop BinOp.and
                                                                                                  IntKind.i64 n
                                                                                                  (1073741823 : Int) <
                                                                                                (0 : Int) then
                                                                                            []
                                                                                          else
                                                                                            Nt.limbs
                                                                                              (Int.toNat
                                                                                                (bitop BinOp.and
                                                                                                  IntKind.i64 n
                                                                                                  (1073741823 :
                                                                                                    Int)))))) <
                                                                                  (9223372036854775808 : Nat) then
                                                                              (0 : Int)
                                                                            else (1 : Int)) =
                                                                            (0 : Int)) =
                                                                        false →
                                                                      K (TV.d (AV.bool false)))) ∧
                                                                (decide
                                                                      ((if
                                                                            bitop BinOp.and IntKind.i64 n
                                                                                (1073741823 : Int) <
                                                                              (0 : Int) then
                                                                          (1 : Int)
                                                                        else (0 : Int)) =
                                                                        (0 : Int)) =
                                                                    false →
                                                                  K (TV.d (AV.bool false)))) ∧
                                                            (decide
                                                                  ((if
                                                                        bitop BinOp.and IntKind.i64 m
                                                                            (2147483647 : Int) <
                                                                          (0 : Int) then
                                                                      (1 : Int)
                                                                    else (0 : Int)) =
                                                                    (0 : Int)) =
                                                                false →
                                                              K (TV.d (AV.bool false))))))))))

def vc_nlawNaturalDigits : List Int → Int → (TV → Prop) → Prop :=
  fun (a : List Int) (z : Int) (K : TV → Prop) =>
  True ∧
    ((!decide (List.length a ≤ (24 : Nat))) = true → True ∧ K (TV.d (AV.bool true))) ∧
      ((!decide (List.length a ≤ (24 : Nat))) = false →
        Nt.Few a ∧
          (decide (Nt.dec (Nt.val a) = []) = true → K (TV.d (AV.bool false))) ∧
            (decide (Nt.dec (Nt.val a) = []) = false →
              (0 : Int) ≤ (0 : Int) ∧
                (0 : Int) < (Nat.cast : Nat → Int) (List.length (Nt.dec (Nt.val a))) ∧
                  (decide (List.getD (Nt.dec (Nt.val a)) (0 : Nat) (0 : Int) = (48 : Int)) = true →
                      ((!decide (Nt.dec (Nt.val a) = [(48 : Int)])) = true → K (TV.d (AV.bool false))) ∧
                        ((!decide (Nt.dec (Nt.val a) = [(48 : Int)])) = false →
                          ∃ (I : List Int → Int → Prop),
                            ∃ (m : List Int → Int → Nat),
                              I (Nt.dec (Nt.val a)) (0 : Int) ∧
                                ∀ (v5 : List Int) (v6 : Int),
                                  I v5 v6 →
                                    (decide (v6 < IntKind.wrap IntKind.i64 (Int.tmod z (4 : Int))) = true →
                                        (1 : Int) + (Nat.cast : Nat → Int) (List.length v5) ≤ (9223372036854775807 : Int) ∧
                                          I (instHAppendOfAppend.1 [(48 : Int)] v5)
                                              (IntKind.wrap IntKind.i64 (v6 + (1 : Int))) ∧
                                            m (instHAppendOfAppend.1 [(48 : Int)] v5)
                                                (IntKind.wrap IntKind.i64 (v6 + (1 : Int))) <
                                              m v5 v6) ∧
                                      (decide (v6 < IntKind.wrap IntKind.i64 (Int.tmod z (4 : Int))) = false →
                                        List.length v5 ≤ (1000000000000 : Nat) ∧
                                          (decide ((60 : Int) < (Nat.cast : Nat → Int) (List.length v5)) = true →
                                              (decide (Nt.parseE v5 = (9 : Int)) = true →
                                                  (decide ((Nat.cast : Nat → Int) (List.length (Nt.parseV v5)) = (0 : Int)) = true →
                                                      True ∧ K (TV.d (AV.bool true))) ∧
                                                    (decide ((Nat.cast : Nat → Int) (List.length (Nt.parseV v5)) = (0 : Int)) = false →
                                                      K (TV.d (AV.bool false)))) ∧
                                                (decide (Nt.parseE v5 = (9 : Int)) = false →
                                                  K (TV.d (AV.bool false)))) ∧
                                            (decide ((60 : Int) < (Nat.cast : Nat → Int) (List.length v5)) = false →
                                              (decide (Nt.parseE v5 = (0 : Int)) = true →
                                                  Nt.Few a ∧
                                                    (List.length (Nt.parseV v5) ≤ (1000000000 : Nat) ∧
                                                        List.length (Nt.limbs (Nt.val a)) ≤ (1000000000 : Nat)) ∧
                                                      (decide (Nt.parseV v5 = Nt.limbs (Nt.val a)) = true →
                                                          True ∧ K (TV.d (AV.bool true))) ∧
                                                        (decide (Nt.parseV v5 = Nt.limbs (Nt.val a)) = false →
                                                          K (TV.d (AV.bool false)))) ∧
                                                (decide (Nt.parseE v5 = (0 : Int)) = false →
                                                  K (TV.d (AV.bool false))))))) ∧
                    (decide (List.getD (Nt.dec (Nt.val a)) (0 : Nat) (0 : Int) = (48 : Int)) = false →
                      ∃ (I : List Int → Int → Prop),
                        ∃ (m : List Int → Int → Nat),
                          I (Nt.dec (Nt.val a)) (0 : Int) ∧
                            ∀ (v5 : List Int) (v6 : Int),
                              I v5 v6 →
                                (decide (v6 < IntKind.wrap IntKind.i64 (Int.tmod z (4 : Int))) = true →
                                    (1 : Int) + (Nat.cast : Nat → Int) (List.length v5) ≤ (9223372036854775807 : Int) ∧
                                      I (instHAppendOfAppend.1 [(48 : Int)] v5)
                                          (IntKind.wrap IntKind.i64 (v6 + (1 : Int))) ∧
                                        m (instHAppendOfAppend.1 [(48 : Int)] v5)
                                            (IntKind.wrap IntKind.i64 (v6 + (1 : Int))) <
                                          m v5 v6) ∧
                                  (decide (v6 < IntKind.wrap IntKind.i64 (Int.tmod z (4 : Int))) = false →
                                    List.length v5 ≤ (1000000000000 : Nat) ∧
                                      (decide ((60 : Int) < (Nat.cast : Nat → Int) (List.length v5)) = true →
                                          (decide (Nt.parseE v5 = (9 : Int)) = true →
                                              (decide ((Nat.cast : Nat → Int) (List.length (Nt.parseV v5)) = (0 : Int)) = true →
                                                  True ∧ K (TV.d (AV.bool true))) ∧
                                                (decide ((Nat.cast : Nat → Int) (List.length (Nt.parseV v5)) = (0 : Int)) = false →
                                                  K (TV.d (AV.bool false)))) ∧
                                            (decide (Nt.parseE v5 = (9 : Int)) = false → K (TV.d (AV.bool false)))) ∧
                                        (decide ((60 : Int) < (Nat.cast : Nat → Int) (List.length v5)) = false →
                                          (decide (Nt.parseE v5 = (0 : Int)) = true →
                                              Nt.Few a ∧
                                                (List.length (Nt.parseV v5) ≤ (1000000000 : Nat) ∧
                                                    List.length (Nt.limbs (Nt.val a)) ≤ (1000000000 : Nat)) ∧
                                                  (decide (Nt.parseV v5 = Nt.limbs (Nt.val a)) = true →
                                                      True ∧ K (TV.d (AV.bool true))) ∧
                                                    (decide (Nt.parseV v5 = Nt.limbs (Nt.val a)) = false →
                                                      K (TV.d (AV.bool false)))) ∧
                                            (decide (Nt.parseE v5 = (0 : Int)) = false → K (TV.d (AV.bool false))))))))

end Nt
end

section
/- NtF: proofs of verification conditions: Reverse, Format, DivMod by one limb, awake, NaturalPowers. -/
open Go Go.Vc
namespace Nt

theorem wu8 {x : Int} (h : 0 ≤ x ∧ x < 256) : IntKind.wrap .u8 x = x := by
  unfold IntKind.wrap
  simp [IntKind.signed, IntKind.bits]
  omega
theorem ext_getD {a b : List Int} (hl : a.length = b.length) (h : ∀ i, i < a.length → a.getD i 0 = b.getD i 0) : a = b := by
  apply List.ext_getElem hl
  intro j hj1 hj2
  have := h j hj1
  simpa [List.getD_eq_getElem?_getD, hj1, hj2] using this
theorem getD_rev (l : List Int) (i : Nat) (h : i < l.length) : l.reverse.getD i 0 = l.getD (l.length - 1 - i) 0 := by
  simp only [List.getD_eq_getElem?_getD]
  rw [List.getElem?_reverse h]

theorem p_nslReverse (l : List Int) (K : OB → TV → Prop) (h : cReverse.T (.vec 0) (.ints .u8 l) [] K) : vc_nslReverse l K := by
  obtain ⟨hl, hk⟩ := h
  unfold vc_nslReverse
  refine ⟨fun i j o => o.length = l.length ∧ 0 ≤ i ∧ i + j = l.length - 1 ∧ i ≤ j + 1 ∧
    ∀ p : Nat, p < l.length → o.getD p 0 = if (p : Int) < i ∨ j < (p : Int) then l.getD (l.length - 1 - p) 0 else l.getD p 0, fun i j o => (j + 1 - i).toNat, ⟨rfl, by omega, ?_, ?_, ?_⟩, ?_⟩
  · rw [w64 (by omega)]; omega
  · rw [w64 (by omega)]; omega
  · intro p hp
    rw [w64 (by omega), if_neg (by omega)]
  rintro i j o ⟨h1, h2, h3, h4, h5⟩
  refine ⟨fun h => ?_, fun h => ?_⟩
  · simp only [decide_eq_true_eq] at h
    rw [w64 (by omega), w64 (by omega)]
    simp only [List.length_set]
    refine ⟨by omega, by omega, by omega, by omega, by omega, by omega, by omega, by omega, ⟨by omega, by omega, by omega, by omega, fun p hp => ?_⟩, by show (j - 1 + 1 - (i + 1)).toNat < (j + 1 - i).toNat; omega⟩
    rw [getD_set, getD_set]
    simp only [List.length_set]
    have hi := h5 i.toNat (by omega)
    have hj := h5 j.toNat (by omega)
    rw [if_neg (by omega)] at hi hj
    have hp5 := h5 p hp
    by_cases e1 : p = j.toNat
    · rw [if_pos ⟨e1.symm, by omega⟩, if_pos (by omega), hi, e1]
      congr 1; omega
    · rw [if_neg (fun h => e1 h.1.symm)]
      by_cases e2 : p = i.toNat
      · rw [if_pos ⟨e2.symm, by omega⟩, if_pos (by omega), hj, e2]
        congr 1; omega
      · rw [if_neg (fun h => e2 h.1.symm), hp5]
        by_cases e3 : (p : Int) < i ∨ j < (p : Int)
        · rw [if_pos e3, if_pos (by omega)]
        · rw [if_neg e3, if_neg (by omega)]
  · simp only [decide_eq_false_iff_not] at h
    have : o = l.reverse := by
      refine ext_getD (by simpa using h1) fun p hp => ?_
      rw [getD_rev l p (by omega), h5 p (by omega)]
      by_cases e3 : (p : Int) < i ∨ j < (p : Int)
      · rw [if_pos e3]
      · rw [if_neg e3]
        congr 1; omega
    rw [this]; exact hk

theorem limbs0 {n : Nat} (h : (limbs n).length = 0) : n = 0 := limbs_nil.1 (List.length_eq_zero_iff.1 h)

theorem p_nFormat (a : List Int) (K : TV → Prop) (h : cFormat.T [.d (.ints .u32 a)] K) : vc_nFormat a K := by
  obtain ⟨ha, hk⟩ := h
  have hal := few_len ha
  have ha2 := ha.2
  have hfew := dec_few ha.1
  unfold vc_nFormat
  generalize hA : val a = A at *
  refine ⟨⟨ha.1, by omega⟩, fun v o => ∃ V, v = limbs V ∧ V ≤ A ∧ decR A = o ++ decR V, fun v o => val v, ⟨A, rfl, Nat.le_refl _, rfl⟩, ?_⟩
  rintro v o ⟨V, rfl, hV, hd⟩
  have hlen : ∀ {o : List Int} {n : Nat}, decR A = o ++ decR n → o.length ≤ 1000000000 := fun {o n} h => by
    have := congrArg List.length h
    rw [List.length_append] at this
    omega
  have hmem : ∀ {o : List Int} {n : Nat}, decR A = o ++ decR n → ∀ x ∈ o, 48 ≤ x ∧ x < 58 := fun {o n} h x hx => by
    exact decR_mem (n := A) (by rw [h]; simp [hx])
  refine ⟨fun h => ?_, fun h => ?_⟩
  · simp only [decide_eq_true_eq] at h
    have hV0 : V ≠ 0 := by
      rintro rfl
      rw [limbs_zero] at h; simp at h
    have hVl : (limbs V).length ≤ 100000000 := by
      have : (limbs V).length ≤ a.length := by
        rw [limbs_len]
        have := val_lt ha.1
        omega
      omega
    rw [val_limbs]
    refine ⟨⟨⟨limbs_lim _, hVl⟩, by unfold L; omega, by omega⟩, fun r i o => 0 ≤ i ∧ i ≤ 9 ∧ 0 ≤ r ∧ r.toNat < 10 ^ (9 - i.toNat) ∧ decR A = o ++ decR (V / 1000000000 * 10 ^ (9 - i.toNat) + r.toNat), fun r i o => 9 - i.toNat, ⟨by omega, by omega, by omega, ?_, ?_⟩, ?_⟩
    · rw [Int.toNat_natCast]; exact Nat.mod_lt _ (by decide)
    · rw [Int.toNat_natCast, hd]
      congr 2
      have := Nat.div_add_mod V 1000000000
      rw [Nat.mul_comm] at this
      exact this.symm
    rintro r i o' ⟨h1, h2, h3, h4, h5⟩
    have hQ : V / 1000000000 < V := Nat.div_lt_self (by omega) (by decide)
    generalize V / 1000000000 = Q at *
    have step : ¬ (Q = 0 ∧ r = 0) → i < 9 → ((Nat.cast : Nat → Int) (List.length o') + (Nat.cast : Nat → Int) (List.length [IntKind.wrap IntKind.u8 (IntKind.wrap IntKind.u32 ((48 : Int) + Int.tmod r (10 : Int)))])) * (1 : Int) ≤ (70368744177664 : Int) ∧
        (0 ≤ IntKind.wrap IntKind.i64 (i + 1) ∧ IntKind.wrap IntKind.i64 (i + 1) ≤ 9 ∧ 0 ≤ IntKind.wrap IntKind.u32 (Int.tdiv r 10) ∧ (IntKind.wrap IntKind.u32 (Int.tdiv r 10)).toNat < 10 ^ (9 - (IntKind.wrap IntKind.i64 (i + 1)).toNat) ∧
          decR A = o' ++ [IntKind.wrap IntKind.u8 (IntKind.wrap IntKind.u32 ((48 : Int) + Int.tmod r (10 : Int)))] ++ decR (Q * 10 ^ (9 - (IntKind.wrap IntKind.i64 (i + 1)).toNat) + (IntKind.wrap IntKind.u32 (Int.tdiv r 10)).toNat)) ∧
        9 - (IntKind.wrap IntKind.i64 (i + 1)).toNat < 9 - i.toNat := fun hne hi => by
      have hol := hlen h5
      obtain ⟨n, rfl⟩ : ∃ n : Nat, i = n := ⟨i.toNat, by omega⟩
      obtain ⟨R, rfl⟩ : ∃ R : Nat, r = R := ⟨r.toNat, by omega⟩
      have e1 : IntKind.wrap .i64 ((n : Int) + 1) = ((n + 1 : Nat) : Int) := by rw [w64 (by omega)]; omega
      rw [e1]
      simp only [Int.toNat_natCast] at *
      have hp : 10 ^ (9 - n) = 10 * 10 ^ (9 - (n + 1)) := by rw [show 9 - n = (9 - (n + 1)) + 1 by omega, Nat.pow_succ, Nat.mul_comm]
      rw [hp] at h4 h5
      have hle : 10 ^ (9 - (n + 1)) ≤ 10 ^ 9 := Nat.pow_le_pow_right (by decide) (by omega)
      generalize 10 ^ (9 - (n + 1)) = w at *
      have hle' : w ≤ 1000000000 := hle
      rw [Int.tmod_eq_emod_of_nonneg (by omega), Int.tdiv_eq_ediv_of_nonneg (by omega), wu32 (x := 48 + (R : Int) % 10) (by omega), wu8 (by omega), wu32 (x := (R : Int) / 10) (by omega)]
      refine ⟨by simp; omega, ⟨by omega, by omega, by omega, by omega, ?_⟩, by omega⟩
      rw [h5, List.append_assoc]
      congr 1
      have hnz : Q * (10 * w) + R ≠ 0 := fun hz => hne ⟨by
        rcases Nat.eq_zero_or_pos Q with h0 | h0
        · exact h0
        · have : 0 < w := by omega
          have : 0 < Q * (10 * w) := Nat.mul_pos h0 (by omega)
          omega, by omega⟩
      rw [decR_pos hnz]
      have hQw : Q * (10 * w) = 10 * (Q * w) := Nat.mul_left_comm _ _ _
      rw [hQw]
      generalize Q * w = z
      have a1 : ((48 + (10 * z + R) % 10 : Nat) : Int) = 48 + (R : Int) % 10 := by omega
      have a2 : (10 * z + R) / 10 = z + ((R : Int) / 10).toNat := by omega
      rw [a1, a2]; rfl
    refine ⟨fun h => ⟨fun h6 => ⟨fun h7 => ?_, fun h7 => ?_⟩, fun h6 => ?_⟩, fun h => ?_⟩
    · simp only [decide_eq_true_eq] at h6 h7
      have hQ0 : Q = 0 := limbs0 (by omega)
      subst hQ0 h7
      refine ⟨⟨0, rfl, by omega, ?_⟩, ?_⟩
      · simpa using h5
      · simp only [val_limbs]; exact hQ
    · simp only [decide_eq_true_eq] at h
      simp only [decide_eq_false_iff_not] at h7
      exact step (fun hx => h7 hx.2) h
    · simp only [decide_eq_true_eq] at h
      simp only [decide_eq_false_iff_not] at h6
      refine step (fun hx => h6 ?_) h
      rw [hx.1, limbs_zero]; rfl
    · simp only [decide_eq_false_iff_not] at h
      obtain rfl : i = 9 := by omega
      simp only [show Int.toNat 9 = 9 from rfl, Nat.sub_self, Nat.pow_zero, Nat.mul_one] at h4 h5
      refine ⟨⟨Q, rfl, by omega, ?_⟩, ?_⟩
      · rw [h5, show r.toNat = 0 by omega]; rfl
      · simp only [val_limbs]; exact hQ
  · simp only [decide_eq_false_iff_not] at h
    have hV0 : V = 0 := limbs0 (by omega)
    subst hV0
    rw [decR_zero, List.append_nil] at hd
    have hol := hlen (o := o) (n := 0) (by rw [decR_zero, List.append_nil]; exact hd)
    have hm := hmem (o := o) (n := 0) (by rw [decR_zero, List.append_nil]; exact hd)
    refine ⟨fun h => ?_, fun h => ⟨?_, by omega, fun x hx => ?_, ?_⟩⟩
    · simp only [decide_eq_true_eq] at h
      have : o = [] := List.length_eq_zero_iff.1 (by omega)
      rw [this, decR_nil] at hd
      rw [hd] at hk; exact hk
    · simp only [decide_eq_false_iff_not] at h; omega
    · have := hm x (List.mem_reverse.1 hx); omega
    · simp only [decide_eq_false_iff_not] at h
      have hA0 : A ≠ 0 := by
        rintro rfl
        rw [decR_zero] at hd
        subst hd
        simp at h
      unfold dec at hk
      rw [if_neg hA0, hd] at hk; exact hk

theorem p_nDivMod (a b : List Int) (K : TV → Prop) (h : cDivMod1.T [.d (.ints .u32 a), .d (.ints .u32 b)] K) : vc_nDivMod a b K := by
  obtain ⟨⟨ha, hb, hs⟩, hk⟩ := h
  have hal := few_len ha
  have hbl := few_len hb
  have ha2 := ha.2
  have hb2 := hb.2
  unfold vc_nDivMod
  simp only [val_limbs]
  refine ⟨⟨ha.1, by omega⟩, ⟨hb.1, by omega⟩, fun h => ?_, fun h => ?_⟩
  · simp only [decide_eq_true_eq] at h
    have h0 : val b = 0 := limbs0 (by omega)
    simp only [h0, if_true] at hk; exact hk
  · simp only [decide_eq_false_iff_not] at h
    have h0 : val b ≠ 0 := fun e => h (by rw [e, limbs_zero]; rfl)
    simp only [if_neg h0] at hk
    have hb1 : (limbs (val b)).length ≤ 1 := limbs_len.2 (by simpa using hs)
    refine ⟨⟨⟨limbs_lim _, by omega⟩, ⟨limbs_lim _, by omega⟩⟩, fun h1 => ⟨by omega, ?_⟩, fun h1 => ⟨fun h2 => ?_, fun h2 => ?_⟩⟩
    · simp only [decide_eq_true_eq] at h1
      have hlt : val a < val b := by
        unfold cmp at h1
        split at h1
        · assumption
        · split at h1 <;> omega
      rw [Nat.div_eq_of_lt hlt, Nat.mod_eq_of_lt hlt, limbs_zero] at hk; exact hk
    · have hB : ((limbs (val b)).getD 0 0).toNat = val b := by
        have := vt_all (limbs (val b)) hb1
        rw [vt_succ, vt_zero, val_limbs] at this
        simpa using this
      have hB' := limbs_lim (val b) 0
      rw [hB]
      have hm : val a % val b < val b := Nat.mod_lt _ (by omega)
      rw [wu64 (by omega), Int.toNat_natCast]
      simp only [decide_eq_true_eq] at h2
      exact ⟨by omega, by omega, ⟨⟨limbs_lim _, by omega⟩, hB', by omega⟩, ⟨by omega, by omega⟩, hk⟩
    · simp only [decide_eq_false_iff_not] at h2
      omega

theorem dec_a : dec 4294967296 = [52, 50, 57, 52, 57, 54, 55, 50, 57, 54] := by simp [dec, decR_pos, decR_zero]
theorem dec_3 : dec 3 = [51] := by simp [dec, decR_pos, decR_zero]
theorem dec_2 : dec 2 = [50] := by simp [dec, decR_pos, decR_zero]
theorem few_small (x : Nat) (h : x < 4294967296) : Few (limbs x) := ⟨limbs_lim _, by have := limbs_len (n := x) (k := 1); simp at this; have := this.2 h; omega⟩
theorem few1 {x : Int} (h : 0 ≤ x ∧ x < 4294967296) : Few [x] := ⟨.mk h .nil, by simp⟩
theorem few2 {x y : Int} (h : 0 ≤ x ∧ x < 4294967296) (k : 0 ≤ y ∧ y < 4294967296) : Few [x, y] := ⟨.mk h (.mk k .nil), by simp⟩
theorem p_nlawawake (K : TV → Prop) (h : cawake.T [] K) : vc_nlawawake K := by
  obtain ⟨_, hk⟩ := h
  unfold vc_nlawawake
  rw [dec_a, dec_3, dec_2]
  simp only [decide_true, if_neg (show ¬ (5 : Nat) = 0 by decide)]
  have h1 := few_small 3 (by decide)
  have h2 := few_small 2 (by decide)
  refine ⟨⟨few1 (by omega), few1 (by omega), by omega⟩, few2 (by omega) (by omega), fun _ => ⟨fun _ => ⟨h1, fun _ => ⟨h2, hk⟩, fun h => ?_⟩, fun h => ?_⟩, fun h => ?_⟩ <;> cases h

theorem pow_few {a : List Int} (ha : Lim a) (k : Nat) : (limbs (val a ^ k)).length ≤ a.length * k + 1 := by
  rw [limbs_len, Nat.pow_succ, Nat.pow_mul]
  have h1 : val a ^ k ≤ (4294967296 ^ a.length) ^ k := Nat.pow_le_pow_left (Nat.le_of_lt (val_lt ha)) k
  have h2 : 0 < (4294967296 ^ a.length) ^ k := Nat.pow_pos (Nat.pow_pos (by decide))
  omega
theorem p_nlawNaturalPowers (a : List Int) (m n : Int) (K : TV → Prop) (h : cNaturalPowers.T [.d (.ints .u32 a), .d (.int .u8 m), .d (.int .u8 n)] K) : vc_nlawNaturalPowers a m n K := by
  obtain ⟨⟨ha, hm, hn⟩, hk⟩ := h
  unfold vc_nlawNaturalPowers
  refine ⟨fun _ => ⟨trivial, hk⟩, fun h => ?_⟩
  simp only [decide_eq_false_iff_not] at h
  obtain ⟨i, hi, hi'⟩ : ∃ i : Nat, Int.tmod m 12 = i ∧ i < 12 := ⟨(m % 12).toNat, by rw [Int.tmod_eq_emod_of_nonneg hm]; omega, by omega⟩
  obtain ⟨k, hk', hk''⟩ : ∃ i : Nat, Int.tmod n 12 = i ∧ i < 12 := ⟨(n % 12).toNat, by rw [Int.tmod_eq_emod_of_nonneg hn]; omega, by omega⟩
  rw [hi, hk', w64 (x := (i : Int)) (by omega), w64 (x := (k : Int)) (by omega), w64 (x := 65 + (i : Int)) (by omega), w64 (x := -1 - (k : Int)) (by omega), w64 (x := (i : Int) + k) (by omega)]
  have ha' : Lim a ∧ a.length ≤ 1000000 := ⟨ha, by omega⟩
  rw [if_pos (show 0 ≤ (i : Int) ∧ (i : Int) ≤ 64 by omega), if_pos (show 0 ≤ (k : Int) ∧ (k : Int) ≤ 64 by omega), if_pos (show 0 ≤ (i : Int) + k ∧ (i : Int) + k ≤ 64 by omega), if_neg (show ¬ (0 ≤ 65 + (i : Int) ∧ 65 + (i : Int) ≤ 64) by omega), if_neg (show ¬ (0 ≤ -1 - (k : Int) ∧ -1 - (k : Int) ≤ 64) by omega)]
  rw [if_pos (show 0 ≤ (i : Int) ∧ (i : Int) ≤ 64 by omega), if_pos (show 0 ≤ (k : Int) ∧ (k : Int) ≤ 64 by omega), if_pos (show 0 ≤ (i : Int) + k ∧ (i : Int) + k ≤ 64 by omega)]
  have e : ((i : Int) + k).toNat = i + k := by omega
  simp only [e, Int.toNat_natCast, val_limbs, ← Nat.pow_add, decide_true]
  have hpi := pow_few ha i
  have hpk := pow_few ha k
  have hps := pow_few ha (i + k)
  have b1 : a.length * i ≤ 4 * 12 := Nat.mul_le_mul (by omega) (by omega)
  have b2 : a.length * k ≤ 4 * 12 := Nat.mul_le_mul (by omega) (by omega)
  have b3 : a.length * (i + k) ≤ 4 * 24 := Nat.mul_le_mul (by omega) (by omega)
  refine ⟨ha', ha', ha', ha', ha', fun _ => ⟨fun _ => ⟨fun _ => ⟨fun _ => ⟨fun _ => ⟨⟨⟨limbs_lim _, by omega⟩, limbs_lim _, by omega⟩, ⟨by omega, by omega⟩, fun _ => ⟨trivial, hk⟩, fun h => ?_⟩, fun h => ?_⟩, fun h => ?_⟩, fun h => ?_⟩, fun h => ?_⟩, fun h => ?_⟩ <;> cases h
end Nt
namespace Nt
theorem lim_of {l : List Int} (h : ∀ n ∈ l, IntKind.u32.min ≤ n ∧ n ≤ IntKind.u32.max) : Lim l := .of fun x hx => by
  have := h x hx
  have e1 : IntKind.u32.min = 0 := by decide
  have e2 : IntKind.u32.max = 4294967295 := by decide
  omega
end Nt
end

section
/- NtG: proofs of verification conditions: FromInt, Int, Parse, NaturalRing, NaturalInts, NaturalDigits. -/
open Go Go.Vc
namespace Nt

/-- A number of at most k limbs. -/
def Sz (n k : Nat) : Prop := n < 4294967296 ^ k
theorem Sz.of {a : List Int} (h : Lim a) {k : Nat} (hk : a.length ≤ k) : Sz (val a) k := Nat.lt_of_lt_of_le (val_lt h) (Nat.pow_le_pow_right (by decide) hk)
theorem Sz.few {n k : Nat} (h : Sz n k) (hk : k ≤ 100000000) : Few (limbs n) := ⟨limbs_lim n, Nat.le_trans (limbs_len.2 h) hk⟩
theorem Sz.len {n k : Nat} (h : Sz n k) {j : Nat} (hk : k ≤ j) : (limbs n).length ≤ j := Nat.le_trans (limbs_len.2 h) hk
theorem Sz.add {x y j k : Nat} (h : Sz x j) (h2 : Sz y k) : Sz (x + y) (j + k + 1) := by
  unfold Sz at *
  have h3 : 4294967296 ^ j ≤ 4294967296 ^ (j + k) := Nat.pow_le_pow_right (by decide) (by omega)
  have h4 : 4294967296 ^ k ≤ 4294967296 ^ (j + k) := Nat.pow_le_pow_right (by decide) (by omega)
  rw [Nat.pow_succ]
  omega
theorem Sz.mul {x y j k : Nat} (h : Sz x j) (h2 : Sz y k) : Sz (x * y) (j + k) := by
  unfold Sz at *
  rw [Nat.pow_add]
  exact Nat.mul_lt_mul'' h h2
theorem Sz.le {x y k : Nat} (h : Sz y k) (hx : x ≤ y) : Sz x k := Nat.lt_of_le_of_lt hx h

theorem p_nFromInt (n : Int) (K : TV → Prop) (h : cFromInt.T [.d (.int .i64 n)] K) : vc_nFromInt n K := by
  obtain ⟨⟨h1, h2⟩, hk⟩ := h
  unfold vc_nFromInt
  refine ⟨fun h => ?_, fun h => ?_⟩
  · simp only [decide_eq_true_eq] at h
    rw [if_pos h, if_pos h] at hk; exact hk
  · simp only [decide_eq_false_iff_not] at h
    rw [if_neg h, if_neg h] at hk
    rw [wu64 (by omega)]
    exact ⟨⟨by omega, by omega⟩, hk⟩

theorem top_limb {n : Nat} (h : (limbs n).length = 2) : n = ((limbs n).getD 0 0).toNat + 4294967296 * ((limbs n).getD 1 0).toNat := by
  have := vt_all (limbs n) (i := 2) (by omega)
  rw [vt_succ, vt_succ, vt_zero, val_limbs] at this
  omega
theorem p_nInt (a : List Int) (K : TV → Prop) (h : cInt.T [.d (.ints .u32 a)] K) : vc_nInt a K := by
  obtain ⟨ha, hk⟩ := h
  have ha2 := ha.2
  unfold vc_nInt
  simp only [val_limbs]
  have hL := limbs_lim (val a)
  have h1 := @limbs_len (val a) 1
  have h2 := @limbs_len (val a) 2
  have ht := @top_limb (val a)
  have hp : (4294967296 : Nat) ^ 2 = 18446744073709551616 := by decide
  have hp1 : (4294967296 : Nat) ^ 1 = 4294967296 := by decide
  rw [hp] at h2
  rw [hp1] at h1
  refine ⟨⟨ha.1, by omega⟩, fun h => ?_, fun h => ⟨fun h3 => ⟨by omega, ?_, fun h4 => ?_, fun h4 => ?_⟩, fun h3 => ?_⟩⟩
  · simp only [decide_eq_true_eq] at h
    rw [if_neg (by omega), if_neg (by omega)] at hk; exact hk
  · simp only [decide_eq_true_eq] at h3; omega
  · simp only [decide_eq_true_eq] at h3
    have ht := ht (by omega)
    have h5 := hL 1
    have h6 := hL 0
    rw [Int.fdiv_eq_ediv_of_nonneg _ (by omega)] at h4
    have h7 : ¬ ((limbs (val a)).getD 1 0 / 2147483648 = 0) := by simpa using h4
    rw [if_neg (by omega), if_neg (by omega)] at hk; exact hk
  · simp only [decide_eq_true_eq] at h3
    have ht := ht (by omega)
    have h5 := hL 1
    have h6 := hL 0
    rw [Int.fdiv_eq_ediv_of_nonneg _ (by omega)] at h4
    have h7 : ((limbs (val a)).getD 1 0 / 2147483648 = 0) := by simpa using h4
    rw [if_pos (by omega), if_pos (by omega)] at hk
    rw [w64 (by omega)]
    exact ⟨⟨hL, by omega⟩, hk⟩
  · simp only [decide_eq_false_iff_not] at h h3
    have : val a < 4294967296 := h1.1 (by omega)
    rw [if_pos (by omega), if_pos (by omega)] at hk
    rw [w64 (by omega)]
    exact ⟨⟨hL, by omega⟩, hk⟩

theorem pv_take (s : List Int) (i : Nat) (h : i < s.length) : pv 0 (s.take (i + 1)) = pv 0 (s.take i) * 10 + (s.getD i 0 - 48).toNat := by
  rw [List.take_succ_eq_append_getElem h, pv_append]
  simp [pv, List.getD_eq_getElem?_getD, h]
theorem isDec_of {s : List Int} (hn : s ≠ []) (h : ∀ p, p < s.length → 48 ≤ s.getD p 0 ∧ s.getD p 0 ≤ 57) : isDec s = true := by
  unfold isDec
  rw [Bool.and_eq_true, decide_eq_true_eq, List.all_eq_true]
  refine ⟨hn, fun x hx => ?_⟩
  obtain ⟨i, hi, rfl⟩ := List.mem_iff_getElem.1 hx
  have := h i hi
  simpa [List.getD_eq_getElem?_getD, hi] using this
theorem isDec_get {s : List Int} (h : isDec s = true) (p : Nat) (hp : p < s.length) : 48 ≤ s.getD p 0 ∧ s.getD p 0 ≤ 57 := by
  unfold isDec at h
  rw [Bool.and_eq_true, decide_eq_true_eq, List.all_eq_true] at h
  have := h.2 s[p] (List.getElem_mem hp)
  simpa [List.getD_eq_getElem?_getD, hp] using this
theorem pv_lt (s : List Int) (h : ∀ p, p < s.length → 48 ≤ s.getD p 0 ∧ s.getD p 0 ≤ 57) : ∀ i, i ≤ s.length → pv 0 (s.take i) < 10 ^ i
  | 0, _ => by simp [pv]
  | i + 1, hi => by
    have ih := pv_lt s h i (by omega)
    have := h i (by omega)
    rw [pv_take s i (by omega), Nat.pow_succ]
    omega

theorem p_nParse (s : List Int) (K : TV → Prop) (h : cParse.T [.d (.str s)] K) : vc_nParse s K := by
  obtain ⟨hl, hk⟩ := h
  unfold vc_nParse
  have bad : isDec s = false → K (.tup [.d (.ints .u32 []), .d (.int .i64 4)]) := fun h => by
    unfold parseE parseV at hk
    rw [h] at hk
    simpa using hk
  refine ⟨fun h => ?_, fun h => ?_⟩
  · simp only [decide_eq_true_eq] at h
    subst h
    exact bad rfl
  · simp only [decide_eq_false_iff_not] at h
    refine ⟨fun i => 0 ≤ i ∧ i ≤ s.length ∧ ∀ p : Nat, p < i.toNat → 48 ≤ s.getD p 0 ∧ s.getD p 0 ≤ 57, fun i => s.length - i.toNat, ⟨by omega, by omega, fun p hp => by simp at hp⟩, ?_⟩
    rintro i ⟨h1, h2, h3⟩
    have no : i < s.length → ¬ (48 ≤ s.getD i.toNat 0 ∧ s.getD i.toNat 0 ≤ 57) → isDec s = false := fun hi hx => by
      cases hd : isDec s with
      | false => rfl
      | true => exact absurd (isDec_get hd i.toNat (by omega)) hx
    refine ⟨fun h4 => ?_, fun h4 => ?_⟩
    · simp only [decide_eq_true_eq] at h4
      refine ⟨by omega, by omega, fun h5 => ⟨by omega, by omega, fun h6 => ?_, fun h6 => ?_⟩, fun h5 => ?_⟩
      · simp only [decide_eq_true_eq] at h5 h6
        rw [w64 (by omega)]
        refine ⟨⟨by omega, by omega, fun p hp => ?_⟩, by show s.length - (i + 1).toNat < s.length - i.toNat; omega⟩
        by_cases e : p = i.toNat
        · subst e; exact ⟨h5, h6⟩
        · exact h3 p (by omega)
      · simp only [decide_eq_false_iff_not] at h6
        exact bad (no h4 fun hx => h6 hx.2)
      · simp only [decide_eq_false_iff_not] at h5
        exact bad (no h4 fun hx => h5 hx.1)
    · simp only [decide_eq_false_iff_not] at h4
      have hdig : ∀ p : Nat, p < s.length → 48 ≤ s.getD p 0 ∧ s.getD p 0 ≤ 57 := fun p hp => h3 p (by omega)
      have hd := isDec_of h hdig
      unfold parseE parseV at hk
      rw [hd] at hk
      simp only [if_true, true_and] at hk
      refine ⟨fun h5 => ?_, fun h5 => ?_⟩
      · simp only [decide_eq_true_eq] at h5
        rw [if_neg (by omega), if_pos (by omega)] at hk; exact hk
      · simp only [decide_eq_false_iff_not] at h5
        rw [if_pos (by omega), if_neg (by omega)] at hk
        refine ⟨fun v i => 0 ≤ i ∧ i ≤ s.length ∧ v = limbs (pv 0 (s.take i.toNat)), fun v i => s.length - i.toNat, ⟨by omega, by omega, by simp [pv, limbs_zero]⟩, ?_⟩
        rintro v i ⟨h6, h7, rfl⟩
        refine ⟨fun h8 => ?_, fun h8 => ?_⟩
        · simp only [decide_eq_true_eq] at h8
          obtain ⟨n, rfl⟩ : ∃ n : Nat, i = n := ⟨i.toNat, by omega⟩
          have hx := hdig n (by omega)
          have e1 : IntKind.wrap .i64 ((n : Int) + 1) = ((n + 1 : Nat) : Int) := by rw [w64 (by omega)]; omega
          rw [e1]
          simp only [Int.toNat_natCast, val_limbs]
          rw [wu8 (by omega), wu32 (by omega)]
          have hlt := pv_lt s hdig n (by omega)
          have hsz : Sz (pv 0 (s.take n)) 7 := Nat.lt_of_lt_of_le hlt (Nat.le_trans (Nat.pow_le_pow_right (by decide) (show n ≤ 60 by omega)) (by decide))
          have h10 : Sz 10 1 := by unfold Sz; decide
          have hval : val [s.getD n 0 - 48] = (s.getD n 0 - 48).toNat := by simp [val]
          rw [hval, ← pv_take s n (by omega)]
          exact ⟨⟨hsz.few (by decide), few1 (by omega)⟩, by omega, by omega, ⟨(hsz.mul h10).few (by decide), few1 (by omega)⟩, ⟨by omega, by omega, rfl⟩, by omega⟩
        · simp only [decide_eq_false_iff_not] at h8
          obtain rfl : i = s.length := by omega
          rw [Int.toNat_natCast, List.take_length]; exact hk

theorem p_nlawshort (a : List Int) (K : TV → Prop) (h : clawshort.T [.d (.ints .u32 a)] K) : vc_nlawshort a K := by
  obtain ⟨_, hk⟩ := h
  unfold vc_nlawshort
  have : decide ((Nat.cast : Nat → Int) a.length ≤ 24) = decide (a.length ≤ 24) := by rw [decide_eq_decide]; omega
  rw [this]; exact hk

theorem p_nlawNaturalRing (a b c : List Int) (K : TV → Prop) (h : cNaturalRing.T [.d (.ints .u32 a), .d (.ints .u32 b), .d (.ints .u32 c)] K) : vc_nlawNaturalRing a b c K := by
  obtain ⟨⟨ha, hb, hc⟩, hk⟩ := h
  unfold vc_nlawNaturalRing
  refine ⟨trivial, fun _ => ⟨trivial, hk⟩, fun h1 => ⟨trivial, fun _ => ⟨trivial, hk⟩, fun h2 => ⟨trivial, fun _ => ⟨trivial, hk⟩, fun h3 => ?_⟩⟩⟩
  have h1 : a.length ≤ 24 := by simpa using h1
  have h2 : b.length ≤ 24 := by simpa using h2
  have h3 : c.length ≤ 24 := by simpa using h3
  have fa : Few a := ⟨ha, by omega⟩
  have fb : Few b := ⟨hb, by omega⟩
  have fc : Few c := ⟨hc, by omega⟩
  have sa : Sz (val a) 24 := .of ha h1
  have sb : Sz (val b) 24 := .of hb h2
  have sc : Sz (val c) 24 := .of hc h3
  have n1 : ¬ (val a + val b < val b) := by omega
  simp only [val_limbs, if_neg n1, Nat.add_sub_cancel, Nat.add_comm (val b) (val a), Nat.mul_comm (val b) (val a), Nat.add_assoc, Nat.mul_assoc, Nat.mul_add, decide_true]
  repeat' first
    | exact hk
    | exact trivial
    | assumption
    | exact Sz.few (by repeat' first | exact sa | exact sb | exact sc | apply Sz.add | apply Sz.mul) (by decide)
    | exact Sz.len (by repeat' first | exact sa | exact sb | exact sc | apply Sz.add | apply Sz.mul) (by decide)
    | (intro h; cases h; done)
    | intro _
    | refine And.intro ?_ ?_

theorem and64 (p k : Nat) (hp : p < 9223372036854775808) (hk : 2 ^ k ≤ 4611686018427387904) : bitop .and .i64 (p : Int) ((2 ^ k - 1 : Nat) : Int) = ((p % 2 ^ k : Nat) : Int) := by
  have e1 : ((BitVec.ofInt 64 (p : Int)) &&& (BitVec.ofInt 64 ((2 ^ k - 1 : Nat) : Int))).toNat = p % 2 ^ k := by
    rw [BitVec.toNat_and, BitVec.ofInt_natCast, BitVec.ofInt_natCast, BitVec.toNat_ofNat, BitVec.toNat_ofNat, Nat.mod_eq_of_lt (by omega), Nat.mod_eq_of_lt (by omega), Nat.and_two_pow_sub_one_eq_mod]
  show IntKind.wrap .i64 _ = _
  have e2 : ((BitVec.ofInt (IntKind.i64).bits (p : Int)) &&& (BitVec.ofInt (IntKind.i64).bits ((2 ^ k - 1 : Nat) : Int))).toNat = p % 2 ^ k := e1
  have : p % 2 ^ k < 2 ^ k := Nat.mod_lt _ (Nat.two_pow_pos k)
  rw [e2, w64 (by omega)]
theorem val_small {n : Nat} (h : n < 9223372036854775808) : Few (limbs n) := by
  refine Sz.few (k := 2) ?_ (by decide)
  unfold Sz
  have hp : (4294967296 : Nat) ^ 2 = 18446744073709551616 := by decide
  omega
theorem p_nlawNaturalInts (m n : Int) (K : TV → Prop) (h : cNaturalInts.T [.d (.int .i64 m), .d (.int .i64 n)] K) : vc_nlawNaturalInts m n K := by
  obtain ⟨⟨hm1, hm2, hn1, hn2⟩, hk⟩ := h
  unfold vc_nlawNaturalInts
  refine ⟨⟨hm1, hm2⟩, ⟨hn1, hn2⟩, fun hm => ?_, fun hm => ⟨fun hn => ?_, fun hn => ?_⟩⟩
  · have e : ∀ x : Int, (decide ((if x < (0 : Int) then (1 : Int) else (0 : Int)) = (1 : Int)) == decide (x < (0 : Int))) = true := fun x => by
      by_cases h : x < 0 <;> simp [h]
    simp only [e]
    refine ⟨fun _ => ⟨fun _ => ⟨trivial, hk⟩, fun h => ?_⟩, fun h => ?_⟩ <;> cases h
  · have e : ∀ x : Int, (decide ((if x < (0 : Int) then (1 : Int) else (0 : Int)) = (1 : Int)) == decide (x < (0 : Int))) = true := fun x => by
      by_cases h : x < 0 <;> simp [h]
    simp only [e]
    refine ⟨fun _ => ⟨fun _ => ⟨trivial, hk⟩, fun h => ?_⟩, fun h => ?_⟩ <;> cases h
  · simp only [decide_eq_false_iff_not] at hm hn
    obtain ⟨p, rfl⟩ : ∃ p : Nat, m = p := ⟨m.toNat, by omega⟩
    obtain ⟨q, rfl⟩ : ∃ p : Nat, n = p := ⟨n.toNat, by omega⟩
    have hp : p < 9223372036854775808 := by omega
    have hq : q < 9223372036854775808 := by omega
    have ep : bitop .and .i64 (p : Int) 2147483647 = ((p % 2147483648 : Nat) : Int) := and64 p 31 hp (by decide)
    have eq : bitop .and .i64 (q : Int) 1073741823 = ((q % 1073741824 : Nat) : Int) := and64 q 30 hq (by decide)
    have hp' : p % 2147483648 < 2147483648 := Nat.mod_lt _ (by decide)
    have hq' : q % 1073741824 < 1073741824 := Nat.mod_lt _ (by decide)
    rw [ep, eq]
    generalize p % 2147483648 = p' at *
    generalize q % 1073741824 = q' at *
    have c1 : ¬ ((p : Int) < 0) := by omega
    have c2 : ¬ ((q : Int) < 0) := by omega
    have c3 : ¬ ((p' : Int) < 0) := by omega
    have c4 : ¬ ((q' : Int) < 0) := by omega
    have hmul : p' * q' < 9223372036854775808 := Nat.lt_of_lt_of_le (Nat.mul_lt_mul'' hp' hq') (by decide)
    have hadd : p' + q' < 9223372036854775808 := by omega
    have fp := val_small hp
    have fq := val_small hq
    have fp' := val_small (n := p') (by omega)
    have fq' := val_small (n := q') (by omega)
    have fa := val_small hadd
    have fm := val_small hmul
    have w1 : IntKind.wrap .i64 ((p' : Int) + (q' : Int)) = ((p' + q' : Nat) : Int) := by rw [w64 (by omega)]; omega
    have w2 : IntKind.wrap .i64 ((p' : Int) * (q' : Int)) = ((p' * q' : Nat) : Int) := by rw [← Int.natCast_mul, w64 (by omega)]
    simp only [if_neg c1, if_neg c2, if_neg c3, if_neg c4, Int.toNat_natCast, val_limbs, if_pos hp, if_pos hadd, if_pos hmul, w1, w2, decide_true, Bool.not_true]
    refine ⟨fp, fun v => v = cmp p q, ⟨fun h => ?_, fun h => ⟨fun h2 => ?_, fun h2 => ?_⟩⟩, ?_⟩
    · simp only [decide_eq_true_eq] at h
      exact (cmp_lt (by omega)).symm
    · simp only [decide_eq_true_eq] at h2
      exact (cmp_gt (by omega)).symm
    · simp only [decide_eq_false_iff_not] at h h2
      obtain rfl : p = q := by omega
      exact (cmp_eq p).symm
    rintro v rfl
    simp only [decide_true, Bool.not_true]
    repeat' first
      | with_reducible exact hk
      | with_reducible exact trivial
      | with_reducible assumption
      | (intro h; cases h; done)
      | intro _
      | refine And.intro ?_ ?_
      | omega

theorem pv_zeros (l : List Int) : ∀ i, pv 0 (List.replicate i 48 ++ l) = pv 0 l
  | 0 => rfl
  | i + 1 => pv_zeros l i
theorem isDec_zeros {l : List Int} (h : isDec l = true) : ∀ i, isDec (List.replicate i 48 ++ l) = true
  | 0 => h
  | i + 1 => isDec_zero (isDec_zeros h i)
theorem p_nlawNaturalDigits (a : List Int) (z : Int) (K : TV → Prop) (h : cNaturalDigits.T [.d (.ints .u32 a), .d (.int .u8 z)] K) : vc_nlawNaturalDigits a z K := by
  obtain ⟨⟨ha, hz1, hz2⟩, hk⟩ := h
  unfold vc_nlawNaturalDigits
  refine ⟨trivial, fun _ => ⟨trivial, hk⟩, fun h1 => ?_⟩
  have h1 : a.length ≤ 24 := by simpa using h1
  have fa : Few a := ⟨ha, by omega⟩
  have hne := dec_ne (val a)
  have hlen := dec_few ha
  have hdl : (dec (val a)).length ≤ 241 := by
    unfold dec
    split
    · simp
    · rw [List.length_reverse]; omega
  have hd0 : 0 < (dec (val a)).length := List.length_pos_iff.2 hne
  have htm : IntKind.wrap .i64 (Int.tmod z 4) = z % 4 := by rw [Int.tmod_eq_emod_of_nonneg hz1, w64 (by omega)]
  rw [htm]
  have hll := few_len fa
  have hdec := isDec_dec (val a)
  have hpv := pv_dec (val a)
  have hhead := dec_head (val a)
  refine ⟨fa, fun h => ?_, fun _ => ⟨by omega, by omega, fun h2 => ⟨fun h3 => ?_, fun _ => ?_⟩, fun h2 => ?_⟩⟩
  · simp only [decide_eq_true_eq] at h; exact absurd h hne
  · simp only [decide_eq_true_eq] at h2
    rw [hhead h2] at h3; simp at h3
  all_goals
    refine ⟨fun v i => 0 ≤ i ∧ i ≤ z % 4 ∧ v = List.replicate i.toNat 48 ++ dec (val a), fun v i => 4 - i.toNat, ⟨by omega, by omega, rfl⟩, ?_⟩
    rintro v i ⟨h3, h4, rfl⟩
    have hvl : (List.replicate i.toNat (48 : Int) ++ dec (val a)).length ≤ 245 := by simp; omega
    refine ⟨fun h5 => ?_, fun h5 => ?_⟩
    · simp only [decide_eq_true_eq] at h5
      rw [w64 (by omega)]
      refine ⟨by omega, ⟨by omega, by omega, ?_⟩, by show 4 - (i + 1).toNat < 4 - i.toNat; omega⟩
      rw [show (i + 1).toNat = i.toNat + 1 by omega]; rfl
    · have hd := isDec_zeros hdec i.toNat
      have hp := pv_zeros (dec (val a)) i.toNat
      rw [hpv] at hp
      generalize List.replicate i.toNat (48 : Int) ++ dec (val a) = v at *
      unfold parseE parseV
      rw [hd, hp]
      simp only [if_true, true_and]
      refine ⟨by omega, fun h6 => ?_, fun h6 => ?_⟩
      · simp only [decide_eq_true_eq] at h6
        rw [if_pos (by omega), if_neg (by omega)]
        refine ⟨fun _ => ⟨fun _ => hk, fun h => ?_⟩, fun h => ?_⟩
        · simp at h
        · simp at h
      · simp only [decide_eq_false_iff_not] at h6
        rw [if_neg (by omega), if_pos (by omega)]
        refine ⟨fun _ => ⟨fa, ⟨by omega, by omega⟩, fun _ => hk, fun h => ?_⟩, fun h => ?_⟩
        · simp at h
        · simp at h
end Nt
namespace Nt
theorem i64_of {n : Int} (h : (Lit.int .i64 n).wf = true) : -9223372036854775808 ≤ n ∧ n < 9223372036854775808 := by
  have h := int_wf h
  have e1 : IntKind.i64.min = -9223372036854775808 := by decide
  have e2 : IntKind.i64.max = 9223372036854775807 := by decide
  omega
theorem u8_of {n : Int} (h : (Lit.int .u8 n).wf = true) : 0 ≤ n ∧ n < 256 := by
  have h := int_wf h
  have e1 : IntKind.u8.min = 0 := by decide
  have e2 : IntKind.u8.max = 255 := by decide
  omega
end Nt
end
