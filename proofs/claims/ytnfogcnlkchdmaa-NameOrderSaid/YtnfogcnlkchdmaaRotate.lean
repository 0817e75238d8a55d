/-
  slices.rotateCmpFunc at edges walked.
-/
import Derived.Test.YtnfogcnlkchdmaaSwap
namespace Go.Proofs.Ytnfogcnlkchdmaa
open Go Go.RowKit
attribute [local go_sem] Heavy heavyUpon

theorem swN_two {P A M B Q : List E3} {a b n : Nat} (ha : a = P.length) (hb : b = P.length + A.length + M.length) (hn : n = A.length) (h : A.length = B.length) : swN (P ++ A ++ M ++ B ++ Q) a b n = P ++ B ++ M ++ A ++ Q := by
  subst ha hb hn
  have := swN_blocks P M Q [] A B [] h rfl
  simpa using this

/-- What the rotation keeps: the rows ahead, two parts yet to change places, the rows behind. -/
def Rot (W : World) (g mm i j m : Nat) (T : List E3) : Prop :=
  ∃ P A B Q : List E3, P.length = mm - i ∧ A.length = i ∧ B.length = j ∧ (P ++ A ++ B ++ Q).length = m ∧ Hd W g (P ++ A ++ B ++ Q) ∧ P ++ B ++ A ++ Q = T

set_option maxHeartbeats 1600000 in
theorem rotate_any (P X Y Q : List E3) (g m c a mm b : Nat) (F : Value) (w : World) (hH : Hd w g (P ++ X ++ Y ++ Q)) (hm : (P ++ X ++ Y ++ Q).length = m) (ha : P.length = a) (hx : P.length + X.length = mm) (hb : P.length + X.length + Y.length = b)
    (hX : 0 < X.length) (hY : 0 < Y.length) (hmm : m ≤ 10000) :
    Calls Try.prog 24 #[.slice (some ⟨g, 0, none⟩) m c, .int .i64 a, .int .i64 mm, .int .i64 b, F] w fun e w' => e = .returned (.tuple #[]) ∧ Hd w' g (P ++ Y ++ X ++ Q) ∧ Below g w w' := by
  have hbm : b ≤ m := by simp only [List.length_append] at hm; omega
  have ham : a < mm := by omega
  have hmb : mm < b := by omega
  have HR : Hid (Rot w g mm (mm - a) (b - mm) m (P ++ Y ++ X ++ Q)) := ⟨P, X, Y, Q, by omega, by omega, by omega, hm, hH, rfl⟩
  generalize P ++ Y ++ X ++ Q = T at *
  have e1 : ((mm - a : Nat) : Int) = (mm : Int) - a := by omega
  have e2 : ((b - mm : Nat) : Int) = (b : Int) - mm := by omega
  have HE := hide (And.intro e1 e2)
  clear hm ha hx hb hX hY hH e1 e2
  go_enter Try.func24, Try.ntmps24
  go_wp2_with (fail)
  go_loopw [10, 11] (fun u v wr => ∃ i j : Nat, u = .int .i64 i ∧ v = .int .i64 j ∧ 0 < i ∧ 0 < j ∧ i ≤ mm ∧ mm + j ≤ m ∧ Hid (Rot wr g mm i j m T) ∧ Below g w wr) (fun u v _ => (intOf u).toNat + (intOf v).toNat)
  case atStart => exact ⟨mm - a, b - mm, by rw [HE.out.1], by rw [HE.out.2], by omega, by omega, by omega, by omega, HR, Below.refl _ _⟩
  case round =>
    obtain ⟨i, j, rfl, rfl, hi, hj, him, hjm, HT, hbr⟩ := hrel
    obtain ⟨P, A, B, Q, hP, hA, hB, hl, hH, hT⟩ := HT.out
    have hll := hl
    simp only [List.length_append] at hll
    rcases Nat.lt_trichotomy i j with hij | hij | hij
    · -- the left part is the lesser one
      have hq : swN (P ++ A ++ B ++ Q) (mm - i) (mm + j - i) i = P ++ B.drop (j - i) ++ B.take (j - i) ++ A ++ Q := by
        have h1 : P ++ A ++ B ++ Q = P ++ A ++ B.take (j - i) ++ B.drop (j - i) ++ Q := by simp
        rw [h1]
        exact swN_two hP.symm (by simp; omega) hA.symm (by simp; omega)
      have QS := fun W (h : Hd W g (P ++ A ++ B ++ Q)) => swap_any _ g m c (mm - i) (mm + j - i) i F W h hl (by omega) (by omega) hmm
      rw [hq, show ((mm - i : Nat) : Int) = (mm : Int) - i by omega, show ((mm + j - i : Nat) : Int) = (mm : Int) + j - i by omega] at QS
      have HN : ∀ W, Hd W g (P ++ B.drop (j - i) ++ B.take (j - i) ++ A ++ Q) → Hid (Rot W g mm i (j - i) m T) := fun W h =>
        ⟨P, B.drop (j - i), B.take (j - i), A ++ Q, hP, by simp; omega, by simp; omega, by simp; omega, by simpa using h, by rw [← hT]; simp⟩
      have Q1 := hide QS
      have N1 := hide HN
      have z1 : (i : Int) < j := by omega
      have z2 : ¬ (i : Int) = j := by omega
      have z3 : ¬ (j : Int) < i := by omega
      have HI := hide hH
      clear QS hq hT HT hl hll hP hA hB HN hH HR HE
      go_wp2_with (fail)
      refine (Q1.out _ HI.out).mono ?_
      rintro e w1 ⟨rfl, h1, b1⟩
      have N2 := N1.out _ h1
      have b2 := hbr.trans b1
      clear h1 b1
      go_wp2_with (fail)
      exact ⟨⟨i, j - i, rfl, by congr 1; omega, hi, by omega, him, by omega, N2, b2⟩, by simp [intOf]; omega⟩
    · subst hij
      have hq : swN (P ++ A ++ B ++ Q) (mm - i) mm i = P ++ B ++ A ++ Q := by
        have := @swN_two P A [] B Q (mm - i) mm i hP.symm (by simp; omega) hA.symm (by omega)
        simpa using this
      have QS := fun W (h : Hd W g (P ++ A ++ B ++ Q)) => swap_any _ g m c (mm - i) mm i F W h hl (by omega) (by omega) hmm
      rw [hq, hT, show ((mm - i : Nat) : Int) = (mm : Int) - i by omega] at QS
      have Q1 := hide QS
      have HI := hide hH
      clear QS hq hT HT hl hll hP hA hB hH HR HE
      go_wp2_with (fail)
      refine (Q1.out _ HI.out).mono ?_
      rintro e w1 ⟨rfl, h1, b1⟩
      go_wp2_with (fail)
      go_end0
      exact ⟨rfl, h1, hbr.trans b1⟩
    · have hq : swN (P ++ A ++ B ++ Q) (mm - i) mm j = P ++ B ++ A.drop j ++ A.take j ++ Q := by
        have h1 : P ++ A ++ B ++ Q = P ++ A.take j ++ A.drop j ++ B ++ Q := by simp
        rw [h1]
        exact swN_two hP.symm (by simp; omega) (by simp; omega) (by simp; omega)
      have QS := fun W (h : Hd W g (P ++ A ++ B ++ Q)) => swap_any _ g m c (mm - i) mm j F W h hl (by omega) (by omega) hmm
      rw [hq, show ((mm - i : Nat) : Int) = (mm : Int) - i by omega] at QS
      have HN : ∀ W, Hd W g (P ++ B ++ A.drop j ++ A.take j ++ Q) → Hid (Rot W g mm (i - j) j m T) := fun W h =>
        ⟨P ++ B, A.drop j, A.take j, Q, by simp; omega, by simp; omega, by simp; omega, by simp; omega, h, by rw [← hT]; simp⟩
      have Q1 := hide QS
      have N1 := hide HN
      have z1 : (j : Int) < i := by omega
      have z2 : ¬ (i : Int) = j := by omega
      have HI := hide hH
      clear QS hq hT HT hl hll hP hA hB HN hH HR HE
      go_wp2_with (fail)
      refine (Q1.out _ HI.out).mono ?_
      rintro e w1 ⟨rfl, h1, b1⟩
      have N2 := N1.out _ h1
      have b2 := hbr.trans b1
      clear h1 b1
      go_wp2_with (fail)
      exact ⟨⟨i - j, j, by congr 1; omega, rfl, by omega, hj, by omega, hjm, N2, b2⟩, by simp [intOf]; omega⟩
end Go.Proofs.Ytnfogcnlkchdmaa
