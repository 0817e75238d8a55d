/-
  slices.swapRangeCmpFunc at edges walked.
-/
import Derived.Test.YtnfogcnlkchdmaaHd
import Derived.Test.YtnfogcnlkchdmaaSort0
import Derived.Test.YtnfogcnlkchdmaaApp
import Derived.Laws.OwnMore
import Derived.BigRegion
namespace Go.Proofs.Ytnfogcnlkchdmaa
open Go Go.RowKit
attribute [local go_sem] Heavy heavyUpon

theorem set_mid {α : Type} {X Y : List α} {u : α} (v : α) {i : Nat} (hi : i = X.length) : (X ++ u :: Y).set i v = X ++ v :: Y := by
  subst hi; simp
theorem getD_mid {α : Type} {X Y : List α} {u : α} (d : α) {i : Nat} (hi : i = X.length) : (X ++ u :: Y).getD i d = u := by
  subst hi; simp [List.getD]

def sw1 (l : List E3) (i j : Nat) : List E3 := (l.set i (l.getD j ez)).set j (l.getD i ez)
theorem sw1_len (l : List E3) (i j : Nat) : (sw1 l i j).length = l.length := by simp [sw1]
/-- The rows that the swap has turned. -/
def swN (l : List E3) (a b : Nat) : Nat → List E3
  | 0 => l
  | k + 1 => sw1 (swN l a b k) (a + k) (b + k)
theorem swN_len (l : List E3) (a b k : Nat) : (swN l a b k).length = l.length := by
  induction k with
  | zero => rfl
  | succ k ih => rw [swN, sw1_len, ih]
theorem sw1_mid {X Y Z : List E3} {x y : E3} {i j : Nat} (hi : i = X.length) (hj : j = X.length + 1 + Y.length) : sw1 (X ++ x :: (Y ++ y :: Z)) i j = X ++ y :: (Y ++ x :: Z) := by
  unfold sw1
  have e : ∀ u : E3, X ++ u :: (Y ++ y :: Z) = (X ++ u :: Y) ++ y :: Z := by intro u; simp
  rw [getD_mid ez hi, set_mid _ hi]
  have h2 : (X ++ x :: (Y ++ y :: Z)).getD j ez = y := by rw [e x]; exact getD_mid ez (by simp [hj]; omega)
  rw [h2, e y, set_mid x (by simp [hj]; omega)]
  simp
theorem swN_blocks (P M Q : List E3) : ∀ (A2 A1 B1 B2 : List E3), A1.length = B1.length → A2.length = B2.length →
    swN (P ++ (A1 ++ A2) ++ M ++ (B1 ++ B2) ++ Q) P.length (P.length + (A1.length + A2.length) + M.length) A1.length = P ++ (B1 ++ A2) ++ M ++ (A1 ++ B2) ++ Q := by
  suffices h : ∀ (k : Nat) (A B : List E3), A.length = B.length → k ≤ A.length →
      swN (P ++ A ++ M ++ B ++ Q) P.length (P.length + A.length + M.length) k = P ++ (B.take k ++ A.drop k) ++ M ++ (A.take k ++ B.drop k) ++ Q by
    intro A2 A1 B1 B2 h1 h2
    have := h A1.length (A1 ++ A2) (B1 ++ B2) (by simp [h1, h2]) (by simp)
    rw [List.length_append] at this
    rw [this]
    simp [h1]
  intro k
  induction k with
  | zero => intro A B _ _; simp [swN]
  | succ k ih =>
    intro A B hl hk
    rw [swN, ih A B hl (by omega)]
    have ea : A.drop k = A[k] :: A.drop (k + 1) := List.drop_eq_getElem_cons (by omega)
    have eb : B.drop k = B[k] :: B.drop (k + 1) := List.drop_eq_getElem_cons (by omega)
    have ta : A.take (k + 1) = A.take k ++ [A[k]] := (List.take_append_getElem (by omega)).symm
    have tb : B.take (k + 1) = B.take k ++ [B[k]] := (List.take_append_getElem (by omega)).symm
    rw [ea, eb, ta, tb]
    generalize A[k] = x
    generalize B[k] = y
    have := @sw1_mid (P ++ B.take k) (A.drop (k + 1) ++ M ++ A.take k) (B.drop (k + 1) ++ Q) x y (P.length + k) (P.length + A.length + M.length + k) (by simp; omega) (by simp; omega)
    simp only [List.append_assoc, List.cons_append, List.nil_append] at this ⊢
    exact this

set_option maxHeartbeats 1600000 in
theorem swap_any (l : List E3) (g m c a b n : Nat) (F : Value) (w : World) (hH : Hd w g l) (hm : l.length = m) (ha : a + n ≤ b) (hb : b + n ≤ m) (hmm : m ≤ 10000) :
    Calls Try.prog 25 #[.slice (some ⟨g, 0, none⟩) m c, .int .i64 a, .int .i64 b, .int .i64 n, F] w fun e w' => e = .returned (.tuple #[]) ∧ Hd w' g (swN l a b n) ∧ Below g w w' := by
  have HM := hide hm
  clear hm
  go_enter Try.func25, Try.ntmps25
  go_wp2_with (fail)
  go_loopw [10] (fun i wr => ∃ k : Nat, k ≤ n ∧ i = .int .i64 k ∧ Hd wr g (swN l a b k) ∧ Below g w wr) (fun i _ => n - (intOf i).toNat)
  case atStart => exact ⟨0, Nat.zero_le _, rfl, hH, Below.refl _ _⟩
  case round =>
    obtain ⟨k, hk, rfl, hh, hbr⟩ := hrel
    by_cases hlt : k < n
    · have HL := hide (swN_len l a b k)
      have hx : a + k < (swN l a b k).length := by rw [HL.out, HM.out]; omega
      have hy : b + k < (swN l a b k).length := by rw [HL.out, HM.out]; omega
      have HS := hide (show swN l a b (k + 1) = sw1 (swN l a b k) (a + k) (b + k) from rfl)
      unfold sw1 at HS
      rw [List.getD, List.getD, List.getElem?_eq_getElem hx, List.getElem?_eq_getElem hy] at HS
      generalize swN l a b k = Y at *
      obtain ⟨x, ex⟩ : ∃ x, Y[a + k] = x := ⟨_, rfl⟩
      obtain ⟨y, ey⟩ : ∃ y, Y[b + k] = y := ⟨_, rfl⟩
      rw [ex, ey] at HS
      obtain ⟨x0, x1, x2⟩ := x
      obtain ⟨y0, y1, y2⟩ := y
      obtain ⟨p0, p1, p2, f0, f1, f2⟩ := hh.drew.get hx ex
      obtain ⟨p0', p1', p2', f0', f1', f2'⟩ := hh.get hx ex
      obtain ⟨q0, q1, q2, z0, z1, z2⟩ := hh.drew.get hy ey
      obtain ⟨q0', q1', q2', z0', z1', z2'⟩ := hh.get hy ey
      have HH : Hid (Hd (((((((wr.setCell ⟨g, (a + k) * 3, none⟩ (.int .i64 y0)).setCell ⟨g, (a + k) * 3 + 1, none⟩ (.int .i64 y1)).setCell ⟨g, (a + k) * 3 + 2, none⟩ (.int .i64 y2)).setCell ⟨g, (b + k) * 3, none⟩ (.int .i64 x0)).setCell ⟨g, (b + k) * 3 + 1, none⟩ (.int .i64 x1)).setCell ⟨g, (b + k) * 3 + 2, none⟩ (.int .i64 x2)).drew) g (swN l a b (k + 1))) := by
        rw [HS.out]
        exact ((hh.set (a + k) y0 y1 y2).set (b + k) x0 x1 x2).drew
      have HB : Hid (Below g w (((((((wr.setCell ⟨g, (a + k) * 3, none⟩ (.int .i64 y0)).setCell ⟨g, (a + k) * 3 + 1, none⟩ (.int .i64 y1)).setCell ⟨g, (a + k) * 3 + 2, none⟩ (.int .i64 y2)).setCell ⟨g, (b + k) * 3, none⟩ (.int .i64 x0)).setCell ⟨g, (b + k) * 3 + 1, none⟩ (.int .i64 x1)).setCell ⟨g, (b + k) * 3 + 2, none⟩ (.int .i64 x2)).drew)) := by
        exact ((((((hbr.setCell (Nat.le_refl _) _).setCell (Nat.le_refl _) _).setCell (Nat.le_refl _) _).setCell (Nat.le_refl _) _).setCell (Nat.le_refl _) _).setCell (Nat.le_refl _) _).drew
      clear hh hbr ex ey
      go_wp2_with (fail)
      go_big_region
      all_goals go_wp2
      exact ⟨⟨k + 1, by omega, by go_num, HH.out, HB.out⟩, by simp [intOf]; omega⟩
    · obtain rfl : k = n := by omega
      go_wp2_with (fail)
      go_end0
      exact ⟨rfl, hh, hbr⟩
end Go.Proofs.Ytnfogcnlkchdmaa
