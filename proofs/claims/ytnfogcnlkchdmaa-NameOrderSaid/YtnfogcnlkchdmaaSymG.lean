/-
  slices.symMergeCmpFunc at edges: both parts of more than one edge: the plain laws, and the walk.
-/
import Derived.Test.YtnfogcnlkchdmaaSymR
import Derived.Test.YtnfogcnlkchdmaaRotate
namespace Go.Proofs.Ytnfogcnlkchdmaa
open Go Go.RowKit
attribute [local go_sem] Heavy heavyUpon

/-- It returns nothing; block g then reads T. -/
def SPost (g : Nat) (T : List E3) (W : World) (e : Ending) (w' : World) : Prop := e = .returned (.tuple #[]) ∧ Hd w' g T ∧ Below g W w'
/-- The merge is right for fewer edges than N. -/
def SymLess (N g L c : Nat) : Prop :=
  ∀ (P X Y Q : List E3) (a m b : Nat) (W : World), Hd W g (P ++ X ++ Y ++ Q) → (P ++ X ++ Y ++ Q).length = L → P.length = a → m = a + X.length → b = m + Y.length → 0 < X.length → 0 < Y.length → X.Pairwise leE → Y.Pairwise leE → X.length + Y.length < N →
    Calls Try.prog 23 #[.slice (some ⟨g, 0, none⟩) L c, .int .i64 a, .int .i64 m, .int .i64 b, cmpF] W (SPost g (P ++ sortE (X ++ Y) ++ Q) W)

/-- What the search keeps of its two bounds. -/
def SrG (X Y : List E3) (a m n s0 r0 s r : Nat) : Prop :=
  (s = s0 ∨ ltE (Y.getD (n - s - m) ez) (X.getD (s - 1 - a) ez) = false) ∧ (r = r0 ∨ ltE (Y.getD (n - 1 - r - m) ez) (X.getD (r - a) ez) = true)

/-- Where the search begins. -/
def Beg (a m b mid s0 r0 : Nat) : Prop := (mid < m ∧ s0 = mid + m - b ∧ r0 = mid) ∨ (m ≤ mid ∧ s0 = a ∧ r0 = m)

theorem sym_split {X Y : List E3} {a m b mid s0 r0 s : Nat} (hm : m = a + X.length) (hb : b = m + Y.length) (hmid : mid = (a + b) / 2) (hbeg : Beg a m b mid s0 r0) (hs0 : s0 ≤ s) (hr0 : s ≤ r0)
    (hX : X.Pairwise leE) (hY : Y.Pairwise leE) (hS : SrG X Y a m (mid + m) s0 r0 s s) :
    sortE (X ++ Y) = sortE (X.take (s - a) ++ Y.take (mid - s)) ++ sortE (X.drop (s - a) ++ Y.drop (mid - s)) := by
  have e := merge_split (X1 := X.take (s - a)) (X2 := X.drop (s - a)) (Y1 := Y.take (mid - s)) (Y2 := Y.drop (mid - s)) ?_ ?_ (by rw [List.take_append_drop]; exact hX) (by rw [List.take_append_drop]; exact hY)
  · rwa [List.take_append_drop, List.take_append_drop] at e
  · intro x hx y hy
    rcases hS.2 with h | h
    · exfalso
      rcases hbeg with ⟨h1, h2, h3⟩ | ⟨h1, h2, h3⟩
      · rw [show mid - s = 0 by omega] at hy; simp at hy
      · rw [List.drop_eq_nil_of_le (by omega)] at hx; cases hx
    · rw [show mid + m - 1 - s - m = mid - s - 1 by omega] at h
      have hle : mid - s ≤ Y.length := by rcases hbeg with ⟨h1, h2, h3⟩ | ⟨h1, h2, h3⟩ <;> omega
      have h1 := srt_take_lt hY (c := mid - s) hle (.inr h) y hy
      exact ltE_le h1 (srt_drop_ge hX (c := s - a) (.inr (leE_refl _)) x hx)
  · intro x hx y hy
    rcases hS.1 with h | h
    · exfalso
      rcases hbeg with ⟨h1, h2, h3⟩ | ⟨h1, h2, h3⟩
      · rw [List.drop_eq_nil_of_le (by omega)] at hy; cases hy
      · rw [show s - a = 0 by omega] at hx; simp at hx
    · rw [show mid + m - s - m = mid - s by omega, show s - 1 - a = s - a - 1 by omega] at h
      have h1 := srt_take_le hX (c := s - a) (by rcases hbeg with ⟨h1, h2, h3⟩ | ⟨h1, h2, h3⟩ <;> omega) (.inr h) x hx
      exact leE_trans h1 (srt_drop_ge hY (c := mid - s) (.inr (leE_refl _)) y hy)

theorem app_nil_or {A B : List E3} (h : ¬ (0 < A.length ∧ 0 < B.length)) : A = [] ∨ B = [] := by
  rcases A with _ | ⟨x, A⟩
  · exact .inl rfl
  · rcases B with _ | ⟨y, B⟩
    · exact .inr rfl
    · exact absurd ⟨by simp, by simp⟩ h

theorem sym_parts (N g L c : Nat) (IH : SymLess N g L c) (P X Y Q : List E3) (a m b mid s0 r0 s : Nat) (hL : (P ++ X ++ Y ++ Q).length = L) (ha : P.length = a) (hm : m = a + X.length) (hb : b = m + Y.length) (h2X : 2 ≤ X.length) (h2Y : 2 ≤ Y.length)
    (hN : X.length + Y.length ≤ N) (hmid : mid = (a + b) / 2) (hbeg : Beg a m b mid s0 r0) (hs0 : s0 ≤ s) (hr0 : s ≤ r0) (hX : X.Pairwise leE) (hY : Y.Pairwise leE) (hS : SrG X Y a m (mid + m) s0 r0 s s) (hLL : L ≤ 10000) :
    ∃ (T1 T2 : List E3) (e : Nat), ((e : Nat) : Int) = (mid : Int) + (m : Int) - (s : Int) ∧ m ≤ e ∧ e ≤ b ∧ a ≤ s ∧ s ≤ m ∧ s ≤ mid ∧
      (s < m → m < e → ∀ W, Hd W g (P ++ X ++ Y ++ Q) → Calls Try.prog 24 #[.slice (some ⟨g, 0, none⟩) L c, .int .i64 s, .int .i64 m, .int .i64 e, cmpF] W (SPost g T1 W)) ∧
      (¬ (s < m ∧ m < e) → ∀ W, Hd W g (P ++ X ++ Y ++ Q) → Hd W g T1) ∧
      (a < s → s < mid → ∀ W, Hd W g T1 → Calls Try.prog 23 #[.slice (some ⟨g, 0, none⟩) L c, .int .i64 a, .int .i64 s, .int .i64 mid, cmpF] W (SPost g T2 W)) ∧
      (¬ (a < s ∧ s < mid) → ∀ W, Hd W g T1 → Hd W g T2) ∧
      (mid < e → e < b → ∀ W, Hd W g T2 → Calls Try.prog 23 #[.slice (some ⟨g, 0, none⟩) L c, .int .i64 mid, .int .i64 e, .int .i64 b, cmpF] W (SPost g (P ++ sortE (X ++ Y) ++ Q) W)) ∧
      (¬ (mid < e ∧ e < b) → ∀ W, Hd W g T2 → Hd W g (P ++ sortE (X ++ Y) ++ Q)) := by
  have hsp := sym_split hm hb hmid hbeg hs0 hr0 hX hY hS
  have e1 : s - a ≤ X.length := by rcases hbeg with ⟨h1, h2, h3⟩ | ⟨h1, h2, h3⟩ <;> omega
  have e2 : mid - s ≤ Y.length := by rcases hbeg with ⟨h1, h2, h3⟩ | ⟨h1, h2, h3⟩ <;> omega
  have hsa : a ≤ s := by rcases hbeg with ⟨h1, h2, h3⟩ | ⟨h1, h2, h3⟩ <;> omega
  have sm : s ≤ m := by rcases hbeg with ⟨h1, h2, h3⟩ | ⟨h1, h2, h3⟩ <;> omega
  have smid : s ≤ mid := by rcases hbeg with ⟨h1, h2, h3⟩ | ⟨h1, h2, h3⟩ <;> omega
  have l1 : (X.take (s - a)).length = s - a := by rw [List.length_take]; omega
  have l2 : (X.drop (s - a)).length = m - s := by rw [List.length_drop]; omega
  have l3 : (Y.take (mid - s)).length = mid - s := by rw [List.length_take]; omega
  have l4 : (Y.drop (mid - s)).length = b - (mid + m - s) := by rw [List.length_drop]; omega
  have x12 : X.take (s - a) ++ X.drop (s - a) = X := List.take_append_drop _ _
  have y12 : Y.take (mid - s) ++ Y.drop (mid - s) = Y := List.take_append_drop _ _
  have sX1 := sorted_take hX (s - a)
  have sX2 := sorted_drop hX (s - a)
  have sY1 := sorted_take hY (mid - s)
  have sY2 := sorted_drop hY (mid - s)
  have hLs : P.length + (X.length + (Y.length + Q.length)) = L := by rw [← hL]; simp
  rw [hsp]
  generalize X.take (s - a) = X1 at *
  generalize X.drop (s - a) = X2 at *
  generalize Y.take (mid - s) = Y1 at *
  generalize Y.drop (mid - s) = Y2 at *
  have hXl : X.length = X1.length + X2.length := by rw [← x12]; simp
  have hYl : Y.length = Y1.length + Y2.length := by rw [← y12]; simp
  have hD : P ++ X ++ Y ++ Q = P ++ X1 ++ X2 ++ Y1 ++ (Y2 ++ Q) := by rw [← x12, ← y12]; simp
  have hbe : b = mid + m - s + Y2.length := by omega
  refine ⟨P ++ X1 ++ Y1 ++ (X2 ++ Y2 ++ Q), P ++ sortE (X1 ++ Y1) ++ X2 ++ Y2 ++ Q, mid + m - s, by omega, by omega, by omega, hsa, sm, smid, ?_, ?_, ?_, ?_, ?_, ?_⟩
  · intro h1 h2 W hW
    rw [hD] at hW
    have := rotate_any (P ++ X1) X2 Y1 (Y2 ++ Q) g L c s m (mid + m - s) cmpF W hW (by rw [← hD]; exact hL) (by rw [List.length_append]; omega) (by rw [List.length_append]; omega) (by rw [List.length_append]; omega) (by omega) (by omega) hLL
    refine this.mono fun e w' h => ?_
    have e5 : P ++ X1 ++ Y1 ++ X2 ++ (Y2 ++ Q) = P ++ X1 ++ Y1 ++ (X2 ++ Y2 ++ Q) := by simp
    rw [e5] at h
    exact h
  · intro h1 W hW
    rw [hD] at hW
    rcases app_nil_or (A := X2) (B := Y1) (fun h => h1 ⟨by omega, by omega⟩) with h | h
    · subst h; simpa using hW
    · subst h; simpa using hW
  · intro h1 h2 W hW
    have := IH P X1 Y1 (X2 ++ Y2 ++ Q) a s mid W hW (by simp only [List.length_append]; omega) ha (by omega) (by omega) (by omega) (by omega) sX1 sY1 (by omega)
    refine this.mono fun e w' h => ?_
    have e5 : P ++ sortE (X1 ++ Y1) ++ (X2 ++ Y2 ++ Q) = P ++ sortE (X1 ++ Y1) ++ X2 ++ Y2 ++ Q := by simp
    rw [e5] at h
    exact h
  · intro h1 W hW
    rcases app_nil_or (A := X1) (B := Y1) (fun h => h1 ⟨by omega, by omega⟩) with h | h
    · subst h
      rw [List.nil_append, sortE_self sY1]; simpa using hW
    · subst h
      rw [List.append_nil, sortE_self sX1]; simpa using hW
  · intro h1 h2 W hW
    have hz : (sortE (X1 ++ Y1)).length = mid - a := by rw [sortE_len, List.length_append]; omega
    have := IH (P ++ sortE (X1 ++ Y1)) X2 Y2 Q mid (mid + m - s) b W hW (by simp only [List.length_append, hz]; omega) (by rw [List.length_append]; omega) (by omega) (by omega) (by omega) (by omega) sX2 sY2 (by omega)
    refine this.mono fun e w' h => ?_
    have e5 : P ++ sortE (X1 ++ Y1) ++ sortE (X2 ++ Y2) ++ Q = P ++ (sortE (X1 ++ Y1) ++ sortE (X2 ++ Y2)) ++ Q := by simp
    rw [e5] at h
    exact h
  · intro h1 W hW
    rcases app_nil_or (A := X2) (B := Y2) (fun h => h1 ⟨by omega, by omega⟩) with h | h
    · subst h
      rw [List.nil_append, sortE_self sY2]; simpa using hW
    · subst h
      rw [List.append_nil, sortE_self sX2]; simpa using hW
end Go.Proofs.Ytnfogcnlkchdmaa
