/-
  One edge merged into a sorted list, from the left and from the right; two lists cut by a search: the plain laws.
-/
import Derived.Test.YtnfogcnlkchdmaaMerge0
namespace Go.Proofs.Ytnfogcnlkchdmaa
open Go

theorem srt_take_le {Y : List E3} (hs : Y.Pairwise leE) {c : Nat} {z : E3} (hc : c ≤ Y.length) (h : c = 0 ∨ leE (Y.getD (c - 1) ez) z) : ∀ y ∈ Y.take c, leE y z := by
  intro y hy
  obtain ⟨i, hi, rfl⟩ := List.mem_iff_getElem.1 hy
  rw [List.length_take] at hi
  rcases h with h | h
  · omega
  · rw [List.getElem_take]
    have hl : c - 1 < Y.length := by omega
    simp only [List.getD, List.getElem?_eq_getElem hl, Option.getD_some] at h
    by_cases e : i = c - 1
    · subst e; exact h
    · exact leE_trans ((List.pairwise_iff_getElem.1 hs) i (c - 1) (by omega) hl (by omega)) h
theorem srt_drop_ge {Y : List E3} (hs : Y.Pairwise leE) {c : Nat} {z : E3} (h : Y.length ≤ c ∨ leE z (Y.getD c ez)) : ∀ y ∈ Y.drop c, leE z y := by
  intro y hy
  obtain ⟨i, hi, rfl⟩ := List.mem_iff_getElem.1 hy
  rw [List.length_drop] at hi
  rcases h with h | h
  · omega
  · rw [List.getElem_drop]
    have hl : c < Y.length := by omega
    simp only [List.getD, List.getElem?_eq_getElem hl, Option.getD_some] at h
    by_cases e : i = 0
    · subst e; exact h
    · exact leE_trans h ((List.pairwise_iff_getElem.1 hs) c (c + i) hl (by omega) (by omega))
/-- 'Ahead of' carried along. -/
theorem ltE_le {x y z : E3} (h1 : ltE x y = true) (h2 : leE y z) : ltE x z = true := by rw [ltE_iff] at *; rw [leE_iff] at h2; omega
theorem le_ltE {x y z : E3} (h1 : leE x y) (h2 : ltE y z = true) : ltE x z = true := by rw [ltE_iff] at *; rw [leE_iff] at h1; omega
theorem ltE_leE {x y : E3} (h : ltE x y = true) : leE x y := by rw [leE_iff]; rw [ltE_iff] at h; omega
theorem srt_take_lt {Y : List E3} (hs : Y.Pairwise leE) {c : Nat} {z : E3} (hc : c ≤ Y.length) (h : c = 0 ∨ ltE (Y.getD (c - 1) ez) z = true) : ∀ y ∈ Y.take c, ltE y z = true := by
  rcases h with h | h
  · subst h; intro y hy; simp at hy
  · intro y hy
    exact le_ltE (srt_take_le hs hc (Or.inr (leE_refl _)) y hy) h
theorem srt_drop_lt {Y : List E3} (hs : Y.Pairwise leE) {c : Nat} {z : E3} (h : Y.length ≤ c ∨ ltE z (Y.getD c ez) = true) : ∀ y ∈ Y.drop c, ltE z y = true := by
  rcases h with h | h
  · intro y hy; rw [List.drop_eq_nil_of_le h] at hy; cases hy
  · intro y hy
    exact ltE_le h (srt_drop_ge hs (Or.inr (leE_refl _)) y hy)
theorem sorted_take {Y : List E3} (hs : Y.Pairwise leE) (c : Nat) : (Y.take c).Pairwise leE := hs.sublist (List.take_sublist _ _)
theorem sorted_drop {Y : List E3} (hs : Y.Pairwise leE) (c : Nat) : (Y.drop c).Pairwise leE := hs.sublist (List.drop_sublist _ _)

theorem ins_left {Y : List E3} {x : E3} (hs : Y.Pairwise leE) {c : Nat} (hc : c ≤ Y.length) (h1 : c = 0 ∨ ltE (Y.getD (c - 1) ez) x = true) (h2 : Y.length ≤ c ∨ ltE (Y.getD c ez) x = false) :
    sortE (x :: Y) = Y.take c ++ x :: Y.drop c := by
  have h := merge_split (X1 := []) (X2 := [x]) (Y1 := Y.take c) (Y2 := Y.drop c) (fun z hz y hy => by rw [List.mem_singleton.1 hz]; exact srt_take_lt hs hc h1 y hy) (fun z hz => by cases hz) (by simp) (by rw [List.take_append_drop]; exact hs)
  rw [List.take_append_drop] at h
  simp only [List.nil_append, List.singleton_append] at h
  rw [h, sortE_self (sorted_take hs c), sortE_self (List.pairwise_cons.2 ⟨srt_drop_ge hs h2, sorted_drop hs c⟩)]
theorem ins_right {X : List E3} {y : E3} (hs : X.Pairwise leE) {c : Nat} (hc : c ≤ X.length) (h1 : c = 0 ∨ ltE y (X.getD (c - 1) ez) = false) (h2 : X.length ≤ c ∨ ltE y (X.getD c ez) = true) :
    sortE (X ++ [y]) = X.take c ++ y :: X.drop c := by
  have h := merge_split (X1 := X.take c) (X2 := X.drop c) (Y1 := [y]) (Y2 := []) (fun z hz w hw => by rw [List.mem_singleton.1 hw]; exact srt_drop_lt hs h2 z hz) (fun z _ w hw => by cases hw) (by rw [List.take_append_drop]; exact hs) (by simp)
  rw [List.take_append_drop] at h
  simp only [List.append_nil] at h
  rw [h, sortE_self (sorted_drop hs c), sortE_self (List.pairwise_append.2 ⟨sorted_take hs c, by simp, fun a ha b hb => by rw [List.mem_singleton.1 hb]; exact srt_take_le hs hc h1 a ha⟩)]
  simp
end Go.Proofs.Ytnfogcnlkchdmaa
