/-
  The plain law of tables: what is added and removed, set and set back, leaves all as it was.
-/
import Derived.Test.YthhmlcckeipolaaTab
namespace Go.Proofs.Ythhmlcckeipolaa
open Go Go.RowKit

theorem hitE_swap (u v : Int) (e : E3) : hitE v u e = hitE u v e := by
  unfold hitE
  rw [Bool.or_comm]
theorem hitE_iff {u v : Int} {e : E3} : hitE u v e = true ↔ (e.1 = u ∧ e.2.1 = v) ∨ (e.1 = v ∧ e.2.1 = u) := by
  unfold hitE
  simp only [Bool.or_eq_true, Bool.and_eq_true, beq_iff_eq]
theorem found_iff {l : List E3} {u v : Int} : 0 ≤ findI l u v 0 ↔ ∃ e ∈ l, hitE u v e = true := findI_mem l u v 0 (Int.le_refl _)
theorem found_swap {l : List E3} {u v : Int} : 0 ≤ findI l v u 0 ↔ 0 ≤ findI l u v 0 := by
  rw [found_iff, found_iff]
  simp only [hitE_swap]
theorem right_edge {n : Int} {l : List E3} (h : rightE n l = true) {e : E3} (he : e ∈ l) : 0 ≤ e.1 ∧ e.1 < e.2.1 ∧ e.2.1 < n ∧ 0 ≤ e.2.2 ∧ e.2.2 ≤ 16 := okE_iff.1 ((rightE_iff.1 h).2.1 e he)
theorem insE_right {n : Int} {l : List E3} {u v : Int} (h : rightE n l = true) (hu : inN n u = true) (hv : inN n v = true) (huv : u ≠ v) (hf : ¬ 0 ≤ findI l u v 0) : rightE n (insE l (edgeE u v 0)) = true := by
  obtain ⟨hn, h1, h2⟩ := rightE_iff.1 h
  have u1 := inN_iff.1 hu
  have v1 := inN_iff.1 hv
  refine rightE_iff.2 ⟨hn, fun e he => ?_, insE_sorted h2 fun e he h3 => hf ?_⟩
  · rcases insE_mem.1 he with rfl | he
    · rw [okE_iff]; unfold edgeE; split <;> simp only [] <;> omega
    · exact h1 e he
  · rw [found_iff]
    refine ⟨e, he, ?_⟩
    rw [hitE_iff]
    unfold edgeE at h3
    split at h3 <;> simp only [] at h3 <;> omega
theorem insE_found {l : List E3} {u v : Int} : 0 ≤ findI (insE l (edgeE u v 0)) v u 0 :=
  found_iff.2 ⟨_, insE_mem.2 (.inl rfl), (edgeE_hit _ _).2 (.inr ⟨rfl, rfl⟩)⟩
theorem add_back {n : Int} {l : List E3} {u v : Int} (h : rightE n l = true) (hu : inN n u = true) (hv : inN n v = true) (huv : u ≠ v) (hf : ¬ 0 ≤ findI l u v 0) : remE n (insE l (edgeE u v 0)) v u = (l, 0) := by
  unfold remE
  rw [insE_right h hu hv huv hf, hu, hv, if_pos (by rfl), if_pos insE_found, delE_ins]
  intro e he
  cases hh : hitE u v e
  · rfl
  · exact absurd (found_iff.2 ⟨e, he, hh⟩) hf

/-- Ends alone tell edges apart. -/
theorem sorted_ends {l : List E3} (h : l.Pairwise fun a b => ltE a b = true) {i j : Nat} (hi : i < l.length) (hj : j < l.length) (h1 : l[i].1 = l[j].1) (h2 : l[i].2.1 = l[j].2.1) : i = j := by
  have hp := List.pairwise_iff_getElem.1 h
  rcases Nat.lt_trichotomy i j with h3 | h3 | h3
  · have := ltE_iff.1 (hp i j hi hj h3); omega
  · exact h3
  · have := ltE_iff.1 (hp j i hj hi h3); omega
theorem pairwise_ends {l : List E3} {l' : List E3} (hl : l'.length = l.length) (he : ∀ (i : Nat) (h : i < l.length) (h' : i < l'.length), l'[i].1 = l[i].1 ∧ l'[i].2.1 = l[i].2.1) (h : l.Pairwise fun a b => ltE a b = true) : l'.Pairwise fun a b => ltE a b = true := by
  rw [List.pairwise_iff_getElem] at h ⊢
  intro i j hi hj hij
  have := h i j (by omega) (by omega) hij
  have h1 := he i (by omega) hi
  have h2 := he j (by omega) hj
  rw [ltE_iff] at this ⊢
  omega
theorem set_ends (l : List E3) (i : Nat) (h : i < l.length) (t : Int) : ∀ (j : Nat) (h1 : j < l.length) (h2 : j < (l.set i (l[i].1, l[i].2.1, t)).length), (l.set i (l[i].1, l[i].2.1, t))[j].1 = l[j].1 ∧ (l.set i (l[i].1, l[i].2.1, t))[j].2.1 = l[j].2.1 := by
  intro j h1 h2
  rw [List.getElem_set]
  split
  · rename_i e; subst e; exact ⟨rfl, rfl⟩
  · exact ⟨rfl, rfl⟩
theorem set_right {n : Int} {l : List E3} (h : rightE n l = true) (i : Nat) (hi : i < l.length) {t : Int} (ht : 0 ≤ t ∧ t ≤ 16) : rightE n (l.set i (l[i].1, l[i].2.1, t)) = true := by
  obtain ⟨hn, h1, h2⟩ := rightE_iff.1 h
  refine rightE_iff.2 ⟨hn, fun e he => ?_, pairwise_ends (by simp) (set_ends l i hi t) h2⟩
  rcases List.mem_or_eq_of_mem_set he with he | rfl
  · exact h1 e he
  · have := okE_iff.1 (h1 _ (List.getElem_mem hi))
    rw [okE_iff]; simp only []; omega
theorem set_found {l : List E3} {u v : Int} (i : Nat) (hi : i < l.length) (hh : hitE u v l[i] = true) (t : Int) : 0 ≤ findI (l.set i (l[i].1, l[i].2.1, t)) u v 0 := by
  rw [found_iff]
  refine ⟨(l.set i (l[i].1, l[i].2.1, t))[i]'(by simpa using hi), List.getElem_mem _, ?_⟩
  rw [hitE_iff] at hh ⊢
  rw [List.getElem_set_self]
  exact hh
/-- Only one place has an edge's ends. -/
theorem hit_one {n : Int} {l : List E3} (h : rightE n l = true) {u v : Int} {i j : Nat} (hi : i < l.length) (hj : j < l.length) (h1 : hitE u v l[i] = true) (h2 : hitE u v l[j] = true) : i = j := by
  have a := right_edge h (List.getElem_mem hi)
  have b := right_edge h (List.getElem_mem hj)
  rw [hitE_iff] at h1 h2
  exact sorted_ends (rightE_iff.1 h).2.2 hi hj (by omega) (by omega)
theorem set_back {n : Int} {l : List E3} (h : rightE n l = true) {u v : Int} (i : Nat) (hi : i < l.length) (hh : hitE u v l[i] = true) {t : Int} (ht : 0 ≤ t ∧ t ≤ 16) (hu : inN n u = true) (hv : inN n v = true) :
    putE n (l.set i (l[i].1, l[i].2.1, t)) v u l[i].2.2 = (l, 0) := by
  have hr := set_right h i hi ht
  have hf := set_found i hi hh t
  have he := right_edge h (List.getElem_mem hi)
  unfold putE
  rw [hr, hu, hv, decide_eq_true he.2.2.2.1, decide_eq_true he.2.2.2.2, if_pos (by rfl), if_pos (found_swap.2 hf)]
  obtain ⟨j, _, hj, h2, _, h4⟩ := find_spec (l.set i (l[i].1, l[i].2.1, t)) v u 0 (Int.le_refl _) (found_swap.2 hf)
  have hj' : j < l.length := by simpa using hj
  have hji : j = i := by
    have e := set_ends l i hi t j hj' hj
    refine hit_one h hj' hi (u := u) (v := v) ?_ hh
    rw [hitE_swap, hitE_iff] at h2
    rw [hitE_iff]
    omega
  subst hji
  rw [h4, List.getElem_set_self, List.set_set]
  congr 1
  exact List.set_getElem_self _
/-- The tier that the loop of TableBack finds. -/
def wasOf (p q : Int) (d : Int) (x : E3) : Int := if x.1 = p ∧ x.2.1 = q then x.2.2 else d
def wasI (l : List E3) (p q : Int) : Int := l.foldl (wasOf p q) 0
theorem wasI_step (l : List E3) (p q : Int) {k : Nat} (h : k < l.length) : wasI (l.take (k + 1)) p q = wasOf p q (wasI (l.take k) p q) l[k] := by
  unfold wasI
  rw [List.take_succ_eq_append_getElem h, List.foldl_append]; rfl
theorem wasI_at {l : List E3} (p q : Int) (i : Nat) (hi : i < l.length) (hh : l[i].1 = p ∧ l[i].2.1 = q) (ho : ∀ (j : Nat) (hj : j < l.length), l[j].1 = p ∧ l[j].2.1 = q → j = i) : wasI l p q = l[i].2.2 := by
  have key : ∀ k, i < k → k ≤ l.length → wasI (l.take k) p q = l[i].2.2 := by
    intro k
    induction k with
    | zero => intro h; omega
    | succ k ih =>
      intro h1 h2
      rw [wasI_step l p q (by omega)]
      unfold wasOf
      by_cases hk : k = i
      · subst hk; rw [if_pos hh]
      · rw [if_neg (fun h => hk (ho k (by omega) h))]
        exact ih (by omega) (by omega)
  have := key l.length hi (Nat.le_refl _)
  rwa [List.take_length] at this
end Go.Proofs.Ythhmlcckeipolaa
