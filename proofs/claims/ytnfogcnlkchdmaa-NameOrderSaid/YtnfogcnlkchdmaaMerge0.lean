/-
  Sorting that keeps the order of what is alike: two lists merged, by parts; the plain laws.
-/
import Derived.Test.YtnfogcnlkchdmaaSort0
namespace Go.Proofs.Ytnfogcnlkchdmaa
open Go

def keyE (k : Int × Int) (e : E3) : Bool := decide (e.1 = k.1 ∧ e.2.1 = k.2)
/-- Each key's edges stand as they stood. -/
def StE (S T : List E3) : Prop := ∀ k, T.filter (keyE k) = S.filter (keyE k)
theorem StE.refl (S : List E3) : StE S S := fun _ => rfl
theorem StE.trans {S T U : List E3} (h : StE S T) (g : StE T U) : StE S U := fun k => (g k).trans (h k)
theorem StE.symm {S T : List E3} (h : StE S T) : StE T S := fun k => (h k).symm
theorem StE.append {S S' T T' : List E3} (h : StE S S') (g : StE T T') : StE (S ++ T) (S' ++ T') := fun k => by rw [List.filter_append, List.filter_append, h k, g k]
theorem keyE_self (x : E3) : keyE (x.1, x.2.1) x = true := by simp [keyE]
theorem leE_refl (x : E3) : leE x x := by rw [leE_iff]; omega
theorem StE.mem {S T : List E3} (h : StE S T) {x : E3} (hx : x ∈ T) : x ∈ S := by
  have : x ∈ T.filter (keyE (x.1, x.2.1)) := List.mem_filter.2 ⟨hx, keyE_self x⟩
  rw [h] at this
  exact (List.mem_filter.1 this).1
/-- What is sorted, and keeps each key's edges as they stood, is one list. -/
theorem sort_one : ∀ {Z W : List E3}, Z.Pairwise leE → W.Pairwise leE → StE Z W → Z = W
  | [], [], _, _, _ => rfl
  | [], w :: W, _, _, h => by
    have := h.mem (List.mem_cons_self (a := w) (l := W)); cases this
  | z :: Z, [], _, _, h => by
    have := h.symm.mem (List.mem_cons_self (a := z) (l := Z)); cases this
  | z :: Z, w :: W, hz, hw, h => by
    have z1 : leE w z := by
      rcases List.mem_cons.1 (h.symm.mem (List.mem_cons_self (a := z) (l := Z))) with e | e
      · rw [e]; exact leE_refl _
      · exact (List.pairwise_cons.1 hw).1 z e
    have w1 : leE z w := by
      rcases List.mem_cons.1 (h.mem (List.mem_cons_self (a := w) (l := W))) with e | e
      · rw [e]; exact leE_refl _
      · exact (List.pairwise_cons.1 hz).1 w e
    have hk : (w.1, w.2.1) = (z.1, z.2.1) := by
      rw [leE_iff] at z1 w1
      exact Prod.ext (by simp only []; omega) (by simp only []; omega)
    have h0 := h (z.1, z.2.1)
    rw [List.filter_cons_of_pos (keyE_self z), List.filter_cons_of_pos (by rw [← hk]; exact keyE_self w)] at h0
    obtain ⟨rfl, _⟩ := List.cons.inj h0
    congr 1
    refine sort_one (List.pairwise_cons.1 hz).2 (List.pairwise_cons.1 hw).2 fun k => ?_
    have h1 := h k
    by_cases hb : keyE k w = true
    · rw [List.filter_cons_of_pos hb, List.filter_cons_of_pos hb] at h1
      exact (List.cons.inj h1).2
    · rw [List.filter_cons_of_neg hb, List.filter_cons_of_neg hb] at h1
      exact h1
theorem filter_none {S : List E3} {k : Int × Int} (h : ∀ x ∈ S, keyE k x = false) : S.filter (keyE k) = [] := by
  rw [List.filter_eq_nil_iff]
  intro x hx
  rw [h x hx]; decide
theorem putS_st {l : List E3} (hs : l.Pairwise leE) (x : E3) : StE (l ++ [x]) (putS l x) := fun k => by
  unfold putS
  generalize hb : backN l x l.length = b
  have hsp := (backN_spec (x := x) hs l.length (Nat.le_refl _)).2
  rw [hb] at hsp
  have hd : ∀ y ∈ l.drop b, ltE x y = true := by
    intro y hy
    obtain ⟨i, hi, rfl⟩ := List.mem_iff_getElem.1 hy
    rw [List.length_drop] at hi
    rw [List.getElem_drop]
    exact hsp (b + i) (by omega) (by omega) (by omega)
  have ha : l.filter (keyE k) = (l.take b).filter (keyE k) ++ (l.drop b).filter (keyE k) := by rw [← List.filter_append, List.take_append_drop]
  rw [List.filter_append, List.filter_append, ha, List.append_assoc]
  congr 1
  by_cases hk : keyE k x = true
  · have : (l.drop b).filter (keyE k) = [] := filter_none fun y hy => by
      have h1 := ltE_iff.1 (hd y hy)
      simp only [keyE, decide_eq_true_eq, decide_eq_false_iff_not] at hk ⊢
      omega
    rw [this, List.filter_cons_of_pos hk, this]
    simp [hk]
  · rw [List.filter_cons_of_neg hk, List.filter_cons_of_neg hk]
    simp
theorem sortE_snoc (l : List E3) (x : E3) : sortE (l ++ [x]) = putS (sortE l) x := by
  unfold sortE; rw [List.foldl_append]; rfl
theorem sortE_st (l : List E3) : StE l (sortE l) := by
  have H : ∀ n (l : List E3), l.length = n → StE l (sortE l) := by
    intro n
    induction n with
    | zero => intro l hl; rw [List.eq_nil_of_length_eq_zero hl]; exact StE.refl _
    | succ n ih =>
      intro l hl
      obtain ⟨m, x, rfl⟩ : ∃ m x, l = m ++ [x] := ⟨l.dropLast, l.getLast (by intro e; rw [e] at hl; simp at hl), (List.dropLast_concat_getLast _).symm⟩
      rw [sortE_snoc]
      exact ((ih m (by simpa using hl)).append (StE.refl [x])).trans (putS_st (sortE_sorted m) x)
  exact H _ l rfl
/-- Whatever is sorted and keeps each key's edges is the sorted list. -/
theorem sortE_of {S Z : List E3} (hz : Z.Pairwise leE) (h : StE S Z) : sortE S = Z :=
  sort_one (sortE_sorted S) hz ((sortE_st S).symm.trans h)
theorem sortE_self {S : List E3} (h : S.Pairwise leE) : sortE S = S := sortE_of h (StE.refl S)
theorem sortE_mem {S : List E3} {x : E3} (h : x ∈ sortE S) : x ∈ S := (sortE_perm S).mem_iff.1 h
theorem sortE_two (A B : List E3) : sortE (sortE A ++ sortE B) = sortE (A ++ B) :=
  sortE_of (sortE_sorted (A ++ B)) (((sortE_st A).append (sortE_st B)).symm.trans (sortE_st _))
/-- Two sorted lists, merged by parts. -/
theorem merge_split {X1 X2 Y1 Y2 : List E3} (h1 : ∀ x ∈ X2, ∀ y ∈ Y1, ltE y x = true) (h2 : ∀ x ∈ X1, ∀ y ∈ Y2, leE x y) (hX : (X1 ++ X2).Pairwise leE) (hY : (Y1 ++ Y2).Pairwise leE) :
    sortE (X1 ++ X2 ++ (Y1 ++ Y2)) = sortE (X1 ++ Y1) ++ sortE (X2 ++ Y2) := by
  refine sortE_of (List.pairwise_append.2 ⟨sortE_sorted _, sortE_sorted _, fun a ha b hb => ?_⟩) ?_
  · have px := List.pairwise_append.1 hX
    have py := List.pairwise_append.1 hY
    rcases List.mem_append.1 (sortE_mem ha) with ha | ha <;> rcases List.mem_append.1 (sortE_mem hb) with hb | hb
    · exact px.2.2 a ha b hb
    · exact h2 a ha b hb
    · have := ltE_iff.1 (h1 b hb a ha)
      rw [leE_iff]; omega
    · exact py.2.2 a ha b hb
  · refine StE.trans ?_ ((sortE_st (X1 ++ Y1)).append (sortE_st (X2 ++ Y2)))
    intro k
    simp only [List.filter_append, List.append_assoc]
    congr 1
    rw [← List.append_assoc, ← List.append_assoc]
    congr 1
    by_cases hk : ∃ y ∈ Y1, keyE k y = true
    · obtain ⟨y, hy, hky⟩ := hk
      rw [filter_none (S := X2) fun x hx => by
        have := ltE_iff.1 (h1 x hx y hy)
        simp only [keyE, decide_eq_true_eq, decide_eq_false_iff_not] at hky ⊢
        omega]
      simp
    · rw [filter_none (S := Y1) fun y hy => by
        cases h : keyE k y
        · rfl
        · exact absurd ⟨y, hy, h⟩ hk]
      simp
end Go.Proofs.Ytnfogcnlkchdmaa
