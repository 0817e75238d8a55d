/-
  An order by insertion: plain.
-/
import Derived.Test.YtbnkanhibjoleaaEdge
namespace Go.Proofs.Ytbnkanhibjoleaa
open Go Go.RowKit

def ez : E3 := (0, 0, 0)
/-- Where x belongs, asked from place k down. -/
def backN (l : List E3) (x : E3) : Nat → Nat
  | 0 => 0
  | k + 1 => if ltE x (l.getD k ez) = true then backN l x k else k + 1
theorem backN_le (l : List E3) (x : E3) (k : Nat) : backN l x k ≤ k := by
  induction k with
  | zero => exact Nat.le_refl _
  | succ k ih => unfold backN; split <;> omega
def putS (l : List E3) (x : E3) : List E3 := l.take (backN l x l.length) ++ x :: l.drop (backN l x l.length)
theorem putS_len (l : List E3) (x : E3) : (putS l x).length = l.length + 1 := by
  have := backN_le l x l.length
  unfold putS
  rw [List.length_append, List.length_cons, List.length_take, List.length_drop]; omega
def sortE (l : List E3) : List E3 := l.foldl putS []
theorem sortE_step (l : List E3) {k : Nat} (h : k < l.length) : sortE (l.take (k + 1)) = putS (sortE (l.take k)) l[k] := by
  unfold sortE
  rw [List.take_succ_eq_append_getElem h, List.foldl_append]; rfl
theorem sortE_len (l : List E3) : (sortE l).length = l.length := by
  have H : ∀ (l a : List E3), (l.foldl putS a).length = a.length + l.length := by
    intro l
    induction l with
    | nil => intro a; rfl
    | cons x l ih => intro a; rw [List.foldl_cons, ih, putS_len, List.length_cons]; omega
  have := H l []
  simpa [sortE] using this
theorem putS_perm (l : List E3) (x : E3) : (putS l x).Perm (x :: l) := by
  unfold putS
  have h : (l.take (backN l x l.length) ++ l.drop (backN l x l.length)) = l := List.take_append_drop _ _
  have := List.perm_middle (a := x) (l₁ := l.take (backN l x l.length)) (l₂ := l.drop (backN l x l.length))
  rw [h] at this
  exact this
theorem sortE_perm (l : List E3) : (sortE l).Perm l := by
  have H : ∀ (l a : List E3), (l.foldl putS a).Perm (l ++ a) := by
    intro l
    induction l with
    | nil => intro a; exact List.Perm.refl _
    | cons x l ih =>
      intro a
      rw [List.foldl_cons]
      refine (ih (putS a x)).trans ?_
      refine ((putS_perm a x).append_left l).trans ?_
      exact List.perm_middle
  have := H l []
  simpa [sortE] using this
/-- No one stands ahead of one that stands ahead. -/
def leE (x y : E3) : Prop := ltE y x = false
theorem ltE_iff {x y : E3} : ltE x y = true ↔ x.1 < y.1 ∨ (x.1 = y.1 ∧ x.2.1 < y.2.1) := by
  unfold ltE
  simp only [Bool.or_eq_true, Bool.and_eq_true, decide_eq_true_eq, beq_iff_eq]
theorem leE_iff {x y : E3} : leE x y ↔ x.1 < y.1 ∨ (x.1 = y.1 ∧ x.2.1 ≤ y.2.1) := by
  unfold leE
  rw [← Bool.not_eq_true, ltE_iff]; omega
theorem leE_trans {x y z : E3} (h1 : leE x y) (h2 : leE y z) : leE x z := by rw [leE_iff] at *; omega
theorem backN_spec {l : List E3} {x : E3} (hs : l.Pairwise leE) : ∀ k, k ≤ l.length → (∀ (i : Nat) (h : i < l.length), i < backN l x k → leE l[i] x) ∧ (∀ (i : Nat) (h : i < l.length), backN l x k ≤ i → i < k → ltE x l[i] = true) := by
  intro k
  induction k with
  | zero => intro _; exact ⟨fun i h hi => by simp [backN] at hi, fun i h _ hi => absurd hi (Nat.not_lt_zero _)⟩
  | succ k ih =>
    intro hk
    obtain ⟨h1, h2⟩ := ih (by omega)
    have hkl : k < l.length := by omega
    have hg : l.getD k ez = l[k] := by simp [List.getD, List.getElem?_eq_getElem hkl]
    unfold backN
    rw [hg]
    by_cases hx : ltE x l[k] = true
    · rw [if_pos hx]
      refine ⟨h1, fun i h hi hik => ?_⟩
      by_cases hik2 : i = k
      · subst hik2; exact hx
      · exact h2 i h hi (by omega)
    · rw [if_neg hx]
      refine ⟨fun i h hi => ?_, fun i h hi hik => by omega⟩
      have hkx : leE l[k] x := by unfold leE; simpa using hx
      by_cases hik2 : i = k
      · subst hik2; exact hkx
      · exact leE_trans ((List.pairwise_iff_getElem.1 hs) i k h hkl (by omega)) hkx
theorem putS_sorted {l : List E3} {x : E3} (hs : l.Pairwise leE) : (putS l x).Pairwise leE := by
  obtain ⟨h1, h2⟩ := backN_spec (x := x) hs l.length (Nat.le_refl _)
  unfold putS
  generalize backN l x l.length = p at *
  rw [List.pairwise_append, List.pairwise_cons]
  refine ⟨hs.sublist (List.take_sublist _ _), ⟨fun e he => ?_, hs.sublist (List.drop_sublist _ _)⟩, fun a ha b hb => ?_⟩
  · obtain ⟨i, hi, rfl⟩ := List.mem_iff_getElem.1 he
    rw [List.getElem_drop]
    have hlt : p + i < l.length := by rw [List.length_drop] at hi; omega
    have := h2 (p + i) hlt (by omega) hlt
    rw [ltE_iff] at this
    rw [leE_iff]; omega
  · obtain ⟨i, hi, rfl⟩ := List.mem_iff_getElem.1 ha
    rw [List.getElem_take]
    have hi2 : i < p ∧ i < l.length := by rw [List.length_take] at hi; omega
    have hix := h1 i hi2.2 hi2.1
    rcases List.mem_cons.1 hb with rfl | hb
    · exact hix
    · obtain ⟨j, hj, rfl⟩ := List.mem_iff_getElem.1 hb
      rw [List.getElem_drop]
      have hlt : p + j < l.length := by rw [List.length_drop] at hj; omega
      exact (List.pairwise_iff_getElem.1 hs) i (p + j) hi2.2 hlt (by omega)
theorem sortE_sorted (l : List E3) : (sortE l).Pairwise leE := by
  have H : ∀ (l a : List E3), a.Pairwise leE → (l.foldl putS a).Pairwise leE := by
    intro l
    induction l with
    | nil => intro a h; exact h
    | cons x l ih => intro a h; rw [List.foldl_cons]; exact ih _ (putS_sorted h)
  exact H l [] List.Pairwise.nil
/-- Lists of edges of tier 0, in order, with each as often, are one. -/
theorem order_eq : ∀ {a b : List E3}, a.Pairwise leE → b.Pairwise leE → a.Perm b → (∀ e ∈ a, e.2.2 = 0) → a = b
  | [], b, _, _, h, _ => (List.nil_perm.1 h).symm
  | x :: a, b, ha, hb, h, hz => by
    match b, hb, h with
    | [], _, h => exact absurd (List.perm_nil.1 h) (by simp)
    | y :: b, hb, h =>
      rw [List.pairwise_cons] at ha hb
      have hzy : y.2.2 = 0 := hz y (h.mem_iff.2 List.mem_cons_self)
      have hzx : x.2.2 = 0 := hz x List.mem_cons_self
      have hxy : x = y := by
        have h1 : leE x y := by
          rcases List.mem_cons.1 (h.mem_iff.2 (List.mem_cons_self (a := y) (l := b))) with h1 | h1
          · rw [h1, leE_iff]; omega
          · exact ha.1 y h1
        have h2 : leE y x := by
          rcases List.mem_cons.1 (h.mem_iff.1 (List.mem_cons_self (a := x) (l := a))) with h2 | h2
          · rw [h2, leE_iff]; omega
          · exact hb.1 x h2
        rw [leE_iff] at h1 h2
        exact Prod.ext (by omega) (Prod.ext (by omega) (by omega))
      subst hxy
      rw [order_eq ha.2 hb.2 (List.Perm.cons_inv h) (fun e he => hz e (List.mem_cons_of_mem _ he))]
theorem sortE_eq {a b : List E3} (h : a.Perm b) (hz : ∀ e ∈ a, e.2.2 = 0) : sortE a = sortE b :=
  order_eq (sortE_sorted a) (sortE_sorted b) ((sortE_perm a).trans (h.trans (sortE_perm b).symm)) (fun e he => hz e ((sortE_perm a).mem_iff.1 he))
end Go.Proofs.Ytbnkanhibjoleaa
