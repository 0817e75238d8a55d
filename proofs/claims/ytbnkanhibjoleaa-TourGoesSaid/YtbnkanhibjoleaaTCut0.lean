/-
  Tours, plain: what a rerooted tour holds; where a vertex stands last.
-/
import Derived.Test.YtbnkanhibjoleaaTEdges
import Derived.Test.YtbnkanhibjoleaaTReroot
namespace Go.Proofs.Ytbnkanhibjoleaa
open Go Go.RowKit

theorem mem_atI {l : List Int} {x : Int} : x ∈ l ↔ ∃ i, i < l.length ∧ atI l i = x := by
  constructor
  · intro h
    obtain ⟨i, hi, rfl⟩ := List.mem_iff_getElem.1 h
    exact ⟨i, hi, atI_lt hi⟩
  · rintro ⟨i, hi, rfl⟩
    rw [atI_lt hi]; exact List.getElem_mem hi
theorem isT_ne {l : List Int} (h : isT l = true) : 0 < l.length := by
  cases l with
  | nil => cases h
  | cons x s => simp
/-- A tour comes back to where it began. -/
theorem isT_closed {l : List Int} (h : isT l = true) : atI l (l.length - 1) = atI l 0 := by
  match l, h with
  | r :: s, h =>
    rcases List.eq_nil_or_concat s with rfl | ⟨s', v, rfl⟩
    · rfl
    · rw [List.concat_eq_append] at h ⊢
      rw [isT_iff] at h
      obtain ⟨q, hq⟩ := run_top h
      have hv : v = r := by injection hq with e _; exact e.symm
      subst hv
      have e1 : atI (v :: (s' ++ [v])) 0 = v := rfl
      rw [e1]
      unfold atI
      simp [List.getD]
theorem atI_drop {l : List Int} {f i : Nat} : atI (l.drop f) i = atI l (f + i) := by
  unfold atI; simp [List.getD, List.getElem?_drop]
theorem rot_at_lo {l : List Int} {f i : Nat} (hi : f + i < l.length) : atI (rotT l f) i = atI l (f + i) := by
  unfold rotT atI
  simp only [List.getD]
  rw [List.getElem?_append_left (by rw [List.length_drop]; omega), List.getElem?_drop]
theorem rot_at_hi {l : List Int} {f i : Nat} (hf : f < l.length) (hi : l.length ≤ f + i) (hi2 : i < l.length) : atI (rotT l f) i = atI l (f + i - l.length + 1) := by
  unfold rotT atI
  simp only [List.getD]
  rw [List.getElem?_append_right (by rw [List.length_drop]; omega), List.length_drop, List.getElem?_drop, List.getElem?_take]
  rw [if_pos (by omega)]
  congr 2
  omega
theorem rot_mem {l : List Int} (h : isT l = true) {f : Nat} (hf : f < l.length) {x : Int} : x ∈ rotT l f ↔ x ∈ l := by
  rw [mem_atI, mem_atI]
  have hl := rotT_len hf
  constructor
  · rintro ⟨i, hi, rfl⟩
    rw [hl] at hi
    by_cases h1 : f + i < l.length
    · exact ⟨f + i, h1, (rot_at_lo h1).symm⟩
    · exact ⟨_, by omega, (rot_at_hi hf (by omega) hi).symm⟩
  · rintro ⟨i, hi, rfl⟩
    rw [hl]
    by_cases h1 : f ≤ i
    · exact ⟨i - f, by omega, by rw [rot_at_lo (by omega)]; congr 1; omega⟩
    · by_cases h0 : i = 0
      · subst h0
        refine ⟨l.length - 1 - f, by omega, ?_⟩
        rw [rot_at_lo (by omega), show f + (l.length - 1 - f) = l.length - 1 by omega]
        exact isT_closed h
      · refine ⟨i + l.length - f - 1, by omega, ?_⟩
        rw [rot_at_hi hf (by omega) (by omega)]
        congr 1; omega
theorem rot_head {l : List Int} {f : Nat} (hf : f < l.length) : atI (rotT l f) 0 = atI l f := by rw [rot_at_lo (by omega)]; rfl
theorem rot_last {l : List Int} (h : isT l = true) {f : Nat} (hf : f < l.length) : atI (rotT l f) (l.length - 1) = atI l f := by
  by_cases h0 : f = 0
  · subst h0
    rw [rotT_zero]; exact isT_closed h
  · rw [rot_at_hi hf (by omega) (by omega)]
    congr 1; omega

/-- The last place of v among the first k; d: there is none. -/
def lastK (l : List Int) (v d : Int) : Nat → Int
  | 0 => d
  | k + 1 => if atI l k = v then (k : Int) else lastK l v d k
theorem lastK_spec (l : List Int) (v d : Int) : ∀ (k : Nat), (∃ i, i < k ∧ atI l i = v) → ∃ e : Nat, lastK l v d k = (e : Int) ∧ e < k ∧ atI l e = v ∧ ∀ i, e < i → i < k → atI l i ≠ v := by
  intro k
  induction k with
  | zero => rintro ⟨i, hi, _⟩; omega
  | succ k ih =>
    rintro ⟨i, hi, hv⟩
    unfold lastK
    by_cases hk : atI l k = v
    · rw [if_pos hk]
      exact ⟨k, rfl, by omega, hk, fun j h1 h2 => by omega⟩
    · rw [if_neg hk]
      have hik : i < k := by
        rcases Nat.lt_or_ge i k with h | h
        · exact h
        · exfalso; apply hk; rw [show k = i by omega]; exact hv
      obtain ⟨e, h1, h2, h3, h4⟩ := ih ⟨i, hik, hv⟩
      exact ⟨e, h1, by omega, h3, fun j h5 h6 => by
        by_cases hj : j = k
        · subst hj; exact hk
        · exact h4 j h5 (by omega)⟩
theorem mkE_cases (a b : Int) : (mkE a b = (a, b, 0) ∧ a < b) ∨ (mkE a b = (b, a, 0) ∧ b ≤ a) := by
  unfold mkE
  by_cases h : a < b
  · exact .inl ⟨if_pos h, h⟩
  · exact .inr ⟨if_neg h, by omega⟩
theorem mkE_eq {a b c d : Int} (h : mkE a b = mkE c d) : (a = c ∧ b = d) ∨ (a = d ∧ b = c) := by
  rcases mkE_cases a b with ⟨e1, h1⟩ | ⟨e1, h1⟩ <;> rcases mkE_cases c d with ⟨e2, h2⟩ | ⟨e2, h2⟩ <;> rw [e1, e2] at h <;> simp only [Prod.mk.injEq] at h <;> omega
/-- What an edge of a tour is. -/
theorem edge_spec {l : List Int} (hl : 0 < l.length) {e : E3} (he : e ∈ edgesT l) : ∃ p, 0 < p ∧ p < l.length ∧ e = mkE (atI l p) (atI l (p - 1)) ∧ atI l p ∉ l.take p := by
  unfold edgesT at he
  obtain ⟨m, hm⟩ : ∃ m, l.length = m + 1 := ⟨l.length - 1, by omega⟩
  rw [hm] at he
  obtain ⟨p, hp, rfl⟩ := List.mem_map.1 he
  have h1 := firstsN_drop hp
  have h2 : newAt l p = true := by
    have := List.mem_of_mem_drop hp
    unfold firstsN at this
    exact (List.mem_filter.1 this).2
  exact ⟨p, h1.1, by omega, rfl, by unfold newAt at h2; simpa using h2⟩
theorem edge_ends {l : List Int} (hl : 0 < l.length) {u v : Int} (he : mkE u v ∈ edgesT l) : u ∈ l ∧ v ∈ l ∧ u ≠ v := by
  obtain ⟨p, hp0, hpl, e, hn⟩ := edge_spec hl he
  have hx : atI l p ∈ l := mem_atI.2 ⟨p, hpl, rfl⟩
  have hy : atI l (p - 1) ∈ l := mem_atI.2 ⟨p - 1, by omega, rfl⟩
  have hne : atI l p ≠ atI l (p - 1) := fun h => hn (by
    rw [h, atI_lt (show p - 1 < l.length by omega)]
    rw [List.mem_take_iff_getElem]
    exact ⟨p - 1, by omega, rfl⟩)
  rcases mkE_eq e with ⟨rfl, rfl⟩ | ⟨rfl, rfl⟩
  · exact ⟨hx, hy, hne⟩
  · exact ⟨hy, hx, hne.symm⟩
/-- The tour from u on. -/
def fromT (l : List Int) (u : Int) : List Int := rotT l (firstI l u 0).toNat
theorem fromT_spec {l : List Int} (h : isT l = true) {u : Int} (hu : u ∈ l) : (fromT l u).length = l.length ∧ atI (fromT l u) 0 = u ∧ atI (fromT l u) (l.length - 1) = u ∧ ∀ x, x ∈ fromT l u ↔ x ∈ l := by
  obtain ⟨f, ef, hf, h1, _⟩ := first_spec l u 0 (Int.le_refl _) ((firstI_mem l u 0 (Int.le_refl _)).2 hu)
  unfold fromT
  rw [ef, Int.zero_add, Int.toNat_natCast]
  refine ⟨rotT_len hf, ?_, ?_, fun x => rot_mem h hf⟩
  · rw [rot_head hf, atI_lt hf, h1]
  · rw [rot_last h hf, atI_lt hf, h1]
/-- First and last place of v in the tour from u on. -/
theorem cut_places {l : List Int} (h : isT l = true) {u v : Int} (he : mkE u v ∈ edgesT l) :
    ∃ f e : Nat, firstI (fromT l u) v 0 = (f : Int) ∧ (∀ d, lastK (fromT l u) v d l.length = (e : Int)) ∧ f ≤ e ∧ e + 2 ≤ l.length ∧ u ∈ l := by
  obtain ⟨hu, hv, huv⟩ := edge_ends (isT_ne h) he
  obtain ⟨hl, h0, hz, hm⟩ := fromT_spec h hu
  generalize fromT l u = r at *
  have hvr := (hm v).2 hv
  obtain ⟨f, ef, hf, h1, _⟩ := first_spec r v 0 (Int.le_refl _) ((firstI_mem r v 0 (Int.le_refl _)).2 hvr)
  have hex : ∃ i, i < l.length ∧ atI r i = v := by rw [← hl]; exact mem_atI.1 hvr
  obtain ⟨e, he1, he2, he3, he4⟩ := lastK_spec r v 0 l.length hex
  have hind : ∀ d, lastK r v d l.length = (e : Int) := fun d => by
    obtain ⟨e', g1, g2, g3, g4⟩ := lastK_spec r v d l.length hex
    rw [g1]
    have : e' = e := by
      rcases Nat.lt_trichotomy e e' with h5 | h5 | h5
      · exact absurd g3 (he4 e' h5 g2)
      · exact h5.symm
      · exact absurd he3 (g4 e h5 he2)
    rw [this]
  refine ⟨f, e, by rw [ef]; omega, hind, ?_, ?_, hu⟩
  · rcases Nat.lt_or_ge e f with h5 | h5
    · exact absurd (by rw [atI_lt hf, h1]) (he4 f h5 (by rw [hl] at hf; exact hf))
    · exact h5
  · have hne : e ≠ l.length - 1 := fun h5 => huv (by rw [← hz, ← h5, he3])
    omega
end Go.Proofs.Ytbnkanhibjoleaa
