/-
  The plain law of tours: what was linked by an edge is cut again by it.
-/
import Derived.Test.YtbnkanhibjoleaaTPlain
namespace Go.Proofs.Ytbnkanhibjoleaa
open Go Go.RowKit

theorem firstI_app (A B : List Int) (v : Int) (h : v ∉ A) : ∀ k : Int, firstI (A ++ B) v k = firstI B v (k + A.length) := by
  induction A with
  | nil => intro k; simp
  | cons x A ih =>
    intro k
    have hx : ¬ x = v := fun e => h (by simp [e])
    rw [List.cons_append, firstI, if_neg hx, ih (fun hm => h (List.mem_cons_of_mem _ hm)), List.length_cons]
    congr 1
    omega
theorem atI_app_lo {A B : List Int} {i : Nat} (h : i < A.length) : atI (A ++ B) i = atI A i := by
  unfold atI; simp only [List.getD]; rw [List.getElem?_append_left h]
theorem atI_app_hi {A B : List Int} {i : Nat} (h : A.length ≤ i) : atI (A ++ B) i = atI B (i - A.length) := by
  unfold atI; simp only [List.getD]; rw [List.getElem?_append_right h]
/-- A part of a walk: it begins and ends at u. -/
structure Loop (A : List Int) (u : Int) : Prop where
  pos : 0 < A.length
  head : atI A 0 = u
  last : atI A (A.length - 1) = u
theorem Loop.cons {A : List Int} {u : Int} (h : Loop A u) : ∃ s, A = u :: s := by
  match A, h with
  | x :: s, h => exact ⟨s, by have := h.head; rw [show atI (x :: s) 0 = x from rfl] at this; rw [this]⟩
section
variable {A B : List Int} {u v : Int}
theorem cut_of (hA : Loop A u) (hB : Loop B v) (hd : ∀ x ∈ A, x ∉ B) :
    firstI (A ++ B ++ [u]) v 0 = (A.length : Int) ∧ ∀ d, lastK (A ++ B ++ [u]) v d (A.length + B.length + 1) = ((A.length + B.length - 1 : Nat) : Int) := by
  have hvB : v ∈ B := mem_atI.2 ⟨0, hB.pos, hB.head⟩
  have huA : u ∈ A := mem_atI.2 ⟨0, hA.pos, hA.head⟩
  have hvA : v ∉ A := fun h => hd v h hvB
  have huv : u ≠ v := fun h => hvA (h ▸ huA)
  refine ⟨?_, fun d => ?_⟩
  · rw [List.append_assoc, firstI_app A _ v hvA]
    obtain ⟨s, rfl⟩ := hB.cons
    rw [List.cons_append, firstI, if_pos rfl]; omega
  · have e1 : atI (A ++ B ++ [u]) (A.length + B.length) = u := by
      rw [atI_app_hi (by simp), List.length_append, Nat.sub_self]; rfl
    have e2 : atI (A ++ B ++ [u]) (A.length + B.length - 1) = v := by
      have := hB.pos
      rw [atI_app_lo (by rw [List.length_append]; omega), atI_app_hi (by omega), show A.length + B.length - 1 - A.length = B.length - 1 by omega]
      exact hB.last
    have hp := hB.pos
    obtain ⟨n, hn⟩ : ∃ n, A.length + B.length = n + 1 := ⟨A.length + B.length - 1, by omega⟩
    rw [lastK, e1, if_neg huv]
    rw [hn] at e2 ⊢
    rw [lastK]
    simp only [Nat.add_sub_cancel] at e2 ⊢
    rw [if_pos e2]
theorem link_tour (hA : Loop A u) (hB : Loop B v) (hd : ∀ x ∈ A, x ∉ B) (tA : isT A = true) (tB : isT B = true) : isT (A ++ B ++ [u]) = true := by
  obtain ⟨a, rfl⟩ := hA.cons
  obtain ⟨b, rfl⟩ := hB.cons
  rw [List.cons_append, List.cons_append, isT_iff, List.append_assoc, List.cons_append]
  refine run_app_some (isT_iff.1 tA) ?_
  have hv : v ∉ a.reverse ++ [u] := fun h => hd v (by
    rcases List.mem_append.1 h with h | h
    · exact List.mem_cons_of_mem _ (List.mem_reverse.1 h)
    · rw [List.mem_singleton.1 h]; exact List.mem_cons_self) List.mem_cons_self
  rw [run_new hv]
  have hb := run_frame (q := [u]) (isT_iff.1 tB)
  have hc : run (v :: (a.reverse ++ [u])) ([v] ++ [u]) b = some ([v] ++ [u]) := by
    rw [← hb]
    refine run_congr fun x hx => ?_
    constructor
    · intro h
      rcases List.mem_cons.1 h with h | h
      · rw [h]; exact List.mem_cons_self
      · exfalso
        refine hd x ?_ (List.mem_cons_of_mem _ hx)
        rcases List.mem_append.1 h with h | h
        · exact List.mem_cons_of_mem _ (List.mem_reverse.1 h)
        · rw [List.mem_singleton.1 h]; exact List.mem_cons_self
    · intro h
      rw [List.mem_singleton.1 h]; exact List.mem_cons_self
  refine run_app_some hc ?_
  show run _ (v :: u :: []) [u] = some [u]
  rw [run_back (by simp), run_nil]
theorem link_edge (hA : Loop A u) (hB : Loop B v) (hd : ∀ x ∈ A, x ∉ B) : mkE u v ∈ edgesT (A ++ B ++ [u]) := by
  have hvB : v ∈ B := mem_atI.2 ⟨0, hB.pos, hB.head⟩
  have hvA : v ∉ A := fun h => hd v h hvB
  have hp := hA.pos
  have hq := hB.pos
  unfold edgesT
  obtain ⟨m, hm⟩ : ∃ m, (A ++ B ++ [u]).length = m + 1 := ⟨A.length + B.length, by simp; omega⟩
  have hml : m = A.length + B.length := by simp at hm; omega
  rw [hm, firstsN_cons, List.drop_succ_cons, List.drop_zero, List.mem_map]
  have e1 : atI (A ++ B ++ [u]) A.length = v := by
    rw [List.append_assoc, atI_app_hi (Nat.le_refl _), Nat.sub_self, atI_app_lo hq]; exact hB.head
  have e2 : atI (A ++ B ++ [u]) (A.length - 1) = u := by
    rw [List.append_assoc, atI_app_lo (by omega)]; exact hA.last
  refine ⟨A.length, ?_, ?_⟩
  · rw [List.mem_filter]
    refine ⟨List.mem_map.2 ⟨A.length - 1, by rw [List.mem_range]; omega, by omega⟩, ?_⟩
    unfold newAt
    rw [e1, List.append_assoc, List.take_append_of_le_length (Nat.le_refl _), List.take_length]
    exact decide_eq_true hvA
  · unfold edgeAt
    rw [e1, e2, mkE_comm]
theorem cut_parts (hA : Loop A u) (hB : Loop B v) (hd : ∀ x ∈ A, x ∉ B) {t : List Int} (hf : fromT t u = A ++ B ++ [u]) (hl : t.length = A.length + B.length + 1) : cutX t u v = A ∧ cutY t u v = B := by
  obtain ⟨h1, h2⟩ := cut_of hA hB hd
  have hp := hA.pos
  have hq := hB.pos
  unfold cutX cutY
  rw [hf, hl, h1, h2, Int.toNat_natCast, Int.toNat_natCast]
  constructor
  · rw [List.append_assoc, List.take_append_of_le_length (Nat.le_refl _), List.take_length, List.drop_eq_nil_of_le (by simp; omega), List.append_nil]
  · rw [show A.length + B.length - 1 + 1 = (A ++ B).length by rw [List.length_append]; omega, List.take_append_of_le_length (Nat.le_refl _), List.take_length, List.drop_append_of_le_length (Nat.le_refl _), List.drop_length, List.nil_append]
theorem link_from (hA : Loop A u) (hB : Loop B v) (hd : ∀ x ∈ A, x ∉ B) : fromT (A ++ B ++ [u]) u = A ++ B ++ [u] ∧ fromT (A ++ B ++ [u]) v = B ++ A ++ [v] := by
  obtain ⟨h1, _⟩ := cut_of hA hB hd
  constructor
  · obtain ⟨a, rfl⟩ := hA.cons
    unfold fromT
    rw [List.cons_append, List.cons_append, firstI, if_pos rfl]
    exact rotT_zero _
  · unfold fromT rotT
    rw [h1, Int.toNat_natCast]
    obtain ⟨b, rfl⟩ := hB.cons
    rw [List.append_assoc, List.drop_append_of_le_length (Nat.le_refl _), List.drop_length, List.nil_append, List.take_append, List.take_of_length_le (Nat.le_succ _), show A.length + 1 - A.length = 1 by omega]
    obtain ⟨a, rfl⟩ := hA.cons
    simp
end
/-- The tour from a vertex on is such a part. -/
theorem from_loop {l : List Int} (h : isT l = true) {u : Int} (hu : u ∈ l) : Loop (fromT l u) u := by
  obtain ⟨h1, h2, h3, _⟩ := fromT_spec h hu
  exact ⟨by rw [h1]; exact isT_ne h, h2, by rw [h1]; exact h3⟩
end Go.Proofs.Ytbnkanhibjoleaa
