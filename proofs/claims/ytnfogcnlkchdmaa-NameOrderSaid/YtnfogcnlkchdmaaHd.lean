/-
  A block that holds edges, some of which are stored anew in place: how the walk meets it.
-/
import Derived.Test.YtnfogcnlkchdmaaEdge
import Derived.Test.YtnfogcnlkchdmaaLess
namespace Go.Proofs.Ytnfogcnlkchdmaa
open Go Go.RowKit

/-- Block g holds the edges l, from its first cell on; none of its cells is frozen. -/
def Hd (W : World) (g : Nat) (l : List E3) : Prop :=
  ∃ (cs : Array Value) (t : TypeId), W.heap[g]? = some (.cells cs t (0, 0)) ∧ ∀ (j : Nat) (u : Value), (ecells l)[j]? = some u → cs[j]? = some u
namespace Hd
variable {W : World} {g : Nat} {l : List E3}
theorem lt (h : Hd W g l) : g < W.heap.size := by
  obtain ⟨cs, t, h1, _⟩ := h
  rcases Nat.lt_or_ge g W.heap.size with h2 | h2
  · exact h2
  · rw [Array.getElem?_eq_none h2] at h1; cases h1
theorem drew (h : Hd W g l) : Hd W.drew g l := h
theorem alloc (h : Hd W g l) (o : Obj) : Hd (W.alloc o) g l := by
  have hl := h.lt
  obtain ⟨cs, t, h1, h2⟩ := h
  exact ⟨cs, t, by rw [Below.heap_alloc _ _ _ hl]; exact h1, h2⟩
theorem below {B : Nat} {W' : World} (h : Hd W g l) (hb : Below B W W') (hg : g < B) : Hd W' g l := by
  obtain ⟨cs, t, h1, h2⟩ := h
  exact ⟨cs, t, (hb.block g hg).trans h1, h2⟩
/-- The three cells of the edge at k, and that none is frozen. -/
theorem get (h : Hd W g l) {k : Nat} {x y z : Int} (hk : k < l.length) (hx : l[k] = (x, y, z)) :
    W.cell? ⟨g, k * 3, none⟩ = some (.int .i64 x) ∧ W.cell? ⟨g, k * 3 + 1, none⟩ = some (.int .i64 y) ∧ W.cell? ⟨g, k * 3 + 2, none⟩ = some (.int .i64 z) ∧
      W.frozen? ⟨g, k * 3, none⟩ = false ∧ W.frozen? ⟨g, k * 3 + 1, none⟩ = false ∧ W.frozen? ⟨g, k * 3 + 2, none⟩ = false := by
  obtain ⟨cs, t, h1, h2⟩ := h
  have c0 := h2 _ _ (ecells_get0 l k hk)
  have c1 := h2 _ _ (ecells_get1 l k hk)
  have c2 := h2 _ _ (ecells_get2 l k hk)
  rw [hx] at c0 c1 c2
  refine ⟨?_, ?_, ?_, ?_, ?_, ?_⟩
  · rw [cell_of_row W g _ cs t (0, 0) h1]; exact c0
  · rw [cell_of_row W g _ cs t (0, 0) h1]; exact c1
  · rw [cell_of_row W g _ cs t (0, 0) h1]; exact c2
  all_goals (unfold World.frozen?; simp only []; rw [h1]; simp)
/-- An edge stored at k. -/
theorem set (h : Hd W g l) (k : Nat) (x y z : Int) : Hd (((W.setCell ⟨g, k * 3, none⟩ (.int .i64 x)).setCell ⟨g, k * 3 + 1, none⟩ (.int .i64 y)).setCell ⟨g, k * 3 + 2, none⟩ (.int .i64 z)) g (l.set k (x, y, z)) := by
  obtain ⟨cs, t, h1, h2⟩ := h
  refine ⟨((cs.setIfInBounds (k * 3) (.int .i64 x)).setIfInBounds (k * 3 + 1) (.int .i64 y)).setIfInBounds (k * 3 + 2) (.int .i64 z), t, ?_, ?_⟩
  · exact ((Blk.set_ (show Blk W g t cs from h1) _ _).set_ _ _).set_ _ _
  · intro j u hu
    have hj : j < (ecells (l.set k (x, y, z))).length := (List.getElem?_eq_some_iff.1 hu).1
    rw [ecells_len, List.length_set] at hj
    have hi : j / 3 < l.length := by omega
    have old : ∀ i v, (ecells l)[i]? = some v → i < cs.size := fun i v hv => (Array.getElem?_eq_some_iff.1 (h2 i v hv)).1
    have key : (ecells (l.set k (x, y, z)))[j]? = if j / 3 = k then (ecell (x, y, z))[j % 3]? else (ecells l)[j]? := by
      have e1 := flat_get ecell ecell_len (l.set k (x, y, z)) (j / 3) (j % 3) (by rw [List.length_set]; exact hi) (by omega)
      have e2 := flat_get ecell ecell_len l (j / 3) (j % 3) hi (by omega)
      rw [show j / 3 * 3 + j % 3 = j by omega] at e1 e2
      unfold ecells
      rw [e1, e2, List.getElem_set]
      by_cases hk : j / 3 = k
      · rw [if_pos hk.symm, if_pos hk]
      · rw [if_neg (fun e => hk e.symm), if_neg hk]
    rw [key] at hu
    have hb : j < cs.size := by
      obtain ⟨v, hv⟩ : ∃ v, (ecells l)[j]? = some v := ⟨_, List.getElem?_eq_getElem (by rw [ecells_len]; omega)⟩
      exact old j v hv
    by_cases hk : j / 3 = k
    · rw [if_pos hk] at hu
      subst hk
      have hm : j % 3 = 0 ∨ j % 3 = 1 ∨ j % 3 = 2 := by omega
      simp only [Array.getElem?_setIfInBounds, Array.size_setIfInBounds]
      rcases hm with hm | hm | hm <;> rw [hm] at hu <;> simp only [ecell, List.getElem?_cons_zero, List.getElem?_cons_succ] at hu
      · rw [if_neg (by omega), if_neg (by omega), if_pos (by omega), if_pos (by omega)]; exact hu
      · rw [if_neg (by omega), if_pos (by omega), if_pos (by omega)]; exact hu
      · rw [if_pos (by omega), if_pos (by omega)]; exact hu
    · rw [if_neg hk] at hu
      simp only [Array.getElem?_setIfInBounds, Array.size_setIfInBounds]
      rw [if_neg (by omega), if_neg (by omega), if_neg (by omega)]
      exact h2 j u hu
end Hd
/-- Two edges change places. -/
def sw (l : List E3) (i j : Nat) (x y : E3) : List E3 := (l.set i y).set j x
end Go.Proofs.Ytnfogcnlkchdmaa
