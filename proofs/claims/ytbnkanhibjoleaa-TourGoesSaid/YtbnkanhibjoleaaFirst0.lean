/-
  The first place of a number: plain.
-/
import Derived.Test.YtbnkanhibjoleaaEdge
namespace Go.Proofs.Ytbnkanhibjoleaa
open Go Go.RowKit

/-- The first place of a vertex, counted from k; -1: there is none. -/
def firstI : List Int → Int → Int → Int
  | [], _, _ => -1
  | x :: l, v, k => if x = v then k else firstI l v (k + 1)
theorem firstI_mem (l : List Int) (v k : Int) (h : 0 ≤ k) : 0 ≤ firstI l v k ↔ v ∈ l := by
  induction l generalizing k with
  | nil => simp [firstI]
  | cons x l ih =>
    unfold firstI
    by_cases hx : x = v
    · simp [hx, h]
    · rw [if_neg hx, ih _ (by omega)]
      simp [Ne.symm hx]
theorem firstI_step (l : List Int) (v : Int) {k : Nat} (h : k < l.length) : firstI (l.drop k) v k = if l[k] = v then (k : Int) else firstI (l.drop (k + 1)) v ((k + 1 : Nat) : Int) := by
  rw [List.drop_eq_getElem_cons h, firstI]; rfl

end Go.Proofs.Ytbnkanhibjoleaa
