/-
  The first place of an edge with two ends: plain.
-/
import Derived.Test.YtnfogcnlkchdmaaEdge
namespace Go.Proofs.Ytnfogcnlkchdmaa
open Go Go.RowKit

def hitE (u v : Int) (e : E3) : Bool := (e.1 == u && e.2.1 == v) || (e.1 == v && e.2.1 == u)
/-- The first place of an edge of u and v, counted from k; -1: there is none. -/
def findI : List E3 → Int → Int → Int → Int
  | [], _, _, _ => -1
  | x :: l, u, v, k => if hitE u v x = true then k else findI l u v (k + 1)
theorem findI_mem (l : List E3) (u v k : Int) (h : 0 ≤ k) : 0 ≤ findI l u v k ↔ ∃ e ∈ l, hitE u v e = true := by
  induction l generalizing k with
  | nil => simp [findI]
  | cons x l ih =>
    unfold findI
    by_cases hx : hitE u v x = true
    · simp [hx, h]
    · rw [if_neg hx, ih _ (by omega)]
      simp [hx]
theorem findI_lo (l : List E3) (u v k : Int) (h : 0 ≤ k) : -1 ≤ findI l u v k := by
  induction l generalizing k with
  | nil => simp [findI]
  | cons x l ih =>
    unfold findI
    split
    · omega
    · exact ih _ (by omega)
theorem findI_step (l : List E3) (u v : Int) {k : Nat} (h : k < l.length) : findI (l.drop k) u v k = if hitE u v l[k] = true then (k : Int) else findI (l.drop (k + 1)) u v ((k + 1 : Nat) : Int) := by
  rw [List.drop_eq_getElem_cons h, findI]; rfl

end Go.Proofs.Ytnfogcnlkchdmaa
