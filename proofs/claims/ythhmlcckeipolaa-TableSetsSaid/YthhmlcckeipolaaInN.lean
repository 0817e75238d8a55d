/-
  Is it one of n vertices? plain.
-/
import Derived.Test.YthhmlcckeipolaaEdge
namespace Go.Proofs.Ythhmlcckeipolaa
open Go Go.RowKit

/-- Is it a vertex? -/
def inN (n v : Int) : Bool := !(decide (v < 0)) && !(decide (n ≤ v))
theorem inN_yes {n v : Int} (h : 0 ≤ v ∧ v < n) : inN n v = true := by unfold inN; rw [decide_eq_false (by omega), decide_eq_false (by omega)]; rfl
theorem inN_no {n v : Int} (h : ¬ (0 ≤ v ∧ v < n)) : inN n v = false := by
  unfold inN
  by_cases h0 : v < 0
  · rw [decide_eq_true h0]; rfl
  · rw [decide_eq_true (show n ≤ v by omega)]; simp
theorem inN_iff {n v : Int} : inN n v = true ↔ 0 ≤ v ∧ v < n := by
  by_cases h : 0 ≤ v ∧ v < n
  · simp [inN_yes h, h]
  · simp [inN_no h, h]
end Go.Proofs.Ythhmlcckeipolaa
