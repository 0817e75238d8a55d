/-
  name.Less walked.
-/
import Derived.Test.YtnfogcnlkchdmaaEdge
namespace Go.Proofs.Ytnfogcnlkchdmaa
open Go Go.RowKit

theorem less_any (a b c d e f : Int) (w : World) :
    Calls Try.prog 11 #[.agg #[.int .i64 a, .int .i64 b, .int .i64 c], .agg #[.int .i64 d, .int .i64 e, .int .i64 f]] w (Ret (.bool (ltE (a, b, c) (d, e, f))) w) := by
  have hbel : ∀ o1 o2, Below w.heap.size w ((w.alloc o1).alloc o2) := fun o1 o2 => ((Below.refl _ _).alloc (Nat.le_refl _) _).alloc (by simp) _
  have HB := hide hbel
  clear hbel
  by_cases h1 : a < d
  · have HF := hide (show ltE (a, b, c) (d, e, f) = true by simp [ltE, h1])
    go_enter Try.func11, Try.ntmps11
    go_wp2
    go_ret
    exact ⟨congrArg (fun x => Ending.returned (.bool x)) HF.out.symm, HB.out _ _⟩
  · by_cases h2 : a = d
    · subst h2
      have HF := hide (show ltE (a, b, c) (a, e, f) = decide (b < e) by simp [ltE])
      go_enter Try.func11, Try.ntmps11
      go_wp2
      go_ret
      exact ⟨congrArg (fun x => Ending.returned (.bool x)) HF.out.symm, HB.out _ _⟩
    · have HF := hide (show ltE (a, b, c) (d, e, f) = false by simp [ltE, h1, h2])
      have h3 : (a == d) = false := by simpa using h2
      clear h2
      go_enter Try.func11, Try.ntmps11
      go_wp2
      go_ret
      exact ⟨congrArg (fun x => Ending.returned (.bool x)) HF.out.symm, HB.out _ _⟩
end Go.Proofs.Ytnfogcnlkchdmaa
