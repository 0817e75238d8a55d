/-
  raftsmanref03.Less walked.
-/
import Derived.Test.YtbnkanhibjoleaaEdge
namespace Go.Proofs.Ytbnkanhibjoleaa
open Go Go.RowKit

theorem rless_any (a b c d e f : Int) (w : World) :
    Calls Try.prog 35 #[.agg #[.int .i64 a, .int .i64 b, .int .i64 c], .agg #[.int .i64 d, .int .i64 e, .int .i64 f]] w (Ret (.bool (ltE (a, b, c) (d, e, f))) w) := by
  have hbel : ∀ o1 o2, Below w.heap.size w ((w.alloc o1).alloc o2) := fun o1 o2 => ((Below.refl _ _).alloc (Nat.le_refl _) _).alloc (by simp) _
  have HB := hide hbel
  clear hbel
  by_cases h2 : a = d
  · subst h2
    have HF := hide (show ltE (a, b, c) (a, e, f) = decide (b < e) by simp [ltE])
    go_enter Try.func35, Try.ntmps35
    go_wp2
    go_ret
    exact ⟨congrArg (fun x => Ending.returned (.bool x)) HF.out.symm, HB.out _ _⟩
  · have HF := hide (show ltE (a, b, c) (d, e, f) = decide (a < d) by simp [ltE, h2])
    have h3 : (a != d) = true := by simpa using h2
    clear h2
    go_enter Try.func35, Try.ntmps35
    go_wp2
    go_ret
    exact ⟨congrArg (fun x => Ending.returned (.bool x)) HF.out.symm, HB.out _ _⟩
end Go.Proofs.Ytbnkanhibjoleaa
