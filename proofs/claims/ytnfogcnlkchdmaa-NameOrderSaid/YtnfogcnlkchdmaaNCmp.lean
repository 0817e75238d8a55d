/-
  The comparison of name.Sort, and the insertion sort of the library, walked.
-/
import Derived.Test.YtnfogcnlkchdmaaLess
import Derived.Test.YtnfogcnlkchdmaaApp
import Derived.Test.YtnfogcnlkchdmaaLexD
import Derived.Laws.OwnMore
namespace Go.Proofs.Ytnfogcnlkchdmaa
open Go Go.RowKit
attribute [local go_sem] Heavy heavyUpon

def cmpE (x y : E3) : Int := if ltE x y = true then -1 else if ltE y x = true then 1 else 0
theorem cmp_any (a b c d e f : Int) (w : World) :
    Calls Try.prog 20 #[.agg #[.int .i64 a, .int .i64 b, .int .i64 c], .agg #[.int .i64 d, .int .i64 e, .int .i64 f]] w (Ret (.int .i64 (cmpE (a, b, c) (d, e, f))) w) := by
  have b0 := ((Below.refl w.heap.size w).alloc (Nat.le_refl _) (.cells #[.int .i64 a, .int .i64 b, .int .i64 c] 24)).alloc (by simp) (.cells #[.int .i64 d, .int .i64 e, .int .i64 f] 24)
  have B1 := (Blk.new w 24 #[.int .i64 a, .int .i64 b, .int .i64 c]).alloc (.cells #[.int .i64 d, .int .i64 e, .int .i64 f] 24)
  have B2 := Blk.new (w.alloc (.cells #[.int .i64 a, .int .i64 b, .int .i64 c] 24)) 24 #[.int .i64 d, .int .i64 e, .int .i64 f]
  rw [heap_alloc_size] at B2
  have q1 := fun W => less_any a b c d e f W
  have q2 := fun W => less_any d e f a b c W
  unfold cmpE
  cases h1 : ltE (a, b, c) (d, e, f)
  · rw [h1] at q1
    rw [if_neg (by decide)]
    have Q1 := hide q1
    cases h2 : ltE (d, e, f) (a, b, c)
    · rw [h2] at q2
      have Q2 := hide q2
      rw [if_neg (by decide)]
      clear q1 q2 h1 h2
      go_enter Try.func20, Try.ntmps20
      go_wp2_with (fail)
      refine (Q1.out _).mono ?_
      rintro e1 w1 ⟨rfl, b1⟩
      have hb1 := b0.trans (b1.mono b0.size)
      obtain ⟨x0, x1, x2⟩ := (B1.below b1 (Blk.lt B1)).facts
      obtain ⟨y0, y1, y2⟩ := (B2.below b1 (Blk.lt B2)).facts
      go_wp2_with (fail)
      refine (Q2.out _).mono ?_
      rintro e2 w2 ⟨rfl, b2⟩
      go_wp2_with (fail)
      go_ret
      exact ⟨rfl, hb1.trans (b2.mono hb1.size)⟩
    · rw [h2] at q2
      have Q2 := hide q2
      rw [if_pos rfl]
      clear q1 q2 h1 h2
      go_enter Try.func20, Try.ntmps20
      go_wp2_with (fail)
      refine (Q1.out _).mono ?_
      rintro e1 w1 ⟨rfl, b1⟩
      have hb1 := b0.trans (b1.mono b0.size)
      obtain ⟨x0, x1, x2⟩ := (B1.below b1 (Blk.lt B1)).facts
      obtain ⟨y0, y1, y2⟩ := (B2.below b1 (Blk.lt B2)).facts
      go_wp2_with (fail)
      refine (Q2.out _).mono ?_
      rintro e2 w2 ⟨rfl, b2⟩
      go_wp2_with (fail)
      go_ret
      exact ⟨rfl, hb1.trans (b2.mono hb1.size)⟩
  · rw [h1] at q1
    rw [if_pos rfl]
    have Q1 := hide q1
    clear q1 q2 h1
    go_enter Try.func20, Try.ntmps20
    go_wp2_with (fail)
    refine (Q1.out _).mono ?_
    rintro e1 w1 ⟨rfl, b1⟩
    have hb1 := b0.trans (b1.mono b0.size)
    go_wp2_with (fail)
    go_ret
    exact ⟨rfl, hb1⟩
end Go.Proofs.Ytnfogcnlkchdmaa
