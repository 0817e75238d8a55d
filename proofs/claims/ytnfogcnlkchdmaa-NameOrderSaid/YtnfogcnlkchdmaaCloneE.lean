/-
  slices.Clone of edges walked.
-/
import Derived.Test.YtnfogcnlkchdmaaApp
import Derived.Test.YtnfogcnlkchdmaaEdge
import Derived.Lib.SliceRun
namespace Go.Proofs.Ytnfogcnlkchdmaa
open Go Go.RowKit
attribute [local go_sem] Heavy heavyUpon

set_option maxHeartbeats 800000 in
theorem cloneE_ok (l : List Value) (M : List Nat) (A : Option Addr) (m c : Nat) (w : World) (hS : Sl w M 3 A m c l) (h1 : ∀ u ∈ l, u.oneCell' = true) (hm : m ≤ 10000) :
    Calls Try.prog 18 #[.slice A m c] w fun e w' => ∃ R d, e = .returned (.slice R m d) ∧ w'.ownsRow w.heap.size 24 3 (.slice R m d) m l ∧ Below w.heap.size w w' := by
  obtain ⟨ie, hie, hze, he1, he2⟩ := info_parts edge_info
  have q22 : ∀ (w : World) (a : Option Addr) (n c n' c' : Nat), (binOp .eql 37 (.slice a n c) (.slice none n' c')).run Try.prog w = .ok (.bool a.isNone) w := fun w a n c n' c' => Lib.run_eql_slice_nil w _ _ a n c n' c' Try.underlying37
  cases A with
  | none =>
    obtain rfl : m = 0 := by
      rcases Nat.eq_zero_or_pos m with h0 | h0
      · exact h0
      · obtain ⟨ad, h, _⟩ := hS.at_ h0
        cases h
    obtain rfl : l = [] := List.eq_nil_of_length_eq_zero (by simpa using hS.len)
    go_enter Try.func18, Try.ntmps18
    go_wp2_with (fail)
    go_ret
    exact ⟨none, 0, rfl, World.ownsRow_nil _ _ _ _, Below.refl _ _⟩
  | some ad =>
    have O2 := own_empty w 24 3
    have S2 := hS.alloc (.cells #[] 24)
    have HO := hide O2
    have hb2 := (Below.refl w.heap.size w).alloc (Nat.le_refl _) (.cells #[] 24)
    clear O2
    go_enter Try.func18, Try.ntmps18
    (go_wp2_with (at_builtin; refine stopAt ?_); refine stopGo ?_)
    refine wpList_append_sl _ rfl (.tmp 5) (.tmp 6) _ rfl w.heap.size 24 ie _ 3 24 Try.underlying37 hie hze he1 he2 rfl (by omega) _ _ _ rfl HO.out M _ m c l rfl S2 h1 (by simp only [maxLen]; omega) (by omega) (by simp) ?_
    intro A5 c5 w5 own5 g5 _
    have hg5 := below_grown HO.out g5 (Nat.le_refl _) hb2.size
    have hb5 := hb2.trans hg5
    simp only [Nat.zero_add, List.nil_append] at own5 ⊢
    have OW5 := hide own5
    clear own5 g5 hg5
    go_wp2_with (fail)
    go_ret
    exact ⟨A5, c5, rfl, OW5.out, hb5⟩
end Go.Proofs.Ytnfogcnlkchdmaa
