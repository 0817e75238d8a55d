/-
  name.Sort of any number of edges walked.
-/
import Derived.Test.YtnfogcnlkchdmaaStable
namespace Go.Proofs.Ytnfogcnlkchdmaa
open Go Go.RowKit
attribute [local go_sem] Heavy heavyUpon

theorem insort_none (R : Option Addr) (d : Nat) (w : World) : Calls Try.prog 22 #[.slice R 0 d, .int .i64 0, .int .i64 0, cmpF] w (Ret (.tuple #[]) w) := by
  unfold cmpF
  go_enter Try.func22, Try.ntmps22
  go_wp2_with (fail)
  go_loopw [8] (fun u wr => u = .int .i64 1 ∧ wr = w) (fun _ _ => 0)
  case atStart => exact ⟨rfl, rfl⟩
  case round =>
    obtain ⟨rfl, rfl⟩ := hrel
    go_wp2_with (fail)
    go_end0
    exact ⟨rfl, Below.refl _ _⟩
theorem stable_none (R : Option Addr) (d : Nat) (w : World) : Calls Try.prog 21 #[.slice R 0 d, .int .i64 0, cmpF] w (Ret (.tuple #[]) w) := by
  have Q1 := hide (fun W => insort_none R d W)
  unfold cmpF at *
  go_enter Try.func21, Try.ntmps21
  go_wp2_with (fail)
  go_loopw [7, 8] (fun u v wr => u = .int .i64 0 ∧ v = .int .i64 20 ∧ wr = w) (fun _ _ _ => 0)
  case atStart => exact ⟨rfl, rfl, rfl⟩
  case round =>
    obtain ⟨rfl, rfl, rfl⟩ := hrel
    go_wp2_with (fail)
    refine (Q1.out _).mono ?_
    rintro e w1 ⟨rfl, b1⟩
    go_wp2_with (fail)
    go_loopw [6] (fun u wr => u = .int .i64 20 ∧ wr = w1) (fun _ _ => 0)
    case atStart => exact ⟨rfl, rfl⟩
    case round =>
      obtain ⟨rfl, rfl⟩ := hrel
      go_wp2_with (fail)
      go_end0
      exact ⟨rfl, b1⟩
theorem sortf_none (R : Option Addr) (d : Nat) (w : World) : Calls Try.prog 19 #[.slice R 0 d, cmpF] w (Ret (.tuple #[]) w) := by
  have Q1 := hide (stable_none R d w)
  unfold cmpF at *
  go_enter Try.func19, Try.ntmps19
  go_wp2_with (fail)
  refine (Q1.out).mono ?_
  rintro e w1 ⟨rfl, b1⟩
  go_wp2_with (fail)
  go_end0
  exact ⟨rfl, b1⟩
theorem sortf_any (l : List E3) (g m c : Nat) (w : World) (hH : Hd w g l) (hm : l.length = m) (hmm : m ≤ 10000) :
    Calls Try.prog 19 #[.slice (some ⟨g, 0, none⟩) m c, cmpF] w fun e w' => e = .returned (.tuple #[]) ∧ Hd w' g (sortE l) ∧ Below g w w' := by
  have Q1 := hide (stable_any l g m c w hH hm hmm)
  clear hH hm hmm
  unfold cmpF at *
  go_enter Try.func19, Try.ntmps19
  go_wp2_with (fail)
  refine (Q1.out).mono ?_
  rintro e w1 ⟨rfl, h1, b1⟩
  go_wp2_with (fail)
  go_end0
  exact ⟨rfl, h1, b1⟩
theorem nsort_any (l : List E3) (A : Option Addr) (m c : Nat) (w : World) (hS : ESl w [] A m c l) (hmm : m ≤ 10000) :
    Calls Try.prog 14 #[.slice A m c] w fun e w' => ∃ R d, e = .returned (.slice R m d) ∧ ESl w' [] R m d (sortE l) ∧ Below w.heap.size w w' := by
  have HL := hide hS.length
  have Q1 := hide (cloneE_ok (ecells l) [] A m c w hS ecells_one (by omega))
  rcases Nat.eq_zero_or_pos m with h0 | h0
  · subst h0
    have Q2 := hide (fun R d W => sortf_none R d W)
    have hl : l = [] := List.eq_nil_of_length_eq_zero HL.out
    subst hl
    clear hS
    unfold cmpF at Q2
    go_enter Try.func14, Try.ntmps14
    go_wp2_with (fail)
    refine (Q1.out).mono ?_
    rintro e w1 ⟨R, d, rfl, h1, b1⟩
    have S1 := own_sl h1 [] (by simp)
    clear h1
    go_wp2_with (fail)
    refine (Q2.out R d w1).mono ?_
    rintro e w2 ⟨rfl, b2⟩
    have S2 := S1.below b2
    have b3 := b1.trans (b2.mono b1.size)
    go_wp2_with (fail)
    go_ret
    exact ⟨_, d, rfl, S2, b3⟩
  · have Q2 := hide (fun g d W (h : Hd W g l) => sortf_any l g m d W h hS.length hmm)
    clear hS
    unfold cmpF at Q2
    go_enter Try.func14, Try.ntmps14
    go_wp2_with (fail)
    refine (Q1.out).mono ?_
    rintro e w1 ⟨R, d, rfl, h1, b1⟩
    obtain ⟨g, rfl, hg, hh, z1, z2⟩ := Hd.of_own h1 h0
    have HH := hide hh
    clear h1 hh
    go_wp2_with (fail)
    refine (Q2.out g d w1 HH.out).mono ?_
    rintro e w2 ⟨rfl, h2, b2⟩
    have H2 := hide (h2.sl (by rw [sortE_len]; exact HL.out) z1 z2)
    have b3 := b1.trans (b2.mono hg)
    clear h2 b2 b1
    go_wp2_with (fail)
    go_ret
    exact ⟨_, d, rfl, H2.out, b3⟩
end Go.Proofs.Ytnfogcnlkchdmaa
