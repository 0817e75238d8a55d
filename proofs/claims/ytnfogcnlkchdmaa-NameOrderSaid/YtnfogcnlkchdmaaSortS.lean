/-
  name.Sort of fewer than twenty edges walked.
-/
import Derived.Test.YtnfogcnlkchdmaaInsort
import Derived.Test.YtnfogcnlkchdmaaCloneE
namespace Go.Proofs.Ytnfogcnlkchdmaa
open Go Go.RowKit
attribute [local go_sem] Heavy heavyUpon

set_option maxHeartbeats 1600000 in
theorem stable_short (l : List E3) (g m c : Nat) (w : World) (hH : Hd w g l) (hm : l.length = m) (h20 : m < 20) :
    Calls Try.prog 21 #[.slice (some ⟨g, 0, none⟩) m c, .int .i64 m, cmpF] w fun e w' => e = .returned (.tuple #[]) ∧ Hd w' g (sortE l) ∧ Below g w w' := by
  have QI := insort_any [] l [] g m c 0 m w (by simpa using hH) (by simpa using hm) rfl (by simpa using hm) (by omega)
  have Q1 := hide QI
  have h20' : (m : Int) < 20 := by omega
  clear QI hm hH h20
  unfold cmpF at *
  go_enter Try.func21, Try.ntmps21
  go_wp2_with (fail)
  go_loopw [7, 8] (fun u v wr => u = .int .i64 0 ∧ v = .int .i64 20 ∧ wr = w) (fun _ _ _ => 0)
  case atStart => exact ⟨rfl, rfl, rfl⟩
  case round =>
    obtain ⟨rfl, rfl, rfl⟩ := hrel
    go_wp2_with (fail)
    refine (Q1.out).mono ?_
    rintro e w1 ⟨rfl, h1, b1⟩
    have H1 := hide h1
    clear h1
    go_wp2_with (fail)
    go_loopw [6] (fun u wr => u = .int .i64 20 ∧ wr = w1) (fun _ _ => 0)
    case atStart => exact ⟨rfl, rfl⟩
    case round =>
      obtain ⟨rfl, rfl⟩ := hrel
      go_wp2_with (fail)
      go_end0
      exact ⟨rfl, by simpa using H1.out, b1⟩

theorem sortf_short (l : List E3) (g m c : Nat) (w : World) (hH : Hd w g l) (hm : l.length = m) (h20 : m < 20) :
    Calls Try.prog 19 #[.slice (some ⟨g, 0, none⟩) m c, cmpF] w fun e w' => e = .returned (.tuple #[]) ∧ Hd w' g (sortE l) ∧ Below g w w' := by
  have Q1 := hide (stable_short l g m c w hH hm h20)
  clear hH hm h20
  unfold cmpF at *
  go_enter Try.func19, Try.ntmps19
  go_wp2_with (fail)
  refine (Q1.out).mono ?_
  rintro e w1 ⟨rfl, h1, b1⟩
  go_wp2_with (fail)
  go_end0
  exact ⟨rfl, h1, b1⟩

/-- A row that is one's own, as a block of edges. -/
theorem Hd.of_own {w : World} {base m c : Nat} {A : Option Addr} {l : List E3} (h : w.ownsRow base 24 3 (.slice A m c) m (ecells l)) (hm : 0 < m) : ∃ g, A = some ⟨g, 0, none⟩ ∧ base ≤ g ∧ Hd w g l ∧ m ≤ c ∧ c ≤ maxLen := by
  obtain ⟨_, h⟩ := h
  rcases h with ⟨_, h0⟩ | ⟨g, cap, cur, hv, hb, hg, h1, h2, _, h4⟩
  · omega
  · injection hv with e1 _ e3
    subst e3
    refine ⟨g, e1, hb, ⟨cur, _, hg, fun j u hj => ?_⟩, h1, h2⟩
    rw [← h4, List.getElem?_take] at hj
    split at hj
    · simpa using hj
    · cases hj
theorem Hd.sl {w : World} {g m c : Nat} {l : List E3} (h : Hd w g l) (hl : l.length = m) (h1 : m ≤ c) (h2 : c ≤ maxLen) : ESl w [] (some ⟨g, 0, none⟩) m c l := by
  refine ⟨by rw [ecells_len, hl], h1, h2, fun _ => ⟨_, rfl, h.lt, by simp, fun j u hj => ?_⟩⟩
  obtain ⟨cs, t, e1, e2⟩ := h
  rw [Addr.add_lit, Nat.zero_add, cell_of_row w g _ cs t (0, 0) e1]
  exact e2 j u hj

theorem nsort_short (l : List E3) (A : Option Addr) (m c : Nat) (w : World) (hS : ESl w [] A m c l) (h0 : 0 < m) (h20 : m < 20) :
    Calls Try.prog 14 #[.slice A m c] w fun e w' => ∃ R d, e = .returned (.slice R m d) ∧ ESl w' [] R m d (sortE l) ∧ Below w.heap.size w w' := by
  have HL := hide hS.length
  have Q1 := hide (cloneE_ok (ecells l) [] A m c w hS ecells_one (by omega))
  have Q2 := hide (fun g d W (h : Hd W g l) => sortf_short l g m d W h hS.length h20)
  clear hS
  unfold cmpF at Q2
  go_enter Try.func14, Try.ntmps14
  go_wp2_with (fail)
  refine (Q1.out).mono ?_
  rintro e w1 ⟨R, d, rfl, h1, b1⟩
  obtain ⟨g, rfl, hg, hh, z1, z2⟩ := Hd.of_own h1 h0
  have HH := hide hh
  clear h1 hh
  go_wp2_with (fail)
  refine (Q2.out g d w1 HH.out).mono ?_
  rintro e w2 ⟨rfl, h2, b2⟩
  have H2 := hide (h2.sl (by rw [sortE_len]; exact HL.out) z1 z2)
  have b3 := b1.trans (b2.mono hg)
  clear h2 b2 b1
  go_wp2_with (fail)
  go_ret
  exact ⟨_, d, rfl, H2.out, b3⟩
end Go.Proofs.Ytnfogcnlkchdmaa
