/-
  The law NameApart walked.
-/
import Derived.Test.YtnfogcnlkchdmaaNEnds
namespace Go.Proofs.Ytnfogcnlkchdmaa
open Go Go.RowKit
attribute [local go_sem] Heavy heavyUpon

def nm (u v : Int) : Int := if u < v then u * 16777216 + v else v * 16777216 + u
theorem vtx_in {u : Int} (h0 : 0 ≤ u) (h1 : u < 16777216) : vtx u = true := vtx_iff.2 ⟨h0, h1⟩
theorem of_loop {u : Int} (h0 : 0 ≤ u) (h1 : u < 16777216) (W : World) : Calls Try.prog 7 #[.int .i64 u, .int .i64 u] W (Ret (.tuple #[.int .u64 0, .int .i64 8]) W) := by
  have h := of_any u u W
  unfold nameE at h
  rwa [if_pos ⟨vtx_in h0 h1, vtx_in h0 h1⟩, if_pos rfl] at h
theorem of_good {u v : Int} (h0 : 0 ≤ u) (h1 : u < 16777216) (h2 : 0 ≤ v) (h3 : v < 16777216) (hne : u ≠ v) (W : World) : Calls Try.prog 7 #[.int .i64 u, .int .i64 v] W (Ret (.tuple #[.int .u64 (nm u v), .int .i64 0]) W) := by
  have h := of_any u v W
  unfold nameE at h
  rw [if_pos ⟨vtx_in h0 h1, vtx_in h2 h3⟩, if_neg hne] at h
  unfold nm
  split <;> rename_i hl <;> simpa [hl] using h

set_option maxRecDepth 100000 in
set_option maxHeartbeats 6400000 in
theorem napart_ok (a b c d : Int) (w : World) (ha : 0 ≤ a ∧ a ≤ 4294967295) (hb : 0 ≤ b ∧ b ≤ 4294967295) (hc : 0 ≤ c ∧ c ≤ 4294967295) (hd : 0 ≤ d ∧ d ≤ 4294967295) :
    Calls Try.prog 6 #[.int .u32 a, .int .u32 b, .int .u32 c, .int .u32 d] w (Ret (.bool true) w) := by
  obtain ⟨a0, a1⟩ := ha
  obtain ⟨b0, b1⟩ := hb
  obtain ⟨c0, c1⟩ := hc
  obtain ⟨d0, d1⟩ := hd
  have u0 : 0 ≤ a % 16777216 := by omega
  have u1 : a % 16777216 < 16777216 := by omega
  have v0 : 0 ≤ b % 16777216 := by omega
  have v1 : b % 16777216 < 16777216 := by omega
  have p0 : 0 ≤ c % 16777216 := by omega
  have p1 : c % 16777216 < 16777216 := by omega
  have q0 : 0 ≤ d % 16777216 := by omega
  have q1 : d % 16777216 < 16777216 := by omega
  go_enter Try.func6, Try.ntmps6
  go_wp2_with (fail)
  generalize a % 16777216 = u at *
  generalize b % 16777216 = v at *
  generalize c % 16777216 = p at *
  generalize d % 16777216 = q at *
  clear a0 a1 b0 b1 c0 c1 d0 d1
  by_cases huv : u = v
  · subst huv
    refine (of_loop u0 u1 w).mono ?_
    rintro e w1 ⟨rfl, b1⟩
    by_cases hpq : p = q
    · subst hpq
      go_wp2_with (fail)
      refine (of_loop p0 p1 w1).mono ?_
      rintro e w2 ⟨rfl, b2⟩
      have c2 := b1.trans (b2.mono b1.size)
      (go_wp2_with (fail); refine (nawake_ok w2).mono ?_; rintro e w3 ⟨rfl, b3⟩; have c3 := c2.trans (b3.mono c2.size); go_wp2_with (fail); go_ret; exact ⟨rfl, c3⟩)
    · have hpq' : (p != q) = true := bne_iff_ne.2 hpq
      go_wp2_with (fail)
      refine (of_good p0 p1 q0 q1 hpq w1).mono ?_
      rintro e w2 ⟨rfl, b2⟩
      have c2 := b1.trans (b2.mono b1.size)
      (go_wp2_with (fail); refine (nawake_ok w2).mono ?_; rintro e w3 ⟨rfl, b3⟩; have c3 := c2.trans (b3.mono c2.size); go_wp2_with (fail); go_ret; exact ⟨rfl, c3⟩)
  · have huv' : (u != v) = true := bne_iff_ne.2 huv
    refine (of_good u0 u1 v0 v1 huv w).mono ?_
    rintro e w1 ⟨rfl, b1⟩
    by_cases hpq : p = q
    · subst hpq
      go_wp2_with (fail)
      refine (of_loop p0 p1 w1).mono ?_
      rintro e w2 ⟨rfl, b2⟩
      have c2 := b1.trans (b2.mono b1.size)
      (go_wp2_with (fail); refine (nawake_ok w2).mono ?_; rintro e w3 ⟨rfl, b3⟩; have c3 := c2.trans (b3.mono c2.size); go_wp2_with (fail); go_ret; exact ⟨rfl, c3⟩)
    · go_wp2_with (fail)
      refine (of_good p0 p1 q0 q1 hpq w1).mono ?_
      rintro e w2 ⟨rfl, b2⟩
      have c2 := b1.trans (b2.mono b1.size)
      clear b1 b2
      have hu := Int.lt_or_lt_of_ne huv
      have hp := Int.lt_or_lt_of_ne hpq
      clear huv hpq huv'
      rcases hu with hu | hu <;> rcases hp with hp | hp
      · (have hX : ∃ X, X = nm u v ∧ X = u * 16777216 + v := ⟨_, rfl, (by unfold nm; split <;> omega)⟩; have hY : ∃ Y, Y = nm p q ∧ Y = p * 16777216 + q := ⟨_, rfl, (by unfold nm; split <;> omega)⟩; obtain ⟨X, eX, hX⟩ := hX; obtain ⟨Y, eY, hY⟩ := hY; rw [← eX, ← eY]; clear eX eY; have x48 : X < 281474976710656 := (by omega); have x0 : 0 ≤ X := (by omega); have n1 : u ≤ v := (by omega); have n2 : p ≤ q := (by omega); by_cases h1 : u = p; (· by_cases h2 : v = q; (· obtain rfl : X = Y := (by omega); subst h1 h2; clear hX hY; (go_wp2_with (fail); refine (nawake_ok w2).mono ?_; rintro e w3 ⟨rfl, b3⟩; have c3 := c2.trans (b3.mono c2.size); go_wp2_with (fail); go_ret; exact ⟨rfl, c3⟩)); (· have hn : (X == Y) = false := beq_eq_false_iff_ne.2 (by omega); have h2' : (v == q) = false := beq_eq_false_iff_ne.2 h2; subst h1; clear hX hY h2; (go_wp2_with (fail); refine (nawake_ok w2).mono ?_; rintro e w3 ⟨rfl, b3⟩; have c3 := c2.trans (b3.mono c2.size); go_wp2_with (fail); go_ret; exact ⟨rfl, c3⟩))); (· have hn : (X == Y) = false := beq_eq_false_iff_ne.2 (by omega); have h1' : (u == p) = false := beq_eq_false_iff_ne.2 h1; clear hX hY h1; (go_wp2_with (fail); refine (nawake_ok w2).mono ?_; rintro e w3 ⟨rfl, b3⟩; have c3 := c2.trans (b3.mono c2.size); go_wp2_with (fail); go_ret; exact ⟨rfl, c3⟩)))
      · (have hX : ∃ X, X = nm u v ∧ X = u * 16777216 + v := ⟨_, rfl, (by unfold nm; split <;> omega)⟩; have hY : ∃ Y, Y = nm p q ∧ Y = q * 16777216 + p := ⟨_, rfl, (by unfold nm; split <;> omega)⟩; obtain ⟨X, eX, hX⟩ := hX; obtain ⟨Y, eY, hY⟩ := hY; rw [← eX, ← eY]; clear eX eY; have x48 : X < 281474976710656 := (by omega); have x0 : 0 ≤ X := (by omega); have n1 : u ≤ v := (by omega); have n2 : q ≤ p := (by omega); by_cases h1 : u = q; (· by_cases h2 : v = p; (· obtain rfl : X = Y := (by omega); subst h1 h2; clear hX hY; (go_wp2_with (fail); refine (nawake_ok w2).mono ?_; rintro e w3 ⟨rfl, b3⟩; have c3 := c2.trans (b3.mono c2.size); go_wp2_with (fail); go_ret; exact ⟨rfl, c3⟩)); (· have hn : (X == Y) = false := beq_eq_false_iff_ne.2 (by omega); have h2' : (v == p) = false := beq_eq_false_iff_ne.2 h2; subst h1; clear hX hY h2; (go_wp2_with (fail); refine (nawake_ok w2).mono ?_; rintro e w3 ⟨rfl, b3⟩; have c3 := c2.trans (b3.mono c2.size); go_wp2_with (fail); go_ret; exact ⟨rfl, c3⟩))); (· have hn : (X == Y) = false := beq_eq_false_iff_ne.2 (by omega); have h1' : (u == q) = false := beq_eq_false_iff_ne.2 h1; clear hX hY h1; (go_wp2_with (fail); refine (nawake_ok w2).mono ?_; rintro e w3 ⟨rfl, b3⟩; have c3 := c2.trans (b3.mono c2.size); go_wp2_with (fail); go_ret; exact ⟨rfl, c3⟩)))
      · (have hX : ∃ X, X = nm u v ∧ X = v * 16777216 + u := ⟨_, rfl, (by unfold nm; split <;> omega)⟩; have hY : ∃ Y, Y = nm p q ∧ Y = p * 16777216 + q := ⟨_, rfl, (by unfold nm; split <;> omega)⟩; obtain ⟨X, eX, hX⟩ := hX; obtain ⟨Y, eY, hY⟩ := hY; rw [← eX, ← eY]; clear eX eY; have x48 : X < 281474976710656 := (by omega); have x0 : 0 ≤ X := (by omega); have n1 : v ≤ u := (by omega); have n2 : p ≤ q := (by omega); by_cases h1 : v = p; (· by_cases h2 : u = q; (· obtain rfl : X = Y := (by omega); subst h1 h2; clear hX hY; (go_wp2_with (fail); refine (nawake_ok w2).mono ?_; rintro e w3 ⟨rfl, b3⟩; have c3 := c2.trans (b3.mono c2.size); go_wp2_with (fail); go_ret; exact ⟨rfl, c3⟩)); (· have hn : (X == Y) = false := beq_eq_false_iff_ne.2 (by omega); have h2' : (u == q) = false := beq_eq_false_iff_ne.2 h2; subst h1; clear hX hY h2; (go_wp2_with (fail); refine (nawake_ok w2).mono ?_; rintro e w3 ⟨rfl, b3⟩; have c3 := c2.trans (b3.mono c2.size); go_wp2_with (fail); go_ret; exact ⟨rfl, c3⟩))); (· have hn : (X == Y) = false := beq_eq_false_iff_ne.2 (by omega); have h1' : (v == p) = false := beq_eq_false_iff_ne.2 h1; clear hX hY h1; (go_wp2_with (fail); refine (nawake_ok w2).mono ?_; rintro e w3 ⟨rfl, b3⟩; have c3 := c2.trans (b3.mono c2.size); go_wp2_with (fail); go_ret; exact ⟨rfl, c3⟩)))
      · (have hX : ∃ X, X = nm u v ∧ X = v * 16777216 + u := ⟨_, rfl, (by unfold nm; split <;> omega)⟩; have hY : ∃ Y, Y = nm p q ∧ Y = q * 16777216 + p := ⟨_, rfl, (by unfold nm; split <;> omega)⟩; obtain ⟨X, eX, hX⟩ := hX; obtain ⟨Y, eY, hY⟩ := hY; rw [← eX, ← eY]; clear eX eY; have x48 : X < 281474976710656 := (by omega); have x0 : 0 ≤ X := (by omega); have n1 : v ≤ u := (by omega); have n2 : q ≤ p := (by omega); by_cases h1 : v = q; (· by_cases h2 : u = p; (· obtain rfl : X = Y := (by omega); subst h1 h2; clear hX hY; (go_wp2_with (fail); refine (nawake_ok w2).mono ?_; rintro e w3 ⟨rfl, b3⟩; have c3 := c2.trans (b3.mono c2.size); go_wp2_with (fail); go_ret; exact ⟨rfl, c3⟩)); (· have hn : (X == Y) = false := beq_eq_false_iff_ne.2 (by omega); have h2' : (u == p) = false := beq_eq_false_iff_ne.2 h2; subst h1; clear hX hY h2; (go_wp2_with (fail); refine (nawake_ok w2).mono ?_; rintro e w3 ⟨rfl, b3⟩; have c3 := c2.trans (b3.mono c2.size); go_wp2_with (fail); go_ret; exact ⟨rfl, c3⟩))); (· have hn : (X == Y) = false := beq_eq_false_iff_ne.2 (by omega); have h1' : (v == q) = false := beq_eq_false_iff_ne.2 h1; clear hX hY h1; (go_wp2_with (fail); refine (nawake_ok w2).mono ?_; rintro e w3 ⟨rfl, b3⟩; have c3 := c2.trans (b3.mono c2.size); go_wp2_with (fail); go_ret; exact ⟨rfl, c3⟩)))
end Go.Proofs.Ytnfogcnlkchdmaa
