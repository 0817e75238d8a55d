/-
  raftsmanref03.Of walked.
-/
import Derived.Test.YtnfogcnlkchdmaaNameOf
import Derived.Laws.Bits64b
namespace Go.Proofs.Ytnfogcnlkchdmaa
open Go Go.RowKit
attribute [local go_sem] Heavy heavyUpon

theorem name_or {u v : Int} (u0 : 0 ≤ u) (u1 : u < 16777216) (v0 : 0 ≤ v) (v1 : v < 16777216) : bits .or .u64 (u * 16777216) v = u * 16777216 + v := by
  obtain ⟨a, rfl⟩ := Int.eq_ofNat_of_zero_le u0
  obtain ⟨b, rfl⟩ := Int.eq_ofNat_of_zero_le v0
  have h1 := bits_or_u64_nat (a * 16777216) b (by omega) (by omega)
  have h2 := Nat.shiftLeft_add_eq_or_of_lt (a := a) (b := b) (i := 24) (by omega)
  rw [Nat.shiftLeft_eq] at h2
  have h3 : a * 16777216 ||| b = a * 16777216 + b := h2.symm
  rw [h3] at h1
  simpa using h1

set_option maxHeartbeats 400000 in
theorem rof_any (u v : Int) (w : World) : Calls Try.prog 8 #[.int .i64 u, .int .i64 v] w (Ret (.tuple #[.int .u64 (nameE u v).1, .int .i64 (nameE u v).2]) w) := by
  unfold nameE
  by_cases hu : vtx u = true ∧ vtx v = true
  case neg =>
    rw [if_neg hu]
    have hall : u < 0 ∨ 0 ≤ u ∧ (v < 0 ∨ 0 ≤ v ∧ (16777215 < u ∨ u ≤ 16777215 ∧ 16777215 < v)) := by
      rw [vtx_iff, vtx_iff] at hu
      omega
    clear hu
    rcases hall with h | ⟨h0, h | ⟨h1, h | ⟨h2, h⟩⟩⟩
    all_goals
      go_enter Try.func8, Try.ntmps8
      go_wp2_with (fail)
      refine bodyPost_ret (v := .tuple #[.int .u64 0, .int .i64 1]) (by simp [results, Try.results8, go_sem]) rfl ⟨rfl, Below.refl _ _⟩
  case pos =>
    rw [if_pos hu]
    obtain ⟨u0, u1⟩ := vtx_iff.1 hu.1
    obtain ⟨v0, v1⟩ := vtx_iff.1 hu.2
    clear hu
    have d0 : ¬ (16777215 : Int) < u := by omega
    have d1 : ¬ (16777215 : Int) < v := by omega
    by_cases huv : u = v
    · rw [if_pos huv]
      have hd : (u == v) = true := by simp [huv]
      clear huv
      go_enter Try.func8, Try.ntmps8
      go_wp2_with (fail)
      refine bodyPost_ret (v := .tuple #[.int .u64 0, .int .i64 8]) (by simp [results, Try.results8, go_sem]) rfl ⟨rfl, Below.refl _ _⟩
    · rw [if_neg huv]
      have hd : (u == v) = false := by simp; omega
      by_cases hlt : u < v
      · rw [if_pos (by omega)]
        have hl2 : decide (v < u) = false := by simp; omega
        have hle : ¬ (v < u) := by omega
        clear huv
        go_enter Try.func8, Try.ntmps8
        go_wp2_with (fail)
        refine bodyPost_ret (v := .tuple #[.int .u64 (u * 16777216 + v), .int .i64 0]) (by simp [results, Try.results8, go_sem, name_or u0 u1 v0 v1]) rfl ⟨rfl, Below.refl _ _⟩
      · rw [if_neg (by omega)]
        have hgt : v < u := by omega
        have hl2 : decide (v < u) = true := by simp; omega
        clear huv hlt
        go_enter Try.func8, Try.ntmps8
        go_wp2_with (fail)
        refine bodyPost_ret (v := .tuple #[.int .u64 (v * 16777216 + u), .int .i64 0]) (by simp [results, Try.results8, go_sem, name_or v0 v1 u0 u1]) rfl ⟨rfl, Below.refl _ _⟩
end Go.Proofs.Ytnfogcnlkchdmaa
