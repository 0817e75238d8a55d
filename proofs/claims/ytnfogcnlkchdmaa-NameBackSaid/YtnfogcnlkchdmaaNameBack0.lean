/-
  What the law NameBack calls.
-/
import Derived.Test.YtnfogcnlkchdmaaNameApart
namespace Go.Proofs.Ytnfogcnlkchdmaa
open Go Go.RowKit
attribute [local go_sem] Heavy heavyUpon

theorem ends_bad {n : Int} (h : n % 16777216 ≤ n / 16777216) (h0 : 0 ≤ n) (h1 : n < 281474976710656) (W : World) : Calls Try.prog 9 #[.int .u64 n] W (Ret (.tuple #[.int .i64 0, .int .i64 0, .bool false]) W) := by
  have q := nends_any n h0 (by omega) W
  rwa [show endsI n = (0, 0, false) from if_neg (fun h => by omega)] at q
theorem ends_good {n : Int} (h : n / 16777216 < n % 16777216) (h0 : 0 ≤ n) (h1 : n < 281474976710656) : ∃ u v : Int, n = u * 16777216 + v ∧ 0 ≤ u ∧ u < v ∧ v < 16777216 ∧
    ∀ W : World, Calls Try.prog 9 #[.int .u64 n] W (Ret (.tuple #[.int .i64 u, .int .i64 v, .bool true]) W) := by
  refine ⟨n / 16777216, n % 16777216, by omega, by omega, h, by omega, fun W => ?_⟩
  have q := nends_any n h0 (by omega) W
  rwa [show endsI n = (n / 16777216, n % 16777216, true) from if_pos ⟨by omega, h⟩] at q
theorem back_less {u v p q : Int} (v0 : 0 ≤ v) (v1 : v < 16777216) (q0 : 0 ≤ q) (q1 : q < 16777216) : ltE (u, v, 0) (p, q, 0) = decide (u * 16777216 + v < p * 16777216 + q) := by
  rw [Bool.eq_iff_iff, ltE_iff, decide_eq_true_eq]
  simp only []
  omega
theorem nback_of {n u v : Int} (hn : n = u * 16777216 + v) (u0 : 0 ≤ u) (huv : u < v) (v1 : v < 16777216) (W : World) : Calls Try.prog 7 #[.int .i64 u, .int .i64 v] W (Ret (.tuple #[.int .u64 n, .int .i64 0]) W) := by
  have h := of_good u0 (by omega) (by omega) v1 (by omega) W
  rwa [show nm u v = n by unfold nm; rw [if_pos huv, hn]] at h
theorem nback_of2 {n u v : Int} (hn : n = u * 16777216 + v) (u0 : 0 ≤ u) (huv : u < v) (v1 : v < 16777216) (W : World) : Calls Try.prog 7 #[.int .i64 v, .int .i64 u] W (Ret (.tuple #[.int .u64 n, .int .i64 0]) W) := by
  have h := of_good (u := v) (v := u) (by omega) v1 u0 (by omega) (by omega) W
  rwa [show nm v u = n by unfold nm; rw [if_neg (by omega), hn]] at h

end Go.Proofs.Ytnfogcnlkchdmaa
