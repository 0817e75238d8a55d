/-
  raftsmanref03.Ends walked: the ends of a name.
-/
import Derived.Test.YtnfogcnlkchdmaaEdge
namespace Go.Proofs.Ytnfogcnlkchdmaa
open Go Go.RowKit
attribute [local go_sem] Heavy heavyUpon

def endsI (n : Int) : Int × Int × Bool := if n / 16777216 < 16777216 ∧ n / 16777216 < n % 16777216 then (n / 16777216, n % 16777216, true) else (0, 0, false)
theorem ends_sub (n : Int) : (n - n % 16777216) / 16777216 = n / 16777216 := by omega

set_option maxHeartbeats 400000 in
theorem rends_any (n : Int) (h0 : 0 ≤ n) (h1 : n < 18446744073709551616) (w : World) :
    Calls Try.prog 10 #[.int .u64 n] w (Ret (.tuple #[.int .i64 (endsI n).1, .int .i64 (endsI n).2.1, .bool (endsI n).2.2]) w) := by
  by_cases hu : n / 16777216 < 16777216
  · by_cases hv : n / 16777216 < n % 16777216
    · have HE := hide (show endsI n = (n / 16777216, n % 16777216, true) from if_pos ⟨hu, hv⟩)
      rw [HE.out]
      have hs := ends_sub n
      go_enter Try.func10, Try.ntmps10
      go_wp2_with (fail)
      go_ret3
      exact ⟨rfl, Below.refl _ _⟩
    · have HE := hide (show endsI n = (0, 0, false) from if_neg (fun h => hv h.2))
      rw [HE.out]
      have hs := ends_sub n
      go_enter Try.func10, Try.ntmps10
      go_wp2_with (fail)
      go_ret3
      exact ⟨rfl, Below.refl _ _⟩
  · have HE := hide (show endsI n = (0, 0, false) from if_neg (fun h => hu h.1))
    rw [HE.out]
    have hs := ends_sub n
    go_enter Try.func10, Try.ntmps10
    go_wp2_with (fail)
    go_ret3
    exact ⟨rfl, Below.refl _ _⟩
end Go.Proofs.Ytnfogcnlkchdmaa
