/-
  The law NameBack walked.
-/
import Derived.Test.YtnfogcnlkchdmaaNameBackA
import Derived.Test.YtnfogcnlkchdmaaNameBackB
namespace Go.Proofs.Ytnfogcnlkchdmaa
open Go Go.RowKit

theorem nback_ok (n m : Int) (w : World) (hn : 0 ≤ n ∧ n < 18446744073709551616) (hm : 0 ≤ m ∧ m < 18446744073709551616) :
    Calls Try.prog 4 #[.int .u64 n, .int .u64 m] w (Ret (.bool true) w) := by
  obtain ⟨hn0, hn1⟩ := hn
  obtain ⟨hm0, hm1⟩ := hm
  have n0 : 0 ≤ n % 281474976710656 := by omega
  have n1 : n % 281474976710656 < 281474976710656 := by omega
  have m0 : 0 ≤ m % 281474976710656 := by omega
  have m1 : m % 281474976710656 < 281474976710656 := by omega
  rcases Int.lt_or_le (n % 281474976710656 / 16777216) (n % 281474976710656 % 16777216) with hN | hN <;>
    rcases Int.lt_or_le (m % 281474976710656 / 16777216) (m % 281474976710656 % 16777216) with hM | hM
  · exact nback_good n m _ _ w rfl rfl hN hM n0 n1 m0 m1 hn0 hm0
  · exact nback_bad3 n m _ _ w rfl rfl hN hM n0 n1 m0 m1 hn0 hm0
  · exact nback_bad2 n m _ _ w rfl rfl hN hM n0 n1 m0 m1 hn0 hm0
  · exact nback_bad1 n m _ _ w rfl rfl hN hM n0 n1 m0 m1 hn0 hm0
end Go.Proofs.Ytnfogcnlkchdmaa
