/-
  The law NameBack walked: one of the names is none.
-/
import Derived.Test.YtnfogcnlkchdmaaNameBack0
namespace Go.Proofs.Ytnfogcnlkchdmaa
open Go Go.RowKit
attribute [local go_sem] Heavy heavyUpon

set_option maxRecDepth 100000 in
set_option maxHeartbeats 1600000 in
theorem nback_bad1 (n m N M : Int) (w : World) (eN : n % 281474976710656 = N) (eM : m % 281474976710656 = M) (hN : N % 16777216 ≤ N / 16777216) (hM : M % 16777216 ≤ M / 16777216) (n0 : 0 ≤ N) (n1 : N < 281474976710656) (m0 : 0 ≤ M) (m1 : M < 281474976710656) (hn : 0 ≤ n) (hm : 0 ≤ m) :
    Calls Try.prog 4 #[.int .u64 n, .int .u64 m] w (Ret (.bool true) w) := by
  have Q1 := hide (fun W => ends_bad hN n0 n1 W)
  have HN := hide hN
  have Q2 := hide (fun W => ends_bad hM m0 m1 W)
  clear hM hN
  go_enter Try.func4, Try.ntmps4
  go_wp2_with (fail)
  rw [eN, eM]
  refine (Q1.out _).mono ?_
  rintro e w1 ⟨rfl, b1⟩
  clear eN eM
  go_wp2_with (fail)
  refine (Q2.out _).mono ?_
  rintro e w2 ⟨rfl, b2⟩
  have c2 := b1.trans (b2.mono b1.size)
  clear b1 b2 m0 m1 Q1 Q2 hn hm
  have d0 : 0 ≤ N / 16777216 := by omega
  have d1 : N / 16777216 ≤ 1099511627775 := by omega
  have d2 : 0 ≤ N % 16777216 := by omega
  have d3 : N % 16777216 < 16777216 := by omega
  have d4 : N % 16777216 ≤ N / 16777216 := HN.out
  go_wp2_with (fail)
  refine (nawake_ok _).mono ?_
  rintro e w3 ⟨rfl, b3⟩
  have c3 := c2.trans (b3.mono c2.size)
  clear c2 b3
  go_wp2_with (fail)
  go_ret
  exact ⟨rfl, c3⟩

set_option maxRecDepth 100000 in
set_option maxHeartbeats 1600000 in
theorem nback_bad2 (n m N M : Int) (w : World) (eN : n % 281474976710656 = N) (eM : m % 281474976710656 = M) (hN : N % 16777216 ≤ N / 16777216) (hM : M / 16777216 < M % 16777216) (n0 : 0 ≤ N) (n1 : N < 281474976710656) (m0 : 0 ≤ M) (m1 : M < 281474976710656) (hn : 0 ≤ n) (hm : 0 ≤ m) :
    Calls Try.prog 4 #[.int .u64 n, .int .u64 m] w (Ret (.bool true) w) := by
  have Q1 := hide (fun W => ends_bad hN n0 n1 W)
  have HN := hide hN
  obtain ⟨p, q, zM, p0, hpq, qq1, q2⟩ := ends_good hM m0 m1
  have Q2 := hide q2
  clear zM q2 p0 hpq qq1
  clear hM hN
  go_enter Try.func4, Try.ntmps4
  go_wp2_with (fail)
  rw [eN, eM]
  refine (Q1.out _).mono ?_
  rintro e w1 ⟨rfl, b1⟩
  clear eN eM
  go_wp2_with (fail)
  refine (Q2.out _).mono ?_
  rintro e w2 ⟨rfl, b2⟩
  have c2 := b1.trans (b2.mono b1.size)
  clear b1 b2 m0 m1 Q1 Q2 hn hm
  have d0 : 0 ≤ N / 16777216 := by omega
  have d1 : N / 16777216 ≤ 1099511627775 := by omega
  have d2 : 0 ≤ N % 16777216 := by omega
  have d3 : N % 16777216 < 16777216 := by omega
  have d4 : N % 16777216 ≤ N / 16777216 := HN.out
  go_wp2_with (fail)
  refine (nawake_ok _).mono ?_
  rintro e w3 ⟨rfl, b3⟩
  have c3 := c2.trans (b3.mono c2.size)
  clear c2 b3
  go_wp2_with (fail)
  go_ret
  exact ⟨rfl, c3⟩

set_option maxRecDepth 100000 in
set_option maxHeartbeats 1600000 in
theorem nback_bad3 (n m N M : Int) (w : World) (eN : n % 281474976710656 = N) (eM : m % 281474976710656 = M) (hN : N / 16777216 < N % 16777216) (hM : M % 16777216 ≤ M / 16777216) (n0 : 0 ≤ N) (n1 : N < 281474976710656) (m0 : 0 ≤ M) (m1 : M < 281474976710656) (hn : 0 ≤ n) (hm : 0 ≤ m) :
    Calls Try.prog 4 #[.int .u64 n, .int .u64 m] w (Ret (.bool true) w) := by
  obtain ⟨u, v, zN, u0, huv, v1, q1⟩ := ends_good hN n0 n1
  have Q1 := hide q1
  have Q2 := hide (fun W => ends_bad hM m0 m1 W)
  clear zN q1 u0 huv v1
  clear hM hN
  go_enter Try.func4, Try.ntmps4
  go_wp2_with (fail)
  rw [eN, eM]
  refine (Q1.out _).mono ?_
  rintro e w1 ⟨rfl, b1⟩
  clear eN eM
  go_wp2_with (fail)
  refine (Q2.out _).mono ?_
  rintro e w2 ⟨rfl, b2⟩
  have c2 := b1.trans (b2.mono b1.size)
  clear b1 b2 m0 m1 Q1 Q2 hn hm
  go_wp2_with (fail)
  refine (nawake_ok _).mono ?_
  rintro e w3 ⟨rfl, b3⟩
  have c3 := c2.trans (b3.mono c2.size)
  clear c2 b3
  go_wp2_with (fail)
  go_ret
  exact ⟨rfl, c3⟩
end Go.Proofs.Ytnfogcnlkchdmaa
