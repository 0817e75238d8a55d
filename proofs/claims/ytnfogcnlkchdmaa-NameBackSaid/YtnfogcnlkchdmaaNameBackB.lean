/-
  The law NameBack walked: both are names.
-/
import Derived.Test.YtnfogcnlkchdmaaNameBack0
namespace Go.Proofs.Ytnfogcnlkchdmaa
open Go Go.RowKit
attribute [local go_sem] Heavy heavyUpon

set_option maxRecDepth 100000 in
set_option maxHeartbeats 1600000 in
theorem nback_good (n m N M : Int) (w : World) (eN : n % 281474976710656 = N) (eM : m % 281474976710656 = M) (hN : N / 16777216 < N % 16777216) (hM : M / 16777216 < M % 16777216) (n0 : 0 ≤ N) (n1 : N < 281474976710656) (m0 : 0 ≤ M) (m1 : M < 281474976710656) (hn : 0 ≤ n) (hm : 0 ≤ m) :
    Calls Try.prog 4 #[.int .u64 n, .int .u64 m] w (Ret (.bool true) w) := by
  obtain ⟨u, v, zN, u0, huv, v1, q1⟩ := ends_good hN n0 n1
  have Q1 := hide q1
  obtain ⟨p, q, zM, p0, hpq, qq1, q2⟩ := ends_good hM m0 m1
  have Q2 := hide q2
  have Q3 := hide (fun W => nback_of zN u0 huv v1 W)
  have Q4 := hide (fun W => nback_of2 zN u0 huv v1 W)
  have q5 := fun W => less_any u v 0 p q 0 W
  rw [back_less (by omega) v1 (by omega) qq1, ← zN, ← zM] at q5
  have Q5 := hide q5
  clear q5 zN zM q1 q2 u0 v1 p0 hpq qq1
  clear hM hN
  go_enter Try.func4, Try.ntmps4
  go_wp2_with (fail)
  rw [eN, eM]
  refine (Q1.out _).mono ?_
  rintro e w1 ⟨rfl, b1⟩
  clear eN eM
  go_wp2_with (fail)
  refine (Q2.out _).mono ?_
  rintro e w2 ⟨rfl, b2⟩
  have c2 := b1.trans (b2.mono b1.size)
  clear b1 b2 m0 m1 Q1 Q2 hn hm
  clear n0 n1
  go_wp2_with (fail)
  refine (Q3.out _).mono ?_
  rintro e w3 ⟨rfl, b3⟩
  have c3 := c2.trans (b3.mono c2.size)
  clear c2 b3
  go_wp2_with (fail)
  refine (Q4.out _).mono ?_
  rintro e w4 ⟨rfl, b4⟩
  have c4 := c3.trans (b4.mono c3.size)
  clear c3 b4
  go_wp2_with (fail)
  refine (Q5.out _).mono ?_
  rintro e w5 ⟨rfl, b5⟩
  have c5 := c4.trans (b5.mono c4.size)
  clear c4 b5 Q3 Q4 Q5
  generalize hd : decide (N < M) = d at *
  go_wp2_with (fail)
  refine (nawake_ok _).mono ?_
  rintro e w6 ⟨rfl, b6⟩
  have c6 := c5.trans (b6.mono c5.size)
  clear c5 b6
  go_wp2_with (fail)
  go_ret
  exact ⟨rfl, c6⟩
end Go.Proofs.Ytnfogcnlkchdmaa
