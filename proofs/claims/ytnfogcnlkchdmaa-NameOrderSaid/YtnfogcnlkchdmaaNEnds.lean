/-
  name.Ends walked; raftsmanlaw03.awake walked.
-/
import Derived.Test.YtnfogcnlkchdmaaEnds
import Derived.Test.YtnfogcnlkchdmaaNameOf
import Derived.Test.YtnfogcnlkchdmaaNFind
import Derived.Test.YtnfogcnlkchdmaaSortS
namespace Go.Proofs.Ytnfogcnlkchdmaa
open Go Go.RowKit
attribute [local go_sem] Heavy heavyUpon

set_option maxHeartbeats 400000 in
theorem nends_any (n : Int) (h0 : 0 ≤ n) (h1 : n < 18446744073709551616) (w : World) :
    Calls Try.prog 9 #[.int .u64 n] w (Ret (.tuple #[.int .i64 (endsI n).1, .int .i64 (endsI n).2.1, .bool (endsI n).2.2]) w) := by
  have d0 : 0 ≤ n / 16777216 := by omega
  have d1 : n / 16777216 ≤ 1099511627775 := by omega
  have d2 : 0 ≤ n % 16777216 := by omega
  have d3 : n % 16777216 < 16777216 := by omega
  by_cases hv : n % 16777216 ≤ n / 16777216
  · have HE := hide (show endsI n = (0, 0, false) from if_neg (fun h => by omega))
    rw [HE.out]
    go_enter Try.func9, Try.ntmps9
    go_wp2_with (fail)
    go_ret3
    exact ⟨rfl, Below.refl _ _⟩
  · have HE := hide (show endsI n = (n / 16777216, n % 16777216, true) from if_pos ⟨by omega, by omega⟩)
    rw [HE.out]
    go_enter Try.func9, Try.ntmps9
    go_wp2_with (fail)
    go_ret3
    exact ⟨rfl, Below.refl _ _⟩

def L3 : List E3 := [(2, 3, 0), (0, 9, 0), (0, 4, 0)]
def S3 : List E3 := [(0, 4, 0), (0, 9, 0), (2, 3, 0)]
def c9 : Array Value := #[.int .i64 2, .int .i64 3, .int .i64 0, .int .i64 0, .int .i64 9, .int .i64 0, .int .i64 0, .int .i64 4, .int .i64 0]
theorem l3_new (w : World) : ESl (w.alloc (.cells #[.int .i64 2, .int .i64 3, .int .i64 0, .int .i64 0, .int .i64 9, .int .i64 0, .int .i64 0, .int .i64 4, .int .i64 0] 24)) [] (some ⟨w.heap.size, 0, none⟩) 3 3 L3 :=
  Sl.of_blk (Blk.new w _ _) rfl (fun x hx => by match x, hx with | 0, _ | 1, _ | 2, _ | 3, _ | 4, _ | 5, _ | 6, _ | 7, _ | 8, _ => rfl) (by simp) (by unfold maxLen; omega)
theorem na_sort {A : Option Addr} {c : Nat} {w : World} (hS : ESl w [] A 3 c L3) : Calls Try.prog 14 #[.slice A 3 c] w fun e w' => ∃ R d, e = .returned (.slice R 3 d) ∧ ESl w' [] R 3 d S3 ∧ Below w.heap.size w w' := by
  have h := nsort_short L3 A 3 c w hS (by decide) (by decide)
  rwa [show sortE L3 = S3 from by decide] at h
theorem na_find {A : Option Addr} {c : Nat} {w : World} (hS : ESl w [] A 3 c S3) : Calls Try.prog 17 #[.slice A 3 c, .int .i64 3, .int .i64 2] w (Ret (.tuple #[.int .i64 2, .bool true]) w) := by
  have h := nfind_any S3 3 2 [] A 3 c w hS
  rwa [show placeT S3 3 2 = 2 from by decide, show thereT S3 3 2 = true from by decide] at h
theorem na_of1 (w : World) : Calls Try.prog 7 #[.int .i64 5, .int .i64 3] w (Ret (.tuple #[.int .u64 50331653, .int .i64 0]) w) := by
  have h := of_any 5 3 w
  rwa [show nameE 5 3 = (50331653, 0) from by decide] at h
theorem na_of2 (w : World) : Calls Try.prog 7 #[.int .i64 4, .int .i64 4] w (Ret (.tuple #[.int .u64 0, .int .i64 8]) w) := by
  have h := of_any 4 4 w
  rwa [show nameE 4 4 = (0, 8) from by decide] at h
theorem na_of3 (w : World) : Calls Try.prog 7 #[.int .i64 16777216, .int .i64 0] w (Ret (.tuple #[.int .u64 0, .int .i64 1]) w) := by
  have h := of_any 16777216 0 w
  rwa [show nameE 16777216 0 = (0, 1) from by decide] at h
theorem na_ends (w : World) : Calls Try.prog 9 #[.int .u64 50331653] w (Ret (.tuple #[.int .i64 3, .int .i64 5, .bool true]) w) := by
  have h := nends_any 50331653 (by decide) (by decide) w
  rwa [show endsI 50331653 = (3, 5, true) from by decide] at h

set_option maxRecDepth 100000 in
set_option maxHeartbeats 3200000 in
theorem nawake_ok (w : World) : Calls Try.prog 13 #[] w (Ret (.bool true) w) := by
  go_enter Try.func13, Try.ntmps13
  go_wp2_with (fail)
  refine (na_of1 w).mono ?_
  rintro e w1 ⟨rfl, b1⟩
  go_wp2_with (fail)
  refine (na_ends w1).mono ?_
  rintro e w2 ⟨rfl, b2⟩
  have c2 := b1.trans (b2.mono b1.size)
  clear b1 b2
  go_wp2_with (fail)
  refine (na_of2 w2).mono ?_
  rintro e w3 ⟨rfl, b3⟩
  have c3 := c2.trans (b3.mono c2.size)
  clear c2 b3
  go_wp2_with (fail)
  refine (na_of3 w3).mono ?_
  rintro e w4 ⟨rfl, b4⟩
  have c4 := c3.trans (b4.mono c3.size)
  clear c3 b4
  have c5 := c4.alloc c4.size (.cells #[.int .i64 2, .int .i64 3, .int .i64 0, .int .i64 0, .int .i64 9, .int .i64 0, .int .i64 0, .int .i64 4, .int .i64 0] 24)
  have N5 := hide (l3_new w4)
  go_wp2_with (fail)
  refine (na_sort N5.out).mono ?_
  rintro e w6 ⟨R, d, rfl, S6, b6⟩
  have c6 := c5.trans (b6.mono c5.size)
  clear c4 c5 b6 N5
  go_wp2_with (fail)
  refine (na_find S6).mono ?_
  rintro e w7 ⟨rfl, b7⟩
  have c7 := c6.trans (b7.mono c6.size)
  have S7 := S6.below b7
  clear c6 b7 S6
  obtain ⟨ad, hA, had, _, x0, x1, x2⟩ := ESl.get S7 (k := 0) (by decide)
  subst hA
  have ea : ad.add (0 * 3) = ad := by unfold Addr.add; simp
  rw [ea] at x1
  have y1 : w7.cell? ⟨ad.block, ad.off + 1, none⟩ = some (.int .i64 4) := x1
  clear x0 x1 x2 ea S7
  go_wp2_with (fail)
  go_ret
  exact ⟨rfl, c7⟩
end Go.Proofs.Ytnfogcnlkchdmaa
