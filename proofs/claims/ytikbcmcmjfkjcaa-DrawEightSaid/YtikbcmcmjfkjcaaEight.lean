/-
  The walk of the law DrawEight.
-/
import Derived.Test.YtikbcmcmjfkjcaaAwake
namespace Go.Proofs.Ytikbcmcmjfkjcaa
open Go Go.RowKit
attribute [local go_sem] Heavy heavyUpon low_eq

set_option maxRecDepth 100000 in
set_option maxHeartbeats 400000 in
theorem drawEight_walk (n word : Int) (w : World) (h0 : 0 ≤ n) (h1 : n < 18446744073709551616) (h2 : 0 ≤ word) (h3 : word < 18446744073709551616) :
    Calls Try.prog 4 #[.int .u64 n, .int .u64 word] w fun e w' => e = .returned (.bool true) ∧ Below w.heap.size w w' := by
  have HB := hide (And.intro (And.intro h0 h1) (And.intro h2 h3))
  clear h0 h1 h2 h3
  go_enter Try.func4, Try.ntmps4
  go_wp2_with (fail)
  go_loopw [12] (fun i wr => ∃ j : Nat, j ≤ 8 ∧ i = .int .u64 j ∧ Below w.heap.size w wr) (fun i _ => 8 - (intOf i).toNat)
  case atStart => exact ⟨0, by omega, rfl, Below.refl _ _⟩
  case round =>
    obtain ⟨j, hj, rfl, hbr⟩ := hrel
    by_cases hlt : j < 8
    · go_wp2_with (fail)
      have HO := hide (low_or HB.out.1.1 HB.out.1.2 hlt)
      generalize bits .or .u64 (low n) ((j : Int) * 2305843009213693952) = y at *
      have B0 := Blk.new wr 27 #[.int .u64 y, .int .u64 3]
      have hS : Sl (wr.alloc (.cells #[.int .u64 y, .int .u64 3] 27)) [] 1 (some ⟨wr.heap.size, 0, none⟩) 2 2 (ints .u64 [y, 3]) :=
        Sl.of_blk B0 rfl (fun x hx => by match x, hx with | 0, _ | 1, _ => rfl) (by simp) (by unfold maxLen; omega)
      refine (below_ok [y, 3] [] _ 2 2 0 _ (by omega) hS).mono ?_
      cases hl : isLow n
      case true =>
        have HF := hide (drawB_some (xs := [y, 3]) (at_ := 0) (k := 1) (v := low n) (by rw [show List.drop 0 [y, 3] = [y, 3] from rfl, scan_yes ((isLow_congr HO.out).trans hl), HO.out]))
        have a1 := isLow_lt hl
        have a2 := isLow_ne hl
        clear hl
        rw [HF.out]; rintro e w2 ⟨rfl, hb2⟩
        have hb3 := hbr.trans (((Below.refl wr.heap.size wr).alloc (Nat.le_refl _) _).trans (hb2.mono (by simp)) |>.mono hbr.size)
        have s3 := hb3.size
        go_wp2_with (fail)
        exact ⟨⟨j + 1, by omega, by go_num, by (repeat (first | (with_reducible exact hb3) | (with_reducible refine Below.drew ?_) | ((with_reducible refine Below.setCell ?_ ?hside _); (case hside => first | omega | (simp; done) | (simp; omega))) | ((with_reducible refine Below.alloc ?_ ?hside _); (case hside => first | omega | (simp; done) | (simp; omega)))))⟩, by simp [intOf]; omega⟩
      case false =>
        have HF := hide (show drawB [y, 3] 0 = (3, 2, 0) from (drawB_some (k := 2) (v := 3) (by
          rw [show List.drop 0 [y, 3] = [y, 3] from rfl, scan_no ((isLow_congr HO.out).trans hl), scan_yes three.1, three.2])))
        have a1 : decide (low n < 2305843009213693951) = false := decide_eq_false (isLow_not hl)
        have a2 := isLow_top HB.out.1.1 HB.out.1.2 hl
        clear hl
        rw [HF.out]; rintro e w2 ⟨rfl, hb2⟩
        have hb3 := hbr.trans (((Below.refl wr.heap.size wr).alloc (Nat.le_refl _) _).trans (hb2.mono (by simp)) |>.mono hbr.size)
        have s3 := hb3.size
        go_wp2_with (fail)
        exact ⟨⟨j + 1, by omega, by go_num, by (repeat (first | (with_reducible exact hb3) | (with_reducible refine Below.drew ?_) | ((with_reducible refine Below.setCell ?_ ?hside _); (case hside => first | omega | (simp; done) | (simp; omega))) | ((with_reducible refine Below.alloc ?_ ?hside _); (case hside => first | omega | (simp; done) | (simp; omega)))))⟩, by simp [intOf]; omega⟩
    · go_wp2_with (fail)
      have B0 := Blk.new wr 27 #[.int .u64 word]
      have hS : Sl (wr.alloc (.cells #[.int .u64 word] 27)) [] 1 (some ⟨wr.heap.size, 0, none⟩) 1 1 (ints .u64 [word]) :=
        Sl.of_blk B0 rfl (fun x hx => by match x, hx with | 0, _ => rfl) (by simp) (by unfold maxLen; omega)
      refine (below_ok [word] [] _ 1 1 0 _ (by omega) hS).mono ?_
      cases hl : isLow word
      case true =>
        have HF := hide (drawB_some (xs := [word]) (at_ := 0) (k := 1) (v := low word) (by rw [show List.drop 0 [word] = [word] from rfl, scan_yes hl]))
        have a1 := isLow_lt hl
        have a2 := isLow_ne hl
        clear hl
        rw [HF.out]; rintro e w2 ⟨rfl, hb2⟩
        have hb3 := hbr.trans (((Below.refl wr.heap.size wr).alloc (Nat.le_refl _) _).trans (hb2.mono (by simp)) |>.mono hbr.size)
        have s3 := hb3.size
        go_wp2_with (fail)
        refine (awake_true _).mono ?_
        rintro e w3 ⟨rfl, hb4⟩
        go_wp2_with (fail)
        go_ret
        exact ⟨rfl, (hb3.alloc hb3.size _).trans (hb4.mono (by have := hb3.size; simp; omega))⟩
      case false =>
        have HF := hide (show drawB [word] 0 = (0, 0, 5) from drawB_none (by rw [show List.drop 0 [word] = [word] from rfl, scan_no hl]; rfl))
        have a1 : decide (low word < 2305843009213693951) = false := decide_eq_false (isLow_not hl)
        have a2 := isLow_top HB.out.2.1 HB.out.2.2 hl
        clear hl
        rw [HF.out]; rintro e w2 ⟨rfl, hb2⟩
        have hb3 := hbr.trans (((Below.refl wr.heap.size wr).alloc (Nat.le_refl _) _).trans (hb2.mono (by simp)) |>.mono hbr.size)
        have s3 := hb3.size
        go_wp2_with (fail)
        refine (awake_true _).mono ?_
        rintro e w3 ⟨rfl, hb4⟩
        go_wp2_with (fail)
        go_ret
        exact ⟨rfl, (hb3.alloc hb3.size _).trans (hb4.mono (by have := hb3.size; simp; omega))⟩
end Go.Proofs.Ytikbcmcmjfkjcaa
