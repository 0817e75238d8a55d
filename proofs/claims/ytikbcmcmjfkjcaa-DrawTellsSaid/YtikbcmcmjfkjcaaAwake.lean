/-
  The fixed answer of layer 2: true.
-/
import Derived.Test.YtikbcmcmjfkjcaaHashes
namespace Go.Proofs.Ytikbcmcmjfkjcaa
open Go Go.RowKit
attribute [local go_sem] Heavy heavyUpon

def aw : List Int := [2305843009213693951, 5, 2305843009213693959, 9]
theorem aw0 : isLow 2305843009213693951 = false := by
  unfold isLow
  rw [low_mod (by decide) (by decide)]
  rfl
theorem aw1 : isLow 5 = true ∧ low 5 = 5 := by
  unfold isLow
  rw [low_mod (by decide) (by decide)]
  exact ⟨rfl, rfl⟩
theorem aw2 : isLow 2305843009213693959 = true ∧ low 2305843009213693959 = 7 := by
  unfold isLow
  rw [low_mod (by decide) (by decide)]
  exact ⟨rfl, rfl⟩
theorem aw3 : isLow 9 = true ∧ low 9 = 9 := by
  unfold isLow
  rw [low_mod (by decide) (by decide)]
  exact ⟨rfl, rfl⟩
theorem aw_one : drawH aw 1 0 = some ([(5, 7)], 3) := by
  simp [drawH, aw, scan, aw0, aw1, aw2]
theorem aw_two : drawH aw 1 3 = none := by
  simp [drawH, aw, scan, aw3]

set_option maxHeartbeats 400000 in
theorem awake_true (w : World) : Calls Try.prog 8 #[] w fun e w' => e = .returned (.bool true) ∧ Below w.heap.size w w' := by
  go_enter Try.func8, Try.ntmps8
  go_wp2_with (fail)
  have B0 := Blk.new w 27 #[.int .u64 2305843009213693951, .int .u64 5, .int .u64 2305843009213693959, .int .u64 9]
  have hS : Sl (w.alloc (.cells #[.int .u64 2305843009213693951, .int .u64 5, .int .u64 2305843009213693959, .int .u64 9] 27)) [] 1 (some ⟨w.heap.size, 0, none⟩) 4 4 (ints .u64 aw) :=
    Sl.of_blk B0 rfl (fun x hx => by match x, hx with | 0, _ | 1, _ | 2, _ | 3, _ => rfl) (by simp) (by unfold maxLen; omega)
  refine (hashes_ok aw [] _ 4 4 0 1 _ (by omega) (by omega) hS (by simp)).mono ?_
  rintro e w1 ⟨hb, h1, _⟩
  obtain ⟨B, d, rfl, hS1⟩ := h1 _ _ aw_one
  clear h1
  have hw1 := (((Below.refl w.heap.size w).alloc (Nat.le_refl _) _).trans (hb.mono (by simp)))
  have hSa := (hS.below hb).alloc (.cells #[.slice (some ⟨w.heap.size, 0, none⟩) 4 4, .int .i64 3] 25)
  have hHa := hS1.alloc (.cells #[.slice (some ⟨w.heap.size, 0, none⟩) 4 4, .int .i64 3] 25)
  clear hS B0 hb
  go_wp2_with (fail)
  refine (hashes_ok aw [] _ 4 4 3 1 _ (by omega) (by omega) hSa (by simp)).mono ?_
  rintro e w2 ⟨hb2, _, h2⟩
  obtain rfl := h2 aw_two
  clear h2
  have hH2 := hHa.below hb2
  obtain ⟨B1, hz1, hb2'⟩ := one_new hb2
  have hw2 := hw1.trans (hb2'.mono hw1.size)
  clear hb2
  obtain ⟨bd, rfl, hbd, _, hc⟩ := hH2.at_ (by omega)
  have c0 : w2.cell? bd = some (.int .u64 5) := hc _ _ (hcells_get0 [(5, 7)] 0 (by simp))
  have c1 : w2.cell? ⟨bd.block, bd.off + 1, none⟩ = some (.int .u64 7) := cell_off (i := 0) (hc _ _ (hcells_get1 [(5, 7)] 0 (by simp))) (by decide)
  clear hc hHa hS1 hSa hb2' hw1
  obtain ⟨x1, y1, z1⟩ := B1.facts
  go_wp2_with (fail)
  refine (left_ok _ 4 4 3 _ (by omega) (by unfold maxLen; omega)).mono ?_
  rintro e w3 ⟨rfl, hb3⟩
  go_wp2_with (fail)
  go_ret
  exact ⟨rfl, ((hw2.alloc hw2.size _).trans (hb3.mono (by have := hw2.size; simp; omega)))⟩
end Go.Proofs.Ytikbcmcmjfkjcaa
