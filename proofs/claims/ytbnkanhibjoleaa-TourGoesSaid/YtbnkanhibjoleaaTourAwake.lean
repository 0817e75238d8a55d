/-
  raftsmanlaw08.awake walked; the law's own 'edges' walked.
-/
import Derived.Test.YtbnkanhibjoleaaTCutW
import Derived.Test.YtbnkanhibjoleaaRSort
import Derived.Test.YtbnkanhibjoleaaESame
import Derived.Test.YtbnkanhibjoleaaISame
namespace Go.Proofs.Ytbnkanhibjoleaa
open Go Go.RowKit
attribute [local go_sem] Heavy heavyUpon

def A3 : List Int := [1, 2, 1]
def B5 : List Int := [2, 1, 2, 3, 2]
section
variable {w : World} {A B : Option Addr} {c d : Nat}
theorem wa_link1 (hS : Sl w [] 1 A 1 c (ints .i64 [1])) (hT : Sl w [] 1 B 1 d (ints .i64 [2])) : Calls Try.prog 9 #[.slice A 1 c, .slice B 1 d, .int .i64 1, .int .i64 2] w fun e w' => ∃ R d', e = .returned (.tuple #[.slice R 3 d', .int .i64 0]) ∧ Sl w' [] 1 R 3 d' (ints .i64 A3) ∧ Below w.heap.size w w' := by
  have h := link_any [1] [2] (by decide) (by decide) 1 2 A B 1 c 1 d w hS hT (by decide) (by decide)
  rw [show outL [1] [2] 1 2 = (A3, 0) from by decide] at h
  exact h
theorem wa_link2 (hS : Sl w [] 1 A 3 c (ints .i64 A3)) (hT : Sl w [] 1 B 1 d (ints .i64 [3])) : Calls Try.prog 9 #[.slice A 3 c, .slice B 1 d, .int .i64 2, .int .i64 3] w fun e w' => ∃ R d', e = .returned (.tuple #[.slice R 5 d', .int .i64 0]) ∧ Sl w' [] 1 R 5 d' (ints .i64 B5) ∧ Below w.heap.size w w' := by
  have h := link_any A3 [3] (by decide) (by decide) 2 3 A B 3 c 1 d w hS hT (by decide) (by decide)
  rw [show outL A3 [3] 2 3 = (B5, 0) from by decide] at h
  exact h
theorem wa_link3 (hS : Sl w [] 1 A 3 c (ints .i64 A3)) : Calls Try.prog 9 #[.slice A 3 c, .slice A 3 c, .int .i64 1, .int .i64 2] w fun e w' => ∃ R d', e = .returned (.tuple #[.slice R 0 d', .int .i64 4]) ∧ Sl w' [] 1 R 0 d' (ints .i64 []) ∧ Below w.heap.size w w' := by
  have h := link_any A3 A3 (by decide) (by decide) 1 2 A A 3 c 3 c w hS hS (by decide) (by decide)
  rw [show outL A3 A3 1 2 = ([], 4) from by decide] at h
  exact h
theorem wa_cut (hS : Sl w [] 1 A 5 c (ints .i64 B5)) : Calls Try.prog 14 #[.slice A 5 c, .int .i64 2, .int .i64 1] w fun e w' => ∃ R d R' d', e = .returned (.tuple #[.slice R 3 d, .slice R' 1 d', .int .i64 0]) ∧ Sl w' [] 1 R 3 d (ints .i64 [2, 3, 2]) ∧ Sl w' [] 1 R' 1 d' (ints .i64 [1]) ∧ Below w.heap.size w w' := by
  have h := cutT_any B5 (by decide) 2 1 A 5 c w hS (by decide)
  rw [show outC3 B5 2 1 = ([2, 3, 2], [1], 0) from by decide] at h
  exact h
theorem wa_root (hS : Sl w [] 1 A 3 c (ints .i64 A3)) : Calls Try.prog 13 #[.slice A 3 c, .int .i64 9] w fun e w' => ∃ R d, e = .returned (.tuple #[.slice R 0 d, .int .i64 3]) ∧ Sl w' [] 1 R 0 d (ints .i64 []) ∧ Below w.heap.size w w' := by
  have h := reroot_any A3 (by decide) 9 A 3 c w hS (by decide)
  rw [show outR A3 9 = ([], 3) from by decide] at h
  exact h
theorem wa_right (hS : Sl w [] 1 A 5 c (ints .i64 B5)) : Calls Try.prog 15 #[.slice A 5 c] w (Ret (.bool true) w) := by
  have h := isT_any B5 (by decide) A 5 c w hS (by decide)
  rwa [show isT B5 = true from by decide] at h
theorem wa_wrong : Calls Try.prog 15 #[.slice none 0 0] w (Ret (.bool false) w) := isT_any [] (by decide) none 0 0 w (Sl.nil_ _ _ _) (by decide)
end
theorem isame_yes (X : List Int) (M N : List Nat) (A B : Option Addr) (n c m d : Nat) (w : World) (ha : Sl w M 1 A n c (ints .i64 X)) (hb : Sl w N 1 B m d (ints .i64 X)) :
    Calls Try.prog 11 #[.slice A n c, .slice B m d] w (Ret (.bool true) w) := by
  have h := isame_any X X M N A B n c m d w ha hb
  rwa [decide_eq_true rfl] at h
theorem a3_new (w : World) : Sl (w.alloc (.cells #[.int .i64 1, .int .i64 2, .int .i64 1] 3)) [] 1 (some ⟨w.heap.size, 0, none⟩) 3 3 (ints .i64 A3) :=
  Sl.of_blk (Blk.new w _ _) rfl (fun x hx => by match x, hx with | 0, _ | 1, _ | 2, _ => rfl) (by simp) (by unfold maxLen; omega)
theorem c3_new (w : World) : Sl (w.alloc (.cells #[.int .i64 2, .int .i64 3, .int .i64 2] 3)) [] 1 (some ⟨w.heap.size, 0, none⟩) 3 3 (ints .i64 [2, 3, 2]) :=
  Sl.of_blk (Blk.new w _ _) rfl (fun x hx => by match x, hx with | 0, _ | 1, _ | 2, _ => rfl) (by simp) (by unfold maxLen; omega)
theorem b5_new (w : World) : Sl (w.alloc (.cells #[.int .i64 2, .int .i64 1, .int .i64 2, .int .i64 3, .int .i64 2] 3)) [] 1 (some ⟨w.heap.size, 0, none⟩) 5 5 (ints .i64 B5) :=
  Sl.of_blk (Blk.new w _ _) rfl (fun x hx => by match x, hx with | 0, _ | 1, _ | 2, _ | 3, _ | 4, _ => rfl) (by simp) (by unfold maxLen; omega)

set_option maxRecDepth 100000 in
set_option maxHeartbeats 6400000 in
theorem wawake_ok (w : World) : Calls Try.prog 8 #[] w (Ret (.bool true) w) := by
  have b0 := ((Below.refl w.heap.size w).alloc (Nat.le_refl _) (.cells #[.int .i64 1] 3)).alloc (by simp) (.cells #[.int .i64 2] 3)
  have NA := (i1_new w 1).alloc (.cells #[.int .i64 2] 3)
  have NB := i1_new (w.alloc (.cells #[.int .i64 1] 3)) 2
  rw [heap_alloc_size] at NB
  go_enter Try.func8, Try.ntmps8
  go_wp2_with (fail)
  refine (wa_link1 NA NB).mono ?_
  rintro e w1 ⟨R1, d1, rfl, S1, b1⟩
  have hb1 := b0.trans (b1.mono b0.size)
  clear b1 b0 NA NB
  have g1 := hb1.alloc hb1.size (.cells #[.int .i64 3] 3)
  go_wp2_with (fail)
  refine (wa_link2 (S1.alloc _) (i1_new w1 3)).mono ?_
  rintro e w2 ⟨R2, d2, rfl, T2, b2⟩
  have S2 := (S1.alloc (.cells #[.int .i64 3] 3)).below b2
  have hb2 := g1.trans (b2.mono g1.size)
  clear b2 g1 S1 hb1
  go_wp2_with (fail)
  refine (wa_cut T2).mono ?_
  rintro e w3 ⟨R3, d3, R4, d4, rfl, C3, D3, b3⟩
  have S3 := S2.below b3
  have T3 := T2.below b3
  have hb3 := hb2.trans (b3.mono hb2.size)
  clear b3 S2 T2 hb2
  go_wp2_with (fail)
  refine (wa_root S3).mono ?_
  rintro e w4 ⟨R5, d5, rfl, _, b4⟩
  have S4 := S3.below b4
  have T4 := T3.below b4
  have C4 := C3.below b4
  have D4 := D3.below b4
  have hb4 := hb3.trans (b4.mono hb3.size)
  clear b4 S3 T3 C3 D3 hb3
  go_wp2_with (fail)
  refine (wa_link3 S4).mono ?_
  rintro e w5 ⟨R6, d6, rfl, _, b5⟩
  have S5 := S4.below b5
  have T5 := T4.below b5
  have C5 := C4.below b5
  have D5 := D4.below b5
  have hb5 := hb4.trans (b5.mono hb4.size)
  clear b5 S4 T4 C4 D4 hb4
  have g5 := hb5.alloc hb5.size (.cells #[.int .i64 1, .int .i64 2, .int .i64 1] 3)
  go_wp2_with (fail)
  refine (isame_yes _ _ _ _ _ _ _ _ _ _ (S5.alloc _) (a3_new w5)).mono ?_
  rintro e w6 ⟨rfl, b6⟩
  have T6 := (T5.alloc (.cells #[.int .i64 1, .int .i64 2, .int .i64 1] 3)).below b6
  have C6 := (C5.alloc (.cells #[.int .i64 1, .int .i64 2, .int .i64 1] 3)).below b6
  have D6 := (D5.alloc (.cells #[.int .i64 1, .int .i64 2, .int .i64 1] 3)).below b6
  have hb6 := g5.trans (b6.mono g5.size)
  clear b6 S5 T5 C5 D5 hb5 g5
  have g6 := hb6.alloc hb6.size (.cells #[.int .i64 2, .int .i64 1, .int .i64 2, .int .i64 3, .int .i64 2] 3)
  go_wp2_with (fail)
  refine (isame_yes _ _ _ _ _ _ _ _ _ _ (T6.alloc _) (b5_new w6)).mono ?_
  rintro e w7 ⟨rfl, b7⟩
  have T7 := (T6.alloc (.cells #[.int .i64 2, .int .i64 1, .int .i64 2, .int .i64 3, .int .i64 2] 3)).below b7
  have C7 := (C6.alloc (.cells #[.int .i64 2, .int .i64 1, .int .i64 2, .int .i64 3, .int .i64 2] 3)).below b7
  have D7 := (D6.alloc (.cells #[.int .i64 2, .int .i64 1, .int .i64 2, .int .i64 3, .int .i64 2] 3)).below b7
  have hb7 := g6.trans (b7.mono g6.size)
  clear b7 T6 C6 D6 hb6 g6
  have g7 := hb7.alloc hb7.size (.cells #[.int .i64 2, .int .i64 3, .int .i64 2] 3)
  go_wp2_with (fail)
  refine (isame_yes _ _ _ _ _ _ _ _ _ _ (C7.alloc _) (c3_new w7)).mono ?_
  rintro e w8 ⟨rfl, b8⟩
  have T8 := (T7.alloc (.cells #[.int .i64 2, .int .i64 3, .int .i64 2] 3)).below b8
  have D8 := (D7.alloc (.cells #[.int .i64 2, .int .i64 3, .int .i64 2] 3)).below b8
  have hb8 := g7.trans (b8.mono g7.size)
  clear b8 T7 C7 D7 hb7 g7
  have g8 := hb8.alloc hb8.size (.cells #[.int .i64 1] 3)
  go_wp2_with (fail)
  refine (isame_yes _ _ _ _ _ _ _ _ _ _ (D8.alloc _) (i1_new w8 1)).mono ?_
  rintro e w9 ⟨rfl, b9⟩
  have T9 := (T8.alloc (.cells #[.int .i64 1] 3)).below b9
  have hb9 := g8.trans (b9.mono g8.size)
  clear b9 T8 D8 hb8 g8
  go_wp2_with (fail)
  refine (wa_right T9).mono ?_
  rintro e wa ⟨rfl, ba⟩
  have hba := hb9.trans (ba.mono hb9.size)
  go_wp2_with (fail)
  refine wa_wrong.mono ?_
  rintro e wb ⟨rfl, bb⟩
  have hbb := hba.trans (bb.mono hba.size)
  go_wp2_with (fail)
  go_ret
  exact ⟨rfl, hbb⟩

/-- 'edges': the same ones, in some order. -/
theorem ledges_yes (a b : List E3) (h : a.Perm b) (hz : ∀ e ∈ a, e.2.2 = 0) (A B : Option Addr) (m c n d : Nat) (w : World) (hS : ESl w [] A m c a) (hT : ESl w [] B n d b) (hm : m ≤ 4096) (hn : n ≤ 4096) :
    Calls Try.prog 18 #[.slice A m c, .slice B n d] w (Ret (.bool true) w) := by
  have QA := hide (fun W h => sort_any a A m c W h hm)
  have qb := fun W h => sort_any b B n d W h hn
  rw [← sortE_eq h hz] at qb
  have QB := hide qb
  clear qb h hz
  generalize sortE a = X at *
  go_enter Try.func18, Try.ntmps18
  go_wp2_with (fail)
  refine (QA.out w hS).mono ?_
  rintro e w1 ⟨R1, d1, rfl, Z1, b1⟩
  have T1 := hT.below b1
  go_wp2_with (fail)
  refine (QB.out w1 T1).mono ?_
  rintro e w2 ⟨R2, d2, rfl, Z2, b2⟩
  have Z12 := Z1.below b2
  have hb2 := b1.trans (b2.mono b1.size)
  have q := esame_any X X [] [] R1 R2 m d1 n d2 w2 Z12 Z2
  rw [decide_eq_true rfl] at q
  go_wp2_with (fail)
  refine q.mono ?_
  rintro e w3 ⟨rfl, b3⟩
  go_wp2_with (fail)
  go_ret
  exact ⟨rfl, hb2.trans (b3.mono hb2.size)⟩
end Go.Proofs.Ytbnkanhibjoleaa
