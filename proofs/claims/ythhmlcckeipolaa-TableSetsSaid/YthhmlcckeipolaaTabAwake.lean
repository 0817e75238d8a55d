/-
  raftsmanlaw12.awake walked.
-/
import Derived.Test.YthhmlcckeipolaaSet
import Derived.Test.YthhmlcckeipolaaISame
namespace Go.Proofs.Ythhmlcckeipolaa
open Go Go.RowKit
attribute [local go_sem] Heavy heavyUpon

def T1 : List E3 := [(1, 4, 0)]
def T2 : List E3 := [(0, 1, 0), (1, 4, 0)]
def T3 : List E3 := [(0, 1, 0), (1, 4, 2)]
section
variable {w : World} {A B : Option Addr} {c cs : Nat}
theorem ta_add1 : Calls Try.prog 9 #[.int .i64 5, .slice none 0 0, .int .i64 4, .int .i64 1] w fun e w' => ∃ R d, e = .returned (.tuple #[.slice R 1 d, .int .i64 0]) ∧ ESl w' [] R 1 d T1 ∧ Below w.heap.size w w' := by
  have h := add_ok [] 5 4 1 none 0 0 w (Sl.nil_ _ _ _) (by decide)
  rw [show addE 5 [] 4 1 = (T1, 0) from by decide] at h
  exact h
theorem ta_add2 (hS : ESl w [] A 1 c T1) : Calls Try.prog 9 #[.int .i64 5, .slice A 1 c, .int .i64 0, .int .i64 1] w fun e w' => ∃ R d, e = .returned (.tuple #[.slice R 2 d, .int .i64 0]) ∧ ESl w' [] R 2 d T2 ∧ Below w.heap.size w w' := by
  have h := add_ok T1 5 0 1 A 1 c w hS (by decide)
  rw [show addE 5 T1 0 1 = (T2, 0) from by decide] at h
  exact h
theorem ta_add3 (hS : ESl w [] A 2 c T2) : Calls Try.prog 9 #[.int .i64 5, .slice A 2 c, .int .i64 1, .int .i64 4] w fun e w' => ∃ R d, e = .returned (.tuple #[.slice R 2 d, .int .i64 4]) ∧ ESl w' [] R 2 d T2 ∧ Below w.heap.size w w' := by
  have h := add_ok T2 5 1 4 A 2 c w hS (by decide)
  rw [show addE 5 T2 1 4 = (T2, 4) from by decide] at h
  exact h
theorem ta_add4 (hS : ESl w [] A 2 c T2) : Calls Try.prog 9 #[.int .i64 5, .slice A 2 c, .int .i64 2, .int .i64 2] w fun e w' => ∃ R d, e = .returned (.tuple #[.slice R 2 d, .int .i64 8]) ∧ ESl w' [] R 2 d T2 ∧ Below w.heap.size w w' := by
  have h := add_ok T2 5 2 2 A 2 c w hS (by decide)
  rw [show addE 5 T2 2 2 = (T2, 8) from by decide] at h
  exact h
theorem ta_set (hS : ESl w [] A 2 c T2) : Calls Try.prog 12 #[.int .i64 5, .slice A 2 c, .int .i64 1, .int .i64 4, .int .i64 2] w fun e w' => ∃ R d, e = .returned (.tuple #[.slice R 2 d, .int .i64 0]) ∧ ESl w' [] R 2 d T3 ∧ Below w.heap.size w w' := by
  have h := set_ok T2 5 1 4 2 A 2 c w hS (by decide)
  rw [show putE 5 T2 1 4 2 = (T3, 0) from by decide] at h
  exact h
theorem ta_rem (hS : ESl w [] A 2 c T2) : Calls Try.prog 10 #[.int .i64 5, .slice A 2 c, .int .i64 2, .int .i64 3] w fun e w' => ∃ R d, e = .returned (.tuple #[.slice R 2 d, .int .i64 9]) ∧ ESl w' [] R 2 d T2 ∧ Below w.heap.size w w' := by
  have h := remove_ok T2 5 2 3 A 2 c w hS (by decide)
  rw [show remE 5 T2 2 3 = (T2, 9) from by decide] at h
  exact h
theorem ta_near (hS : ESl w [] A 2 c T2) : Calls Try.prog 13 #[.int .i64 5, .slice A 2 c, .int .i64 1] w fun e w' => ∃ R d, e = .returned (.slice R 2 d) ∧ Sl w' [] 1 R 2 d (ints .i64 [0, 4]) ∧ Below w.heap.size w w' := by
  have h := near_ok T2 5 1 [] A 2 c w hS (by decide)
  rw [show outN 5 T2 1 = [0, 4] from by decide] at h
  exact h
theorem ta_forest2 (hS : ESl w [] A 2 c T3) : Calls Try.prog 14 #[.int .i64 5, .slice A 2 c, .int .i64 2] w fun e w' => ∃ R d, e = .returned (.slice R 1 d) ∧ ESl w' [] R 1 d [(1, 4, 2)] ∧ Below w.heap.size w w' := by
  have h := forest_ok T3 5 2 [] A 2 c w hS (by decide)
  rw [show outF 5 T3 2 = [(1, 4, 2)] from by decide] at h
  exact h
theorem ta_forest1 (hS : ESl w [] A 2 c T3) : Calls Try.prog 14 #[.int .i64 5, .slice A 2 c, .int .i64 1] w fun e w' => ∃ R d, e = .returned (.slice R 0 d) ∧ ESl w' [] R 0 d [] ∧ Below w.heap.size w w' := by
  have h := forest_ok T3 5 1 [] A 2 c w hS (by decide)
  rw [show outF 5 T3 1 = [] from by decide] at h
  exact h
theorem ta_right (hS : ESl w [] A 2 c T3) : Calls Try.prog 7 #[.int .i64 5, .slice A 2 c] w (Ret (.bool true) w) := by
  have h := tright_any T3 [] A 5 2 c w hS
  rwa [show rightE 5 T3 = true from by decide] at h
theorem i2_new (w : World) : Sl (w.alloc (.cells #[.int .i64 0, .int .i64 4] 3)) [] 1 (some ⟨w.heap.size, 0, none⟩) 2 2 (ints .i64 [0, 4]) :=
  Sl.of_blk (Blk.new w _ _) rfl (fun x hx => by match x, hx with | 0, _ | 1, _ => rfl) (by simp) (by unfold maxLen; omega)
theorem ta_same (hS : Sl w [] 1 A 2 c (ints .i64 [0, 4])) (hT : Sl w [] 1 B 2 cs (ints .i64 [0, 4])) : Calls Try.prog 17 #[.slice A 2 c, .slice B 2 cs] w (Ret (.bool true) w) :=
  isame_any [0, 4] [0, 4] [] [] A B 2 c 2 cs w hS hT
end

set_option maxHeartbeats 3200000 in
theorem tawake_ok (w : World) : Calls Try.prog 8 #[] w (Ret (.bool true) w) := by
  go_enter Try.func8, Try.ntmps8
  go_wp2_with (fail)
  refine ta_add1.mono ?_
  rintro e w1 ⟨R1, d1, rfl, S1, b1⟩
  go_wp2_with (fail)
  refine (ta_add2 S1).mono ?_
  rintro e w2 ⟨R2, d2, rfl, S2, b2⟩
  have hb2 := b1.trans (b2.mono b1.size)
  clear b1 b2 S1
  go_wp2_with (fail)
  refine (ta_add3 S2).mono ?_
  rintro e w3 ⟨R3, d3, rfl, _, b3⟩
  have S3 := S2.below b3
  have hb3 := hb2.trans (b3.mono hb2.size)
  clear b3 S2 hb2
  go_wp2_with (fail)
  refine (ta_add4 S3).mono ?_
  rintro e w4 ⟨R4, d4, rfl, _, b4⟩
  have S4 := S3.below b4
  have hb4 := hb3.trans (b4.mono hb3.size)
  clear b4 S3 hb3
  go_wp2_with (fail)
  refine (ta_set S4).mono ?_
  rintro e w5 ⟨R5, d5, rfl, S5, b5⟩
  have S45 := S4.below b5
  have hb5 := hb4.trans (b5.mono hb4.size)
  clear b5 S4 hb4
  go_wp2_with (fail)
  refine (ta_rem S45).mono ?_
  rintro e w6 ⟨R6, d6, rfl, _, b6⟩
  have S46 := S45.below b6
  have S6 := S5.below b6
  have hb6 := hb5.trans (b6.mono hb5.size)
  clear b6 S5 S45 hb5
  go_wp2_with (fail)
  refine (ta_near S46).mono ?_
  rintro e w7 ⟨R7, d7, rfl, N7, b7⟩
  have S7 := S6.below b7
  have hb7 := hb6.trans (b7.mono hb6.size)
  clear b7 S6 hb6
  go_wp2_with (fail)
  refine (ta_same (N7.alloc _) (i2_new w7)).mono ?_
  rintro e w8 ⟨rfl, b8⟩
  have S8 := (S7.alloc (.cells #[.int .i64 0, .int .i64 4] 3)).below b8
  have hb8 := (hb7.alloc hb7.size (.cells #[.int .i64 0, .int .i64 4] 3)).trans (b8.mono (hb7.alloc hb7.size (.cells #[.int .i64 0, .int .i64 4] 3)).size)
  clear b8 S7 hb7
  go_wp2_with (fail)
  refine (ta_forest2 S8).mono ?_
  rintro e w9 ⟨R9, d9, rfl, _, b9⟩
  have S9 := S8.below b9
  have hb9 := hb8.trans (b9.mono hb8.size)
  clear b9 S8 hb8
  go_wp2_with (fail)
  refine (ta_forest1 S9).mono ?_
  rintro e wa ⟨Ra, da, rfl, _, ba⟩
  have Sa := S9.below ba
  have hba := hb9.trans (ba.mono hb9.size)
  clear ba S9 hb9
  go_wp2_with (fail)
  refine (ta_right Sa).mono ?_
  rintro e wb ⟨rfl, bb⟩
  go_wp2_with (fail)
  go_ret
  exact ⟨rfl, hba.trans (bb.mono hba.size)⟩
end Go.Proofs.Ythhmlcckeipolaa
