/-
  raftsmanlaw13.awake walked.
-/
import Derived.Test.YtbbdbgfenidhgaaStar
import Derived.Test.YtbbdbgfenidhgaaNames
import Derived.Test.YtbbdbgfenidhgaaUSame
import Derived.Test.YtbbdbgfenidhgaaLexP
namespace Go.Proofs.Ytbbdbgfenidhgaa
open Go Go.RowKit
attribute [local go_sem] Heavy heavyUpon
attribute [local go_sem ↓] edge_eql

def L2 : List E3 := [(0, 1, 0), (1, 2, 0)]
theorem add_z (a : Addr) : a.add 0 = a := by unfold Addr.add; simp
theorem two_new_e (w : World) (o : Obj) : ((w.alloc o).heap.size = w.heap.size + 1) := by simp
section
variable {w : World} {M N : List Nat} {A B : Option Addr} {c cs : Nat}
theorem cut_one (hS : ESl w M A 2 c L2) (hT : Sl w N 1 B 3 cs (ints .i64 [0, 1, 1])) : Calls Try.prog 9 #[.int .i64 3, .slice A 2 c, .slice B 3 cs] w fun e w' => ∃ R d, e = .returned (.tuple #[.slice R 1 d, .int .i64 0]) ∧ ESl w' [] R 1 d [(1, 2, 0)] ∧ Below w.heap.size w w' := by
  have h := cut_ok L2 [0, 1, 1] M N A B 3 2 c 3 cs w hS hT (by decide) [] (by simp)
  rw [show outE markOn 3 L2 [0, 1, 1] = [(1, 2, 0)] from by decide, show outC 3 L2 [0, 1, 1] = 0 from by decide] at h
  exact h
theorem cut_bad (hS : ESl w M A 2 c L2) (hT : Sl w N 1 B 1 cs (ints .i64 [3])) : Calls Try.prog 9 #[.int .i64 3, .slice A 2 c, .slice B 1 cs] w fun e w' => ∃ R d, e = .returned (.tuple #[.slice R 0 d, .int .i64 1]) ∧ Below w.heap.size w w' := by
  have h := cut_ok L2 [3] M N A B 3 2 c 1 cs w hS hT (by decide) [] (by simp)
  rw [show outE markOn 3 L2 [3] = [] from by decide, show outC 3 L2 [3] = 1 from by decide] at h
  exact h.mono fun e w' ⟨R, d, he, _, hb⟩ => ⟨R, d, he, hb⟩
theorem mix_one (hS : ESl w M A 2 c L2) (hT : Sl w N 1 B 3 cs (ints .i64 [0, 1, 1])) : Calls Try.prog 10 #[.int .i64 3, .slice A 2 c, .slice B 3 cs] w fun e w' => ∃ R d, e = .returned (.tuple #[.slice R 1 d, .int .i64 0]) ∧ ESl w' [] R 1 d [(0, 1, 0)] ∧ Below w.heap.size w w' := by
  have h := mix_ok L2 [0, 1, 1] M N A B 3 2 c 3 cs w hS hT (by decide) [] (by simp)
  rw [show outE markTurn 3 L2 [0, 1, 1] = [(0, 1, 0)] from by decide, show outC 3 L2 [0, 1, 1] = 0 from by decide] at h
  exact h
theorem star_one (hS : ESl w M A 2 c L2) : Calls Try.prog 11 #[.int .i64 3, .slice A 2 c, .int .i64 1] w fun e w' => ∃ R d, e = .returned (.tuple #[.slice R 2 d, .int .i64 0]) ∧ Below w.heap.size w w' := by
  have h := star_ok L2 1 M A 3 2 c w hS (by decide) [] (by simp)
  rw [show outS 3 L2 1 = L2 from by decide, show outC 3 L2 [1] = 0 from by decide] at h
  exact h.mono fun e w' ⟨R, d, he, _, hb⟩ => ⟨R, d, he, hb⟩
theorem names_one (hS : ESl w M A 2 c L2) : Calls Try.prog 13 #[.slice A 2 c] w fun e w' => ∃ R d, e = .returned (.slice R 2 d) ∧ Sl w' [] 1 R 2 d (ints .u64 [1, 16777218]) ∧ Below w.heap.size w w' := by
  have h := names_ok L2 M A 2 c w hS (by decide) [] (by simp)
  rw [show namesE L2 = [1, 16777218] from by decide] at h
  exact h
theorem set3_new (w : World) : Sl (w.alloc (.cells #[.int .i64 0, .int .i64 1, .int .i64 1] 3)) [] 1 (some ⟨w.heap.size, 0, none⟩) 3 3 (ints .i64 [0, 1, 1]) :=
  Sl.of_blk (Blk.new w _ _) rfl (fun x hx => by match x, hx with | 0, _ | 1, _ | 2, _ => rfl) (by simp) (by unfold maxLen; omega)
theorem set1_new (w : World) : Sl (w.alloc (.cells #[.int .i64 3] 3)) [] 1 (some ⟨w.heap.size, 0, none⟩) 1 1 (ints .i64 [3]) :=
  Sl.of_blk (Blk.new w _ _) rfl (fun x hx => by match x, hx with | 0, _ => rfl) (by simp) (by unfold maxLen; omega)
theorem l2_new (w : World) : ESl (w.alloc (.cells #[.int .i64 0, .int .i64 1, .int .i64 0, .int .i64 1, .int .i64 2, .int .i64 0] 39)) [] (some ⟨w.heap.size, 0, none⟩) 2 2 L2 :=
  Sl.of_blk (Blk.new w _ _) rfl (fun x hx => by match x, hx with | 0, _ | 1, _ | 2, _ | 3, _ | 4, _ | 5, _ => rfl) (by simp) (by unfold maxLen; omega)
theorem two_new_u (w : World) : Sl (w.alloc (.cells #[.int .u64 1, .int .u64 16777218] 42)) [] 1 (some ⟨w.heap.size, 0, none⟩) 2 2 (ints .u64 [1, 16777218]) :=
  Sl.of_blk (Blk.new w _ _) rfl (fun x hx => by match x, hx with | 0, _ | 1, _ => rfl) (by simp) (by unfold maxLen; omega)
theorem same_one (hS : Sl w M 1 A 2 c (ints .u64 [1, 16777218])) (hT : Sl w N 1 B 2 cs (ints .u64 [1, 16777218])) : Calls Try.prog 12 #[.slice A 2 c, .slice B 2 cs] w (Ret (.bool true) w) :=
  usame_any [1, 16777218] [1, 16777218] M N A B 2 c 2 cs w hS hT
end

set_option maxHeartbeats 3200000 in
theorem cawake_ok (w : World) : Calls Try.prog 8 #[] w (Ret (.bool true) w) := by
  have hb0 := (Below.refl w.heap.size w).alloc (Nat.le_refl _) (.cells #[.int .i64 0, .int .i64 1, .int .i64 0, .int .i64 1, .int .i64 2, .int .i64 0] 39)
  have S0 := l2_new w
  have hz0 := hide (heap_alloc_size w (.cells #[.int .i64 0, .int .i64 1, .int .i64 0, .int .i64 1, .int .i64 2, .int .i64 0] 39))
  go_enter Try.func8, Try.ntmps8
  go_wp2_with (fail)
  generalize hW0 : w.alloc (.cells #[.int .i64 0, .int .i64 1, .int .i64 0, .int .i64 1, .int .i64 2, .int .i64 0] 39) = W0 at *
  clear hW0
  have NB1 := set3_new W0
  rw [hz0.out] at NB1
  refine (cut_one (S0.alloc _) NB1).mono ?_
  rintro e w1 ⟨R1, d1, rfl, Z1, b1⟩
  have hb1 := (hb0.alloc hb0.size _).trans (b1.mono (Nat.le_trans hb0.size (by simp)))
  have S1 := (S0.alloc _).below b1
  clear b1 NB1 hz0
  have hb0 := hb1
  clear hb0
  go_wp2_with (fail)
  refine (mix_one (S1.alloc _) (set3_new w1)).mono ?_
  rintro e w2 ⟨R2, d2, rfl, Z2, b2⟩
  have hb2 := (hb1.alloc hb1.size _).trans (b2.mono (Nat.le_trans hb1.size (by simp)))
  have S2 := (S1.alloc _).below b2
  have Z12 := (Z1.alloc _).below b2
  clear b2 S1 Z1
  go_wp2_with (fail)
  refine (star_one S2).mono ?_
  rintro e w3 ⟨R3, d3, rfl, b3⟩
  have hb3 := hb2.trans (b3.mono hb2.size)
  have S3 := S2.below b3
  have Z13 := Z12.below b3
  have Z23 := Z2.below b3
  clear b3 S2 Z12 Z2
  go_wp2_with (fail)
  refine (cut_bad (S3.alloc _) (set1_new w3)).mono ?_
  rintro e w4 ⟨R4, d4, rfl, b4⟩
  have hb4 := (hb3.alloc hb3.size _).trans (b4.mono (Nat.le_trans hb3.size (by simp)))
  have S4 := (S3.alloc _).below b4
  have Z14 := (Z13.alloc _).below b4
  have Z24 := (Z23.alloc _).below b4
  clear b4 S3 Z13 Z23
  obtain ⟨a1, rfl, q1, _, x0, x1, x2⟩ := ESl.get (l := [(1, 2, 0)]) Z14 (k := 0) (by decide)
  obtain ⟨a2, rfl, q2, _, y0, y1, y2⟩ := ESl.get (l := [(0, 1, 0)]) Z24 (k := 0) (by decide)
  obtain ⟨a3, e3, q3, _, z0, z1, z2⟩ := ESl.get (l := L2) S4 (k := 0) (by decide)
  obtain ⟨a4, e4, q4, _, t0, t1, t2⟩ := ESl.get (l := L2) S4 (k := 1) (by decide)
  injection e3 with e3
  injection e4 with e4
  subst e3 e4
  simp only [Nat.zero_mul, Nat.one_mul, L2, List.getElem_cons_zero, List.getElem_cons_succ, add_z, Nat.zero_add] at x0 x1 x2 y0 y1 y2 z0 z1 z2 t0 t1 t2
  have et : (⟨w.heap.size, 0, none⟩ : Addr).add 3 = ⟨w.heap.size, 3, none⟩ := by unfold Addr.add; simp
  rw [et] at t0 t1 t2
  have en1 : ene 1 2 0 1 2 0 = false := rfl
  have en2 : ene 0 1 0 0 1 0 = false := rfl
  go_wp2_with (fail)
  refine wp_region_lexS 49 [49, 50, 51] (fun w' => Below w4.heap.size w4 w') (by kernel_rfl) (by kernel_rfl) (Below.refl _ _).drew ?_
  simp only [List.take_succ_cons, List.take_zero, List.drop_succ_cons, List.drop_zero, pairWalk]
  (repeat ((with_reducible refine wpLex_step (fun K hK => ?_)); go_simp; first | ((with_reducible refine hK _ _ ?_); clear hK K) | ((with_reducible apply Exists.intro); refine ⟨fun w' hw' => ?_, hK _ _ ?_⟩; (· (have hq := bcells hw'; apply valEq; (· (go_simp; first | done | (with_reducible rfl))); (· ((try go_bits); with_reducible rfl)))); clear hK K)))
  refine wpLex_nil ⟨?_, ?_⟩
  · (repeat ((with_reducible refine wpLex_step (fun K hK => ?_)); go_simp; first | ((with_reducible refine hK _ _ ?_); clear hK K) | ((with_reducible apply Exists.intro); refine ⟨fun w' hw' => ?_, hK _ _ ?_⟩; (· (have hq := bcells hw'; apply valEq; (· (go_simp; first | done | (with_reducible rfl))); (· ((try go_bits); with_reducible rfl)))); clear hK K)))
    ((with_reducible refine wpLex_step (fun K hK => ?_)); go_simp; refine (names_one S4.drew).mono ?_; rintro e w5 ⟨R5, d5, rfl, N5, hbx⟩; have g5 := ((Below.refl w4.heap.size w4).drew).trans (hbx.mono ((Below.refl w4.heap.size w4).drew).size); skip; refine ⟨_, rfl, g5, hK _ _ ?_⟩; clear hK K hbx)
    ((with_reducible refine wpLex_step (fun K hK => ?_)); go_simp; first | (refine hK _ _ ?_; clear hK K) | (refine ⟨?_, hK _ _ ?_⟩; (· (exact g5.alloc g5.size _)); clear hK K))
    have g6 := g5.alloc g5.size (.cells #[.int .u64 1, .int .u64 16777218] 42)
    ((with_reducible refine wpLex_step (fun K hK => ?_)); go_simp; refine (same_one (N5.alloc _) (two_new_u w5)).mono ?_; rintro e w7 ⟨rfl, hbx⟩; have g7 := (g6).trans (hbx.mono (g6).size); refine ⟨_, rfl, g7, hK _ _ ?_⟩; clear hK K hbx)
    (repeat ((with_reducible refine wpLex_step (fun K hK => ?_)); go_simp; first | ((with_reducible refine hK _ _ ?_); clear hK K) | ((with_reducible apply Exists.intro); refine ⟨fun w' hw' => ?_, hK _ _ ?_⟩; (· (have hq := bcells hw'; apply valEq; (· (go_simp; first | done | (with_reducible rfl))); (· ((try go_bits); with_reducible rfl)))); clear hK K)))
    refine wpLex_nil (fun _ => ?_)
    go_wp2_with (fail)
    go_ret
    exact ⟨rfl, hb4.trans (g7.mono hb4.size)⟩
  · ((with_reducible refine wpLex_step (fun K hK => ?_)); go_simp; first | (refine hK _ _ ?_; clear hK K) | (refine ⟨?_, hK _ _ ?_⟩; (· (exact (Below.refl w4.heap.size w4).drew.alloc (Nat.le_refl _) _)); clear hK K))
    refine wpLex_nil ?_
    have g5 := (Below.refl w4.heap.size w4).drew.alloc (Nat.le_refl _) (.cells #[.int .u64 1, .int .u64 16777218] 42)
    have U5 := two_new_u w4.drew
    ((with_reducible refine wpLex_step (fun K hK => ?_)); go_simp; refine (names_one (S4.drew.alloc _)).mono ?_; rintro e w6 ⟨R5, d5, rfl, N5, hbx⟩; have g6 := (g5).trans (hbx.mono (g5).size); have U6 := U5.below hbx; refine ⟨_, rfl, g6, hK _ _ ?_⟩; clear hK K hbx)
    refine wpLex_nil ?_
    ((with_reducible refine wpLex_step (fun K hK => ?_)); go_simp; refine (same_one N5 U6).mono ?_; rintro e w7 ⟨rfl, hbx⟩; have g7 := (g6).trans (hbx.mono (g6).size); refine ⟨_, rfl, g7, hK _ _ ?_⟩; clear hK K hbx)
    (repeat ((with_reducible refine wpLex_step (fun K hK => ?_)); go_simp; first | ((with_reducible refine hK _ _ ?_); clear hK K) | ((with_reducible apply Exists.intro); refine ⟨fun w' hw' => ?_, hK _ _ ?_⟩; (· (have hq := bcells hw'; apply valEq; (· (go_simp; first | done | (with_reducible rfl))); (· ((try go_bits); with_reducible rfl)))); clear hK K)))
    refine wpLex_nil (fun _ => ?_)
    go_wp2_with (fail)
    go_ret
    exact ⟨rfl, hb4.trans (g7.mono hb4.size)⟩
end Go.Proofs.Ytbbdbgfenidhgaa
