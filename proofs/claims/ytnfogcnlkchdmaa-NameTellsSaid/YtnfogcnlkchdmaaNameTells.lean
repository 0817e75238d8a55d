/-
  The law NameTells walked.
-/
import Derived.Test.YtnfogcnlkchdmaaNEnds
import Derived.Test.YtnfogcnlkchdmaaRNameOf
import Derived.Test.YtnfogcnlkchdmaaRLess
namespace Go.Proofs.Ytnfogcnlkchdmaa
open Go Go.RowKit
attribute [local go_sem] Heavy heavyUpon

set_option maxRecDepth 100000 in
set_option maxHeartbeats 6400000 in
theorem ntells_ok (u v n a b c d e f : Int) (w : World) (h0 : 0 ≤ n) (h1 : n < 18446744073709551616) :
    Calls Try.prog 3 #[.int .i64 u, .int .i64 v, .int .u64 n, .agg #[.int .i64 a, .int .i64 b, .int .i64 c], .agg #[.int .i64 d, .int .i64 e, .int .i64 f]] w (Ret (.bool true) w) := by
  have b0 := ((Below.refl w.heap.size w).alloc (Nat.le_refl _) (.cells #[.int .i64 a, .int .i64 b, .int .i64 c] 24)).alloc (by simp) (.cells #[.int .i64 d, .int .i64 e, .int .i64 f] 24)
  have B1 := (Blk.new w 24 #[.int .i64 a, .int .i64 b, .int .i64 c]).alloc (.cells #[.int .i64 d, .int .i64 e, .int .i64 f] 24)
  have B2 := Blk.new (w.alloc (.cells #[.int .i64 a, .int .i64 b, .int .i64 c] 24)) 24 #[.int .i64 d, .int .i64 e, .int .i64 f]
  rw [heap_alloc_size] at B2
  have Q1 := hide (fun W => of_any u v W)
  have Q2 := hide (fun W => rof_any u v W)
  have Q3 := hide (fun W => nends_any n h0 h1 W)
  have Q4 := hide (fun W => rends_any n h0 h1 W)
  have q5 := fun W => less_any a b c d e f W
  have q6 := fun W => rless_any a b c d e f W
  generalize nameE u v = x at *
  generalize endsI n = y at *
  generalize ltE (a, b, c) (d, e, f) = z at *
  obtain ⟨x0, x1⟩ := x
  obtain ⟨y0, y1, y2⟩ := y
  simp only [] at Q1 Q2 Q3 Q4
  clear h0 h1
  go_enter Try.func3, Try.ntmps3
  go_wp2_with (fail)
  refine (Q1.out _).mono ?_
  rintro e w1 ⟨rfl, b1⟩
  have c1 := b0.trans (b1.mono b0.size)
  have B11 := B1.below b1 (Blk.lt B1)
  have B21 := B2.below b1 (Blk.lt B2)
  clear b0 b1 B1 B2 Q1
  go_wp2_with (fail)
  refine (Q2.out _).mono ?_
  rintro e w2 ⟨rfl, b2⟩
  have c2 := c1.trans (b2.mono c1.size)
  have B12 := B11.below b2 (Blk.lt B11)
  have B22 := B21.below b2 (Blk.lt B21)
  clear c1 b2 B11 B21 Q2
  go_wp2_with (fail)
  refine (Q3.out _).mono ?_
  rintro e w3 ⟨rfl, b3⟩
  have c3 := c2.trans (b3.mono c2.size)
  have B13 := B12.below b3 (Blk.lt B12)
  have B23 := B22.below b3 (Blk.lt B22)
  clear c2 b3 B12 B22 Q3
  go_wp2_with (fail)
  refine (Q4.out _).mono ?_
  rintro e w4 ⟨rfl, b4⟩
  have c4 := c3.trans (b4.mono c3.size)
  obtain ⟨p0, p1, p2⟩ := (B13.below b4 (Blk.lt B13)).facts
  obtain ⟨r0, r1, r2⟩ := (B23.below b4 (Blk.lt B23)).facts
  clear c3 b4 B13 B23 Q4
  go_wp2_with (fail)
  refine wp_region_lexD [26,29,33] (fun w' => Below (w4).heap.size (w4) w') (by kernel_rfl) (by kernel_rfl) (Below.refl _ _).drew ?_
  (repeat ((with_reducible refine wpLex_step (fun K hK => ?_)); go_simp; first | ((with_reducible refine hK _ _ ?_); clear hK K) | ((with_reducible apply Exists.intro); refine ⟨fun w' hw' => ?_, hK _ _ ?_⟩; (· (have hq := bcells hw'; apply valEq; (· (go_simp; first | done | (with_reducible rfl))); (· ((try go_bits); with_reducible rfl)))); clear hK K)))
  ((with_reducible refine wpLex_step (fun K hK => ?_)); go_simp; refine (q5 _).mono ?_; rintro e w5 ⟨rfl, hbx⟩; have g5 := ((Below.refl w4.heap.size w4).drew).trans (hbx.mono ((Below.refl w4.heap.size w4).drew).size); refine ⟨_, rfl, g5, hK _ _ ?_⟩; clear hK K hbx)
  (repeat ((with_reducible refine wpLex_step (fun K hK => ?_)); go_simp; first | ((with_reducible refine hK _ _ ?_); clear hK K) | ((with_reducible apply Exists.intro); refine ⟨fun w' hw' => ?_, hK _ _ ?_⟩; (· (have hq := bcells hw'; apply valEq; (· (go_simp; first | done | (with_reducible rfl))); (· ((try go_bits); with_reducible rfl)))); clear hK K)))
  ((with_reducible refine wpLex_step (fun K hK => ?_)); go_simp; refine (q6 _).mono ?_; rintro e w6 ⟨rfl, hbx⟩; have g6 := (g5).trans (hbx.mono (g5).size); refine ⟨_, rfl, g6, hK _ _ ?_⟩; clear hK K hbx)
  (repeat ((with_reducible refine wpLex_step (fun K hK => ?_)); go_simp; first | ((with_reducible refine hK _ _ ?_); clear hK K) | ((with_reducible apply Exists.intro); refine ⟨fun w' hw' => ?_, hK _ _ ?_⟩; (· (have hq := bcells hw'; apply valEq; (· (go_simp; first | done | (with_reducible rfl))); (· ((try go_bits); with_reducible rfl)))); clear hK K)))
  ((with_reducible refine wpLex_step (fun K hK => ?_)); go_simp; refine (nawake_ok _).mono ?_; rintro e w7 ⟨rfl, hbx⟩; have g7 := (g6).trans (hbx.mono (g6).size); refine ⟨_, rfl, g7, hK _ _ ?_⟩; clear hK K hbx)
  (repeat ((with_reducible refine wpLex_step (fun K hK => ?_)); go_simp; first | ((with_reducible refine hK _ _ ?_); clear hK K) | ((with_reducible apply Exists.intro); refine ⟨fun w' hw' => ?_, hK _ _ ?_⟩; (· (have hq := bcells hw'; apply valEq; (· (go_simp; first | done | (with_reducible rfl))); (· ((try go_bits); with_reducible rfl)))); clear hK K)))
  refine wpLex_nil (fun _ => ?_)
  have c7 := c4.trans (g7.mono c4.size)
  clear g5 g6 g7 c4 p0 p1 p2 r0 r1 r2 q5 q6
  go_wp2_with (fail)
  go_ret
  exact ⟨rfl, c7⟩
end Go.Proofs.Ytnfogcnlkchdmaa
