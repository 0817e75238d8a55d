/-
  The walk of the law DrawLeft.
-/
import Derived.Test.YtikbcmcmjfkjcaaAwake
namespace Go.Proofs.Ytikbcmcmjfkjcaa
open Go Go.RowKit
attribute [local go_sem] Heavy heavyUpon

set_option maxHeartbeats 400000 in
theorem drawLeft_walk (xs : List Int) (A : Option Addr) (n c : Nat) (w : World) (hS : Sl w [] 1 A n c (ints .u64 xs)) :
    Calls Try.prog 6 #[.slice A n c] w fun e w' => e = .returned (.bool true) ∧ Below w.heap.size w w' := by
  have hlen := hide (show xs.length = n by have := hS.len; simpa using this)
  have hcap : n ≤ maxLen := Nat.le_trans hS.le hS.cap
  by_cases hn : n ≤ 300
  · go_enter Try.func6, Try.ntmps6
    go_wp2_with (fail)
    go_loopw [4, 16] (fun many i wr => ∃ j k : Nat, j ≤ n ∧ k ≤ n ∧ i = .int .i64 j ∧ many = .int .i64 j ∧ Below w.heap.size w wr ∧ Blk wr w.heap.size 25 #[.slice A n c, .int .i64 k]) (fun _ i _ => n - (intOf i).toNat)
    case atStart => exact ⟨0, 0, Nat.zero_le _, Nat.zero_le _, rfl, rfl, by (repeat (first | (with_reducible exact Below.refl _ _) | (with_reducible refine Below.drew ?_) | ((with_reducible refine Below.setCell ?_ ?hside _); (case hside => first | omega | (simp; done) | (simp; omega))) | ((with_reducible refine Below.alloc ?_ ?hside _); (case hside => first | omega | (simp; done) | (simp; omega))))), Blk.new _ _ _⟩
    case round =>
      obtain ⟨j, k, hj, hk, rfl, rfl, hbr, R0⟩ := hrel
      obtain ⟨r0, e0, s0⟩ := R0.facts
      have hSr := hS.below hbr
      by_cases hlt : j < n
      · cases hq : scan (xs.drop k) k
        case none =>
          have HF := hide (drawB_none hq)
          clear hq
          go_wp2_with (fail)
          refine (below_ok xs [] A n c k _ hk hSr).mono ?_
          rw [HF.out]; rintro e w2 ⟨rfl, hb2⟩
          have Q0 := R0.below hb2 s0; obtain ⟨q0, p0, t0⟩ := Q0.facts; have hb2' := hbr.trans (hb2.mono hbr.size)
          go_wp2_with (fail)
          have V0 := Q0.alloc (.cells #[.slice A n c, .int .i64 k] 25)
          have V1 := Blk.new w2 25 #[.slice A n c, .int .i64 k]
          have hb3 := hb2'.alloc hb2'.size (.cells #[.slice A n c, .int .i64 k] 25)
          generalize w2.alloc (.cells #[.slice A n c, .int .i64 k] 25) = W at *
          obtain ⟨v0, _, o0⟩ := V0.facts
          obtain ⟨v1, _, o1⟩ := V1.facts
          refine wp_region_lex [1, 3] (fun w' => Below (W).heap.size (W) w') (by kernel_rfl) (by kernel_rfl) (Below.refl _ _).drew ?_
          (repeat (refine wpLex_step (fun K hK => ?_); go_simp; apply Exists.intro; refine ⟨fun w' hw' => ?_, hK _ _ ?_⟩; (· (have hq := bcells hw'; go_simp; first | done | ((try go_bits); rfl))); clear hK K))
          (refine wpLex_step (fun K hK => ?_); go_simp; refine (left_ok A n c k _ hk hcap).mono ?_; rintro e w3 ⟨rfl, hbx⟩; have g3 := ((Below.refl W.heap.size W).drew).trans (hbx.mono ((Below.refl W.heap.size W).drew).size); refine ⟨_, rfl, g3, hK _ _ ?_⟩; clear hK K hbx)
          (repeat (refine wpLex_step (fun K hK => ?_); go_simp; apply Exists.intro; refine ⟨fun w' hw' => ?_, hK _ _ ?_⟩; (· (have hq := bcells hw'; go_simp; first | done | ((try go_bits); rfl))); clear hK K))
          (refine wpLex_step (fun K hK => ?_); go_simp; refine (left_ok A n c k _ hk hcap).mono ?_; rintro e w4 ⟨rfl, hbx⟩; have g4 := (g3).trans (hbx.mono (g3).size); refine ⟨_, rfl, g4, hK _ _ ?_⟩; clear hK K hbx)
          (repeat (refine wpLex_step (fun K hK => ?_); go_simp; apply Exists.intro; refine ⟨fun w' hw' => ?_, hK _ _ ?_⟩; (· (have hq := bcells hw'; go_simp; first | done | ((try go_bits); rfl))); clear hK K))
          refine wpLex_nil (fun _ => ?_)
          have hb5 := hb3.trans (g4.mono hb3.size)
          (go_wp2_with (fail); refine (left_ok A n c 0 _ (Nat.zero_le _) hcap).mono ?_; rintro e x1 ⟨rfl, hx1⟩; have hy1 := (hb5).trans (hx1.mono (hb5).size); go_wp2_with (fail); refine (awake_true _).mono ?_; rintro e x2 ⟨rfl, hx2⟩; have hy2 := hy1.trans (hx2.mono hy1.size); go_wp2_with (fail); go_ret; exact ⟨rfl, hy2⟩)
        case some p =>
          obtain ⟨a, k1⟩ := p
          have hk1 := scan_drop_le (by rw [hlen.out]; exact hk) hq
          rw [hlen.out] at hk1
          obtain ⟨hk1a, hk1b⟩ := hk1
          have ha := scan_lt hq
          have HF := hide (drawB_some hq)
          clear hq
          go_wp2_with (fail)
          refine (below_ok xs [] A n c k _ hk hSr).mono ?_
          rw [HF.out]; rintro e w2 ⟨rfl, hb2⟩
          have Q0 := R0.below hb2 s0; obtain ⟨q0, p0, t0⟩ := Q0.facts; have hb2' := hbr.trans (hb2.mono hbr.size)
          go_wp2_with (fail)
          have V0 := Q0.alloc (.cells #[.slice A n c, .int .i64 k1] 25)
          have V1 := Blk.new w2 25 #[.slice A n c, .int .i64 k1]
          have hb3 := hb2'.alloc hb2'.size (.cells #[.slice A n c, .int .i64 k1] 25)
          have HT0 := hide t0
          generalize w2.alloc (.cells #[.slice A n c, .int .i64 k1] 25) = W at *
          obtain ⟨v0, _, o0⟩ := V0.facts
          obtain ⟨v1, _, o1⟩ := V1.facts
          refine wp_region_lex [1, 3] (fun w' => Below (W).heap.size (W) w') (by kernel_rfl) (by kernel_rfl) (Below.refl _ _).drew ?_
          (repeat (refine wpLex_step (fun K hK => ?_); go_simp; apply Exists.intro; refine ⟨fun w' hw' => ?_, hK _ _ ?_⟩; (· (have hq := bcells hw'; go_simp; first | done | ((try go_bits); rfl))); clear hK K))
          (refine wpLex_step (fun K hK => ?_); go_simp; refine (left_ok A n c k1 _ hk1b hcap).mono ?_; rintro e w3 ⟨rfl, hbx⟩; have g3 := ((Below.refl W.heap.size W).drew).trans (hbx.mono ((Below.refl W.heap.size W).drew).size); refine ⟨_, rfl, g3, hK _ _ ?_⟩; clear hK K hbx)
          (repeat (refine wpLex_step (fun K hK => ?_); go_simp; apply Exists.intro; refine ⟨fun w' hw' => ?_, hK _ _ ?_⟩; (· (have hq := bcells hw'; go_simp; first | done | ((try go_bits); rfl))); clear hK K))
          (refine wpLex_step (fun K hK => ?_); go_simp; refine (left_ok A n c k _ hk hcap).mono ?_; rintro e w4 ⟨rfl, hbx⟩; have g4 := (g3).trans (hbx.mono (g3).size); refine ⟨_, rfl, g4, hK _ _ ?_⟩; clear hK K hbx)
          (repeat (refine wpLex_step (fun K hK => ?_); go_simp; apply Exists.intro; refine ⟨fun w' hw' => ?_, hK _ _ ?_⟩; (· (have hq := bcells hw'; go_simp; first | done | ((try go_bits); rfl))); clear hK K))
          refine wpLex_nil (fun _ => ?_)
          have hb5 := hb3.trans (g4.mono hb3.size)
          have X0 := V0.below g4 o0
          have X1 := V1.below g4 o1
          obtain ⟨x0, y0, z0⟩ := X0.facts
          obtain ⟨x1, y1, z1⟩ := X1.facts
          go_wp2_with (fail)
          refine ⟨⟨j + 1, k1, by omega, hk1b, by go_num, by go_num, by (repeat (first | (with_reducible exact hb5) | (with_reducible refine Below.drew ?_) | ((with_reducible refine Below.setCell ?_ ?hside _); (case hside => first | omega | (simp; done) | (simp; omega))) | ((with_reducible refine Below.alloc ?_ ?hside _); (case hside => first | omega | (simp; done) | (simp; omega))))), by (repeat (first | (with_reducible exact X0) | (with_reducible refine Blk.drew ?_) | (with_reducible refine Blk.alloc ?_ _) | (with_reducible apply Blk.set2) | (with_reducible apply Blk.set3) | ((with_reducible refine Blk.far ?_ ?hside _); (case hside => first | omega | (simp; done) | (simp; omega))) | (with_reducible refine Blk.set_ ?_ _ _)))⟩, by simp [intOf]; omega⟩
      · go_wp2_with (fail)
        (go_wp2_with (fail); refine (left_ok A n c 0 _ (Nat.zero_le _) hcap).mono ?_; rintro e x1 ⟨rfl, hx1⟩; have hy1 := (hbr).trans (hx1.mono (hbr).size); go_wp2_with (fail); refine (awake_true _).mono ?_; rintro e x2 ⟨rfl, hx2⟩; have hy2 := hy1.trans (hx2.mono hy1.size); go_wp2_with (fail); go_ret; exact ⟨rfl, hy2⟩)
  · go_enter Try.func6, Try.ntmps6
    go_wp2_with (go_at_call 8; refine (awake_true _).mono ?_; rintro e w1 ⟨rfl, hb⟩)
    go_ret
    exact ⟨rfl, hb⟩
end Go.Proofs.Ytikbcmcmjfkjcaa
