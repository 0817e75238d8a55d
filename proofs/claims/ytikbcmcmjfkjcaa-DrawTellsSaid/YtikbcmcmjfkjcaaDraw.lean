/-
  Walks of package draw and of its reference.
-/
import Derived.Test.YtikbcmcmjfkjcaaProg
import Derived.Test.YtikbcmcmjfkjcaaMem
import Derived.Test.YtikbcmcmjfkjcaaDrawP
import Derived.BigQuiet
namespace Go.Proofs.Ytikbcmcmjfkjcaa
open Go Go.RowKit
attribute [local go_sem] Heavy heavyUpon low_eq

theorem right_any (A : Option Addr) (n c : Nat) (at_ : Int) (w : World) :
    Calls Try.prog 15 #[.agg #[.slice A n c, .int .i64 at_]] w fun e w' => e = .returned (.bool (decide (0 ≤ at_ ∧ at_ ≤ n))) ∧ Below w.heap.size w w' := by
  by_cases h0 : 0 ≤ at_
  · go_enter Try.func15, Try.ntmps15
    go_wp2
    go_ret
    exact ⟨by simp [h0], (Below.refl _ _).alloc (Nat.le_refl _) _⟩
  · go_enter Try.func15, Try.ntmps15
    go_wp2
    go_ret
    exact ⟨by simp; omega, (Below.refl _ _).alloc (Nat.le_refl _) _⟩

theorem below_bad (A : Option Addr) (n c : Nat) (at_ : Int) (w : World) (h : ¬ (0 ≤ at_ ∧ at_ ≤ n)) :
    Calls Try.prog 9 #[.agg #[.slice A n c, .int .i64 at_]] w fun e w' => e = .returned (.tuple #[.int .u64 0, .agg #[.slice A n c, .int .i64 at_], .int .i64 1]) ∧ Below w.heap.size w w' := by
  have hd : decide (0 ≤ at_ ∧ at_ ≤ n) = false := by simpa using h
  have HD := hide hd
  clear hd h
  go_enter Try.func9, Try.ntmps9
  go_wp2_with (go_at_call 15; refine (right_any A n c at_ _).mono ?_; rw [HD.out]; rintro e w1 ⟨rfl, hb⟩; obtain ⟨hc, hf⟩ := bcell hb)
  have hbb : Below w.heap.size w w1 := (((Below.refl _ _).alloc (Nat.le_refl _) _).alloc (by simp) _).trans (hb.mono (by simp; omega))
  refine wp_region_lex [2] (fun w' => ∀ o, w'.cell? ⟨w.heap.size, o, none⟩ = w1.cell? ⟨w.heap.size, o, none⟩) (by kernel_rfl) (by kernel_rfl) ?_ ?_
  · intro o; rfl
  (repeat (refine wpLex_step (fun K hK => ?_); go_simp; apply Exists.intro; refine ⟨fun w' hw' => ?_, hK _ _ ?_⟩; (· (apply valEq; (· (go_simp; first | done | rfl)); (· ((try go_bits); rfl)))); clear hK K))
  (refine wpLex_step (fun K hK => ?_); go_simp; first | (refine hK _ _ ?_; clear hK K) | (refine ⟨?_, hK _ _ ?_⟩; (· (intro o; go_simp)); clear hK K))
  (repeat (refine wpLex_step (fun K hK => ?_); go_simp; apply Exists.intro; refine ⟨fun w' hw' => ?_, hK _ _ ?_⟩; (· (apply valEq; (· (go_simp; first | done | rfl)); (· ((try go_bits); rfl)))); clear hK K))
  refine wpLex_nil (fun hw => ?_)
  go_wp2
  exact bodyPost_ret (v := .tuple #[.int .u64 0, .agg #[.slice A n c, .int .i64 at_], .int .i64 1]) (by simp [results, Try.results9, go_sem, hc]) rfl ⟨rfl, ((hbb.setCell (by simp) _).setCell (by simp) _).drew⟩

theorem below_ok (xs : List Int) (M : List Nat) (A : Option Addr) (n c : Nat) (at_ : Nat) (w : World) (h : at_ ≤ n) (hS : Sl w M 1 A n c (ints .u64 xs)) :
    Calls Try.prog 9 #[.agg #[.slice A n c, .int .i64 at_]] w fun e w' => e = .returned (.tuple #[.int .u64 (drawB xs at_).1, .agg #[.slice A n c, .int .i64 (drawB xs at_).2.1], .int .i64 (drawB xs at_).2.2]) ∧ Below w.heap.size w w' := by
  have hd : decide (0 ≤ (at_ : Int) ∧ (at_ : Int) ≤ n) = true := by simp; omega
  have hl := hS.len
  have hcap := hS.cap
  have hle := hS.le
  unfold maxLen at hcap
  have HL : xs.length = n := by simpa using hl
  have HL2 := hide HL
  have HD := hide hd
  clear hd hl HL
  go_enter Try.func9, Try.ntmps9
  go_wp2_with (go_at_call 15; refine (right_any A n c at_ _).mono ?_; rw [HD.out]; rintro e w1 ⟨rfl, hb⟩; obtain ⟨hc, hf⟩ := bcell hb)
  have hbb : Below w.heap.size w w1 := (((Below.refl _ _).alloc (Nat.le_refl _) _).alloc (by simp) _).trans (hb.mono (by simp; omega))
  have hS1 := hS.below hbb
  go_loop [5] (fun i => ∃ k : Nat, at_ ≤ k ∧ k ≤ n ∧ i = .int .i64 k ∧ scan (xs.drop k) k = scan (xs.drop at_) at_) (fun i => n - (intOf i).toNat)
  case atStart => exact ⟨at_, Nat.le_refl _, h, rfl, rfl⟩
  case round =>
    obtain ⟨k, hk1, hk2, rfl, hk3⟩ := hrel
    have HK := hide hk3
    clear hk3
    by_cases hlt : k < n
    · obtain ⟨ad, rfl, had, hM, hcell⟩ := hS1.at_ (by omega)
      have hx : k < xs.length := by have := HL2.out; omega
      have hck := hcell k _ (ints_get hx)
      have HX := hide (show xs.drop k = xs[k] :: xs.drop (k + 1) from List.drop_eq_getElem_cons hx)
      have HC := hide hcell
      clear hcell
      generalize xs[k] = x at *
      cases hpx : isLow x
      case true =>
        have HF := hide (drawB_some (HK.out.symm.trans (by rw [HX.out]; exact scan_yes hpx _ _)))
        have hp := isLow_lt hpx
        clear hpx
        go_wp2
        refine wp_region_lex [7] (fun w' => ∀ o, w'.cell? ⟨w.heap.size, o, none⟩ = w1.cell? ⟨w.heap.size, o, none⟩) (by kernel_rfl) (by kernel_rfl) ?_ ?_
        · intro o; rfl
        (repeat (refine wpLex_step (fun K hK => ?_); go_simp; apply Exists.intro; refine ⟨fun w' hw' => ?_, hK _ _ ?_⟩; (· (apply valEq; (· (go_simp; first | done | rfl)); (· ((try go_bits); rfl)))); clear hK K))
        (refine wpLex_step (fun K hK => ?_); go_simp; first | (refine hK _ _ ?_; clear hK K) | (refine ⟨?_, hK _ _ ?_⟩; (· (intro o; go_simp)); clear hK K))
        (repeat (refine wpLex_step (fun K hK => ?_); go_simp; apply Exists.intro; refine ⟨fun w' hw' => ?_, hK _ _ ?_⟩; (· (apply valEq; (· (go_simp; first | done | rfl)); (· ((try go_bits); rfl)))); clear hK K))
        refine wpLex_nil (fun hw => ?_)
        go_wp2
        refine bodyPost_ret (v := .tuple #[.int .u64 (low x), .agg #[.slice (some ad) n c, .int .i64 ((k : Int) + 1)], .int .i64 0]) (by simp [results, Try.results9, go_sem, hc]) rfl ⟨?_, ((hbb.setCell (by simp) _).setCell (by simp) _).drew⟩
        rw [HF.out]; try rfl
      case false =>
        have HN := hide (show scan (xs.drop (k + 1)) (k + 1) = scan (xs.drop at_) at_ from by rw [← HK.out, HX.out, scan_no hpx])
        have hp := isLow_not hpx
        clear hpx
        go_wp2
        exact ⟨⟨k + 1, by omega, by omega, by go_num, HN.out⟩, by simp [intOf]; omega⟩
    · have hkn : k = n := by omega
      have HF := hide (drawB_none (xs := xs) (HK.out.symm.trans (by rw [hkn, ← HL2.out, List.drop_length]; rfl)))
      clear hkn
      go_wp2
      refine wp_region_lex [2] (fun w' => ∀ o, w'.cell? ⟨w.heap.size, o, none⟩ = w1.cell? ⟨w.heap.size, o, none⟩) (by kernel_rfl) (by kernel_rfl) ?_ ?_
      · intro o; rfl
      (repeat (refine wpLex_step (fun K hK => ?_); go_simp; apply Exists.intro; refine ⟨fun w' hw' => ?_, hK _ _ ?_⟩; (· (apply valEq; (· (go_simp; first | done | rfl)); (· ((try go_bits); rfl)))); clear hK K))
      (refine wpLex_step (fun K hK => ?_); go_simp; first | (refine hK _ _ ?_; clear hK K) | (refine ⟨?_, hK _ _ ?_⟩; (· (intro o; go_simp)); clear hK K))
      (repeat (refine wpLex_step (fun K hK => ?_); go_simp; apply Exists.intro; refine ⟨fun w' hw' => ?_, hK _ _ ?_⟩; (· (apply valEq; (· (go_simp; first | done | rfl)); (· ((try go_bits); rfl)))); clear hK K))
      refine wpLex_nil (fun hw => ?_)
      go_wp2
      refine bodyPost_ret (v := .tuple #[.int .u64 0, .agg #[.slice A n c, .int .i64 at_], .int .i64 5]) (by simp [results, Try.results9, go_sem, hc]) rfl ⟨?_, ((hbb.setCell (by simp) _).setCell (by simp) _).drew⟩
      rw [HF.out]; try rfl

theorem refright_any (A : Option Addr) (n c : Nat) (at_ : Int) (w : World) :
    Calls Try.prog 16 #[.agg #[.slice A n c, .int .i64 at_]] w fun e w' => e = .returned (.bool (decide (0 ≤ at_ ∧ at_ ≤ n))) ∧ Below w.heap.size w w' := by
  by_cases h0 : 0 ≤ at_
  · go_enter Try.func16, Try.ntmps16
    go_wp2
    go_ret
    exact ⟨by simp [h0], (Below.refl _ _).alloc (Nat.le_refl _) _⟩
  · go_enter Try.func16, Try.ntmps16
    go_wp2
    go_ret
    exact ⟨by simp; omega, (Below.refl _ _).alloc (Nat.le_refl _) _⟩

theorem refbelow_bad (A : Option Addr) (n c : Nat) (at_ : Int) (w : World) (h : ¬ (0 ≤ at_ ∧ at_ ≤ n)) :
    Calls Try.prog 10 #[.agg #[.slice A n c, .int .i64 at_]] w fun e w' => e = .returned (.tuple #[.int .u64 0, .agg #[.slice A n c, .int .i64 at_], .int .i64 1]) ∧ Below w.heap.size w w' := by
  have hd : decide (0 ≤ at_ ∧ at_ ≤ n) = false := by simpa using h
  have HD := hide hd
  clear hd h
  go_enter Try.func10, Try.ntmps10
  go_wp2_with (go_at_call 16; refine (refright_any A n c at_ _).mono ?_; rw [HD.out]; rintro e w1 ⟨rfl, hb⟩; obtain ⟨hc, hf⟩ := bcell hb)
  have hbb : Below w.heap.size w w1 := (((Below.refl _ _).alloc (Nat.le_refl _) _).alloc (by simp) _).trans (hb.mono (by simp; omega))
  refine wp_region_lex [2] (fun w' => ∀ o, w'.cell? ⟨w.heap.size, o, none⟩ = w1.cell? ⟨w.heap.size, o, none⟩) (by kernel_rfl) (by kernel_rfl) ?_ ?_
  · intro o; rfl
  (repeat (refine wpLex_step (fun K hK => ?_); go_simp; apply Exists.intro; refine ⟨fun w' hw' => ?_, hK _ _ ?_⟩; (· (apply valEq; (· (go_simp; first | done | rfl)); (· ((try go_bits); rfl)))); clear hK K))
  (refine wpLex_step (fun K hK => ?_); go_simp; first | (refine hK _ _ ?_; clear hK K) | (refine ⟨?_, hK _ _ ?_⟩; (· (intro o; go_simp)); clear hK K))
  (repeat (refine wpLex_step (fun K hK => ?_); go_simp; apply Exists.intro; refine ⟨fun w' hw' => ?_, hK _ _ ?_⟩; (· (apply valEq; (· (go_simp; first | done | rfl)); (· ((try go_bits); rfl)))); clear hK K))
  refine wpLex_nil (fun hw => ?_)
  go_wp2
  exact bodyPost_ret (v := .tuple #[.int .u64 0, .agg #[.slice A n c, .int .i64 at_], .int .i64 1]) (by simp [results, Try.results10, go_sem, hc]) rfl ⟨rfl, ((hbb.setCell (by simp) _).setCell (by simp) _).drew⟩

theorem refbelow_ok (xs : List Int) (M : List Nat) (A : Option Addr) (n c : Nat) (at_ : Nat) (w : World) (h : at_ ≤ n) (hS : Sl w M 1 A n c (ints .u64 xs)) (hW : ∀ x ∈ xs, 0 ≤ x ∧ x < 18446744073709551616) :
    Calls Try.prog 10 #[.agg #[.slice A n c, .int .i64 at_]] w fun e w' => e = .returned (.tuple #[.int .u64 (drawB xs at_).1, .agg #[.slice A n c, .int .i64 (drawB xs at_).2.1], .int .i64 (drawB xs at_).2.2]) ∧ Below w.heap.size w w' := by
  have hd : decide (0 ≤ (at_ : Int) ∧ (at_ : Int) ≤ n) = true := by simp; omega
  have hl := hS.len
  have hcap := hS.cap
  have hle := hS.le
  unfold maxLen at hcap
  have HL : xs.length = n := by simpa using hl
  have HL2 := hide HL
  have HD := hide hd
  clear hd hl HL
  go_enter Try.func10, Try.ntmps10
  go_wp2_with (go_at_call 16; refine (refright_any A n c at_ _).mono ?_; rw [HD.out]; rintro e w1 ⟨rfl, hb⟩; obtain ⟨hc, hf⟩ := bcell hb)
  have hbb : Below w.heap.size w w1 := (((Below.refl _ _).alloc (Nat.le_refl _) _).alloc (by simp) _).trans (hb.mono (by simp; omega))
  have hS1 := hS.below hbb
  go_loop [5] (fun i => ∃ k : Nat, at_ ≤ k ∧ k ≤ n ∧ i = .int .i64 k ∧ scan (xs.drop k) k = scan (xs.drop at_) at_) (fun i => n - (intOf i).toNat)
  case atStart => exact ⟨at_, Nat.le_refl _, h, rfl, rfl⟩
  case round =>
    obtain ⟨k, hk1, hk2, rfl, hk3⟩ := hrel
    have HK := hide hk3
    clear hk3
    by_cases hlt : k < n
    · obtain ⟨ad, rfl, had, hM, hcell⟩ := hS1.at_ (by omega)
      have hx : k < xs.length := by have := HL2.out; omega
      have hck := hcell k _ (ints_get hx)
      have HX := hide (show xs.drop k = xs[k] :: xs.drop (k + 1) from List.drop_eq_getElem_cons hx)
      have HC := hide hcell
      clear hcell
      obtain ⟨hx0, hx1⟩ := hW _ (List.getElem_mem hx)
      generalize xs[k] = x at *
      cases hpx : isLow x
      case true =>
        have HF := hide (drawB_some (HK.out.symm.trans (by rw [HX.out]; exact scan_yes hpx _ _)))
        have hp := ref_yes hx0 hx1 hpx
        have HE := hide (low_mod hx0 hx1)
        clear hpx hx1
        go_wp2
        refine wp_region_lex [7] (fun w' => ∀ o, w'.cell? ⟨w.heap.size, o, none⟩ = w1.cell? ⟨w.heap.size, o, none⟩) (by kernel_rfl) (by kernel_rfl) ?_ ?_
        · intro o; rfl
        (repeat (refine wpLex_step (fun K hK => ?_); go_simp; apply Exists.intro; refine ⟨fun w' hw' => ?_, hK _ _ ?_⟩; (· (apply valEq; (· (go_simp; first | done | rfl)); (· ((try go_bits); rfl)))); clear hK K))
        (refine wpLex_step (fun K hK => ?_); go_simp; first | (refine hK _ _ ?_; clear hK K) | (refine ⟨?_, hK _ _ ?_⟩; (· (intro o; go_simp)); clear hK K))
        (repeat (refine wpLex_step (fun K hK => ?_); go_simp; apply Exists.intro; refine ⟨fun w' hw' => ?_, hK _ _ ?_⟩; (· (apply valEq; (· (go_simp; first | done | rfl)); (· ((try go_bits); rfl)))); clear hK K))
        refine wpLex_nil (fun hw => ?_)
        go_wp2
        refine bodyPost_ret (v := .tuple #[.int .u64 (x % 2305843009213693952), .agg #[.slice (some ad) n c, .int .i64 ((k : Int) + 1)], .int .i64 0]) (by simp [results, Try.results10, go_sem, hc]) rfl ⟨?_, ((hbb.setCell (by simp) _).setCell (by simp) _).drew⟩
        rw [HF.out, HE.out]; try rfl
      case false =>
        have HN := hide (show scan (xs.drop (k + 1)) (k + 1) = scan (xs.drop at_) at_ from by rw [← HK.out, HX.out, scan_no hpx])
        have hp := ref_no hx0 hx1 hpx
        clear hpx hx1
        go_wp2
        exact ⟨⟨k + 1, by omega, by omega, by go_num, HN.out⟩, by simp [intOf]; omega⟩
    · have hkn : k = n := by omega
      have HF := hide (drawB_none (xs := xs) (HK.out.symm.trans (by rw [hkn, ← HL2.out, List.drop_length]; rfl)))
      clear hkn
      go_wp2
      refine wp_region_lex [2] (fun w' => ∀ o, w'.cell? ⟨w.heap.size, o, none⟩ = w1.cell? ⟨w.heap.size, o, none⟩) (by kernel_rfl) (by kernel_rfl) ?_ ?_
      · intro o; rfl
      (repeat (refine wpLex_step (fun K hK => ?_); go_simp; apply Exists.intro; refine ⟨fun w' hw' => ?_, hK _ _ ?_⟩; (· (apply valEq; (· (go_simp; first | done | rfl)); (· ((try go_bits); rfl)))); clear hK K))
      (refine wpLex_step (fun K hK => ?_); go_simp; first | (refine hK _ _ ?_; clear hK K) | (refine ⟨?_, hK _ _ ?_⟩; (· (intro o; go_simp)); clear hK K))
      (repeat (refine wpLex_step (fun K hK => ?_); go_simp; apply Exists.intro; refine ⟨fun w' hw' => ?_, hK _ _ ?_⟩; (· (apply valEq; (· (go_simp; first | done | rfl)); (· ((try go_bits); rfl)))); clear hK K))
      refine wpLex_nil (fun hw => ?_)
      go_wp2
      refine bodyPost_ret (v := .tuple #[.int .u64 0, .agg #[.slice A n c, .int .i64 at_], .int .i64 5]) (by simp [results, Try.results10, go_sem, hc]) rfl ⟨?_, ((hbb.setCell (by simp) _).setCell (by simp) _).drew⟩
      rw [HF.out]; try rfl

theorem left_ok (A : Option Addr) (n c : Nat) (at_ : Nat) (w : World) (h : at_ ≤ n) (hn : n ≤ maxLen) :
    Calls Try.prog 14 #[.agg #[.slice A n c, .int .i64 at_]] w fun e w' => e = .returned (.int .i64 ((n : Int) - at_)) ∧ Below w.heap.size w w' := by
  have HD := hide (show decide (0 ≤ (at_ : Int) ∧ (at_ : Int) ≤ n) = true by simp; omega)
  unfold maxLen at hn
  go_enter Try.func14, Try.ntmps14
  go_wp2_with (go_at_call 15; refine (right_any A n c at_ _).mono ?_; rw [HD.out]; rintro e w1 ⟨rfl, hb⟩; obtain ⟨B0, hz, hbb⟩ := one_new hb; clear hb; obtain ⟨b0, f0, l0⟩ := B0.facts)
  go_ret
  exact ⟨rfl, hbb⟩

theorem left_bad (A : Option Addr) (n c : Nat) (at_ : Int) (w : World) (h : ¬ (0 ≤ at_ ∧ at_ ≤ n)) :
    Calls Try.prog 14 #[.agg #[.slice A n c, .int .i64 at_]] w fun e w' => e = .returned (.int .i64 0) ∧ Below w.heap.size w w' := by
  have HD := hide (show decide (0 ≤ at_ ∧ at_ ≤ n) = false by simpa using h)
  clear h
  go_enter Try.func14, Try.ntmps14
  go_wp2_with (go_at_call 15; refine (right_any A n c at_ _).mono ?_; rw [HD.out]; rintro e w1 ⟨rfl, hb⟩; obtain ⟨B0, hz, hbb⟩ := one_new hb; clear hb; obtain ⟨b0, f0, l0⟩ := B0.facts)
  go_ret
  exact ⟨rfl, hbb⟩
end Go.Proofs.Ytikbcmcmjfkjcaa
