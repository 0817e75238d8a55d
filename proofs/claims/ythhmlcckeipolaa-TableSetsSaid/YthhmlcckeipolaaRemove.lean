/-
  table.Remove walked.
-/
import Derived.Test.YthhmlcckeipolaaAdd
namespace Go.Proofs.Ythhmlcckeipolaa
open Go Go.RowKit
attribute [local go_sem] Heavy heavyUpon
attribute [local go_sem ↓] esl_hi esl_lo

theorem rem_call (W : World) (l : List E3) (A : Option Addr) (m c k : Nat) (hS : ESl W [] A m c l) (hk : k < m) (hm : m ≤ 4096) :
    Calls Try.prog 20 #[.slice (some ⟨W.heap.size, 0, none⟩) 2 2] (W.alloc (.cells #[.slice A k c, .slice (cutA A c (k + 1) 3) (m - (k + 1)) (c - (k + 1))] 22))
      fun e w' => ∃ R d, e = .returned (.slice R (m - 1) d) ∧ ESl w' [] R (m - 1) d (l.take k ++ l.drop (k + 1)) ∧ Below (W.alloc (.cells #[.slice A k c, .slice (cutA A c (k + 1) 3) (m - (k + 1)) (c - (k + 1))] 22)).heap.size (W.alloc (.cells #[.slice A k c, .slice (cutA A c (k + 1) 3) (m - (k + 1)) (c - (k + 1))] 22)) w' := by
  have hl := hS.length
  have hb := Blk.new W 22 #[.slice A k c, .slice (cutA A c (k + 1) 3) (m - (k + 1)) (c - (k + 1))]
  have S0 := hS.alloc (.cells #[.slice A k c, .slice (cutA A c (k + 1) 3) (m - (k + 1)) (c - (k + 1))] 22)
  generalize (W.alloc (.cells #[.slice A k c, .slice (cutA A c (k + 1) 3) (m - (k + 1)) (c - (k + 1))] 22)) = W2 at *
  have hP := concatE_ok [(A, k, c, ecells (l.take k)), (cutA A c (k + 1) 3, m - (k + 1), c - (k + 1), ecells (l.drop (k + 1)))] [] (some ⟨W.heap.size, 0, none⟩) 2 2 W2
    (Sl.of_blk hb rfl (fun x hx => by match x, hx with | 0, _ | 1, _ => rfl) (by simp) (by unfold maxLen; omega))
    (by
      intro x hx
      simp only [List.mem_cons, List.not_mem_nil, or_false] at hx
      rcases hx with rfl | rfl
      · exact ⟨p_head (k := k) S0 (by omega), ecells_one⟩
      · exact ⟨p_tail (k := k + 1) S0 hk, ecells_one⟩)
    (by decide) (by simp [ptot]; omega)
  have e1 : ptot [(A, k, c, ecells (l.take k)), (cutA A c (k + 1) 3, m - (k + 1), c - (k + 1), ecells (l.drop (k + 1)))] = m - 1 := by simp [ptot]; omega
  have e2 : pcat [(A, k, c, ecells (l.take k)), (cutA A c (k + 1) 3, m - (k + 1), c - (k + 1), ecells (l.drop (k + 1)))] = ecells (l.take k ++ l.drop (k + 1)) := by
    rw [ecells_append]
    simp [pcat]
  rw [e1, e2] at hP
  exact hP

set_option maxHeartbeats 3200000 in
theorem remove_ok (l : List E3) (n u v : Int) (A : Option Addr) (m c : Nat) (w : World) (hS : ESl w [] A m c l) (hm : m ≤ 4096) :
    Calls Try.prog 10 #[.int .i64 n, .slice A m c, .int .i64 u, .int .i64 v] w fun e w' => ∃ R d, e = .returned (.tuple #[.slice R (remE n l u v).1.length d, .int .i64 (remE n l u v).2]) ∧ ESl w' [] R (remE n l u v).1.length d (remE n l u v).1 ∧ Below w.heap.size w w' := by
  have qr := fun W h => tright_any l [] A n m c W h
  have qu := fun W => vertexT_any n u W
  have qv := fun W => vertexT_any n v W
  have qf := fun W h => nfind_any l u v [] A m c W h
  have HL := hide hS.length
  unfold remE
  cases h1 : rightE n l
  case false =>
    rw [h1] at qr
    have QR := hide qr
    clear qr qu qv qf h1
    simp only [Bool.false_and, Bool.false_eq_true, if_false]
    (go_enter Try.func10, Try.ntmps10)
    (go_wp2_with (fail); refine (QR.out w hS).mono ?_; rintro e w1 ⟨rfl, b1⟩)
    (go_wp2_with (fail); refine bodyPost_ret (v := .tuple #[.slice A m c, .int .i64 1]) (by simp [results, Try.results10, go_sem]) rfl ⟨A, c, by rw [HL.out], by rw [HL.out]; exact hS.below b1, b1⟩)
  rw [h1] at qr
  have QR := hide qr
  clear qr h1
  cases h2 : inN n u
  case false =>
    rw [h2] at qu
    have QU := hide qu
    clear qu qv qf h2
    simp only [Bool.true_and, Bool.false_and, Bool.false_eq_true, if_false]
    (go_enter Try.func10, Try.ntmps10)
    (go_wp2_with (fail); refine (QR.out w hS).mono ?_; rintro e w1 ⟨rfl, b1⟩)
    (go_wp2_with (fail); refine (QU.out w1).mono ?_; rintro e w2 ⟨rfl, b2⟩; have b12 := b1.trans (b2.mono b1.size); clear b1 b2)
    (go_wp2_with (fail); refine bodyPost_ret (v := .tuple #[.slice A m c, .int .i64 1]) (by simp [results, Try.results10, go_sem]) rfl ⟨A, c, by rw [HL.out], by rw [HL.out]; exact hS.below b12, b12⟩)
  rw [h2] at qu
  have QU := hide qu
  clear qu h2
  cases h3 : inN n v
  case false =>
    rw [h3] at qv
    have QV := hide qv
    clear qv qf h3
    simp only [Bool.true_and, Bool.false_eq_true, if_false]
    (go_enter Try.func10, Try.ntmps10)
    (go_wp2_with (fail); refine (QR.out w hS).mono ?_; rintro e w1 ⟨rfl, b1⟩)
    (go_wp2_with (fail); refine (QU.out w1).mono ?_; rintro e w2 ⟨rfl, b2⟩; have b12 := b1.trans (b2.mono b1.size); clear b1 b2)
    (go_wp2_with (fail); refine (QV.out w2).mono ?_; rintro e w3 ⟨rfl, b3⟩; have b13 := b12.trans (b3.mono b12.size); clear b12 b3)
    (go_wp2_with (fail); refine bodyPost_ret (v := .tuple #[.slice A m c, .int .i64 1]) (by simp [results, Try.results10, go_sem]) rfl ⟨A, c, by rw [HL.out], by rw [HL.out]; exact hS.below b13, b13⟩)
  rw [h3] at qv
  have QV := hide qv
  clear qv h3
  rw [if_pos (by rfl)]
  unfold placeT thereT at qf
  by_cases hfd : 0 ≤ findI l u v 0
  · rw [if_pos hfd]
    rw [decide_eq_true hfd, if_pos hfd] at qf
    obtain ⟨k, ek, hk, _, hdel, _⟩ := find_spec l u v 0 (Int.le_refl _) hfd
    rw [ek, Int.zero_add] at qf
    have HD := hide (show (delE l u v) = l.take k ++ l.drop (k + 1) from hdel)
    have HDL := hide (show (delE l u v).length = m - 1 by rw [hdel, List.length_append, List.length_take, List.length_drop]; have := HL.out; omega)
    have hkm : k < m := by have := HL.out; omega
    have QF := hide qf
    clear qf hfd ek hdel
    have hkc : k < c := Nat.lt_of_lt_of_le hkm hS.le
    have hcap := hS.cap
    unfold maxLen at hcap
    have i0 : (k : Int) ≤ (c : Int) := by omega
    have i1 : (k : Int) + 1 ≤ (m : Int) := by omega
    have i2 : (0 : Int) ≤ (k : Int) + 1 := by omega
    have i3 : ((k : Int) + 1).toNat = k + 1 := by omega
    (go_enter Try.func10, Try.ntmps10)
    (go_wp2_with (fail); refine (QR.out w hS).mono ?_; rintro e w1 ⟨rfl, b1⟩)
    (go_wp2_with (fail); refine (QU.out w1).mono ?_; rintro e w2 ⟨rfl, b2⟩; have b12 := b1.trans (b2.mono b1.size); clear b1 b2)
    (go_wp2_with (fail); refine (QV.out w2).mono ?_; rintro e w3 ⟨rfl, b3⟩; have b13 := b12.trans (b3.mono b12.size); clear b12 b3)
    (go_wp2_with (fail); refine (QF.out w3 (hS.below b13)).mono ?_; rintro e w4 ⟨rfl, b4⟩; have b14 := b13.trans (b4.mono b13.size); clear b13 b4)
    have g6 := (Below.refl w4.heap.size w4).drew.alloc (Nat.le_refl _) (.cells #[.slice A k c, .slice (cutA A c (k + 1) 3) (m - (k + 1)) (c - (k + 1))] 22)
    go_wp2_with (fail)
    refine wp_region_lexD [7,8] (fun w' => Below (w4).heap.size (w4) w') (by kernel_rfl) (by kernel_rfl) (Below.refl _ _).drew ?_
    (repeat ((with_reducible refine wpLex_step (fun K hK => ?_)); go_simp; first | ((with_reducible refine hK _ _ ?_); clear hK K) | ((with_reducible apply Exists.intro); refine ⟨fun w' hw' => ?_, hK _ _ ?_⟩; (· (have hq := bcells hw'; apply valEq; (· (go_simp; first | done | (with_reducible rfl))); (· ((try go_bits); with_reducible rfl)))); clear hK K)))
    ((with_reducible refine wpLex_step (fun K hK => ?_)); go_simp; first | (refine hK _ _ ?_; clear hK K) | (refine ⟨?_, hK _ _ ?_⟩; (· (exact g6)); clear hK K))
    ((with_reducible refine wpLex_step (fun K hK => ?_)); go_simp; refine (rem_call w4.drew l A m c k (hS.below b14).drew hkm hm).mono ?_; rintro e w7 ⟨R5, d5, rfl, N5, hbx⟩; have g7 := (g6).trans (hbx.mono (g6).size); skip; refine ⟨_, rfl, g7, hK _ _ ?_⟩; clear hK K hbx)
    (repeat ((with_reducible refine wpLex_step (fun K hK => ?_)); go_simp; first | ((with_reducible refine hK _ _ ?_); clear hK K) | ((with_reducible apply Exists.intro); refine ⟨fun w' hw' => ?_, hK _ _ ?_⟩; (· (have hq := bcells hw'; apply valEq; (· (go_simp; first | done | (with_reducible rfl))); (· ((try go_bits); with_reducible rfl)))); clear hK K)))
    refine wpLex_nil (fun _ => ?_)
    have hb7 := b14.trans (g7.mono b14.size)
    go_wp2_with (fail)
    refine bodyPost_ret (v := .tuple #[.slice R5 (m - 1) d5, .int .i64 0]) (by simp [results, Try.results10, go_sem]) rfl ⟨R5, d5, by rw [HDL.out], by rw [HDL.out, HD.out]; exact N5, hb7⟩
  · rw [if_neg hfd]
    rw [decide_eq_false hfd, if_neg hfd] at qf
    have QF := hide qf
    clear qf hfd
    (go_enter Try.func10, Try.ntmps10)
    (go_wp2_with (fail); refine (QR.out w hS).mono ?_; rintro e w1 ⟨rfl, b1⟩)
    (go_wp2_with (fail); refine (QU.out w1).mono ?_; rintro e w2 ⟨rfl, b2⟩; have b12 := b1.trans (b2.mono b1.size); clear b1 b2)
    (go_wp2_with (fail); refine (QV.out w2).mono ?_; rintro e w3 ⟨rfl, b3⟩; have b13 := b12.trans (b3.mono b12.size); clear b12 b3)
    (go_wp2_with (fail); refine (QF.out w3 (hS.below b13)).mono ?_; rintro e w4 ⟨rfl, b4⟩; have b14 := b13.trans (b4.mono b13.size); clear b13 b4)
    (go_wp2_with (fail); refine bodyPost_ret (v := .tuple #[.slice A m c, .int .i64 9]) (by simp [results, Try.results10, go_sem]) rfl ⟨A, c, by rw [HL.out], by rw [HL.out]; exact hS.below b14, b14⟩)
end Go.Proofs.Ythhmlcckeipolaa
