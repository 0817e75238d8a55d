/-
  raftsmanlaw12.TableBack walked.
-/
import Derived.Test.YthhmlcckeipolaaTabAwake
import Derived.Test.YthhmlcckeipolaaTabPlain
import Derived.Test.YthhmlcckeipolaaESame
namespace Go.Proofs.Ythhmlcckeipolaa
open Go Go.RowKit
attribute [local go_sem] Heavy heavyUpon

theorem esame_yes (X : List E3) (M N : List Nat) (A B : Option Addr) (n c m d : Nat) (w : World) (ha : ESl w M A n c X) (hb : ESl w N B m d X) :
    Calls Try.prog 11 #[.slice A n c, .slice B m d] w (Ret (.bool true) w) :=
  (esame_any X X M N A B n c m d w ha hb).mono fun e w' ⟨he, hb⟩ => ⟨by rw [he, decide_eq_true rfl], hb⟩

theorem back_cases {n : Int} {l : List E3} (u v : Int) (h : rightE n l = true) :
    (addE n l u v = (l, 1)) ∨ (addE n l u v = (l, 8)) ∨ (addE n l u v = (insE l (edgeE u v 0), 0) ∧ rightE n (insE l (edgeE u v 0)) = true ∧ remE n (insE l (edgeE u v 0)) v u = (l, 0)) ∨
      (addE n l u v = (l, 4) ∧ inN n u = true ∧ inN n v = true ∧ u ≠ v ∧ 0 ≤ findI l u v 0) := by
  unfold addE
  rw [h, Bool.true_and]
  cases hu : inN n u
  · exact .inl (if_neg (by simp))
  cases hv : inN n v
  · exact .inl (if_neg (by simp))
  rw [if_pos (by rfl)]
  by_cases huv : u = v
  · rw [if_pos huv]; exact .inr (.inl rfl)
  rw [if_neg huv]
  by_cases hf : 0 ≤ findI l u v 0
  · rw [if_pos hf]; exact .inr (.inr (.inr ⟨rfl, rfl, rfl, huv, hf⟩))
  · rw [if_neg hf]
    exact .inr (.inr (.inl ⟨rfl, insE_right h hu hv huv hf, add_back h hu hv huv hf⟩))

theorem back_set {n : Int} {l : List E3} (u v t : Int) (h : rightE n l = true) (hu : inN n u = true) (hv : inN n v = true) (hf : 0 ≤ findI l u v 0) :
    ∃ (i : Nat) (hi : i < l.length), (u < v → wasI l u v = l[i].2.2) ∧ (v < u → wasI l v u = l[i].2.2) ∧
      (putE n l u v t = (l, 1) ∨ (putE n l u v t = (l.set i (l[i].1, l[i].2.1, t), 0) ∧ rightE n (l.set i (l[i].1, l[i].2.1, t)) = true ∧ putE n (l.set i (l[i].1, l[i].2.1, t)) v u l[i].2.2 = (l, 0))) := by
  obtain ⟨i, _, hi, hh, _, hset⟩ := find_spec l u v 0 (Int.le_refl _) hf
  have he := right_edge h (List.getElem_mem hi)
  have hh2 := hitE_iff.1 hh
  refine ⟨i, hi, fun huv => ?_, fun huv => ?_, ?_⟩
  · exact wasI_at u v i hi (by omega) fun j hj hjj => hit_one h hj hi (u := u) (v := v) (by rw [hitE_iff]; omega) hh
  · exact wasI_at v u i hi (by omega) fun j hj hjj => hit_one h hj hi (u := u) (v := v) (by rw [hitE_iff]; omega) hh
  · by_cases ht : 0 ≤ t ∧ t ≤ 16
    · right
      refine ⟨?_, set_right h i hi ht, set_back h i hi hh ht hu hv⟩
      unfold putE
      rw [h, hu, hv, decide_eq_true ht.1, decide_eq_true ht.2, if_pos (by rfl), if_pos hf, hset]
    · left
      unfold putE
      rw [h, hu, hv]
      have : (decide (0 ≤ t) && decide (t ≤ 16)) = false := by simpa using ht
      rw [this]
      rfl

set_option maxRecDepth 100000 in
set_option maxHeartbeats 6400000 in
theorem tback_ok (n u v t : Int) (l : List E3) (A : Option Addr) (m c : Nat) (w : World) (hS : ESl w [] A m c l) :
    Calls Try.prog 3 #[.int .i64 n, .slice A m c, .int .i64 u, .int .i64 v, .int .i64 t] w (Ret (.bool true) w) := by
  by_cases h1 : 60 < m
  · (go_enter Try.func3, Try.ntmps3)
    (go_wp2_with (fail); refine (tawake_ok _).mono ?_; rintro e x ⟨rfl, bx⟩; go_wp2_with (fail); go_ret; exact ⟨rfl, (Below.refl w.heap.size w).trans (bx.mono (Below.refl w.heap.size w).size)⟩)
  have h1' : m ≤ 60 := by omega
  clear h1
  by_cases h3 : 60 < n
  · (go_enter Try.func3, Try.ntmps3)
    (go_wp2_with (fail); refine (tawake_ok _).mono ?_; rintro e x ⟨rfl, bx⟩; go_wp2_with (fail); go_ret; exact ⟨rfl, (Below.refl w.heap.size w).trans (bx.mono (Below.refl w.heap.size w).size)⟩)
  have h3' : n ≤ 60 := by omega
  clear h3
  have qr := fun W h => tright_any l [] A n m c W h
  cases hr : rightE n l
  case false =>
    rw [hr] at qr
    have QR := hide qr
    clear qr hr
    (go_enter Try.func3, Try.ntmps3)
    (go_wp2_with (fail); refine (QR.out w hS).mono ?_; rintro e w1 ⟨rfl, b1⟩; have S1 := hS.below b1)
    (go_wp2_with (fail); refine (tawake_ok _).mono ?_; rintro e x ⟨rfl, bx⟩; go_wp2_with (fail); go_ret; exact ⟨rfl, (b1).trans (bx.mono (b1).size)⟩)
  rw [hr] at qr
  have QR := hide qr
  clear qr
  have HL := hide hS.length
  have qa := fun W h => add_ok l n u v A m c W h (by omega)
  rcases back_cases u v hr with hc | hc | ⟨hc, hr2, hrem⟩ | ⟨hc, hu, hv, huv, hf⟩
  · rw [hc] at qa
    have QA := hide qa
    clear qa hc hr
    ((go_enter Try.func3, Try.ntmps3); (go_wp2_with (fail); refine (QR.out w hS).mono ?_; rintro e w1 ⟨rfl, b1⟩; have S1 := hS.below b1); (go_wp2_with (fail); refine (QA.out w1 S1).mono ?_; rintro e w2 ⟨R2, d2, rfl, Z2, b2⟩; have hb2 := b1.trans (b2.mono b1.size); have S2 := S1.below b2; clear b2 S1); go_wp2_with (fail); refine (esame_yes _ _ _ _ _ _ _ _ _ _ Z2 S2).mono ?_; rintro e w3 ⟨rfl, b3⟩; have hb3 := hb2.trans (b3.mono hb2.size); have S3 := S2.below b3; have Z3 := Z2.below b3; go_wp2_with (fail); refine (esame_yes _ _ _ _ _ _ _ _ _ _ Z3 S3).mono ?_; rintro e w4 ⟨rfl, b4⟩; have hb4 := hb3.trans (b4.mono hb3.size); (go_wp2_with (fail); refine (tawake_ok _).mono ?_; rintro e x ⟨rfl, bx⟩; go_wp2_with (fail); go_ret; exact ⟨rfl, (hb4).trans (bx.mono (hb4).size)⟩))
  · rw [hc] at qa
    have QA := hide qa
    clear qa hc hr
    ((go_enter Try.func3, Try.ntmps3); (go_wp2_with (fail); refine (QR.out w hS).mono ?_; rintro e w1 ⟨rfl, b1⟩; have S1 := hS.below b1); (go_wp2_with (fail); refine (QA.out w1 S1).mono ?_; rintro e w2 ⟨R2, d2, rfl, Z2, b2⟩; have hb2 := b1.trans (b2.mono b1.size); have S2 := S1.below b2; clear b2 S1); go_wp2_with (fail); refine (esame_yes _ _ _ _ _ _ _ _ _ _ Z2 S2).mono ?_; rintro e w3 ⟨rfl, b3⟩; have hb3 := hb2.trans (b3.mono hb2.size); have S3 := S2.below b3; have Z3 := Z2.below b3; go_wp2_with (fail); refine (esame_yes _ _ _ _ _ _ _ _ _ _ Z3 S3).mono ?_; rintro e w4 ⟨rfl, b4⟩; have hb4 := hb3.trans (b4.mono hb3.size); (go_wp2_with (fail); refine (tawake_ok _).mono ?_; rintro e x ⟨rfl, bx⟩; go_wp2_with (fail); go_ret; exact ⟨rfl, (hb4).trans (bx.mono (hb4).size)⟩))
  · have hyl : (insE l (edgeE u v 0)).length = m + 1 := by rw [insE_len, HL.out]
    rw [hc] at qa
    have qb := fun W B d h => remove_ok (insE l (edgeE u v 0)) n v u B (m + 1) d W h (by omega)
    rw [hrem] at qb
    have qd := fun W B d h => tright_any (insE l (edgeE u v 0)) [] B n (m + 1) d W h
    rw [hr2] at qd
    simp only [] at qa qb
    rw [hyl] at qa
    have QA := hide qa
    have QB := hide qb
    have QD := hide qd
    clear qa qb qd hc hr hr2 hrem hyl
    generalize insE l (edgeE u v 0) = Y at *
    (go_enter Try.func3, Try.ntmps3)
    (go_wp2_with (fail); refine (QR.out w hS).mono ?_; rintro e w1 ⟨rfl, b1⟩; have S1 := hS.below b1)
    (go_wp2_with (fail); refine (QA.out w1 S1).mono ?_; rintro e w2 ⟨R2, d2, rfl, Z2, b2⟩; have hb2 := b1.trans (b2.mono b1.size); have S2 := S1.below b2; clear b2 S1)
    go_wp2_with (fail)
    refine (QB.out w2 _ _ Z2).mono ?_
    rintro e w3 ⟨R3, d3, rfl, Z3, b3⟩
    have hb3 := hb2.trans (b3.mono hb2.size)
    have S3 := S2.below b3
    have Z23 := Z2.below b3
    clear b3 S2 Z2 hb2
    go_wp2_with (fail)
    refine (QD.out w3 _ _ Z23).mono ?_
    rintro e w4 ⟨rfl, b4⟩
    have hb4 := hb3.trans (b4.mono hb3.size)
    have S4 := S3.below b4
    have Z4 := Z3.below b4
    clear b4 S3 Z3 Z23 hb3
    go_wp2_with (fail)
    refine (esame_yes _ _ _ _ _ _ _ _ _ _ Z4 S4).mono ?_
    rintro e w5 ⟨rfl, b5⟩
    have hb5 := hb4.trans (b5.mono hb4.size)
    (go_wp2_with (fail); refine (tawake_ok _).mono ?_; rintro e x ⟨rfl, bx⟩; go_wp2_with (fail); go_ret; exact ⟨rfl, (hb5).trans (bx.mono (hb5).size)⟩)
  · rw [hc] at qa
    have QA := hide qa
    clear qa hc
    obtain ⟨ii, hi, hw1, hw2, hput⟩ := back_set u v t hr hu hv hf
    have qs := fun W h => set_ok l n u v t A m c W h (by omega)
    have hlu : u < v ∨ v < u := by omega
    rcases hput with hp | ⟨hp, hr2, hback⟩
    · rw [hp] at qs
      have QS := hide qs
      clear qs hp hr hu hv hf huv
      rcases hlu with hlt | hlt
      · have HWA := hide (hw1 hlt)
        clear hw1 hw2
        ((go_enter Try.func3, Try.ntmps3); (go_wp2_with (fail); refine (QR.out w hS).mono ?_; rintro e w1 ⟨rfl, b1⟩; have S1 := hS.below b1); (go_wp2_with (fail); refine (QA.out w1 S1).mono ?_; rintro e w2 ⟨R2, d2, rfl, Z2, b2⟩; have hb2 := b1.trans (b2.mono b1.size); have S2 := S1.below b2; clear b2 S1); go_wp2_with (fail); refine (esame_yes _ _ _ _ _ _ _ _ _ _ Z2 S2).mono ?_; rintro e w3 ⟨rfl, b3⟩; have hb3 := hb2.trans (b3.mono hb2.size); have S3 := S2.below b3; clear b3 S2 Z2 hb2; go_wp2_with (fail); go_loopw [15, 93] (fun a i wr => ∃ k : Nat, k ≤ m ∧ i = .int .i64 k ∧ a = .int .i64 (wasI (l.take k) u v) ∧ Below w3.heap.size w3 wr) (fun _ i _ => m - (intOf i).toNat); (case atStart => exact ⟨0, Nat.zero_le _, rfl, rfl, Below.refl _ _⟩); (case round => obtain ⟨k, hk, rfl, rfl, hbr⟩ := hrel; have Sr : ESl wr [] A m c l := S3.below hbr; by_cases hlt2 : k < m; (· have hx : k < l.length := (by have := HL.out; omega); obtain ⟨ad, rfl, had, _, c0, c1, c2⟩ := Sr.get hx; have HW := hide (wasI_step l u v hx); generalize l[k] = x at *; obtain ⟨x0, x1, x2⟩ := x; simp only [] at c0 c1 c2; have hb0 := hbr.alloc hbr.size (.cells #[.int .i64 x0, .int .i64 x1, .int .i64 x2] 30); generalize wasI (l.take k) u v = wv at *; cases p1 : x0 == u; (· have HF := hide (show wasI (l.take (k + 1)) u v = wv by rw [HW.out]; unfold wasOf; rw [if_neg (fun h => (by simpa using p1 : ¬ x0 = u) h.1)]); go_wp2_with (fail); exact ⟨⟨k + 1, by omega, by go_num, by rw [HF.out], hb0⟩, by simp [intOf]; omega⟩); (cases p2 : x1 == v); (· have HF := hide (show wasI (l.take (k + 1)) u v = wv by rw [HW.out]; unfold wasOf; rw [if_neg (fun h => (by simpa using p2 : ¬ x1 = v) h.2)]); go_wp2_with (fail); exact ⟨⟨k + 1, by omega, by go_num, by rw [HF.out], hb0⟩, by simp [intOf]; omega⟩); (· have HF := hide (show wasI (l.take (k + 1)) u v = x2 by rw [HW.out]; unfold wasOf; rw [if_pos ⟨by simpa using p1, by simpa using p2⟩]); go_wp2_with (fail); exact ⟨⟨k + 1, by omega, by go_num, by rw [HF.out], hb0⟩, by simp [intOf]; omega⟩)); (· have HF := hide (show wasI (l.take k) u v = l[ii].2.2 by rw [List.take_of_length_le (by have := HL.out; omega)]; exact HWA.out); rw [HF.out]; have hb4 := hb3.trans (hbr.mono hb3.size); clear hbr S3 hb3; go_wp2_with (fail); refine (QS.out wr Sr).mono ?_; rintro e w5 ⟨R5, d5, rfl, Z5, b5⟩; have S5 : ESl w5 [] A m c l := Sr.below b5; have hb5 := hb4.trans (b5.mono hb4.size); clear b5 Sr hb4; (go_wp2_with (fail); refine (esame_yes _ _ _ _ _ _ _ _ _ _ Z5 S5).mono ?_; rintro e w6 ⟨rfl, b6⟩; have hb6 := hb5.trans (b6.mono hb5.size); (go_wp2_with (fail); refine (tawake_ok _).mono ?_; rintro e x ⟨rfl, bx⟩; go_wp2_with (fail); go_ret; exact ⟨rfl, (hb6).trans (bx.mono (hb6).size)⟩)))))
      · have HWA := hide (hw2 hlt)
        clear hw1 hw2
        ((go_enter Try.func3, Try.ntmps3); (go_wp2_with (fail); refine (QR.out w hS).mono ?_; rintro e w1 ⟨rfl, b1⟩; have S1 := hS.below b1); (go_wp2_with (fail); refine (QA.out w1 S1).mono ?_; rintro e w2 ⟨R2, d2, rfl, Z2, b2⟩; have hb2 := b1.trans (b2.mono b1.size); have S2 := S1.below b2; clear b2 S1); go_wp2_with (fail); refine (esame_yes _ _ _ _ _ _ _ _ _ _ Z2 S2).mono ?_; rintro e w3 ⟨rfl, b3⟩; have hb3 := hb2.trans (b3.mono hb2.size); have S3 := S2.below b3; clear b3 S2 Z2 hb2; go_wp2_with (fail); go_loopw [15, 93] (fun a i wr => ∃ k : Nat, k ≤ m ∧ i = .int .i64 k ∧ a = .int .i64 (wasI (l.take k) v u) ∧ Below w3.heap.size w3 wr) (fun _ i _ => m - (intOf i).toNat); (case atStart => exact ⟨0, Nat.zero_le _, rfl, rfl, Below.refl _ _⟩); (case round => obtain ⟨k, hk, rfl, rfl, hbr⟩ := hrel; have Sr : ESl wr [] A m c l := S3.below hbr; by_cases hlt2 : k < m; (· have hx : k < l.length := (by have := HL.out; omega); obtain ⟨ad, rfl, had, _, c0, c1, c2⟩ := Sr.get hx; have HW := hide (wasI_step l v u hx); generalize l[k] = x at *; obtain ⟨x0, x1, x2⟩ := x; simp only [] at c0 c1 c2; have hb0 := hbr.alloc hbr.size (.cells #[.int .i64 x0, .int .i64 x1, .int .i64 x2] 30); generalize wasI (l.take k) v u = wv at *; cases p1 : x0 == v; (· have HF := hide (show wasI (l.take (k + 1)) v u = wv by rw [HW.out]; unfold wasOf; rw [if_neg (fun h => (by simpa using p1 : ¬ x0 = v) h.1)]); go_wp2_with (fail); exact ⟨⟨k + 1, by omega, by go_num, by rw [HF.out], hb0⟩, by simp [intOf]; omega⟩); (cases p2 : x1 == u); (· have HF := hide (show wasI (l.take (k + 1)) v u = wv by rw [HW.out]; unfold wasOf; rw [if_neg (fun h => (by simpa using p2 : ¬ x1 = u) h.2)]); go_wp2_with (fail); exact ⟨⟨k + 1, by omega, by go_num, by rw [HF.out], hb0⟩, by simp [intOf]; omega⟩); (· have HF := hide (show wasI (l.take (k + 1)) v u = x2 by rw [HW.out]; unfold wasOf; rw [if_pos ⟨by simpa using p1, by simpa using p2⟩]); go_wp2_with (fail); exact ⟨⟨k + 1, by omega, by go_num, by rw [HF.out], hb0⟩, by simp [intOf]; omega⟩)); (· have HF := hide (show wasI (l.take k) v u = l[ii].2.2 by rw [List.take_of_length_le (by have := HL.out; omega)]; exact HWA.out); rw [HF.out]; have hb4 := hb3.trans (hbr.mono hb3.size); clear hbr S3 hb3; go_wp2_with (fail); refine (QS.out wr Sr).mono ?_; rintro e w5 ⟨R5, d5, rfl, Z5, b5⟩; have S5 : ESl w5 [] A m c l := Sr.below b5; have hb5 := hb4.trans (b5.mono hb4.size); clear b5 Sr hb4; (go_wp2_with (fail); refine (esame_yes _ _ _ _ _ _ _ _ _ _ Z5 S5).mono ?_; rintro e w6 ⟨rfl, b6⟩; have hb6 := hb5.trans (b6.mono hb5.size); (go_wp2_with (fail); refine (tawake_ok _).mono ?_; rintro e x ⟨rfl, bx⟩; go_wp2_with (fail); go_ret; exact ⟨rfl, (hb6).trans (bx.mono (hb6).size)⟩)))))
    · rw [hp] at qs
      have hyl : (l.set ii (l[ii].1, l[ii].2.1, t)).length = m := by rw [List.length_set, HL.out]
      have qb := fun W B d (h : ESl W [] B m d (l.set ii (l[ii].1, l[ii].2.1, t))) => set_ok (l.set ii (l[ii].1, l[ii].2.1, t)) n v u l[ii].2.2 B m d W h (by omega)
      rw [hback] at qb
      have qd := fun W B d (h : ESl W [] B m d (l.set ii (l[ii].1, l[ii].2.1, t))) => tright_any (l.set ii (l[ii].1, l[ii].2.1, t)) [] B n m d W h
      rw [hr2] at qd
      simp only [] at qs qb
      rw [hyl] at qs
      have QS := hide qs
      have QB := hide qb
      have QD := hide qd
      clear qs qb qd hp hr hu hv hf huv hyl hback hr2
      generalize l.set ii (l[ii].1, l[ii].2.1, t) = Y at *
      rcases hlu with hlt | hlt
      · have HWA := hide (hw1 hlt)
        clear hw1 hw2
        ((go_enter Try.func3, Try.ntmps3); (go_wp2_with (fail); refine (QR.out w hS).mono ?_; rintro e w1 ⟨rfl, b1⟩; have S1 := hS.below b1); (go_wp2_with (fail); refine (QA.out w1 S1).mono ?_; rintro e w2 ⟨R2, d2, rfl, Z2, b2⟩; have hb2 := b1.trans (b2.mono b1.size); have S2 := S1.below b2; clear b2 S1); go_wp2_with (fail); refine (esame_yes _ _ _ _ _ _ _ _ _ _ Z2 S2).mono ?_; rintro e w3 ⟨rfl, b3⟩; have hb3 := hb2.trans (b3.mono hb2.size); have S3 := S2.below b3; clear b3 S2 Z2 hb2; go_wp2_with (fail); go_loopw [15, 93] (fun a i wr => ∃ k : Nat, k ≤ m ∧ i = .int .i64 k ∧ a = .int .i64 (wasI (l.take k) u v) ∧ Below w3.heap.size w3 wr) (fun _ i _ => m - (intOf i).toNat); (case atStart => exact ⟨0, Nat.zero_le _, rfl, rfl, Below.refl _ _⟩); (case round => obtain ⟨k, hk, rfl, rfl, hbr⟩ := hrel; have Sr : ESl wr [] A m c l := S3.below hbr; by_cases hlt2 : k < m; (· have hx : k < l.length := (by have := HL.out; omega); obtain ⟨ad, rfl, had, _, c0, c1, c2⟩ := Sr.get hx; have HW := hide (wasI_step l u v hx); generalize l[k] = x at *; obtain ⟨x0, x1, x2⟩ := x; simp only [] at c0 c1 c2; have hb0 := hbr.alloc hbr.size (.cells #[.int .i64 x0, .int .i64 x1, .int .i64 x2] 30); generalize wasI (l.take k) u v = wv at *; cases p1 : x0 == u; (· have HF := hide (show wasI (l.take (k + 1)) u v = wv by rw [HW.out]; unfold wasOf; rw [if_neg (fun h => (by simpa using p1 : ¬ x0 = u) h.1)]); go_wp2_with (fail); exact ⟨⟨k + 1, by omega, by go_num, by rw [HF.out], hb0⟩, by simp [intOf]; omega⟩); (cases p2 : x1 == v); (· have HF := hide (show wasI (l.take (k + 1)) u v = wv by rw [HW.out]; unfold wasOf; rw [if_neg (fun h => (by simpa using p2 : ¬ x1 = v) h.2)]); go_wp2_with (fail); exact ⟨⟨k + 1, by omega, by go_num, by rw [HF.out], hb0⟩, by simp [intOf]; omega⟩); (· have HF := hide (show wasI (l.take (k + 1)) u v = x2 by rw [HW.out]; unfold wasOf; rw [if_pos ⟨by simpa using p1, by simpa using p2⟩]); go_wp2_with (fail); exact ⟨⟨k + 1, by omega, by go_num, by rw [HF.out], hb0⟩, by simp [intOf]; omega⟩)); (· have HF := hide (show wasI (l.take k) u v = l[ii].2.2 by rw [List.take_of_length_le (by have := HL.out; omega)]; exact HWA.out); rw [HF.out]; have hb4 := hb3.trans (hbr.mono hb3.size); clear hbr S3 hb3; go_wp2_with (fail); refine (QS.out wr Sr).mono ?_; rintro e w5 ⟨R5, d5, rfl, Z5, b5⟩; have S5 : ESl w5 [] A m c l := Sr.below b5; have hb5 := hb4.trans (b5.mono hb4.size); clear b5 Sr hb4; ((generalize l[ii].2.2 = wt at *; go_wp2_with (fail); refine (QB.out w5 _ _ Z5).mono ?_; rintro e w6 ⟨R6, d6, rfl, Z6, b6⟩; have hb6 := hb5.trans (b6.mono hb5.size); have S6 : ESl w6 [] A m c l := S5.below b6; have Z56 := Z5.below b6; clear b6 S5 Z5 hb5; go_wp2_with (fail); refine (QD.out w6 _ _ Z56).mono ?_; rintro e w7 ⟨rfl, b7⟩; have hb7 := hb6.trans (b7.mono hb6.size); have S7 : ESl w7 [] A m c l := S6.below b7; have Z7 := Z6.below b7; clear b7 S6 Z6 Z56 hb6; go_wp2_with (fail); refine (esame_yes _ _ _ _ _ _ _ _ _ _ Z7 S7).mono ?_; rintro e w8 ⟨rfl, b8⟩; have hb8 := hb7.trans (b8.mono hb7.size); (go_wp2_with (fail); refine (tawake_ok _).mono ?_; rintro e x ⟨rfl, bx⟩; go_wp2_with (fail); go_ret; exact ⟨rfl, (hb8).trans (bx.mono (hb8).size)⟩))))))
      · have HWA := hide (hw2 hlt)
        clear hw1 hw2
        ((go_enter Try.func3, Try.ntmps3); (go_wp2_with (fail); refine (QR.out w hS).mono ?_; rintro e w1 ⟨rfl, b1⟩; have S1 := hS.below b1); (go_wp2_with (fail); refine (QA.out w1 S1).mono ?_; rintro e w2 ⟨R2, d2, rfl, Z2, b2⟩; have hb2 := b1.trans (b2.mono b1.size); have S2 := S1.below b2; clear b2 S1); go_wp2_with (fail); refine (esame_yes _ _ _ _ _ _ _ _ _ _ Z2 S2).mono ?_; rintro e w3 ⟨rfl, b3⟩; have hb3 := hb2.trans (b3.mono hb2.size); have S3 := S2.below b3; clear b3 S2 Z2 hb2; go_wp2_with (fail); go_loopw [15, 93] (fun a i wr => ∃ k : Nat, k ≤ m ∧ i = .int .i64 k ∧ a = .int .i64 (wasI (l.take k) v u) ∧ Below w3.heap.size w3 wr) (fun _ i _ => m - (intOf i).toNat); (case atStart => exact ⟨0, Nat.zero_le _, rfl, rfl, Below.refl _ _⟩); (case round => obtain ⟨k, hk, rfl, rfl, hbr⟩ := hrel; have Sr : ESl wr [] A m c l := S3.below hbr; by_cases hlt2 : k < m; (· have hx : k < l.length := (by have := HL.out; omega); obtain ⟨ad, rfl, had, _, c0, c1, c2⟩ := Sr.get hx; have HW := hide (wasI_step l v u hx); generalize l[k] = x at *; obtain ⟨x0, x1, x2⟩ := x; simp only [] at c0 c1 c2; have hb0 := hbr.alloc hbr.size (.cells #[.int .i64 x0, .int .i64 x1, .int .i64 x2] 30); generalize wasI (l.take k) v u = wv at *; cases p1 : x0 == v; (· have HF := hide (show wasI (l.take (k + 1)) v u = wv by rw [HW.out]; unfold wasOf; rw [if_neg (fun h => (by simpa using p1 : ¬ x0 = v) h.1)]); go_wp2_with (fail); exact ⟨⟨k + 1, by omega, by go_num, by rw [HF.out], hb0⟩, by simp [intOf]; omega⟩); (cases p2 : x1 == u); (· have HF := hide (show wasI (l.take (k + 1)) v u = wv by rw [HW.out]; unfold wasOf; rw [if_neg (fun h => (by simpa using p2 : ¬ x1 = u) h.2)]); go_wp2_with (fail); exact ⟨⟨k + 1, by omega, by go_num, by rw [HF.out], hb0⟩, by simp [intOf]; omega⟩); (· have HF := hide (show wasI (l.take (k + 1)) v u = x2 by rw [HW.out]; unfold wasOf; rw [if_pos ⟨by simpa using p1, by simpa using p2⟩]); go_wp2_with (fail); exact ⟨⟨k + 1, by omega, by go_num, by rw [HF.out], hb0⟩, by simp [intOf]; omega⟩)); (· have HF := hide (show wasI (l.take k) v u = l[ii].2.2 by rw [List.take_of_length_le (by have := HL.out; omega)]; exact HWA.out); rw [HF.out]; have hb4 := hb3.trans (hbr.mono hb3.size); clear hbr S3 hb3; go_wp2_with (fail); refine (QS.out wr Sr).mono ?_; rintro e w5 ⟨R5, d5, rfl, Z5, b5⟩; have S5 : ESl w5 [] A m c l := Sr.below b5; have hb5 := hb4.trans (b5.mono hb4.size); clear b5 Sr hb4; ((generalize l[ii].2.2 = wt at *; go_wp2_with (fail); refine (QB.out w5 _ _ Z5).mono ?_; rintro e w6 ⟨R6, d6, rfl, Z6, b6⟩; have hb6 := hb5.trans (b6.mono hb5.size); have S6 : ESl w6 [] A m c l := S5.below b6; have Z56 := Z5.below b6; clear b6 S5 Z5 hb5; go_wp2_with (fail); refine (QD.out w6 _ _ Z56).mono ?_; rintro e w7 ⟨rfl, b7⟩; have hb7 := hb6.trans (b7.mono hb6.size); have S7 : ESl w7 [] A m c l := S6.below b7; have Z7 := Z6.below b7; clear b7 S6 Z6 Z56 hb6; go_wp2_with (fail); refine (esame_yes _ _ _ _ _ _ _ _ _ _ Z7 S7).mono ?_; rintro e w8 ⟨rfl, b8⟩; have hb8 := hb7.trans (b8.mono hb7.size); (go_wp2_with (fail); refine (tawake_ok _).mono ?_; rintro e x ⟨rfl, bx⟩; go_wp2_with (fail); go_ret; exact ⟨rfl, (hb8).trans (bx.mono (hb8).size)⟩))))))
end Go.Proofs.Ythhmlcckeipolaa
