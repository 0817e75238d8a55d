/-
  The law NameOrder walked.
-/
import Derived.Test.YtnfogcnlkchdmaaNSort
import Derived.Test.YtnfogcnlkchdmaaNEnds
import Derived.Test.YtnfogcnlkchdmaaESame
namespace Go.Proofs.Ytnfogcnlkchdmaa
open Go Go.RowKit
attribute [local go_sem] Heavy heavyUpon
attribute [local go_sem ↓] edge_eql

theorem count_step (l : List E3) (x : E3) {k : Nat} (h : k < l.length) : (l.take (k + 1)).count x = (l.take k).count x + (if l[k] = x then 1 else 0) := by
  rw [List.take_succ_eq_append_getElem h, List.count_append, List.count_singleton]; simp only [beq_iff_eq]
theorem count_le (l : List E3) (x : E3) (k : Nat) : (l.take k).count x ≤ k := Nat.le_trans List.count_le_length (by rw [List.length_take]; omega)

set_option maxRecDepth 100000 in
set_option maxHeartbeats 6400000 in
theorem norder_ok (l : List E3) (A : Option Addr) (m c : Nat) (w : World) (hS : ESl w [] A m c l) :
    Calls Try.prog 5 #[.slice A m c] w (Ret (.bool true) w) := by
  by_cases h1 : 60 < m
  · go_enter Try.func5, Try.ntmps5
    go_wp2_with (fail)
    refine (nawake_ok _).mono ?_
    rintro e x ⟨rfl, bx⟩
    go_wp2_with (fail)
    go_ret
    exact ⟨rfl, bx⟩
  have hm : m ≤ 60 := by omega
  clear h1
  have HL := hide hS.length
  have QA := hide (fun W h => nsort_any l A m c W h (by omega))
  have QB := hide (fun W R d h => nsort_any (sortE l) R m d W h (by omega))
  have QB2 : Hid (∀ W R d, ESl W [] R m d (sortE l) → Calls Try.prog 14 #[.slice R m d] W fun e w' => ∃ R d, e = .returned (.slice R m d) ∧ ESl w' [] R m d (sortE l) ∧ Below W.heap.size W w') := fun W R d h => by
    have := QB.out W R d h
    rwa [sortE_self (sortE_sorted l)] at this
  have QE : Hid (∀ W R d X d2, ESl W [] R m d (sortE l) → ESl W [] X m d2 (sortE l) → Calls Try.prog 15 #[.slice R m d, .slice X m d2] W (Ret (.bool true) W)) := fun W R d X d2 h h2 => by
    have := esame_any (sortE l) (sortE l) [] [] R X m d m d2 W h h2
    rwa [decide_eq_true rfl] at this
  have HLS := hide (show (sortE l).length = m by rw [sortE_len]; exact HL.out)
  have HC := hide (show ∀ x, l.count x = (sortE l).count x from fun x => ((sortE_perm l).count_eq x).symm)
  have HSD := hide (show ∀ (k p : Nat) (h : k < (sortE l).length) (h2 : p < (sortE l).length), p < k → ltE (sortE l)[k] (sortE l)[p] = false from fun k p h h2 h3 => (List.pairwise_iff_getElem.1 (sortE_sorted l)) p k h2 h h3)
  generalize sortE l = S at *
  clear QB
  go_enter Try.func5, Try.ntmps5
  go_wp2_with (fail)
  refine (QA.out w hS).mono ?_
  rintro e w1 ⟨R1, d1, rfl, Z1, b1⟩
  go_wp2_with (fail)
  refine (QB2.out w1 R1 d1 Z1).mono ?_
  rintro e w2 ⟨R2, d2, rfl, Z2, b2⟩
  have Z12 : ESl w2 [] R1 m d1 S := Z1.below b2
  have hb2 := b1.trans (b2.mono b1.size)
  clear b1 b2 Z1
  go_wp2_with (fail)
  refine (QE.out w2 R2 d2 R1 d1 Z2 Z12).mono ?_
  rintro e w3 ⟨rfl, b3⟩
  have Z3 : ESl w3 [] R1 m d1 S := Z12.below b3
  have hb3 := hb2.trans (b3.mono hb2.size)
  clear b3 hb2 Z2 Z12
  go_wp2_with (fail)
  rw [show decide ((60 : Int) < (m : Int)) = false from decide_eq_false (by omega)]
  go_loopw [29] (fun i wr => ∃ k : Nat, k ≤ m ∧ i = .int .i64 k ∧ Below w3.heap.size w3 wr) (fun i _ => m - (intOf i).toNat)
  case atStart => exact ⟨0, Nat.zero_le _, rfl, Below.refl _ _⟩
  case round =>
    obtain ⟨k, hk, rfl, hbr⟩ := hrel
    have hbw := hb3.trans (hbr.mono hb3.size)
    have Zr : ESl wr [] R1 m d1 S := Z3.below hbr
    by_cases hlt : k < m
    · have hx : k < S.length := by have := HLS.out; omega
      obtain ⟨sd, hR, hsd, _, s0, s1, s2⟩ := Zr.get hx
      have HX := hide (show ∃ x, x = S[k] from ⟨_, rfl⟩)
      obtain ⟨x, hxe⟩ := HX.out
      rw [← hxe] at s0 s1 s2
      have HD2 := hide (show ∀ p (h2 : p < S.length), p < k → ltE x S[p] = false from fun p h2 h3 => by rw [hxe]; exact HSD.out k p hx h2 h3)
      clear hxe HX
      obtain ⟨x0, x1, x2⟩ := x
      simp only [] at s0 s1 s2
      have B0 := Blk.new wr 24 #[.int .i64 x0, .int .i64 x1, .int .i64 x2]
      have Z0 : ESl (wr.alloc (.cells #[.int .i64 x0, .int .i64 x1, .int .i64 x2] 24)) [] R1 m d1 S := Zr.alloc _
      have hb0 := hbr.alloc hbr.size (.cells #[.int .i64 x0, .int .i64 x1, .int .i64 x2] 24)
      subst hR
      have hsd0 : (sd.add (k * 3)).block < wr.heap.size := by rw [block_of_add]; exact hsd
      have hgb := Blk.lt B0
      clear hbr hbw Zr
      go_wp2_with (fail)
      clear s0 s1 s2
      generalize wr.alloc (.cells #[.int .i64 x0, .int .i64 x1, .int .i64 x2] 24) = W0 at *
      generalize wr.heap.size = g5 at *
      obtain ⟨y0, y1, y2⟩ := B0.facts
      rcases Nat.eq_zero_or_pos k with hk0 | hk0
      · subst hk0
        refine wp_region_lexD [9] (fun w' => Below (W0).heap.size (W0) w') (by kernel_rfl) (by kernel_rfl) (Below.refl _ _).drew ?_
        (repeat ((with_reducible refine wpLex_step (fun K hK => ?_)); go_simp; first | ((with_reducible refine hK _ _ ?_); clear hK K) | ((with_reducible apply Exists.intro); refine ⟨fun w' hw' => ?_, hK _ _ ?_⟩; (· (have hq := bcells hw'; apply valEq; (· (go_simp; first | done | (with_reducible rfl))); (· ((try go_bits); with_reducible rfl)))); clear hK K)))
        refine wpLex_nil (fun _ => ?_)
        have hb9 := hb0.drew
        have Z9 : ESl W0.drew [] (some sd) m d1 S := Z0.drew
        have B9 := B0.drew
        clear hb0 Z0 B0 y0 y1 y2
        generalize W0.drew = W9 at *
        go_wp2_with (fail)
        go_loopw [6, 7, 47] (fun a b i wr => ∃ j : Nat, j ≤ m ∧ i = .int .i64 j ∧ a = .int .i64 ((l.take j).count (x0, x1, x2) : Nat) ∧ b = .int .i64 ((S.take j).count (x0, x1, x2) : Nat) ∧ Below W9.heap.size W9 wr) (fun _ _ i _ => m - (intOf i).toNat)
        case atStart => exact ⟨0, Nat.zero_le _, rfl, by simp, by simp, Below.refl _ _⟩
        case round =>
          obtain ⟨j, hj, rfl, rfl, rfl, hbj⟩ := hrel
          have hb10 := hb9.trans (hbj.mono hb9.size)
          by_cases hjl : j < m
          · have hxl : j < l.length := by have := HL.out; omega
            have hxs : j < S.length := by have := HLS.out; omega
            have Lj : ESl wr [] A m c l := hS.below (hb3.trans (hb10.mono hb3.size))
            obtain ⟨ad, hA, had, _, a0, a1, a2⟩ := Lj.get hxl
            obtain ⟨sd2, hR2, hsd2, _, b0, b1, b2⟩ := ESl.get (Z9.below hbj) hxs
            injection hR2 with hR2
            subst hR2
            obtain ⟨y0, y1, y2⟩ := (B9.below hbj (Blk.lt B9)).facts
            have HK1 := hide (count_step l (x0, x1, x2) hxl)
            have HK2 := hide (count_step S (x0, x1, x2) hxs)
            have hc1 := count_le l (x0, x1, x2) j
            have hc2 := count_le S (x0, x1, x2) j
            generalize (l.take j).count (x0, x1, x2) = cn1 at *
            generalize (S.take j).count (x0, x1, x2) = cn2 at *
            generalize l[j] = p at *
            generalize S[j] = q at *
            have HJ : Hid (Below W9.heap.size W9 wr.drew.drew) := hbj.drew.drew
            rw [hA]
            by_cases hp : p = (x0, x1, x2) <;> by_cases hq : q = (x0, x1, x2)
            · have HF1 := hide (show (l.take (j + 1)).count (x0, x1, x2) = cn1 + 1 by rw [HK1.out, if_pos hp])
              have HF2 := hide (show (S.take (j + 1)).count (x0, x1, x2) = cn2 + 1 by rw [HK2.out, if_pos hq])
              have hn1 := ene_eq hp
              have hn2 := ene_eq hq
              (obtain ⟨p0, p1, p2⟩ := p; obtain ⟨q0, q1, q2⟩ := q; simp only [] at a0 a1 a2 b0 b1 b2 hn1 hn2; clear hp hq HK1 HK2; go_wp2_with (fail); refine wp_region_lex [] (fun w' => ∀ p, w'.cell? p = wr.cell? p) (by kernel_rfl) (by kernel_rfl) (fun _ => rfl) ?_; (repeat ((with_reducible refine wpLex_step (fun K hK => ?_)); go_simp; first | ((with_reducible refine hK _ _ ?_); clear hK K) | ((with_reducible apply Exists.intro); refine ⟨fun w' hw' => ?_, hK _ _ ?_⟩; (· (apply valEq; (· (go_simp; first | done | (with_reducible rfl))); (· ((try go_bits); with_reducible rfl)))); clear hK K))); refine wpLex_nil (fun _ => ?_); go_wp2_with (fail); refine wp_region_lex [] (fun w' => ∀ p, w'.cell? p = wr.cell? p) (by kernel_rfl) (by kernel_rfl) (fun _ => rfl) ?_; (repeat ((with_reducible refine wpLex_step (fun K hK => ?_)); go_simp; first | ((with_reducible refine hK _ _ ?_); clear hK K) | ((with_reducible apply Exists.intro); refine ⟨fun w' hw' => ?_, hK _ _ ?_⟩; (· (apply valEq; (· (go_simp; first | done | (with_reducible rfl))); (· ((try go_bits); with_reducible rfl)))); clear hK K))); refine wpLex_nil (fun _ => ?_); go_wp2_with (fail))
              exact ⟨⟨j + 1, by omega, by go_num, by rw [HF1.out]; go_num, by rw [HF2.out]; go_num, HJ.out⟩, by simp [intOf]; omega⟩
            · have HF1 := hide (show (l.take (j + 1)).count (x0, x1, x2) = cn1 + 1 by rw [HK1.out, if_pos hp])
              have HF2 := hide (show (S.take (j + 1)).count (x0, x1, x2) = cn2 by rw [HK2.out, if_neg hq]; rfl)
              have hn1 := ene_eq hp
              have hn2 := ene_ne hq
              (obtain ⟨p0, p1, p2⟩ := p; obtain ⟨q0, q1, q2⟩ := q; simp only [] at a0 a1 a2 b0 b1 b2 hn1 hn2; clear hp hq HK1 HK2; go_wp2_with (fail); refine wp_region_lex [] (fun w' => ∀ p, w'.cell? p = wr.cell? p) (by kernel_rfl) (by kernel_rfl) (fun _ => rfl) ?_; (repeat ((with_reducible refine wpLex_step (fun K hK => ?_)); go_simp; first | ((with_reducible refine hK _ _ ?_); clear hK K) | ((with_reducible apply Exists.intro); refine ⟨fun w' hw' => ?_, hK _ _ ?_⟩; (· (apply valEq; (· (go_simp; first | done | (with_reducible rfl))); (· ((try go_bits); with_reducible rfl)))); clear hK K))); refine wpLex_nil (fun _ => ?_); go_wp2_with (fail); refine wp_region_lex [] (fun w' => ∀ p, w'.cell? p = wr.cell? p) (by kernel_rfl) (by kernel_rfl) (fun _ => rfl) ?_; (repeat ((with_reducible refine wpLex_step (fun K hK => ?_)); go_simp; first | ((with_reducible refine hK _ _ ?_); clear hK K) | ((with_reducible apply Exists.intro); refine ⟨fun w' hw' => ?_, hK _ _ ?_⟩; (· (apply valEq; (· (go_simp; first | done | (with_reducible rfl))); (· ((try go_bits); with_reducible rfl)))); clear hK K))); refine wpLex_nil (fun _ => ?_); go_wp2_with (fail))
              exact ⟨⟨j + 1, by omega, by go_num, by rw [HF1.out]; go_num, by rw [HF2.out], HJ.out⟩, by simp [intOf]; omega⟩
            · have HF1 := hide (show (l.take (j + 1)).count (x0, x1, x2) = cn1 by rw [HK1.out, if_neg hp]; rfl)
              have HF2 := hide (show (S.take (j + 1)).count (x0, x1, x2) = cn2 + 1 by rw [HK2.out, if_pos hq])
              have hn1 := ene_ne hp
              have hn2 := ene_eq hq
              (obtain ⟨p0, p1, p2⟩ := p; obtain ⟨q0, q1, q2⟩ := q; simp only [] at a0 a1 a2 b0 b1 b2 hn1 hn2; clear hp hq HK1 HK2; go_wp2_with (fail); refine wp_region_lex [] (fun w' => ∀ p, w'.cell? p = wr.cell? p) (by kernel_rfl) (by kernel_rfl) (fun _ => rfl) ?_; (repeat ((with_reducible refine wpLex_step (fun K hK => ?_)); go_simp; first | ((with_reducible refine hK _ _ ?_); clear hK K) | ((with_reducible apply Exists.intro); refine ⟨fun w' hw' => ?_, hK _ _ ?_⟩; (· (apply valEq; (· (go_simp; first | done | (with_reducible rfl))); (· ((try go_bits); with_reducible rfl)))); clear hK K))); refine wpLex_nil (fun _ => ?_); go_wp2_with (fail); refine wp_region_lex [] (fun w' => ∀ p, w'.cell? p = wr.cell? p) (by kernel_rfl) (by kernel_rfl) (fun _ => rfl) ?_; (repeat ((with_reducible refine wpLex_step (fun K hK => ?_)); go_simp; first | ((with_reducible refine hK _ _ ?_); clear hK K) | ((with_reducible apply Exists.intro); refine ⟨fun w' hw' => ?_, hK _ _ ?_⟩; (· (apply valEq; (· (go_simp; first | done | (with_reducible rfl))); (· ((try go_bits); with_reducible rfl)))); clear hK K))); refine wpLex_nil (fun _ => ?_); go_wp2_with (fail))
              exact ⟨⟨j + 1, by omega, by go_num, by rw [HF1.out], by rw [HF2.out]; go_num, HJ.out⟩, by simp [intOf]; omega⟩
            · have HF1 := hide (show (l.take (j + 1)).count (x0, x1, x2) = cn1 by rw [HK1.out, if_neg hp]; rfl)
              have HF2 := hide (show (S.take (j + 1)).count (x0, x1, x2) = cn2 by rw [HK2.out, if_neg hq]; rfl)
              have hn1 := ene_ne hp
              have hn2 := ene_ne hq
              (obtain ⟨p0, p1, p2⟩ := p; obtain ⟨q0, q1, q2⟩ := q; simp only [] at a0 a1 a2 b0 b1 b2 hn1 hn2; clear hp hq HK1 HK2; go_wp2_with (fail); refine wp_region_lex [] (fun w' => ∀ p, w'.cell? p = wr.cell? p) (by kernel_rfl) (by kernel_rfl) (fun _ => rfl) ?_; (repeat ((with_reducible refine wpLex_step (fun K hK => ?_)); go_simp; first | ((with_reducible refine hK _ _ ?_); clear hK K) | ((with_reducible apply Exists.intro); refine ⟨fun w' hw' => ?_, hK _ _ ?_⟩; (· (apply valEq; (· (go_simp; first | done | (with_reducible rfl))); (· ((try go_bits); with_reducible rfl)))); clear hK K))); refine wpLex_nil (fun _ => ?_); go_wp2_with (fail); refine wp_region_lex [] (fun w' => ∀ p, w'.cell? p = wr.cell? p) (by kernel_rfl) (by kernel_rfl) (fun _ => rfl) ?_; (repeat ((with_reducible refine wpLex_step (fun K hK => ?_)); go_simp; first | ((with_reducible refine hK _ _ ?_); clear hK K) | ((with_reducible apply Exists.intro); refine ⟨fun w' hw' => ?_, hK _ _ ?_⟩; (· (apply valEq; (· (go_simp; first | done | (with_reducible rfl))); (· ((try go_bits); with_reducible rfl)))); clear hK K))); refine wpLex_nil (fun _ => ?_); go_wp2_with (fail))
              exact ⟨⟨j + 1, by omega, by go_num, by rw [HF1.out], by rw [HF2.out], HJ.out⟩, by simp [intOf]; omega⟩
          · have HE := hide (show (l.take j).count (x0, x1, x2) = (S.take j).count (x0, x1, x2) by
              rw [List.take_of_length_le (by have := HL.out; omega), List.take_of_length_le (by have := HLS.out; omega)]; exact HC.out _)
            rw [HE.out]
            generalize (S.take j).count (x0, x1, x2) = cn at *
            go_wp2_with (fail)
            exact ⟨⟨1, by omega, by simp, hb10⟩, by simp [intOf]; omega⟩
      · obtain ⟨p, hp⟩ : ∃ p, p = k - 1 := ⟨_, rfl⟩
        have hpS : p < S.length := by omega
        have e1 : (k : Int) - 1 = (p : Int) := by omega
        have e2 : (0 : Int) < (k : Int) := by omega
        have e3 : p < m := by omega
        have q5 := HD2.out p hpS (by omega)
        obtain ⟨sd2, hR2, hsd2, _, t0, t1, t2⟩ := ESl.get Z0 hpS
        injection hR2 with hR2
        subst hR2
        generalize S[p] = t at *
        obtain ⟨z0, z1, z2⟩ := t
        simp only [] at t0 t1 t2
        have hsp0 : (sd.add (p * 3)).block < W0.heap.size := by rw [block_of_add]; exact hsd2
        have ql := fun W => less_any x0 x1 x2 z0 z1 z2 W
        rw [q5] at ql
        have HP := hide hp
        clear q5 hp HD2
        refine wp_region_lexD [9] (fun w' => Below (W0).heap.size (W0) w') (by kernel_rfl) (by kernel_rfl) (Below.refl _ _).drew ?_
        (repeat ((with_reducible refine wpLex_step (fun K hK => ?_)); go_simp; first | ((with_reducible refine hK _ _ ?_); clear hK K) | ((with_reducible apply Exists.intro); refine ⟨fun w' hw' => ?_, hK _ _ ?_⟩; (· (have hq := bcells hw'; apply valEq; (· (go_simp; first | done | (with_reducible rfl))); (· ((try go_bits); with_reducible rfl)))); clear hK K)))
        ((with_reducible refine wpLex_step (fun K hK => ?_)); go_simp; refine (ql _).mono ?_; rintro e W9 ⟨rfl, hbx⟩; have g9 := ((Below.refl W0.heap.size W0).drew).trans (hbx.mono ((Below.refl W0.heap.size W0).drew).size); refine ⟨_, rfl, g9, hK _ _ ?_⟩; clear hK K hbx)
        (repeat ((with_reducible refine wpLex_step (fun K hK => ?_)); go_simp; first | ((with_reducible refine hK _ _ ?_); clear hK K) | ((with_reducible apply Exists.intro); refine ⟨fun w' hw' => ?_, hK _ _ ?_⟩; (· (have hq := bcells hw'; apply valEq; (· (go_simp; first | done | (with_reducible rfl))); (· ((try go_bits); with_reducible rfl)))); clear hK K)))
        refine wpLex_nil (fun _ => ?_)
        have hb9 := hb0.trans (g9.mono hb0.size)
        have Z9 : ESl W9 [] (some sd) m d1 S := Z0.below g9
        have B9 := B0.below g9 (Blk.lt B0)
        clear hb0 Z0 B0 y0 y1 y2 t0 t1 t2 g9 ql e1 hsp0
        go_wp2_with (fail)
        go_loopw [6, 7, 47] (fun a b i wr => ∃ j : Nat, j ≤ m ∧ i = .int .i64 j ∧ a = .int .i64 ((l.take j).count (x0, x1, x2) : Nat) ∧ b = .int .i64 ((S.take j).count (x0, x1, x2) : Nat) ∧ Below W9.heap.size W9 wr) (fun _ _ i _ => m - (intOf i).toNat)
        case atStart => exact ⟨0, Nat.zero_le _, rfl, by simp, by simp, Below.refl _ _⟩
        case round =>
          obtain ⟨j, hj, rfl, rfl, rfl, hbj⟩ := hrel
          have hb10 := hb9.trans (hbj.mono hb9.size)
          by_cases hjl : j < m
          · have hxl : j < l.length := by have := HL.out; omega
            have hxs : j < S.length := by have := HLS.out; omega
            have Lj : ESl wr [] A m c l := hS.below (hb3.trans (hb10.mono hb3.size))
            obtain ⟨ad, hA, had, _, a0, a1, a2⟩ := Lj.get hxl
            obtain ⟨sd2, hR2, hsd2, _, b0, b1, b2⟩ := ESl.get (Z9.below hbj) hxs
            injection hR2 with hR2
            subst hR2
            obtain ⟨y0, y1, y2⟩ := (B9.below hbj (Blk.lt B9)).facts
            have HK1 := hide (count_step l (x0, x1, x2) hxl)
            have HK2 := hide (count_step S (x0, x1, x2) hxs)
            have hc1 := count_le l (x0, x1, x2) j
            have hc2 := count_le S (x0, x1, x2) j
            generalize (l.take j).count (x0, x1, x2) = cn1 at *
            generalize (S.take j).count (x0, x1, x2) = cn2 at *
            generalize l[j] = p at *
            generalize S[j] = q at *
            have HJ : Hid (Below W9.heap.size W9 wr.drew.drew) := hbj.drew.drew
            rw [hA]
            by_cases hp : p = (x0, x1, x2) <;> by_cases hq : q = (x0, x1, x2)
            · have HF1 := hide (show (l.take (j + 1)).count (x0, x1, x2) = cn1 + 1 by rw [HK1.out, if_pos hp])
              have HF2 := hide (show (S.take (j + 1)).count (x0, x1, x2) = cn2 + 1 by rw [HK2.out, if_pos hq])
              have hn1 := ene_eq hp
              have hn2 := ene_eq hq
              (obtain ⟨p0, p1, p2⟩ := p; obtain ⟨q0, q1, q2⟩ := q; simp only [] at a0 a1 a2 b0 b1 b2 hn1 hn2; clear hp hq HK1 HK2; go_wp2_with (fail); refine wp_region_lex [] (fun w' => ∀ p, w'.cell? p = wr.cell? p) (by kernel_rfl) (by kernel_rfl) (fun _ => rfl) ?_; (repeat ((with_reducible refine wpLex_step (fun K hK => ?_)); go_simp; first | ((with_reducible refine hK _ _ ?_); clear hK K) | ((with_reducible apply Exists.intro); refine ⟨fun w' hw' => ?_, hK _ _ ?_⟩; (· (apply valEq; (· (go_simp; first | done | (with_reducible rfl))); (· ((try go_bits); with_reducible rfl)))); clear hK K))); refine wpLex_nil (fun _ => ?_); go_wp2_with (fail); refine wp_region_lex [] (fun w' => ∀ p, w'.cell? p = wr.cell? p) (by kernel_rfl) (by kernel_rfl) (fun _ => rfl) ?_; (repeat ((with_reducible refine wpLex_step (fun K hK => ?_)); go_simp; first | ((with_reducible refine hK _ _ ?_); clear hK K) | ((with_reducible apply Exists.intro); refine ⟨fun w' hw' => ?_, hK _ _ ?_⟩; (· (apply valEq; (· (go_simp; first | done | (with_reducible rfl))); (· ((try go_bits); with_reducible rfl)))); clear hK K))); refine wpLex_nil (fun _ => ?_); go_wp2_with (fail))
              exact ⟨⟨j + 1, by omega, by go_num, by rw [HF1.out]; go_num, by rw [HF2.out]; go_num, HJ.out⟩, by simp [intOf]; omega⟩
            · have HF1 := hide (show (l.take (j + 1)).count (x0, x1, x2) = cn1 + 1 by rw [HK1.out, if_pos hp])
              have HF2 := hide (show (S.take (j + 1)).count (x0, x1, x2) = cn2 by rw [HK2.out, if_neg hq]; rfl)
              have hn1 := ene_eq hp
              have hn2 := ene_ne hq
              (obtain ⟨p0, p1, p2⟩ := p; obtain ⟨q0, q1, q2⟩ := q; simp only [] at a0 a1 a2 b0 b1 b2 hn1 hn2; clear hp hq HK1 HK2; go_wp2_with (fail); refine wp_region_lex [] (fun w' => ∀ p, w'.cell? p = wr.cell? p) (by kernel_rfl) (by kernel_rfl) (fun _ => rfl) ?_; (repeat ((with_reducible refine wpLex_step (fun K hK => ?_)); go_simp; first | ((with_reducible refine hK _ _ ?_); clear hK K) | ((with_reducible apply Exists.intro); refine ⟨fun w' hw' => ?_, hK _ _ ?_⟩; (· (apply valEq; (· (go_simp; first | done | (with_reducible rfl))); (· ((try go_bits); with_reducible rfl)))); clear hK K))); refine wpLex_nil (fun _ => ?_); go_wp2_with (fail); refine wp_region_lex [] (fun w' => ∀ p, w'.cell? p = wr.cell? p) (by kernel_rfl) (by kernel_rfl) (fun _ => rfl) ?_; (repeat ((with_reducible refine wpLex_step (fun K hK => ?_)); go_simp; first | ((with_reducible refine hK _ _ ?_); clear hK K) | ((with_reducible apply Exists.intro); refine ⟨fun w' hw' => ?_, hK _ _ ?_⟩; (· (apply valEq; (· (go_simp; first | done | (with_reducible rfl))); (· ((try go_bits); with_reducible rfl)))); clear hK K))); refine wpLex_nil (fun _ => ?_); go_wp2_with (fail))
              exact ⟨⟨j + 1, by omega, by go_num, by rw [HF1.out]; go_num, by rw [HF2.out], HJ.out⟩, by simp [intOf]; omega⟩
            · have HF1 := hide (show (l.take (j + 1)).count (x0, x1, x2) = cn1 by rw [HK1.out, if_neg hp]; rfl)
              have HF2 := hide (show (S.take (j + 1)).count (x0, x1, x2) = cn2 + 1 by rw [HK2.out, if_pos hq])
              have hn1 := ene_ne hp
              have hn2 := ene_eq hq
              (obtain ⟨p0, p1, p2⟩ := p; obtain ⟨q0, q1, q2⟩ := q; simp only [] at a0 a1 a2 b0 b1 b2 hn1 hn2; clear hp hq HK1 HK2; go_wp2_with (fail); refine wp_region_lex [] (fun w' => ∀ p, w'.cell? p = wr.cell? p) (by kernel_rfl) (by kernel_rfl) (fun _ => rfl) ?_; (repeat ((with_reducible refine wpLex_step (fun K hK => ?_)); go_simp; first | ((with_reducible refine hK _ _ ?_); clear hK K) | ((with_reducible apply Exists.intro); refine ⟨fun w' hw' => ?_, hK _ _ ?_⟩; (· (apply valEq; (· (go_simp; first | done | (with_reducible rfl))); (· ((try go_bits); with_reducible rfl)))); clear hK K))); refine wpLex_nil (fun _ => ?_); go_wp2_with (fail); refine wp_region_lex [] (fun w' => ∀ p, w'.cell? p = wr.cell? p) (by kernel_rfl) (by kernel_rfl) (fun _ => rfl) ?_; (repeat ((with_reducible refine wpLex_step (fun K hK => ?_)); go_simp; first | ((with_reducible refine hK _ _ ?_); clear hK K) | ((with_reducible apply Exists.intro); refine ⟨fun w' hw' => ?_, hK _ _ ?_⟩; (· (apply valEq; (· (go_simp; first | done | (with_reducible rfl))); (· ((try go_bits); with_reducible rfl)))); clear hK K))); refine wpLex_nil (fun _ => ?_); go_wp2_with (fail))
              exact ⟨⟨j + 1, by omega, by go_num, by rw [HF1.out], by rw [HF2.out]; go_num, HJ.out⟩, by simp [intOf]; omega⟩
            · have HF1 := hide (show (l.take (j + 1)).count (x0, x1, x2) = cn1 by rw [HK1.out, if_neg hp]; rfl)
              have HF2 := hide (show (S.take (j + 1)).count (x0, x1, x2) = cn2 by rw [HK2.out, if_neg hq]; rfl)
              have hn1 := ene_ne hp
              have hn2 := ene_ne hq
              (obtain ⟨p0, p1, p2⟩ := p; obtain ⟨q0, q1, q2⟩ := q; simp only [] at a0 a1 a2 b0 b1 b2 hn1 hn2; clear hp hq HK1 HK2; go_wp2_with (fail); refine wp_region_lex [] (fun w' => ∀ p, w'.cell? p = wr.cell? p) (by kernel_rfl) (by kernel_rfl) (fun _ => rfl) ?_; (repeat ((with_reducible refine wpLex_step (fun K hK => ?_)); go_simp; first | ((with_reducible refine hK _ _ ?_); clear hK K) | ((with_reducible apply Exists.intro); refine ⟨fun w' hw' => ?_, hK _ _ ?_⟩; (· (apply valEq; (· (go_simp; first | done | (with_reducible rfl))); (· ((try go_bits); with_reducible rfl)))); clear hK K))); refine wpLex_nil (fun _ => ?_); go_wp2_with (fail); refine wp_region_lex [] (fun w' => ∀ p, w'.cell? p = wr.cell? p) (by kernel_rfl) (by kernel_rfl) (fun _ => rfl) ?_; (repeat ((with_reducible refine wpLex_step (fun K hK => ?_)); go_simp; first | ((with_reducible refine hK _ _ ?_); clear hK K) | ((with_reducible apply Exists.intro); refine ⟨fun w' hw' => ?_, hK _ _ ?_⟩; (· (apply valEq; (· (go_simp; first | done | (with_reducible rfl))); (· ((try go_bits); with_reducible rfl)))); clear hK K))); refine wpLex_nil (fun _ => ?_); go_wp2_with (fail))
              exact ⟨⟨j + 1, by omega, by go_num, by rw [HF1.out], by rw [HF2.out], HJ.out⟩, by simp [intOf]; omega⟩
          · have HE := hide (show (l.take j).count (x0, x1, x2) = (S.take j).count (x0, x1, x2) by
              rw [List.take_of_length_le (by have := HL.out; omega), List.take_of_length_le (by have := HLS.out; omega)]; exact HC.out _)
            rw [HE.out]
            generalize (S.take j).count (x0, x1, x2) = cn at *
            go_wp2_with (fail)
            exact ⟨⟨k + 1, by omega, by go_num, hb10⟩, by simp [intOf]; omega⟩
    · go_wp2_with (fail)
      refine (nawake_ok _).mono ?_
      rintro e w4 ⟨rfl, b4⟩
      go_wp2_with (fail)
      go_ret
      exact ⟨rfl, hbw.trans (b4.mono hbw.size)⟩
end Go.Proofs.Ytnfogcnlkchdmaa
