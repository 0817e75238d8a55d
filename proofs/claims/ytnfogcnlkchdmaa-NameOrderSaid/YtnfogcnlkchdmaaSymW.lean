/-
  slices.symMergeCmpFunc at edges walked: both parts of more than one edge; the merge whole.
-/
import Derived.Test.YtnfogcnlkchdmaaSymG
namespace Go.Proofs.Ytnfogcnlkchdmaa
open Go Go.RowKit
attribute [local go_sem] Heavy heavyUpon

set_option maxRecDepth 100000 in
set_option maxHeartbeats 12800000 in
theorem symm_gen (N g L c : Nat) (IH : SymLess N g L c) (P X Y Q : List E3) (a m b : Nat) (w : World) (hH : Hd w g (P ++ X ++ Y ++ Q)) (hL : (P ++ X ++ Y ++ Q).length = L) (ha : P.length = a) (hm : m = a + X.length) (hb : b = m + Y.length) (h2X : 2 ≤ X.length) (h2Y : 2 ≤ Y.length)
    (hN : X.length + Y.length ≤ N) (hX : X.Pairwise leE) (hY : Y.Pairwise leE) (hLL : L ≤ 10000) :
    Calls Try.prog 23 #[.slice (some ⟨g, 0, none⟩) L c, .int .i64 a, .int .i64 m, .int .i64 b, cmpF] w (SPost g (P ++ sortE (X ++ Y) ++ Q) w) := by
  have hLs : P.length + (X.length + (Y.length + Q.length)) = L := by rw [← hL]; simp
  have hbL : b ≤ L := by omega
  have d0 : ((m : Int) - (a : Int) == 1) = false := by rw [beq_eq_false_iff_ne]; omega
  have d1 : ((b : Int) - (m : Int) == 1) = false := by rw [beq_eq_false_iff_ne]; omega
  obtain ⟨mid, hmid⟩ : ∃ mid, mid = (a + b) / 2 := ⟨_, rfl⟩
  have d2 : ((a : Int) + (b : Int)) / 2 = (mid : Int) := by omega
  obtain ⟨p, hp⟩ : ∃ p, p = mid + m - 1 := ⟨_, rfl⟩
  have d3 : (mid : Int) + (m : Int) - 1 = (p : Int) := by omega
  have hbeg : ∃ s0 r0, Beg a m b mid s0 r0 := by
    rcases Nat.lt_or_ge mid m with h | h
    · exact ⟨_, _, .inl ⟨h, rfl, rfl⟩⟩
    · exact ⟨_, _, .inr ⟨h, rfl, rfl⟩⟩
  obtain ⟨s0, r0, hbeg⟩ := hbeg
  have hsr : s0 ≤ r0 := by rcases hbeg with ⟨h1, h2, h3⟩ | ⟨h1, h2, h3⟩ <;> omega
  have HPL := hide (fun s h1 h2 h3 => sym_parts N g L c IH P X Y Q a m b mid s0 r0 s hL ha hm hb h2X h2Y hN hmid hbeg h1 h2 hX hY h3 hLL)
  have HB := hide (show ∀ h, s0 ≤ h → h < r0 → a ≤ h ∧ h < m ∧ m ≤ p - h ∧ p - h < b ∧ h ≤ p from fun h h1 h2 => by rcases hbeg with ⟨h3, h4, h5⟩ | ⟨h3, h4, h5⟩ <;> omega)
  have HGX := hide (show ∀ h, a ≤ h → h < m → (P ++ X ++ Y ++ Q)[h]? = some (X.getD (h - a) ez) from fun h h0 h1 => by
    have := @get_in P X (Y ++ Q) h (by omega) (by omega)
    rw [ha] at this
    rwa [← List.append_assoc] at this)
  have HGY := hide (show ∀ h, m ≤ h → h < b → (P ++ X ++ Y ++ Q)[h]? = some (Y.getD (h - m) ez) from fun h h0 h1 => by
    have e : (P ++ X).length = m := by rw [List.length_append]; omega
    have := @get_in (P ++ X) Y Q h (by omega) (by omega)
    rwa [e] at this)
  have HD := hide hH
  have HMID := hide (And.intro hp hmid)
  have mb : m ≤ b := by omega
  have am : a ≤ m := by omega
  generalize P ++ X ++ Y ++ Q = D at *
  generalize P ++ sortE (X ++ Y) ++ Q = T3 at *
  have HBEG := hide hbeg
  clear hLs hm hb ha hH hL hX hY hN IH h2X h2Y hmid hp hbeg
  unfold SPost cmpF
  go_enter Try.func23, Try.ntmps23
  rcases HBEG.out with ⟨g1, g2, g3⟩ | ⟨g1, g2, g3⟩
  case inl =>
    have d4 : (mid : Int) + (m : Int) - (b : Int) = (s0 : Int) := by have := HMID.out; omega
    have HG2 := hide g2
    have HG3 := hide g3
    clear g2 g3
    go_wp2_with (fail)
    go_loopw [20, 21] (fun u v wr => ∃ s r : Nat, u = .int .i64 s ∧ v = .int .i64 r ∧ s0 ≤ s ∧ s ≤ r ∧ r ≤ r0 ∧ Hid (Hd wr g D) ∧ Below g w wr ∧ Hid (SrG X Y a m (mid + m) s0 r0 s r)) (fun u v _ => (intOf v).toNat - (intOf u).toNat)
    case atStart => exact ⟨s0, r0, by first | rfl | rw [HG2.out], by first | rfl | rw [HG3.out], Nat.le_refl _, hsr, Nat.le_refl _, HD, Below.refl _ _, hide ⟨.inl rfl, .inl rfl⟩⟩
    case round =>
      obtain ⟨s, r, rfl, rfl, hss, hsr2, hrr, HH, hbr, HSR⟩ := hrel
      by_cases hlt : s < r
      · obtain ⟨h, hh⟩ : ∃ h, h = (s + r) / 2 := ⟨_, rfl⟩
        have hhs : s ≤ h := by omega
        have hhr : h < r := by omega
        have hsh : s0 ≤ h := by omega
        have hhr0 : h < r0 := by omega
        have d5 : ((s : Int) + (r : Int)) / 2 = (h : Int) := by omega
        obtain ⟨q, hq⟩ : ∃ q, q = p - h := ⟨_, rfl⟩
        obtain ⟨b1, b2, b3, b4, b5⟩ := HB.out h hsh hhr0
        rw [← hq] at b3 b4
        have d6 : (p : Int) - (h : Int) = (q : Int) := by omega
        have hhL : h < L := by omega
        have hqL : q < L := by omega
        have hgl : g < wr.heap.size := HH.out.lt
        obtain ⟨x, hx⟩ : ∃ x, X.getD (h - a) ez = x := ⟨_, rfl⟩
        obtain ⟨y, hy⟩ : ∃ y, Y.getD (q - m) ez = y := ⟨_, rfl⟩
        have gx := HGX.out h b1 b2
        have gy := HGY.out q b3 b4
        rw [hx] at gx
        rw [hy] at gy
        obtain ⟨x0, x1, x2⟩ := x
        obtain ⟨y0, y1, y2⟩ := y
        obtain ⟨c0, c1, c2, _, _, _⟩ := HH.out.got gx
        obtain ⟨e0, e1, e2, _, _, _⟩ := HH.out.got gy
        have eq1 : mid + m - (h + 1) - m = q - m := by have := HMID.out; omega
        have eq2 : mid + m - 1 - h - m = q - m := by have := HMID.out; omega
        have HEQ := hide (And.intro eq1 eq2)
        have HXY := hide (And.intro hx hy)
        clear gx gy hx hy hh hq eq1 eq2 b1 b2 b3 b4 b5 hsh hhr0
        cases hl : ltE (y0, y1, y2) (x0, x1, x2)
        · obtain ⟨v, hv0, hv1, ql⟩ := cmp_ge y0 y1 y2 x0 x1 x2 hl
          have hv2 : ¬ v < 0 := by omega
          have HN : Hid (SrG X Y a m (mid + m) s0 r0 (h + 1) r) := ⟨.inr (by rw [HEQ.out.1, show h + 1 - 1 - a = h - a by omega, HXY.out.1, HXY.out.2]; exact hl), HSR.out.2⟩
          clear hl HSR HXY HEQ HPL HB HGX HGY HBEG
          go_wp2_with (fail)
          refine wp_region_lexD [11] (fun w' => Below (wr).heap.size (wr) w') (by kernel_rfl) (by kernel_rfl) (Below.refl _ _).drew ?_
          (repeat ((with_reducible refine wpLex_step (fun K hK => ?_)); go_simp; first | ((with_reducible refine hK _ _ ?_); clear hK K) | ((with_reducible apply Exists.intro); refine ⟨fun w' hw' => ?_, hK _ _ ?_⟩; (· (have hq := bcells hw'; apply valEq; (· (go_simp; first | done | (with_reducible rfl))); (· ((try go_bits); with_reducible rfl)))); clear hK K)))
          ((with_reducible refine wpLex_step (fun K hK => ?_)); go_simp; refine (ql _).mono ?_; rintro e w3 ⟨rfl, hbx⟩; have g3 := ((Below.refl wr.heap.size wr).drew).trans (hbx.mono ((Below.refl wr.heap.size wr).drew).size); refine ⟨_, rfl, g3, hK _ _ ?_⟩; clear hK K hbx)
          (repeat ((with_reducible refine wpLex_step (fun K hK => ?_)); go_simp; first | ((with_reducible refine hK _ _ ?_); clear hK K) | ((with_reducible apply Exists.intro); refine ⟨fun w' hw' => ?_, hK _ _ ?_⟩; (· (have hq := bcells hw'; apply valEq; (· (go_simp; first | done | (with_reducible rfl))); (· ((try go_bits); with_reducible rfl)))); clear hK K)))
          refine wpLex_nil (fun _ => ?_)
          have H3 := hide (HH.out.below g3 hgl)
          have b3 := hbr.trans (g3.mono (Nat.le_of_lt hgl))
          clear c0 c1 c2 e0 e1 e2 g3 ql hgl hbr
          go_wp2_with (fail)
          all_goals first | exact ⟨⟨h + 1, r, by first | rfl | go_num, rfl, by omega, by omega, hrr, H3, b3, HN⟩, by simp [intOf]; omega⟩ | (exfalso; rename_i hx; simp at hx; omega)
        · have ql := cmp_lt y0 y1 y2 x0 x1 x2 hl
          have HN : Hid (SrG X Y a m (mid + m) s0 r0 s h) := ⟨HSR.out.1, .inr (by rw [HEQ.out.2, HXY.out.1, HXY.out.2]; exact hl)⟩
          clear hl HSR HXY HEQ HPL HB HGX HGY HBEG
          go_wp2_with (fail)
          refine wp_region_lexD [11] (fun w' => Below (wr).heap.size (wr) w') (by kernel_rfl) (by kernel_rfl) (Below.refl _ _).drew ?_
          (repeat ((with_reducible refine wpLex_step (fun K hK => ?_)); go_simp; first | ((with_reducible refine hK _ _ ?_); clear hK K) | ((with_reducible apply Exists.intro); refine ⟨fun w' hw' => ?_, hK _ _ ?_⟩; (· (have hq := bcells hw'; apply valEq; (· (go_simp; first | done | (with_reducible rfl))); (· ((try go_bits); with_reducible rfl)))); clear hK K)))
          ((with_reducible refine wpLex_step (fun K hK => ?_)); go_simp; refine (ql _).mono ?_; rintro e w3 ⟨rfl, hbx⟩; have g3 := ((Below.refl wr.heap.size wr).drew).trans (hbx.mono ((Below.refl wr.heap.size wr).drew).size); refine ⟨_, rfl, g3, hK _ _ ?_⟩; clear hK K hbx)
          (repeat ((with_reducible refine wpLex_step (fun K hK => ?_)); go_simp; first | ((with_reducible refine hK _ _ ?_); clear hK K) | ((with_reducible apply Exists.intro); refine ⟨fun w' hw' => ?_, hK _ _ ?_⟩; (· (have hq := bcells hw'; apply valEq; (· (go_simp; first | done | (with_reducible rfl))); (· ((try go_bits); with_reducible rfl)))); clear hK K)))
          refine wpLex_nil (fun _ => ?_)
          have H3 := hide (HH.out.below g3 hgl)
          have b3 := hbr.trans (g3.mono (Nat.le_of_lt hgl))
          clear c0 c1 c2 e0 e1 e2 g3 ql hgl hbr
          go_wp2_with (fail)
          exact ⟨⟨s, h, rfl, by first | rfl | (congr 1; omega), hss, hhs, by omega, H3, b3, HN⟩, by simp [intOf]; omega⟩
      · obtain rfl : s = r := by omega
        obtain ⟨T1, T2, e, d7, z1, z2, z3, z4, z5, h1, hn1, h2, hn2, h3, hn3⟩ := HPL.out s hss hrr HSR.out
        have d8 : (mid : Int) + (m : Int) - (s : Int) = (e : Int) := d7.symm
        have H1 := hide h1
        have HN1 := hide hn1
        have H2 := hide h2
        have HN2 := hide hn2
        have H3 := hide h3
        have HN3 := hide hn3
        clear h1 hn1 h2 hn2 h3 hn3 HPL HB HGX HGY HBEG HSR d7
        unfold cmpF at H1 H2 H3
        (by_cases k5 : s < m; (· by_cases k6 : m < e; (· (have QC := hide (H1.out k5 k6); go_wp2_with (fail); refine (QC.out _ HH.out).mono ?_; rintro _ w1 ⟨rfl, h9, b9⟩; have HT1 := hide h9; have hb1 := (hbr).trans b9; clear QC h9 b9); clear H1 HN1; (by_cases k3 : a < s; (· by_cases k4 : s < mid; (· (have QC := hide (H2.out k3 k4); go_wp2_with (fail); refine (QC.out _ HT1.out).mono ?_; rintro _ w2 ⟨rfl, h9, b9⟩; have HT2 := hide h9; have hb2 := (hb1).trans b9; clear QC h9 b9); clear H2 HN2; (by_cases k1 : mid < e; (· by_cases k2 : e < b; (· (have QC := hide (H3.out k1 k2); go_wp2_with (fail); refine (QC.out _ HT2.out).mono ?_; rintro _ w9 ⟨rfl, h9, b9⟩; have HT9 := hide h9; have hb9 := (hb2).trans b9; clear QC h9 b9); clear H3 HN3; go_wp2_with (fail); go_end0; exact ⟨rfl, HT9.out, hb9⟩); (· have HF := hide (HN3.out (fun h => k2 h.2) _ HT2.out); clear H3 HN3; go_wp2_with (fail); go_end0; exact ⟨rfl, HF.out, hb2⟩)); (· have HF := hide (HN3.out (fun h => k1 h.1) _ HT2.out); clear H3 HN3; go_wp2_with (fail); go_end0; exact ⟨rfl, HF.out, hb2⟩))); (· have HT2 := hide (HN2.out (fun h => k4 h.2) _ HT1.out); clear H2 HN2; (by_cases k1 : mid < e; (· by_cases k2 : e < b; (· (have QC := hide (H3.out k1 k2); go_wp2_with (fail); refine (QC.out _ HT2.out).mono ?_; rintro _ w9 ⟨rfl, h9, b9⟩; have HT9 := hide h9; have hb9 := (hb1).trans b9; clear QC h9 b9); clear H3 HN3; go_wp2_with (fail); go_end0; exact ⟨rfl, HT9.out, hb9⟩); (· have HF := hide (HN3.out (fun h => k2 h.2) _ HT2.out); clear H3 HN3; go_wp2_with (fail); go_end0; exact ⟨rfl, HF.out, hb1⟩)); (· have HF := hide (HN3.out (fun h => k1 h.1) _ HT2.out); clear H3 HN3; go_wp2_with (fail); go_end0; exact ⟨rfl, HF.out, hb1⟩)))); (· have HT2 := hide (HN2.out (fun h => k3 h.1) _ HT1.out); clear H2 HN2; (by_cases k1 : mid < e; (· by_cases k2 : e < b; (· (have QC := hide (H3.out k1 k2); go_wp2_with (fail); refine (QC.out _ HT2.out).mono ?_; rintro _ w9 ⟨rfl, h9, b9⟩; have HT9 := hide h9; have hb9 := (hb1).trans b9; clear QC h9 b9); clear H3 HN3; go_wp2_with (fail); go_end0; exact ⟨rfl, HT9.out, hb9⟩); (· have HF := hide (HN3.out (fun h => k2 h.2) _ HT2.out); clear H3 HN3; go_wp2_with (fail); go_end0; exact ⟨rfl, HF.out, hb1⟩)); (· have HF := hide (HN3.out (fun h => k1 h.1) _ HT2.out); clear H3 HN3; go_wp2_with (fail); go_end0; exact ⟨rfl, HF.out, hb1⟩))))); (· have HT1 := hide (HN1.out (fun h => k6 h.2) _ HH.out); clear H1 HN1; (by_cases k3 : a < s; (· by_cases k4 : s < mid; (· (have QC := hide (H2.out k3 k4); go_wp2_with (fail); refine (QC.out _ HT1.out).mono ?_; rintro _ w2 ⟨rfl, h9, b9⟩; have HT2 := hide h9; have hb2 := (hbr).trans b9; clear QC h9 b9); clear H2 HN2; (by_cases k1 : mid < e; (· by_cases k2 : e < b; (· (have QC := hide (H3.out k1 k2); go_wp2_with (fail); refine (QC.out _ HT2.out).mono ?_; rintro _ w9 ⟨rfl, h9, b9⟩; have HT9 := hide h9; have hb9 := (hb2).trans b9; clear QC h9 b9); clear H3 HN3; go_wp2_with (fail); go_end0; exact ⟨rfl, HT9.out, hb9⟩); (· have HF := hide (HN3.out (fun h => k2 h.2) _ HT2.out); clear H3 HN3; go_wp2_with (fail); go_end0; exact ⟨rfl, HF.out, hb2⟩)); (· have HF := hide (HN3.out (fun h => k1 h.1) _ HT2.out); clear H3 HN3; go_wp2_with (fail); go_end0; exact ⟨rfl, HF.out, hb2⟩))); (· have HT2 := hide (HN2.out (fun h => k4 h.2) _ HT1.out); clear H2 HN2; (by_cases k1 : mid < e; (· by_cases k2 : e < b; (· (have QC := hide (H3.out k1 k2); go_wp2_with (fail); refine (QC.out _ HT2.out).mono ?_; rintro _ w9 ⟨rfl, h9, b9⟩; have HT9 := hide h9; have hb9 := (hbr).trans b9; clear QC h9 b9); clear H3 HN3; go_wp2_with (fail); go_end0; exact ⟨rfl, HT9.out, hb9⟩); (· have HF := hide (HN3.out (fun h => k2 h.2) _ HT2.out); clear H3 HN3; go_wp2_with (fail); go_end0; exact ⟨rfl, HF.out, hbr⟩)); (· have HF := hide (HN3.out (fun h => k1 h.1) _ HT2.out); clear H3 HN3; go_wp2_with (fail); go_end0; exact ⟨rfl, HF.out, hbr⟩)))); (· have HT2 := hide (HN2.out (fun h => k3 h.1) _ HT1.out); clear H2 HN2; (by_cases k1 : mid < e; (· by_cases k2 : e < b; (· (have QC := hide (H3.out k1 k2); go_wp2_with (fail); refine (QC.out _ HT2.out).mono ?_; rintro _ w9 ⟨rfl, h9, b9⟩; have HT9 := hide h9; have hb9 := (hbr).trans b9; clear QC h9 b9); clear H3 HN3; go_wp2_with (fail); go_end0; exact ⟨rfl, HT9.out, hb9⟩); (· have HF := hide (HN3.out (fun h => k2 h.2) _ HT2.out); clear H3 HN3; go_wp2_with (fail); go_end0; exact ⟨rfl, HF.out, hbr⟩)); (· have HF := hide (HN3.out (fun h => k1 h.1) _ HT2.out); clear H3 HN3; go_wp2_with (fail); go_end0; exact ⟨rfl, HF.out, hbr⟩)))))); (· have HT1 := hide (HN1.out (fun h => k5 h.1) _ HH.out); clear H1 HN1; (by_cases k3 : a < s; (· by_cases k4 : s < mid; (· (have QC := hide (H2.out k3 k4); go_wp2_with (fail); refine (QC.out _ HT1.out).mono ?_; rintro _ w2 ⟨rfl, h9, b9⟩; have HT2 := hide h9; have hb2 := (hbr).trans b9; clear QC h9 b9); clear H2 HN2; (by_cases k1 : mid < e; (· by_cases k2 : e < b; (· (have QC := hide (H3.out k1 k2); go_wp2_with (fail); refine (QC.out _ HT2.out).mono ?_; rintro _ w9 ⟨rfl, h9, b9⟩; have HT9 := hide h9; have hb9 := (hb2).trans b9; clear QC h9 b9); clear H3 HN3; go_wp2_with (fail); go_end0; exact ⟨rfl, HT9.out, hb9⟩); (· have HF := hide (HN3.out (fun h => k2 h.2) _ HT2.out); clear H3 HN3; go_wp2_with (fail); go_end0; exact ⟨rfl, HF.out, hb2⟩)); (· have HF := hide (HN3.out (fun h => k1 h.1) _ HT2.out); clear H3 HN3; go_wp2_with (fail); go_end0; exact ⟨rfl, HF.out, hb2⟩))); (· have HT2 := hide (HN2.out (fun h => k4 h.2) _ HT1.out); clear H2 HN2; (by_cases k1 : mid < e; (· by_cases k2 : e < b; (· (have QC := hide (H3.out k1 k2); go_wp2_with (fail); refine (QC.out _ HT2.out).mono ?_; rintro _ w9 ⟨rfl, h9, b9⟩; have HT9 := hide h9; have hb9 := (hbr).trans b9; clear QC h9 b9); clear H3 HN3; go_wp2_with (fail); go_end0; exact ⟨rfl, HT9.out, hb9⟩); (· have HF := hide (HN3.out (fun h => k2 h.2) _ HT2.out); clear H3 HN3; go_wp2_with (fail); go_end0; exact ⟨rfl, HF.out, hbr⟩)); (· have HF := hide (HN3.out (fun h => k1 h.1) _ HT2.out); clear H3 HN3; go_wp2_with (fail); go_end0; exact ⟨rfl, HF.out, hbr⟩)))); (· have HT2 := hide (HN2.out (fun h => k3 h.1) _ HT1.out); clear H2 HN2; (by_cases k1 : mid < e; (· by_cases k2 : e < b; (· (have QC := hide (H3.out k1 k2); go_wp2_with (fail); refine (QC.out _ HT2.out).mono ?_; rintro _ w9 ⟨rfl, h9, b9⟩; have HT9 := hide h9; have hb9 := (hbr).trans b9; clear QC h9 b9); clear H3 HN3; go_wp2_with (fail); go_end0; exact ⟨rfl, HT9.out, hb9⟩); (· have HF := hide (HN3.out (fun h => k2 h.2) _ HT2.out); clear H3 HN3; go_wp2_with (fail); go_end0; exact ⟨rfl, HF.out, hbr⟩)); (· have HF := hide (HN3.out (fun h => k1 h.1) _ HT2.out); clear H3 HN3; go_wp2_with (fail); go_end0; exact ⟨rfl, HF.out, hbr⟩))))))
  case inr =>
    have HG2 := hide g2
    have HG3 := hide g3
    clear g2 g3
    go_wp2_with (fail)
    rw [show decide (mid < m) = false from decide_eq_false (by omega)]
    go_loopw [20, 21] (fun u v wr => ∃ s r : Nat, u = .int .i64 s ∧ v = .int .i64 r ∧ s0 ≤ s ∧ s ≤ r ∧ r ≤ r0 ∧ Hid (Hd wr g D) ∧ Below g w wr ∧ Hid (SrG X Y a m (mid + m) s0 r0 s r)) (fun u v _ => (intOf v).toNat - (intOf u).toNat)
    case atStart => exact ⟨s0, r0, by first | rfl | rw [HG2.out], by first | rfl | rw [HG3.out], Nat.le_refl _, hsr, Nat.le_refl _, HD, Below.refl _ _, hide ⟨.inl rfl, .inl rfl⟩⟩
    case round =>
      obtain ⟨s, r, rfl, rfl, hss, hsr2, hrr, HH, hbr, HSR⟩ := hrel
      by_cases hlt : s < r
      · obtain ⟨h, hh⟩ : ∃ h, h = (s + r) / 2 := ⟨_, rfl⟩
        have hhs : s ≤ h := by omega
        have hhr : h < r := by omega
        have hsh : s0 ≤ h := by omega
        have hhr0 : h < r0 := by omega
        have d5 : ((s : Int) + (r : Int)) / 2 = (h : Int) := by omega
        obtain ⟨q, hq⟩ : ∃ q, q = p - h := ⟨_, rfl⟩
        obtain ⟨b1, b2, b3, b4, b5⟩ := HB.out h hsh hhr0
        rw [← hq] at b3 b4
        have d6 : (p : Int) - (h : Int) = (q : Int) := by omega
        have hhL : h < L := by omega
        have hqL : q < L := by omega
        have hgl : g < wr.heap.size := HH.out.lt
        obtain ⟨x, hx⟩ : ∃ x, X.getD (h - a) ez = x := ⟨_, rfl⟩
        obtain ⟨y, hy⟩ : ∃ y, Y.getD (q - m) ez = y := ⟨_, rfl⟩
        have gx := HGX.out h b1 b2
        have gy := HGY.out q b3 b4
        rw [hx] at gx
        rw [hy] at gy
        obtain ⟨x0, x1, x2⟩ := x
        obtain ⟨y0, y1, y2⟩ := y
        obtain ⟨c0, c1, c2, _, _, _⟩ := HH.out.got gx
        obtain ⟨e0, e1, e2, _, _, _⟩ := HH.out.got gy
        have eq1 : mid + m - (h + 1) - m = q - m := by have := HMID.out; omega
        have eq2 : mid + m - 1 - h - m = q - m := by have := HMID.out; omega
        have HEQ := hide (And.intro eq1 eq2)
        have HXY := hide (And.intro hx hy)
        clear gx gy hx hy hh hq eq1 eq2 b1 b2 b3 b4 b5 hsh hhr0
        cases hl : ltE (y0, y1, y2) (x0, x1, x2)
        · obtain ⟨v, hv0, hv1, ql⟩ := cmp_ge y0 y1 y2 x0 x1 x2 hl
          have hv2 : ¬ v < 0 := by omega
          have HN : Hid (SrG X Y a m (mid + m) s0 r0 (h + 1) r) := ⟨.inr (by rw [HEQ.out.1, show h + 1 - 1 - a = h - a by omega, HXY.out.1, HXY.out.2]; exact hl), HSR.out.2⟩
          clear hl HSR HXY HEQ HPL HB HGX HGY HBEG
          go_wp2_with (fail)
          refine wp_region_lexD [11] (fun w' => Below (wr).heap.size (wr) w') (by kernel_rfl) (by kernel_rfl) (Below.refl _ _).drew ?_
          (repeat ((with_reducible refine wpLex_step (fun K hK => ?_)); go_simp; first | ((with_reducible refine hK _ _ ?_); clear hK K) | ((with_reducible apply Exists.intro); refine ⟨fun w' hw' => ?_, hK _ _ ?_⟩; (· (have hq := bcells hw'; apply valEq; (· (go_simp; first | done | (with_reducible rfl))); (· ((try go_bits); with_reducible rfl)))); clear hK K)))
          ((with_reducible refine wpLex_step (fun K hK => ?_)); go_simp; refine (ql _).mono ?_; rintro e w3 ⟨rfl, hbx⟩; have g3 := ((Below.refl wr.heap.size wr).drew).trans (hbx.mono ((Below.refl wr.heap.size wr).drew).size); refine ⟨_, rfl, g3, hK _ _ ?_⟩; clear hK K hbx)
          (repeat ((with_reducible refine wpLex_step (fun K hK => ?_)); go_simp; first | ((with_reducible refine hK _ _ ?_); clear hK K) | ((with_reducible apply Exists.intro); refine ⟨fun w' hw' => ?_, hK _ _ ?_⟩; (· (have hq := bcells hw'; apply valEq; (· (go_simp; first | done | (with_reducible rfl))); (· ((try go_bits); with_reducible rfl)))); clear hK K)))
          refine wpLex_nil (fun _ => ?_)
          have H3 := hide (HH.out.below g3 hgl)
          have b3 := hbr.trans (g3.mono (Nat.le_of_lt hgl))
          clear c0 c1 c2 e0 e1 e2 g3 ql hgl hbr
          go_wp2_with (fail)
          all_goals first | exact ⟨⟨h + 1, r, by first | rfl | go_num, rfl, by omega, by omega, hrr, H3, b3, HN⟩, by simp [intOf]; omega⟩ | (exfalso; rename_i hx; simp at hx; omega)
        · have ql := cmp_lt y0 y1 y2 x0 x1 x2 hl
          have HN : Hid (SrG X Y a m (mid + m) s0 r0 s h) := ⟨HSR.out.1, .inr (by rw [HEQ.out.2, HXY.out.1, HXY.out.2]; exact hl)⟩
          clear hl HSR HXY HEQ HPL HB HGX HGY HBEG
          go_wp2_with (fail)
          refine wp_region_lexD [11] (fun w' => Below (wr).heap.size (wr) w') (by kernel_rfl) (by kernel_rfl) (Below.refl _ _).drew ?_
          (repeat ((with_reducible refine wpLex_step (fun K hK => ?_)); go_simp; first | ((with_reducible refine hK _ _ ?_); clear hK K) | ((with_reducible apply Exists.intro); refine ⟨fun w' hw' => ?_, hK _ _ ?_⟩; (· (have hq := bcells hw'; apply valEq; (· (go_simp; first | done | (with_reducible rfl))); (· ((try go_bits); with_reducible rfl)))); clear hK K)))
          ((with_reducible refine wpLex_step (fun K hK => ?_)); go_simp; refine (ql _).mono ?_; rintro e w3 ⟨rfl, hbx⟩; have g3 := ((Below.refl wr.heap.size wr).drew).trans (hbx.mono ((Below.refl wr.heap.size wr).drew).size); refine ⟨_, rfl, g3, hK _ _ ?_⟩; clear hK K hbx)
          (repeat ((with_reducible refine wpLex_step (fun K hK => ?_)); go_simp; first | ((with_reducible refine hK _ _ ?_); clear hK K) | ((with_reducible apply Exists.intro); refine ⟨fun w' hw' => ?_, hK _ _ ?_⟩; (· (have hq := bcells hw'; apply valEq; (· (go_simp; first | done | (with_reducible rfl))); (· ((try go_bits); with_reducible rfl)))); clear hK K)))
          refine wpLex_nil (fun _ => ?_)
          have H3 := hide (HH.out.below g3 hgl)
          have b3 := hbr.trans (g3.mono (Nat.le_of_lt hgl))
          clear c0 c1 c2 e0 e1 e2 g3 ql hgl hbr
          go_wp2_with (fail)
          exact ⟨⟨s, h, rfl, by first | rfl | (congr 1; omega), hss, hhs, by omega, H3, b3, HN⟩, by simp [intOf]; omega⟩
      · obtain rfl : s = r := by omega
        obtain ⟨T1, T2, e, d7, z1, z2, z3, z4, z5, h1, hn1, h2, hn2, h3, hn3⟩ := HPL.out s hss hrr HSR.out
        have d8 : (mid : Int) + (m : Int) - (s : Int) = (e : Int) := d7.symm
        have H1 := hide h1
        have HN1 := hide hn1
        have H2 := hide h2
        have HN2 := hide hn2
        have H3 := hide h3
        have HN3 := hide hn3
        clear h1 hn1 h2 hn2 h3 hn3 HPL HB HGX HGY HBEG HSR d7
        unfold cmpF at H1 H2 H3
        (by_cases k5 : s < m; (· by_cases k6 : m < e; (· (have QC := hide (H1.out k5 k6); go_wp2_with (fail); refine (QC.out _ HH.out).mono ?_; rintro _ w1 ⟨rfl, h9, b9⟩; have HT1 := hide h9; have hb1 := (hbr).trans b9; clear QC h9 b9); clear H1 HN1; (by_cases k3 : a < s; (· by_cases k4 : s < mid; (· (have QC := hide (H2.out k3 k4); go_wp2_with (fail); refine (QC.out _ HT1.out).mono ?_; rintro _ w2 ⟨rfl, h9, b9⟩; have HT2 := hide h9; have hb2 := (hb1).trans b9; clear QC h9 b9); clear H2 HN2; (by_cases k1 : mid < e; (· by_cases k2 : e < b; (· (have QC := hide (H3.out k1 k2); go_wp2_with (fail); refine (QC.out _ HT2.out).mono ?_; rintro _ w9 ⟨rfl, h9, b9⟩; have HT9 := hide h9; have hb9 := (hb2).trans b9; clear QC h9 b9); clear H3 HN3; go_wp2_with (fail); go_end0; exact ⟨rfl, HT9.out, hb9⟩); (· have HF := hide (HN3.out (fun h => k2 h.2) _ HT2.out); clear H3 HN3; go_wp2_with (fail); go_end0; exact ⟨rfl, HF.out, hb2⟩)); (· have HF := hide (HN3.out (fun h => k1 h.1) _ HT2.out); clear H3 HN3; go_wp2_with (fail); go_end0; exact ⟨rfl, HF.out, hb2⟩))); (· have HT2 := hide (HN2.out (fun h => k4 h.2) _ HT1.out); clear H2 HN2; (by_cases k1 : mid < e; (· by_cases k2 : e < b; (· (have QC := hide (H3.out k1 k2); go_wp2_with (fail); refine (QC.out _ HT2.out).mono ?_; rintro _ w9 ⟨rfl, h9, b9⟩; have HT9 := hide h9; have hb9 := (hb1).trans b9; clear QC h9 b9); clear H3 HN3; go_wp2_with (fail); go_end0; exact ⟨rfl, HT9.out, hb9⟩); (· have HF := hide (HN3.out (fun h => k2 h.2) _ HT2.out); clear H3 HN3; go_wp2_with (fail); go_end0; exact ⟨rfl, HF.out, hb1⟩)); (· have HF := hide (HN3.out (fun h => k1 h.1) _ HT2.out); clear H3 HN3; go_wp2_with (fail); go_end0; exact ⟨rfl, HF.out, hb1⟩)))); (· have HT2 := hide (HN2.out (fun h => k3 h.1) _ HT1.out); clear H2 HN2; (by_cases k1 : mid < e; (· by_cases k2 : e < b; (· (have QC := hide (H3.out k1 k2); go_wp2_with (fail); refine (QC.out _ HT2.out).mono ?_; rintro _ w9 ⟨rfl, h9, b9⟩; have HT9 := hide h9; have hb9 := (hb1).trans b9; clear QC h9 b9); clear H3 HN3; go_wp2_with (fail); go_end0; exact ⟨rfl, HT9.out, hb9⟩); (· have HF := hide (HN3.out (fun h => k2 h.2) _ HT2.out); clear H3 HN3; go_wp2_with (fail); go_end0; exact ⟨rfl, HF.out, hb1⟩)); (· have HF := hide (HN3.out (fun h => k1 h.1) _ HT2.out); clear H3 HN3; go_wp2_with (fail); go_end0; exact ⟨rfl, HF.out, hb1⟩))))); (· have HT1 := hide (HN1.out (fun h => k6 h.2) _ HH.out); clear H1 HN1; (by_cases k3 : a < s; (· by_cases k4 : s < mid; (· (have QC := hide (H2.out k3 k4); go_wp2_with (fail); refine (QC.out _ HT1.out).mono ?_; rintro _ w2 ⟨rfl, h9, b9⟩; have HT2 := hide h9; have hb2 := (hbr).trans b9; clear QC h9 b9); clear H2 HN2; (by_cases k1 : mid < e; (· by_cases k2 : e < b; (· (have QC := hide (H3.out k1 k2); go_wp2_with (fail); refine (QC.out _ HT2.out).mono ?_; rintro _ w9 ⟨rfl, h9, b9⟩; have HT9 := hide h9; have hb9 := (hb2).trans b9; clear QC h9 b9); clear H3 HN3; go_wp2_with (fail); go_end0; exact ⟨rfl, HT9.out, hb9⟩); (· have HF := hide (HN3.out (fun h => k2 h.2) _ HT2.out); clear H3 HN3; go_wp2_with (fail); go_end0; exact ⟨rfl, HF.out, hb2⟩)); (· have HF := hide (HN3.out (fun h => k1 h.1) _ HT2.out); clear H3 HN3; go_wp2_with (fail); go_end0; exact ⟨rfl, HF.out, hb2⟩))); (· have HT2 := hide (HN2.out (fun h => k4 h.2) _ HT1.out); clear H2 HN2; (by_cases k1 : mid < e; (· by_cases k2 : e < b; (· (have QC := hide (H3.out k1 k2); go_wp2_with (fail); refine (QC.out _ HT2.out).mono ?_; rintro _ w9 ⟨rfl, h9, b9⟩; have HT9 := hide h9; have hb9 := (hbr).trans b9; clear QC h9 b9); clear H3 HN3; go_wp2_with (fail); go_end0; exact ⟨rfl, HT9.out, hb9⟩); (· have HF := hide (HN3.out (fun h => k2 h.2) _ HT2.out); clear H3 HN3; go_wp2_with (fail); go_end0; exact ⟨rfl, HF.out, hbr⟩)); (· have HF := hide (HN3.out (fun h => k1 h.1) _ HT2.out); clear H3 HN3; go_wp2_with (fail); go_end0; exact ⟨rfl, HF.out, hbr⟩)))); (· have HT2 := hide (HN2.out (fun h => k3 h.1) _ HT1.out); clear H2 HN2; (by_cases k1 : mid < e; (· by_cases k2 : e < b; (· (have QC := hide (H3.out k1 k2); go_wp2_with (fail); refine (QC.out _ HT2.out).mono ?_; rintro _ w9 ⟨rfl, h9, b9⟩; have HT9 := hide h9; have hb9 := (hbr).trans b9; clear QC h9 b9); clear H3 HN3; go_wp2_with (fail); go_end0; exact ⟨rfl, HT9.out, hb9⟩); (· have HF := hide (HN3.out (fun h => k2 h.2) _ HT2.out); clear H3 HN3; go_wp2_with (fail); go_end0; exact ⟨rfl, HF.out, hbr⟩)); (· have HF := hide (HN3.out (fun h => k1 h.1) _ HT2.out); clear H3 HN3; go_wp2_with (fail); go_end0; exact ⟨rfl, HF.out, hbr⟩)))))); (· have HT1 := hide (HN1.out (fun h => k5 h.1) _ HH.out); clear H1 HN1; (by_cases k3 : a < s; (· by_cases k4 : s < mid; (· (have QC := hide (H2.out k3 k4); go_wp2_with (fail); refine (QC.out _ HT1.out).mono ?_; rintro _ w2 ⟨rfl, h9, b9⟩; have HT2 := hide h9; have hb2 := (hbr).trans b9; clear QC h9 b9); clear H2 HN2; (by_cases k1 : mid < e; (· by_cases k2 : e < b; (· (have QC := hide (H3.out k1 k2); go_wp2_with (fail); refine (QC.out _ HT2.out).mono ?_; rintro _ w9 ⟨rfl, h9, b9⟩; have HT9 := hide h9; have hb9 := (hb2).trans b9; clear QC h9 b9); clear H3 HN3; go_wp2_with (fail); go_end0; exact ⟨rfl, HT9.out, hb9⟩); (· have HF := hide (HN3.out (fun h => k2 h.2) _ HT2.out); clear H3 HN3; go_wp2_with (fail); go_end0; exact ⟨rfl, HF.out, hb2⟩)); (· have HF := hide (HN3.out (fun h => k1 h.1) _ HT2.out); clear H3 HN3; go_wp2_with (fail); go_end0; exact ⟨rfl, HF.out, hb2⟩))); (· have HT2 := hide (HN2.out (fun h => k4 h.2) _ HT1.out); clear H2 HN2; (by_cases k1 : mid < e; (· by_cases k2 : e < b; (· (have QC := hide (H3.out k1 k2); go_wp2_with (fail); refine (QC.out _ HT2.out).mono ?_; rintro _ w9 ⟨rfl, h9, b9⟩; have HT9 := hide h9; have hb9 := (hbr).trans b9; clear QC h9 b9); clear H3 HN3; go_wp2_with (fail); go_end0; exact ⟨rfl, HT9.out, hb9⟩); (· have HF := hide (HN3.out (fun h => k2 h.2) _ HT2.out); clear H3 HN3; go_wp2_with (fail); go_end0; exact ⟨rfl, HF.out, hbr⟩)); (· have HF := hide (HN3.out (fun h => k1 h.1) _ HT2.out); clear H3 HN3; go_wp2_with (fail); go_end0; exact ⟨rfl, HF.out, hbr⟩)))); (· have HT2 := hide (HN2.out (fun h => k3 h.1) _ HT1.out); clear H2 HN2; (by_cases k1 : mid < e; (· by_cases k2 : e < b; (· (have QC := hide (H3.out k1 k2); go_wp2_with (fail); refine (QC.out _ HT2.out).mono ?_; rintro _ w9 ⟨rfl, h9, b9⟩; have HT9 := hide h9; have hb9 := (hbr).trans b9; clear QC h9 b9); clear H3 HN3; go_wp2_with (fail); go_end0; exact ⟨rfl, HT9.out, hb9⟩); (· have HF := hide (HN3.out (fun h => k2 h.2) _ HT2.out); clear H3 HN3; go_wp2_with (fail); go_end0; exact ⟨rfl, HF.out, hbr⟩)); (· have HF := hide (HN3.out (fun h => k1 h.1) _ HT2.out); clear H3 HN3; go_wp2_with (fail); go_end0; exact ⟨rfl, HF.out, hbr⟩))))))
theorem symm_any (g L c : Nat) (hLL : L ≤ 10000) : ∀ N, SymLess N g L c
  | 0 => fun P X Y Q a m b W _ _ _ _ _ _ _ _ _ h => by omega
  | N + 1 => fun P X Y Q a m b W hH hL ha hm hb hX hY sX sY hN => by
    have IH := symm_any g L c hLL N
    by_cases h1 : X.length = 1
    · obtain ⟨x, rfl⟩ := List.length_eq_one_iff.1 h1
      exact symm_left P Y Q x g L c a m b W hH hL ha (by simpa using hm) hb sY hLL
    · by_cases h2 : Y.length = 1
      · obtain ⟨y, rfl⟩ := List.length_eq_one_iff.1 h2
        exact symm_right P X Q y g L c a m b W hH hL ha hm (by simpa using hb) (by omega) sX hLL
      · exact symm_gen N g L c IH P X Y Q a m b W hH hL ha hm hb (by omega) (by omega) (by omega) sX sY hLL
end Go.Proofs.Ytnfogcnlkchdmaa
