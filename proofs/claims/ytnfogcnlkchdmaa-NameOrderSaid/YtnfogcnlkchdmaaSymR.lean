/-
  slices.symMergeCmpFunc at edges walked, where the right part is one edge.
-/
import Derived.Test.YtnfogcnlkchdmaaSymL
namespace Go.Proofs.Ytnfogcnlkchdmaa
open Go Go.RowKit
attribute [local go_sem] Heavy heavyUpon

/-- What the search keeps of its two bounds. -/
def SrR (X : List E3) (y : E3) (a m i j : Nat) : Prop := (i = a ∨ ltE y (X.getD (i - a - 1) ez) = false) ∧ (m ≤ j ∨ ltE y (X.getD (j - a) ez) = true)

set_option maxRecDepth 100000 in
set_option maxHeartbeats 6400000 in
theorem symm_right (P X Q : List E3) (y : E3) (g L c a m b : Nat) (w : World) (hH : Hd w g (P ++ X ++ [y] ++ Q)) (hL : (P ++ X ++ [y] ++ Q).length = L) (ha : P.length = a) (hm : m = a + X.length) (hb : b = m + 1)
    (hX : 2 ≤ X.length) (hs : X.Pairwise leE) (hmm : L ≤ 10000) :
    Calls Try.prog 23 #[.slice (some ⟨g, 0, none⟩) L c, .int .i64 a, .int .i64 m, .int .i64 b, cmpF] w fun e w' => e = .returned (.tuple #[]) ∧ Hd w' g (P ++ sortE (X ++ [y]) ++ Q) ∧ Below g w w' := by
  have hbL : b ≤ L := by simp only [List.length_append, List.length_cons, List.length_nil] at hL; omega
  have hmL : m < L := by omega
  have d0 : ((m : Int) - (a : Int) == 1) = false := by rw [beq_eq_false_iff_ne]; omega
  have d1 : (b : Int) - (m : Int) = 1 := by omega
  have HX := hide (And.intro ha (And.intro hm (And.intro hb hL)))
  have ham : a ≤ m := by omega
  have HG := hide (show (P ++ X ++ [y] ++ Q)[m]? = some y by rw [List.append_assoc]; exact get_mid (by simp; omega))
  have HGX := hide (show ∀ h, a ≤ h → h < m → (P ++ X ++ [y] ++ Q)[h]? = some (X.getD (h - a) ez) from fun h h0 h1 => by
    have := @get_in P X ([y] ++ Q) h (by omega) (by omega)
    rw [ha] at this
    rwa [← List.append_assoc] at this)
  have HST : Hid (∀ W, Hd W g (P ++ X ++ [y] ++ Q) → Hd W g (P ++ X.take (m - a) ++ y :: (X.drop (m - a) ++ Q))) := fun W h => by
    have e : P ++ X ++ [y] ++ Q = P ++ X.take (m - a) ++ y :: (X.drop (m - a) ++ Q) := by
      rw [List.take_of_length_le (by omega), List.drop_eq_nil_of_le (by omega)]; simp
    rwa [e] at h
  have HEND : Hid (∀ W i, Hd W g (P ++ X.take (i - a) ++ y :: (X.drop (i - a) ++ Q)) → a ≤ i → i ≤ m → SrR X y a m i i → Hd W g (P ++ sortE (X ++ [y]) ++ Q)) := fun W i h h0 h1 ⟨s1, s2⟩ => by
    rw [ins_right (c := i - a) hs (by omega) (by rcases s1 with s1 | s1; exact .inl (by omega); exact .inr s1) (by rcases s2 with s2 | s2; exact .inl (by omega); exact .inr s2)]
    simpa using h
  have HD := hide hH
  generalize hDD : P ++ X ++ [y] ++ Q = D at *
  clear hs hH hL hm hb ha hDD hX
  unfold cmpF
  obtain ⟨y0, y1, y2⟩ := y
  go_enter Try.func23, Try.ntmps23
  go_wp2_with (fail)
  go_loopw [14, 15] (fun u v wr => ∃ i j : Nat, u = .int .i64 i ∧ v = .int .i64 j ∧ a ≤ i ∧ i ≤ j ∧ j ≤ m ∧ Hid (Hd wr g D) ∧ Below g w wr ∧ Hid (SrR X (y0, y1, y2) a m i j)) (fun u v _ => (intOf v).toNat - (intOf u).toNat)
  case atStart => exact ⟨a, m, rfl, rfl, Nat.le_refl _, ham, Nat.le_refl _, HD, Below.refl _ _, hide ⟨.inl rfl, .inl (Nat.le_refl _)⟩⟩
  case round =>
    obtain ⟨i, j, rfl, rfl, hai, hij, hjm, HH, hbr, HSR⟩ := hrel
    by_cases hlt : i < j
    · obtain ⟨h, hh⟩ : ∃ h, h = (i + j) / 2 := ⟨_, rfl⟩
      have hhi : i ≤ h := by omega
      have hhj : h < j := by omega
      have hhL : h < L := by omega
      have hmid : ((i : Int) + (j : Int)) / 2 = (h : Int) := by omega
      have hgl : g < wr.heap.size := HH.out.lt
      obtain ⟨c0, c1, c2, _, _, _⟩ := HH.out.got HG.out
      obtain ⟨x, hx⟩ : ∃ x, X.getD (h - a) ez = x := ⟨_, rfl⟩
      have gx := HGX.out h (by omega) (by omega)
      rw [hx] at gx
      obtain ⟨x0, x1, x2⟩ := x
      obtain ⟨e0, e1, e2, _, _, _⟩ := HH.out.got gx
      have HY := hide hx
      have HHH := hide hh
      clear gx hx hh
      cases hl : ltE (y0, y1, y2) (x0, x1, x2)
      · obtain ⟨v, hv0, hv1, ql⟩ := cmp_ge y0 y1 y2 x0 x1 x2 hl
        have hv2 : ¬ v < 0 := by omega
        have HN : Hid (SrR X (y0, y1, y2) a m (h + 1) j) := ⟨.inr (by rw [show h + 1 - a - 1 = h - a by omega, HY.out]; exact hl), HSR.out.2⟩
        clear hl HSR
        go_wp2_with (fail)
        refine wp_region_lexD [9] (fun w' => Below (wr).heap.size (wr) w') (by kernel_rfl) (by kernel_rfl) (Below.refl _ _).drew ?_
        (repeat ((with_reducible refine wpLex_step (fun K hK => ?_)); go_simp; first | ((with_reducible refine hK _ _ ?_); clear hK K) | ((with_reducible apply Exists.intro); refine ⟨fun w' hw' => ?_, hK _ _ ?_⟩; (· (have hq := bcells hw'; apply valEq; (· (go_simp; first | done | (with_reducible rfl))); (· ((try go_bits); with_reducible rfl)))); clear hK K)))
        ((with_reducible refine wpLex_step (fun K hK => ?_)); go_simp; refine (ql _).mono ?_; rintro e w3 ⟨rfl, hbx⟩; have g3 := ((Below.refl wr.heap.size wr).drew).trans (hbx.mono ((Below.refl wr.heap.size wr).drew).size); refine ⟨_, rfl, g3, hK _ _ ?_⟩; clear hK K hbx)
        (repeat ((with_reducible refine wpLex_step (fun K hK => ?_)); go_simp; first | ((with_reducible refine hK _ _ ?_); clear hK K) | ((with_reducible apply Exists.intro); refine ⟨fun w' hw' => ?_, hK _ _ ?_⟩; (· (have hq := bcells hw'; apply valEq; (· (go_simp; first | done | (with_reducible rfl))); (· ((try go_bits); with_reducible rfl)))); clear hK K)))
        refine wpLex_nil (fun _ => ?_)
        have H3 := hide (HH.out.below g3 hgl)
        have b3 := hbr.trans (g3.mono (Nat.le_of_lt hgl))
        clear c0 c1 c2 e0 e1 e2 g3 ql hgl hbr
        go_wp2_with (fail)
        all_goals first | exact ⟨⟨h + 1, j, by first | rfl | go_num, rfl, by omega, by omega, hjm, H3, b3, HN⟩, by simp [intOf]; omega⟩ | (exfalso; rename_i hx; simp at hx; omega)
      · have ql := cmp_lt y0 y1 y2 x0 x1 x2 hl
        have HN : Hid (SrR X (y0, y1, y2) a m i h) := ⟨HSR.out.1, .inr (by rw [HY.out]; exact hl)⟩
        clear hl HSR
        go_wp2_with (fail)
        refine wp_region_lexD [9] (fun w' => Below (wr).heap.size (wr) w') (by kernel_rfl) (by kernel_rfl) (Below.refl _ _).drew ?_
        (repeat ((with_reducible refine wpLex_step (fun K hK => ?_)); go_simp; first | ((with_reducible refine hK _ _ ?_); clear hK K) | ((with_reducible apply Exists.intro); refine ⟨fun w' hw' => ?_, hK _ _ ?_⟩; (· (have hq := bcells hw'; apply valEq; (· (go_simp; first | done | (with_reducible rfl))); (· ((try go_bits); with_reducible rfl)))); clear hK K)))
        ((with_reducible refine wpLex_step (fun K hK => ?_)); go_simp; refine (ql _).mono ?_; rintro e w3 ⟨rfl, hbx⟩; have g3 := ((Below.refl wr.heap.size wr).drew).trans (hbx.mono ((Below.refl wr.heap.size wr).drew).size); refine ⟨_, rfl, g3, hK _ _ ?_⟩; clear hK K hbx)
        (repeat ((with_reducible refine wpLex_step (fun K hK => ?_)); go_simp; first | ((with_reducible refine hK _ _ ?_); clear hK K) | ((with_reducible apply Exists.intro); refine ⟨fun w' hw' => ?_, hK _ _ ?_⟩; (· (have hq := bcells hw'; apply valEq; (· (go_simp; first | done | (with_reducible rfl))); (· ((try go_bits); with_reducible rfl)))); clear hK K)))
        refine wpLex_nil (fun _ => ?_)
        have H3 := hide (HH.out.below g3 hgl)
        have b3 := hbr.trans (g3.mono (Nat.le_of_lt hgl))
        clear c0 c1 c2 e0 e1 e2 g3 ql hgl hbr
        go_wp2_with (fail)
        exact ⟨⟨i, h, rfl, by first | rfl | (congr 1; omega), hai, hhi, by omega, H3, b3, HN⟩, by simp [intOf]; omega⟩
    · obtain rfl : i = j := by omega
      have HQ := hide (HST.out wr HH.out)
      clear HST HH HGX HG
      go_wp2_with (fail)
      go_loopw [17] (fun u wr => ∃ k q : Nat, u = .int .i64 k ∧ k = a + q ∧ i ≤ k ∧ k ≤ m ∧ Hid (Hd wr g (P ++ X.take q ++ (y0, y1, y2) :: (X.drop q ++ Q))) ∧ Below g w wr) (fun u _ => (intOf u).toNat)
      case atStart => exact ⟨m, m - a, rfl, by omega, hjm, Nat.le_refl _, HQ, hbr⟩
      case round =>
        clear HQ hbr
        obtain ⟨k, q, rfl, hkq0, hik, hkm, HK, hbs⟩ := hrel
        have HKQ := hide hkq0
        by_cases hq : i < k
        · obtain ⟨p, rfl⟩ : ∃ p, q = p + 1 := ⟨q - 1, by omega⟩
          obtain ⟨k1, hk1⟩ : ∃ k1, k1 = k - 1 := ⟨_, rfl⟩
          have e1 : (k : Int) - 1 = (k1 : Int) := by omega
          have e3 : k < L := by omega
          have e4 : k1 < L := by omega
          have hqx : p < X.length := by have := HX.out; omega
          have hPa := HX.out.1
          obtain ⟨x, hx⟩ : ∃ x, X.getD p ez = x := ⟨_, rfl⟩
          have gy : (P ++ X.take (p + 1) ++ (y0, y1, y2) :: (X.drop (p + 1) ++ Q))[k]? = some (y0, y1, y2) := get_mid (by simp; omega)
          have gx : (P ++ X.take (p + 1) ++ (y0, y1, y2) :: (X.drop (p + 1) ++ Q))[k1]? = some x := by
            have ht : X.take (p + 1) = X.take p ++ [x] := by
              rw [← hx]; simp only [List.getD, List.getElem?_eq_getElem hqx, Option.getD_some]; exact (List.take_append_getElem hqx).symm
            rw [ht, show P ++ (X.take p ++ [x]) ++ (y0, y1, y2) :: (X.drop (p + 1) ++ Q) = (P ++ X.take p) ++ x :: ((y0, y1, y2) :: (X.drop (p + 1) ++ Q)) by simp]
            exact get_mid (by simp; omega)
          have HSW : Hid (∀ W, Hd W g (P ++ X.take (p + 1) ++ (y0, y1, y2) :: (X.drop (p + 1) ++ Q)) → Hd ((((((W.setCell ⟨g, k * 3, none⟩ (.int .i64 x.1)).setCell ⟨g, k * 3 + 1, none⟩ (.int .i64 x.2.1)).setCell ⟨g, k * 3 + 2, none⟩ (.int .i64 x.2.2)).setCell ⟨g, k1 * 3, none⟩ (.int .i64 y0)).setCell ⟨g, k1 * 3 + 1, none⟩ (.int .i64 y1)).setCell ⟨g, k1 * 3 + 2, none⟩ (.int .i64 y2)) g (P ++ X.take p ++ (y0, y1, y2) :: (X.drop p ++ Q))) := fun W h => by
            have h2 := (h.set k x.1 x.2.1 x.2.2).set k1 y0 y1 y2
            rw [show ((x.1, x.2.1, x.2.2) : E3) = x from rfl, ← hx, hk1, insR_sw (by omega) (by omega), hx, ← hk1] at h2
            exact h2
          obtain ⟨x0, x1, x2⟩ := x
          simp only [] at HSW
          have h3 := HK.out
          obtain ⟨p0, p1, p2, f0, f1, f2⟩ := h3.drew.got gy
          obtain ⟨p0', p1', p2', f0', f1', f2'⟩ := h3.got gy
          obtain ⟨q0, q1, q2, z0, z1, z2⟩ := h3.drew.got gx
          obtain ⟨q0', q1', q2', z0', z1', z2'⟩ := h3.got gx
          have HH2 := hide (HSW.out wr h3).drew
          have HB := hide ((((((hbs.setCell (p := ⟨g, k * 3, none⟩) (Nat.le_refl _) (.int .i64 x0)).setCell (p := ⟨g, k * 3 + 1, none⟩) (Nat.le_refl _) (.int .i64 x1)).setCell (p := ⟨g, k * 3 + 2, none⟩) (Nat.le_refl _) (.int .i64 x2)).setCell (p := ⟨g, k1 * 3, none⟩) (Nat.le_refl _) (.int .i64 y0)).setCell (p := ⟨g, k1 * 3 + 1, none⟩) (Nat.le_refl _) (.int .i64 y1)).setCell (p := ⟨g, k1 * 3 + 2, none⟩) (Nat.le_refl _) (.int .i64 y2)).drew
          have HK1 := hide hk1
          clear h3 hbs HSW HK gx gy hPa hqx hkq0 hx hk1
          go_wp2_with (fail)
          go_big_region
          all_goals go_wp2
          exact ⟨⟨k1, p, rfl, by have := HK1.out; have := HKQ.out; omega, by have := HK1.out; omega, by have := HK1.out; omega, HH2.out, HB.out⟩, by have := HK1.out; simp [intOf]; omega⟩
        · obtain rfl : i = k := by omega
          obtain rfl : q = i - a := by omega
          have HF : Hid (Hd wr g (P ++ sortE (X ++ [(y0, y1, y2)]) ++ Q)) := HEND.out wr i HK.out hai hjm HSR.out
          clear HK HEND hkq0 HKQ
          go_wp2_with (fail)
          ((try simp only [Exit.inBlock, Exit.then]); refine bodyPost_ret (results_none rfl _ _ _) rfl ?_)
          exact ⟨rfl, by simpa using HF.out, hbs⟩
end Go.Proofs.Ytnfogcnlkchdmaa
