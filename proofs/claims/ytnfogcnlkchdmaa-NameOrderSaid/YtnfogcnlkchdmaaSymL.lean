/-
  slices.symMergeCmpFunc at edges walked, where the left part is one edge.
-/
import Derived.Test.YtnfogcnlkchdmaaInsort
import Derived.Test.YtnfogcnlkchdmaaMerge1
namespace Go.Proofs.Ytnfogcnlkchdmaa
open Go Go.RowKit
attribute [local go_sem] Heavy heavyUpon

theorem insR_up {P Y R : List E3} {x : E3} {q k k1 : Nat} (hq : q + 1 ≤ Y.length) (hk : k = P.length + q) (hk1 : k1 = k + 1) :
    ((P ++ Y.take q ++ x :: (Y.drop q ++ R)).set k (Y.getD q ez)).set k1 x = P ++ Y.take (q + 1) ++ x :: (Y.drop (q + 1) ++ R) := by
  have ht : Y.take (q + 1) = Y.take q ++ [Y[q]] := (List.take_append_getElem (by omega)).symm
  have hd : Y.drop q = Y[q] :: Y.drop (q + 1) := List.drop_eq_getElem_cons (by omega)
  have hg : Y.getD q ez = Y[q] := by simp [List.getD, List.getElem?_eq_getElem (show q < Y.length by omega)]
  rw [ht, hd, hg]
  generalize Y[q] = y
  rw [set_mid y (by simp; omega), List.cons_append, show P ++ Y.take q ++ y :: (y :: (Y.drop (q + 1) ++ R)) = (P ++ (Y.take q ++ [y])) ++ y :: (Y.drop (q + 1) ++ R) by simp, set_mid x (by simp; omega)]

theorem get_in {P X Q : List E3} {h : Nat} (h0 : P.length ≤ h) (h1 : h < P.length + X.length) : (P ++ X ++ Q)[h]? = some (X.getD (h - P.length) ez) := by
  rw [List.getElem?_append_left (by rw [List.length_append]; omega), List.getElem?_append_right h0]
  rw [List.getD_eq_getElem?_getD, List.getElem?_eq_getElem (by omega), Option.getD_some]

/-- What the search keeps of its two bounds. -/
def SrL (Y : List E3) (x : E3) (m b i j : Nat) : Prop := (i = m ∨ ltE (Y.getD (i - m - 1) ez) x = true) ∧ (b ≤ j ∨ ltE (Y.getD (j - m) ez) x = false)

set_option maxRecDepth 100000 in
set_option maxHeartbeats 6400000 in
theorem symm_left (P Y Q : List E3) (x : E3) (g L c a m b : Nat) (w : World) (hH : Hd w g (P ++ [x] ++ Y ++ Q)) (hL : (P ++ [x] ++ Y ++ Q).length = L) (ha : P.length = a) (hm : m = a + 1) (hb : b = m + Y.length)
    (hs : Y.Pairwise leE) (hmm : L ≤ 10000) :
    Calls Try.prog 23 #[.slice (some ⟨g, 0, none⟩) L c, .int .i64 a, .int .i64 m, .int .i64 b, cmpF] w fun e w' => e = .returned (.tuple #[]) ∧ Hd w' g (P ++ sortE ([x] ++ Y) ++ Q) ∧ Below g w w' := by
  have hbL : b ≤ L := by simp only [List.length_append, List.length_cons, List.length_nil] at hL; omega
  have haL : a < L := by omega
  have d1 : (m : Int) - (a : Int) = 1 := by omega
  have HX := hide (And.intro ha (And.intro hm (And.intro hb hL)))
  have HS := hide hs
  have HD := hide hH
  have HE := hide (show sortE ([x] ++ Y) = sortE (x :: Y) from rfl)
  have hmb : m ≤ b := by omega
  have ham : a < m := by omega
  have HG := hide (show (P ++ [x] ++ Y ++ Q)[a]? = some x by rw [show P ++ [x] ++ Y ++ Q = P ++ x :: (Y ++ Q) by simp]; exact get_mid ha.symm)
  have HGY := hide (show ∀ h, m ≤ h → h < b → (P ++ [x] ++ Y ++ Q)[h]? = some (Y.getD (h - m) ez) from fun h h0 h1 => by
    have e : (P ++ [x]).length = m := by simp; omega
    have := @get_in (P ++ [x]) Y Q h (by omega) (by omega)
    rwa [e] at this)
  have HST : Hid (∀ W c, Hd W g (P ++ [x] ++ Y ++ Q) → c = 0 → Hd W g (P ++ Y.take c ++ x :: (Y.drop c ++ Q))) := fun W c h hc => by
    subst hc
    have e : P ++ [x] ++ Y ++ Q = P ++ Y.take 0 ++ x :: (Y.drop 0 ++ Q) := by simp
    rwa [e] at h
  have HEND : Hid (∀ W i, Hd W g (P ++ Y.take (i - m) ++ x :: (Y.drop (i - m) ++ Q)) → m ≤ i → i ≤ b → SrL Y x m b i i → Hd W g (P ++ sortE ([x] ++ Y) ++ Q)) := fun W i h h0 h1 ⟨s1, s2⟩ => by
    rw [HE.out, ins_left (c := i - m) hs (by omega) (by rcases s1 with s1 | s1; exact .inl (by omega); exact .inr s1) (by rcases s2 with s2 | s2; exact .inl (by omega); exact .inr s2)]
    simpa using h
  generalize hDD : P ++ [x] ++ Y ++ Q = D at *
  have HDD := hide hDD
  clear hs hH hL hm hb ha hDD
  unfold cmpF
  obtain ⟨x0, x1, x2⟩ := x
  go_enter Try.func23, Try.ntmps23
  go_wp2_with (fail)
  go_loopw [10, 11] (fun u v wr => ∃ i j : Nat, u = .int .i64 i ∧ v = .int .i64 j ∧ m ≤ i ∧ i ≤ j ∧ j ≤ b ∧ Hid (Hd wr g D) ∧ Below g w wr ∧ Hid (SrL Y (x0, x1, x2) m b i j)) (fun u v _ => (intOf v).toNat - (intOf u).toNat)
  case atStart => exact ⟨m, b, rfl, rfl, Nat.le_refl _, hmb, Nat.le_refl _, HD, Below.refl _ _, hide ⟨.inl rfl, .inl (Nat.le_refl _)⟩⟩
  case round =>
    obtain ⟨i, j, rfl, rfl, hmi, hij, hjb, HH, hbr, HSR⟩ := hrel
    by_cases hlt : i < j
    · obtain ⟨h, hh⟩ : ∃ h, h = (i + j) / 2 := ⟨_, rfl⟩
      have hhi : i ≤ h := by omega
      have hhj : h < j := by omega
      have hhL : h < L := by omega
      have hmid : ((i : Int) + (j : Int)) / 2 = (h : Int) := by omega
      have hgl : g < wr.heap.size := HH.out.lt
      obtain ⟨c0, c1, c2, _, _, _⟩ := HH.out.got HG.out
      obtain ⟨y, hy⟩ : ∃ y, Y.getD (h - m) ez = y := ⟨_, rfl⟩
      have gy := HGY.out h (by omega) (by omega)
      rw [hy] at gy
      obtain ⟨y0, y1, y2⟩ := y
      obtain ⟨e0, e1, e2, _, _, _⟩ := HH.out.got gy
      have HY := hide hy
      have HHH := hide hh
      clear gy hy hh
      cases hl : ltE (y0, y1, y2) (x0, x1, x2)
      · obtain ⟨v, hv0, hv1, ql⟩ := cmp_ge y0 y1 y2 x0 x1 x2 hl
        have hv2 : ¬ v < 0 := by omega
        have HN : Hid (SrL Y (x0, x1, x2) m b i h) := ⟨HSR.out.1, .inr (by rw [HY.out]; exact hl)⟩
        clear hl HSR
        go_wp2_with (fail)
        refine wp_region_lexD [9] (fun w' => Below (wr).heap.size (wr) w') (by kernel_rfl) (by kernel_rfl) (Below.refl _ _).drew ?_
        (repeat ((with_reducible refine wpLex_step (fun K hK => ?_)); go_simp; first | ((with_reducible refine hK _ _ ?_); clear hK K) | ((with_reducible apply Exists.intro); refine ⟨fun w' hw' => ?_, hK _ _ ?_⟩; (· (have hq := bcells hw'; apply valEq; (· (go_simp; first | done | (with_reducible rfl))); (· ((try go_bits); with_reducible rfl)))); clear hK K)))
        ((with_reducible refine wpLex_step (fun K hK => ?_)); go_simp; refine (ql _).mono ?_; rintro e w3 ⟨rfl, hbx⟩; have g3 := ((Below.refl wr.heap.size wr).drew).trans (hbx.mono ((Below.refl wr.heap.size wr).drew).size); refine ⟨_, rfl, g3, hK _ _ ?_⟩; clear hK K hbx)
        (repeat ((with_reducible refine wpLex_step (fun K hK => ?_)); go_simp; first | ((with_reducible refine hK _ _ ?_); clear hK K) | ((with_reducible apply Exists.intro); refine ⟨fun w' hw' => ?_, hK _ _ ?_⟩; (· (have hq := bcells hw'; apply valEq; (· (go_simp; first | done | (with_reducible rfl))); (· ((try go_bits); with_reducible rfl)))); clear hK K)))
        refine wpLex_nil (fun _ => ?_)
        have H3 := hide (HH.out.below g3 hgl)
        have b3 := hbr.trans (g3.mono (Nat.le_of_lt hgl))
        clear c0 c1 c2 e0 e1 e2 g3 ql hgl hbr
        go_wp2_with (fail)
        exact ⟨⟨i, h, rfl, by first | rfl | (congr 1; omega), hmi, hhi, by omega, H3, b3, HN⟩, by simp [intOf]; omega⟩
      · have ql := cmp_lt y0 y1 y2 x0 x1 x2 hl
        have HN : Hid (SrL Y (x0, x1, x2) m b (h + 1) j) := ⟨.inr (by rw [show h + 1 - m - 1 = h - m by omega, HY.out]; exact hl), HSR.out.2⟩
        clear hl HSR
        go_wp2_with (fail)
        refine wp_region_lexD [9] (fun w' => Below (wr).heap.size (wr) w') (by kernel_rfl) (by kernel_rfl) (Below.refl _ _).drew ?_
        (repeat ((with_reducible refine wpLex_step (fun K hK => ?_)); go_simp; first | ((with_reducible refine hK _ _ ?_); clear hK K) | ((with_reducible apply Exists.intro); refine ⟨fun w' hw' => ?_, hK _ _ ?_⟩; (· (have hq := bcells hw'; apply valEq; (· (go_simp; first | done | (with_reducible rfl))); (· ((try go_bits); with_reducible rfl)))); clear hK K)))
        ((with_reducible refine wpLex_step (fun K hK => ?_)); go_simp; refine (ql _).mono ?_; rintro e w3 ⟨rfl, hbx⟩; have g3 := ((Below.refl wr.heap.size wr).drew).trans (hbx.mono ((Below.refl wr.heap.size wr).drew).size); refine ⟨_, rfl, g3, hK _ _ ?_⟩; clear hK K hbx)
        (repeat ((with_reducible refine wpLex_step (fun K hK => ?_)); go_simp; first | ((with_reducible refine hK _ _ ?_); clear hK K) | ((with_reducible apply Exists.intro); refine ⟨fun w' hw' => ?_, hK _ _ ?_⟩; (· (have hq := bcells hw'; apply valEq; (· (go_simp; first | done | (with_reducible rfl))); (· ((try go_bits); with_reducible rfl)))); clear hK K)))
        refine wpLex_nil (fun _ => ?_)
        have H3 := hide (HH.out.below g3 hgl)
        have b3 := hbr.trans (g3.mono (Nat.le_of_lt hgl))
        clear c0 c1 c2 e0 e1 e2 g3 ql hgl hbr
        go_wp2_with (fail)
        exact ⟨⟨h + 1, j, by first | rfl | go_num, rfl, by omega, by omega, hjb, H3, b3, HN⟩, by simp [intOf]; omega⟩
    · obtain rfl : i = j := by omega
      have HQ : Hid (Hd wr g (P ++ Y.take 0 ++ (x0, x1, x2) :: (Y.drop 0 ++ Q))) := HST.out wr 0 HH.out rfl
      have hic : Hid (i - m ≤ Y.length) := by have := HX.out; show _ ≤ _; omega
      clear HST HH HGY HG
      go_wp2_with (fail)
      go_loopw [13] (fun u wr => ∃ k q : Nat, u = .int .i64 k ∧ k = a + q ∧ q ≤ i - m ∧ Hid (Hd wr g (P ++ Y.take q ++ (x0, x1, x2) :: (Y.drop q ++ Q))) ∧ Below g w wr) (fun u _ => i - (intOf u).toNat)
      case atStart => exact ⟨a, 0, rfl, by omega, Nat.zero_le _, HQ, hbr⟩
      case round =>
        clear HQ hbr
        obtain ⟨k, q, rfl, hkq0, hqi, HK, hbs⟩ := hrel
        have HKQ := hide hkq0
        by_cases hq : q < i - m
        · obtain ⟨k1, hk1⟩ : ∃ k1, k1 = k + 1 := ⟨_, rfl⟩
          have e1 : (k : Int) + 1 = (k1 : Int) := by omega
          have e2 : (k : Int) < (i : Int) - 1 := by omega
          have e3 : k < L := by omega
          have e4 : k1 < L := by omega
          have hqy : q < Y.length := by have := hic.out; omega
          have hPa := HX.out.1
          obtain ⟨y, hy⟩ : ∃ y, Y.getD q ez = y := ⟨_, rfl⟩
          have gx : (P ++ Y.take q ++ (x0, x1, x2) :: (Y.drop q ++ Q))[k]? = some (x0, x1, x2) := get_mid (by simp; omega)
          have gy : (P ++ Y.take q ++ (x0, x1, x2) :: (Y.drop q ++ Q))[k1]? = some y := by
            have hd : Y.drop q = y :: Y.drop (q + 1) := by
              rw [← hy, List.drop_eq_getElem_cons hqy]; simp [List.getD, List.getElem?_eq_getElem hqy]
            rw [hd, show P ++ Y.take q ++ (x0, x1, x2) :: (y :: Y.drop (q + 1) ++ Q) = (P ++ Y.take q ++ [(x0, x1, x2)]) ++ y :: (Y.drop (q + 1) ++ Q) by simp]
            exact get_mid (by simp; omega)
          have HSW : Hid (∀ W, Hd W g (P ++ Y.take q ++ (x0, x1, x2) :: (Y.drop q ++ Q)) → Hd ((((((W.setCell ⟨g, k * 3, none⟩ (.int .i64 y.1)).setCell ⟨g, k * 3 + 1, none⟩ (.int .i64 y.2.1)).setCell ⟨g, k * 3 + 2, none⟩ (.int .i64 y.2.2)).setCell ⟨g, k1 * 3, none⟩ (.int .i64 x0)).setCell ⟨g, k1 * 3 + 1, none⟩ (.int .i64 x1)).setCell ⟨g, k1 * 3 + 2, none⟩ (.int .i64 x2)) g (P ++ Y.take (q + 1) ++ (x0, x1, x2) :: (Y.drop (q + 1) ++ Q))) := fun W h => by
            have h2 := (h.set k y.1 y.2.1 y.2.2).set k1 x0 x1 x2
            rw [show ((y.1, y.2.1, y.2.2) : E3) = y from rfl, ← hy, insR_up (by omega) (by omega) hk1, hy] at h2
            exact h2
          obtain ⟨y0, y1, y2⟩ := y
          simp only [] at HSW
          have h3 := HK.out
          obtain ⟨p0, p1, p2, f0, f1, f2⟩ := h3.drew.got gx
          obtain ⟨p0', p1', p2', f0', f1', f2'⟩ := h3.got gx
          obtain ⟨q0, q1, q2, z0, z1, z2⟩ := h3.drew.got gy
          obtain ⟨q0', q1', q2', z0', z1', z2'⟩ := h3.got gy
          have HH2 := hide (HSW.out wr h3).drew
          have HB := hide ((((((hbs.setCell (p := ⟨g, k * 3, none⟩) (Nat.le_refl _) (.int .i64 y0)).setCell (p := ⟨g, k * 3 + 1, none⟩) (Nat.le_refl _) (.int .i64 y1)).setCell (p := ⟨g, k * 3 + 2, none⟩) (Nat.le_refl _) (.int .i64 y2)).setCell (p := ⟨g, k1 * 3, none⟩) (Nat.le_refl _) (.int .i64 x0)).setCell (p := ⟨g, k1 * 3 + 1, none⟩) (Nat.le_refl _) (.int .i64 x1)).setCell (p := ⟨g, k1 * 3 + 2, none⟩) (Nat.le_refl _) (.int .i64 x2)).drew
          clear h3 hbs HSW HK gx gy hPa hqy hkq0
          have HY := hide hy
          have HK1 := hide hk1
          clear hy hk1
          go_wp2_with (fail)
          go_big_region
          all_goals go_wp2
          exact ⟨⟨k1, q + 1, rfl, by have := HK1.out; have := HKQ.out; omega, by omega, HH2.out, HB.out⟩, by have := HK1.out; simp [intOf]; omega⟩
        · obtain rfl : q = i - m := by omega
          have HF : Hid (Hd wr g (P ++ sortE ([(x0, x1, x2)] ++ Y) ++ Q)) := HEND.out wr i HK.out hmi hjb HSR.out
          have e2 : ¬ (k : Int) < (i : Int) - 1 := by omega
          clear HK HEND hkq0
          go_wp2_with (fail)
          ((try simp only [Exit.inBlock, Exit.then]); refine bodyPost_ret (results_none rfl _ _ _) rfl ?_)
          exact ⟨rfl, by simpa using HF.out, hbs⟩
end Go.Proofs.Ytnfogcnlkchdmaa
