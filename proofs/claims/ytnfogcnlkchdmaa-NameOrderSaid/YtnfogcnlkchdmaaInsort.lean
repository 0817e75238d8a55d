/-
  slices.insertionSortCmpFunc at edges, by name.Sort's comparison, walked.
-/
import Derived.Test.YtnfogcnlkchdmaaSwap
import Derived.Test.YtnfogcnlkchdmaaNCmp
namespace Go.Proofs.Ytnfogcnlkchdmaa
open Go Go.RowKit
attribute [local go_sem] Heavy heavyUpon

/-- The comparison of name.Sort, as a value. -/
def cmpF : Value := .func (.func 20) #[] #[]

theorem cmp_lt (x0 x1 x2 y0 y1 y2 : Int) (h : ltE (x0, x1, x2) (y0, y1, y2) = true) (W : World) :
    Calls Try.prog 20 #[.agg #[.int .i64 x0, .int .i64 x1, .int .i64 x2], .agg #[.int .i64 y0, .int .i64 y1, .int .i64 y2]] W (Ret (.int .i64 (-1)) W) := by
  have := cmp_any x0 x1 x2 y0 y1 y2 W
  unfold cmpE at this
  rwa [if_pos h] at this
theorem cmp_ge (x0 x1 x2 y0 y1 y2 : Int) (h : ltE (x0, x1, x2) (y0, y1, y2) = false) : ∃ v : Int, 0 ≤ v ∧ v ≤ 1 ∧ ∀ W : World,
    Calls Try.prog 20 #[.agg #[.int .i64 x0, .int .i64 x1, .int .i64 x2], .agg #[.int .i64 y0, .int .i64 y1, .int .i64 y2]] W (Ret (.int .i64 v) W) := by
  have e : cmpE (x0, x1, x2) (y0, y1, y2) = if ltE (y0, y1, y2) (x0, x1, x2) = true then 1 else 0 := by
    unfold cmpE; rw [if_neg (by rw [h]; decide)]
  refine ⟨_, ?_, ?_, fun W => cmp_any x0 x1 x2 y0 y1 y2 W⟩
  · rw [e]; split <;> decide
  · rw [e]; split <;> decide

/-- The rows while the one at j goes down: x stands at j. -/
def InsR (W : World) (g a j k m : Nat) (P Y R : List E3) (x : E3) : Prop :=
  ∃ q, j = a + q ∧ q ≤ k ∧ (P ++ Y.take q ++ x :: (Y.drop q ++ R)).length = m ∧ Hd W g (P ++ Y.take q ++ x :: (Y.drop q ++ R)) ∧ backN Y x q = backN Y x k

theorem insR_sw {P Y R : List E3} {x : E3} {q : Nat} (hq : q + 1 ≤ Y.length) {j : Nat} (hj : j = P.length + (q + 1)) :
    ((P ++ Y.take (q + 1) ++ x :: (Y.drop (q + 1) ++ R)).set j (Y.getD q ez)).set (j - 1) x = P ++ Y.take q ++ x :: (Y.drop q ++ R) := by
  have ht : Y.take (q + 1) = Y.take q ++ [Y[q]] := (List.take_append_getElem (by omega)).symm
  have hd : Y.drop q = Y[q] :: Y.drop (q + 1) := List.drop_eq_getElem_cons (by omega)
  have hg : Y.getD q ez = Y[q] := by simp [List.getD, List.getElem?_eq_getElem (show q < Y.length by omega)]
  rw [ht, hd, hg]
  generalize Y[q] = y
  rw [set_mid y (by simp; omega), show P ++ (Y.take q ++ [y]) ++ y :: (Y.drop (q + 1) ++ R) = (P ++ Y.take q) ++ y :: (y :: (Y.drop (q + 1) ++ R)) by simp, set_mid x (by simp; omega)]
  simp

theorem Hd.got {W : World} {g : Nat} {l : List E3} (h : Hd W g l) {k : Nat} {x y z : Int} (hx : l[k]? = some (x, y, z)) :
    W.cell? ⟨g, k * 3, none⟩ = some (.int .i64 x) ∧ W.cell? ⟨g, k * 3 + 1, none⟩ = some (.int .i64 y) ∧ W.cell? ⟨g, k * 3 + 2, none⟩ = some (.int .i64 z) ∧
      W.frozen? ⟨g, k * 3, none⟩ = false ∧ W.frozen? ⟨g, k * 3 + 1, none⟩ = false ∧ W.frozen? ⟨g, k * 3 + 2, none⟩ = false := by
  obtain ⟨hk, e⟩ := List.getElem?_eq_some_iff.1 hx
  exact h.get hk e
theorem get_mid {α : Type} {X Y : List α} {u : α} {i : Nat} (hi : i = X.length) : (X ++ u :: Y)[i]? = some u := by
  subst hi; simp

set_option maxRecDepth 100000 in
set_option maxHeartbeats 6400000 in
theorem insort_any (P S Q : List E3) (g m c a b : Nat) (w : World) (hH : Hd w g (P ++ S ++ Q)) (hm : (P ++ S ++ Q).length = m) (ha : P.length = a) (hb : P.length + S.length = b) (hmm : m ≤ 10000) :
    Calls Try.prog 22 #[.slice (some ⟨g, 0, none⟩) m c, .int .i64 a, .int .i64 b, cmpF] w fun e w' => e = .returned (.tuple #[]) ∧ Hd w' g (P ++ sortE S ++ Q) ∧ Below g w w' := by
  have hbm : b ≤ m := by simp only [List.length_append] at hm; omega
  have HA := hide (And.intro ha (And.intro hb hm))
  have H1 : Hid (Hd w g (P ++ sortE (S.take 1) ++ S.drop 1 ++ Q)) := by
    have : sortE (S.take 1) ++ S.drop 1 = S := by cases S with | nil => rfl | cons y l => rfl
    show Hd _ _ _
    rw [List.append_assoc P, this]; exact hH
  have hab : a ≤ b := by omega
  clear hm ha hb hH
  unfold cmpF
  go_enter Try.func22, Try.ntmps22
  go_wp2_with (fail)
  go_loopw [8] (fun u wr => ∃ i : Nat, u = .int .i64 i ∧ a < i ∧ i ≤ b + 1 ∧ Hid (Hd wr g (P ++ sortE (S.take (i - a)) ++ S.drop (i - a) ++ Q)) ∧ Below g w wr) (fun u _ => b + 1 - (intOf u).toNat)
  case atStart => exact ⟨a + 1, by go_num, by omega, by omega, by rw [Nat.add_sub_cancel_left]; exact H1, Below.refl _ _⟩
  case round =>
    obtain ⟨i, rfl, hai, hib, HH, hbr⟩ := hrel
    by_cases hlt : i < b
    · have hks : i - a < S.length := by have := HA.out; omega
      obtain ⟨k, hk⟩ : ∃ k, k = i - a := ⟨_, rfl⟩
      have HU := hide (sortE_step S hks)
      have hyl : (sortE (S.take (i - a))).length = i - a := by rw [sortE_len, List.length_take]; omega
      have hsd : S.drop (i - a) = S[i - a] :: S.drop (i - a + 1) := List.drop_eq_getElem_cons hks
      obtain ⟨x, hx⟩ : ∃ x, S[i - a] = x := ⟨_, rfl⟩
      rw [hx] at HU hsd
      have HI : Hid (InsR wr g a i k m P (sortE (S.take (i - a))) (S.drop (i - a + 1) ++ Q) x) := by
        refine ⟨k, by omega, Nat.le_refl _, ?_, ?_, rfl⟩
        · rw [List.take_of_length_le (by omega), List.drop_eq_nil_of_le (by omega)]
          have := HA.out.2.2
          simp only [List.length_append, List.length_cons, List.length_nil, List.length_drop] at this ⊢
          rw [hyl]; omega
        · rw [List.take_of_length_le (by omega), List.drop_eq_nil_of_le (by omega)]
          have := HH.out
          rw [hsd] at this
          simpa only [List.append_assoc, List.cons_append, List.append_nil, List.nil_append] using this
      have HN : Hid (∀ W j, InsR W g a j k m P (sortE (S.take (i - a))) (S.drop (i - a + 1) ++ Q) x → (∀ q, j = a + q → q = 0 ∨ ltE x ((sortE (S.take (i - a))).getD (q - 1) ez) = false) → Hd W g (P ++ sortE (S.take (i + 1 - a)) ++ S.drop (i + 1 - a) ++ Q)) := by
        intro W j ⟨q, hj, hq, _, hd, hbk⟩ hs
        have hq2 : backN (sortE (S.take (i - a))) x q = q := by
          rcases hs q hj with h0 | h0
          · subst h0; rfl
          · cases q with
            | zero => rfl
            | succ q =>
              simp only [Nat.add_sub_cancel] at h0
              unfold backN
              rw [if_neg (by rw [h0]; decide)]
        have hp : putS (sortE (S.take (i - a))) x = (sortE (S.take (i - a))).take q ++ x :: (sortE (S.take (i - a))).drop q := by
          unfold putS
          have e : backN (sortE (S.take (i - a))) x k = q := by rw [← hbk, hq2]
          rw [hk] at e
          rw [hyl, e]
        rw [show i + 1 - a = i - a + 1 by omega, HU.out, hp]
        simpa only [List.append_assoc, List.cons_append, List.append_nil, List.nil_append] using hd
      have hyk : Hid ((sortE (S.take (i - a))).length = k) := by show _ = _; omega
      generalize sortE (S.take (i - a)) = Y at *
      generalize S.drop (i - a + 1) ++ Q = R at *
      have hki := hide hk
      clear hx HU hsd hyl HH hks hk
      obtain ⟨x0, x1, x2⟩ := x
      go_wp2_with (fail)
      go_loopw [9] (fun u wr => ∃ j : Nat, u = .int .i64 j ∧ a ≤ j ∧ j ≤ i ∧ Hid (InsR wr g a j k m P Y R (x0, x1, x2)) ∧ Below g w wr) (fun u _ => (intOf u).toNat)
      case atStart => exact ⟨i, rfl, by omega, Nat.le_refl _, HI, hbr⟩
      case round =>
        obtain ⟨j, rfl, haj, hji, HJ, hbz⟩ := hrel
        by_cases hj0 : a < j
        · obtain ⟨q, hjq, hqk, hlen, hh, hbk⟩ := HJ.out
          obtain ⟨p, rfl⟩ : ∃ p, q = p + 1 := ⟨q - 1, by omega⟩
          have hPa := HA.out.1
          have hyk2 := hyk.out
          have hpy : p < Y.length := by omega
          obtain ⟨y, hy⟩ : ∃ y, Y.getD p ez = y := ⟨_, rfl⟩
          have hy2 : Y[p] = y := by rw [← hy]; simp [List.getD, List.getElem?_eq_getElem hpy]
          have gx : (P ++ Y.take (p + 1) ++ (x0, x1, x2) :: (Y.drop (p + 1) ++ R))[j]? = some (x0, x1, x2) := get_mid (by simp; omega)
          have gy : (P ++ Y.take (p + 1) ++ (x0, x1, x2) :: (Y.drop (p + 1) ++ R))[j - 1]? = some y := by
            have e : P ++ Y.take (p + 1) ++ (x0, x1, x2) :: (Y.drop (p + 1) ++ R) = (P ++ Y.take p) ++ y :: ((x0, x1, x2) :: (Y.drop (p + 1) ++ R)) := by
              have ht : Y.take (p + 1) = Y.take p ++ [y] := by rw [← hy2]; exact (List.take_append_getElem hpy).symm
              rw [ht]; simp
            rw [e]; exact get_mid (by simp; omega)
          have HSW := hide (fun W (h : Hd W g (P ++ Y.take (p + 1) ++ (x0, x1, x2) :: (Y.drop (p + 1) ++ R))) => (show Hd _ g (((P ++ Y.take (p + 1) ++ (x0, x1, x2) :: (Y.drop (p + 1) ++ R)).set j (y.1, y.2.1, y.2.2)).set (j - 1) (x0, x1, x2)) from (h.set j y.1 y.2.1 y.2.2).set (j - 1) x0 x1 x2))
          rw [show ((y.1, y.2.1, y.2.2) : E3) = y from rfl, ← hy, insR_sw (by omega) (by omega), hy] at HSW
          have HST : Hid (backN Y (x0, x1, x2) (p + 1) = if ltE (x0, x1, x2) y = true then backN Y (x0, x1, x2) p else p + 1) := by
            show _ = _; rw [← hy]; rfl
          obtain ⟨y0, y1, y2⟩ := y
          simp only [] at HSW
          have hgl : g < wr.heap.size := hh.lt
          obtain ⟨c0, c1, c2, _, _, _⟩ := hh.got gx
          obtain ⟨d0, d1, d2, _, _, _⟩ := hh.got gy
          have i0 : (0 : Int) ≤ (j : Int) - 1 := by omega
          have i0' : (1 : Int) ≤ (j : Int) := by omega
          have i1 : (j : Int) - 1 < (m : Int) := by omega
          have i2 : ((j : Int) - 1).toNat = j - 1 := by omega
          have g0 : (a : Int) < (j : Int) := by omega
          have g1 : (j : Int) < (m : Int) := by omega
          have HG := hide (And.intro gx gy)
          have HD := hide hh
          have HP := hide (And.intro hjq (And.intro hqk (And.intro hlen hbk)))
          have HPY := hide (And.intro hpy hy)
          cases hl : ltE (x0, x1, x2) (y0, y1, y2)
          · obtain ⟨v, hv0, hv1, ql⟩ := cmp_ge x0 x1 x2 y0 y1 y2 hl
            have hv2 : ¬ v < 0 := by omega
            have HO : Hid (∀ W, Hd W g (P ++ Y.take (p + 1) ++ (x0, x1, x2) :: (Y.drop (p + 1) ++ R)) → Hd W g (P ++ sortE (S.take (i + 1 - a)) ++ S.drop (i + 1 - a) ++ Q)) := fun W h =>
              HN.out W j ⟨p + 1, hjq, hqk, hlen, h, hbk⟩ (fun q hq => by
                obtain rfl : q = p + 1 := by omega
                exact Or.inr (by rw [Nat.add_sub_cancel, hy]; exact hl))
            clear hjq hqk hlen hbk hPa hyk2 hpy hy hy2 gx gy HI HST HSW hl hh HJ HN
            go_wp2_with (fail)
            refine wp_region_lexD [14] (fun w' => Below (wr).heap.size (wr) w') (by kernel_rfl) (by kernel_rfl) (Below.refl _ _).drew ?_
            (repeat ((with_reducible refine wpLex_step (fun K hK => ?_)); go_simp; first | ((with_reducible refine hK _ _ ?_); clear hK K) | ((with_reducible apply Exists.intro); refine ⟨fun w' hw' => ?_, hK _ _ ?_⟩; (· (have hq := bcells hw'; apply valEq; (· (go_simp; first | done | (with_reducible rfl))); (· ((try go_bits); with_reducible rfl)))); clear hK K)))
            ((with_reducible refine wpLex_step (fun K hK => ?_)); go_simp; refine (ql _).mono ?_; rintro e w3 ⟨rfl, hbx⟩; have g3 := ((Below.refl wr.heap.size wr).drew).trans (hbx.mono ((Below.refl wr.heap.size wr).drew).size); refine ⟨_, rfl, g3, hK _ _ ?_⟩; clear hK K hbx)
            (repeat ((with_reducible refine wpLex_step (fun K hK => ?_)); go_simp; first | ((with_reducible refine hK _ _ ?_); clear hK K) | ((with_reducible apply Exists.intro); refine ⟨fun w' hw' => ?_, hK _ _ ?_⟩; (· (have hq := bcells hw'; apply valEq; (· (go_simp; first | done | (with_reducible rfl))); (· ((try go_bits); with_reducible rfl)))); clear hK K)))
            refine wpLex_nil (fun _ => ?_)
            have H3 := hide (HO.out _ (HD.out.below g3 hgl))
            have b3 := hbz.trans (g3.mono (Nat.le_of_lt hgl))
            clear c0 c1 c2 d0 d1 d2 g3 ql hgl HD HO hbz hbr
            go_wp2_with (fail)
            exact ⟨⟨i + 1, by go_num, by omega, by omega, H3, b3⟩, by simp [intOf]; omega⟩
          · have ql := cmp_lt x0 x1 x2 y0 y1 y2 hl
            have HB2 : Hid (backN Y (x0, x1, x2) p = backN Y (x0, x1, x2) k) := by
              show _ = _
              rw [← hbk, HST.out, if_pos hl]
            have HLN : Hid ((P ++ Y.take p ++ (x0, x1, x2) :: (Y.drop p ++ R)).length = m) := by
              show _ = _
              rw [← hlen]
              simp only [List.length_append, List.length_cons, List.length_take, List.length_drop]; omega
            clear hjq hqk hlen hbk hPa hyk2 hpy hy hy2 gx gy HI hl hh HJ HST
            go_wp2_with (fail)
            refine wp_region_lexD [14] (fun w' => Below (wr).heap.size (wr) w') (by kernel_rfl) (by kernel_rfl) (Below.refl _ _).drew ?_
            (repeat ((with_reducible refine wpLex_step (fun K hK => ?_)); go_simp; first | ((with_reducible refine hK _ _ ?_); clear hK K) | ((with_reducible apply Exists.intro); refine ⟨fun w' hw' => ?_, hK _ _ ?_⟩; (· (have hq := bcells hw'; apply valEq; (· (go_simp; first | done | (with_reducible rfl))); (· ((try go_bits); with_reducible rfl)))); clear hK K)))
            ((with_reducible refine wpLex_step (fun K hK => ?_)); go_simp; refine (ql _).mono ?_; rintro e w3 ⟨rfl, hbx⟩; have g3 := ((Below.refl wr.heap.size wr).drew).trans (hbx.mono ((Below.refl wr.heap.size wr).drew).size); refine ⟨_, rfl, g3, hK _ _ ?_⟩; clear hK K hbx)
            (repeat ((with_reducible refine wpLex_step (fun K hK => ?_)); go_simp; first | ((with_reducible refine hK _ _ ?_); clear hK K) | ((with_reducible apply Exists.intro); refine ⟨fun w' hw' => ?_, hK _ _ ?_⟩; (· (have hq := bcells hw'; apply valEq; (· (go_simp; first | done | (with_reducible rfl))); (· ((try go_bits); with_reducible rfl)))); clear hK K)))
            refine wpLex_nil (fun _ => ?_)
            have h3 := HD.out.below g3 hgl
            have b3 := hbz.trans (g3.mono (Nat.le_of_lt hgl))
            clear c0 c1 c2 d0 d1 d2 g3 ql hgl HD hbz hbr
            obtain ⟨p0, p1, p2, f0, f1, f2⟩ := h3.drew.got HG.out.1
            obtain ⟨p0', p1', p2', f0', f1', f2'⟩ := h3.got HG.out.1
            obtain ⟨q0, q1, q2, z0, z1, z2⟩ := h3.drew.got HG.out.2
            obtain ⟨q0', q1', q2', z0', z1', z2'⟩ := h3.got HG.out.2
            have HH2 := hide (HSW.out w3 h3).drew
            have HB := hide ((((((b3.setCell (p := ⟨g, j * 3, none⟩) (Nat.le_refl _) (.int .i64 y0)).setCell (p := ⟨g, j * 3 + 1, none⟩) (Nat.le_refl _) (.int .i64 y1)).setCell (p := ⟨g, j * 3 + 2, none⟩) (Nat.le_refl _) (.int .i64 y2)).setCell (p := ⟨g, (j - 1) * 3, none⟩) (Nat.le_refl _) (.int .i64 x0)).setCell (p := ⟨g, (j - 1) * 3 + 1, none⟩) (Nat.le_refl _) (.int .i64 x1)).setCell (p := ⟨g, (j - 1) * 3 + 2, none⟩) (Nat.le_refl _) (.int .i64 x2)).drew
            clear h3 b3 HSW
            go_wp2_with (fail)
            go_big_region
            all_goals go_wp2
            refine ⟨⟨j - 1, by congr 1; omega, by omega, by omega, ⟨p, ?_, ?_, HLN.out, HH2.out, HB2.out⟩, HB.out⟩, by simp [intOf]; omega⟩
            · have := HP.out.1; omega
            · have := HP.out.2.1; omega
        · obtain rfl : j = a := by omega
          have HO : Hid (Hd wr g (P ++ sortE (S.take (i + 1 - j)) ++ S.drop (i + 1 - j) ++ Q)) := HN.out wr j HJ.out (fun q hq => Or.inl (by omega))
          clear HJ HN HI
          go_wp2_with (fail)
          refine wp_region_lexD [14] (fun w' => Below (wr).heap.size (wr) w') (by kernel_rfl) (by kernel_rfl) (Below.refl _ _).drew ?_
          (repeat ((with_reducible refine wpLex_step (fun K hK => ?_)); go_simp; first | ((with_reducible refine hK _ _ ?_); clear hK K) | ((with_reducible apply Exists.intro); refine ⟨fun w' hw' => ?_, hK _ _ ?_⟩; (· (have hq := bcells hw'; apply valEq; (· (go_simp; first | done | (with_reducible rfl))); (· ((try go_bits); with_reducible rfl)))); clear hK K)))
          refine wpLex_nil (fun _ => ?_)
          have H3 := hide HO.out.drew
          have b3 := hbz.drew
          clear HO hbz hbr
          generalize wr.drew = w3 at *
          go_wp2_with (fail)
          exact ⟨⟨i + 1, by go_num, by omega, by omega, H3, b3⟩, by simp [intOf]; omega⟩
    · have HF : Hid (Hd wr g (P ++ sortE S ++ Q)) := by
        have h := HH.out
        have := HA.out
        rw [List.take_of_length_le (by omega), List.drop_eq_nil_of_le (by omega), List.append_nil] at h
        exact h
      clear HH H1
      go_wp2_with (fail)
      go_end0
      exact ⟨rfl, HF.out, hbr⟩
end Go.Proofs.Ytnfogcnlkchdmaa
