/-
  slices.stableCmpFunc at edges, slices.SortStableFunc, and name.Sort, of any number of edges, walked.
-/
import Derived.Test.YtnfogcnlkchdmaaSymW
import Derived.Test.YtnfogcnlkchdmaaSortS
namespace Go.Proofs.Ytnfogcnlkchdmaa
open Go Go.RowKit
attribute [local go_sem] Heavy heavyUpon

/-- Each k in a row sorted. -/
def chS (k : Nat) (l : List E3) : List E3 := if h : 0 < k ∧ k < l.length then sortE (l.take k) ++ chS k (l.drop k) else sortE l
termination_by l.length
decreasing_by rw [List.length_drop]; omega
theorem chS_short {k : Nat} {l : List E3} (h : l.length ≤ k) : chS k l = sortE l := by
  rw [chS, dif_neg (by omega)]
theorem chS_app {k : Nat} {A B : List E3} (h0 : 0 < k) (h : A.length = k) : chS k (A ++ B) = sortE A ++ chS k B := by
  rcases B with _ | ⟨b, B⟩
  · rw [List.append_nil, chS_short (by omega), chS_short (l := []) (by simp)]
    show sortE A = sortE A ++ []
    simp
  · rw [chS, dif_pos ⟨h0, by simp; omega⟩]
    subst h
    simp
theorem chS_len (k : Nat) (l : List E3) : (chS k l).length = l.length := by
  have H : ∀ n (l : List E3), l.length = n → (chS k l).length = l.length := by
    intro n
    induction n using Nat.strongRecOn with
    | ind n ih =>
      intro l hl
      rw [chS]
      by_cases h : 0 < k ∧ k < l.length
      · rw [dif_pos h, List.length_append, sortE_len, ih (l.drop k).length (by rw [List.length_drop]; omega) _ rfl, List.length_take, List.length_drop]; omega
      · rw [dif_neg h, sortE_len]
  exact H _ l rfl

def St1 (W : World) (g : Nat) (l : List E3) (a : Nat) : Prop := ∃ A B Z : List E3, l = A ++ B ∧ A.length = a ∧ Z.length = a ∧ Hd W g (Z ++ B) ∧ ∀ B', chS 20 (A ++ B') = Z ++ chS 20 B'
theorem St1.step {W : World} {g n c a : Nat} {l : List E3} (h : St1 W g l a) (hn : l.length = n) (ha : a + 20 ≤ n) (hmm : n ≤ 10000) :
    Calls Try.prog 22 #[.slice (some ⟨g, 0, none⟩) n c, .int .i64 a, .int .i64 (a + 20 : Nat), cmpF] W fun e w' => e = .returned (.tuple #[]) ∧ St1 w' g l (a + 20) ∧ Below g W w' := by
  obtain ⟨A, B, Z, rfl, h1, h2, h3, h4⟩ := h
  rw [List.length_append] at hn
  have hB : B = B.take 20 ++ B.drop 20 := (List.take_append_drop _ _).symm
  have hl : (B.take 20).length = 20 := by rw [List.length_take]; omega
  have hd : (B.drop 20).length = n - a - 20 := by rw [List.length_drop]; omega
  generalize B.take 20 = B1 at *
  generalize B.drop 20 = B2 at *
  subst hB
  have := insort_any Z B1 B2 g n c a (a + 20) W (by simpa using h3) (by simp only [List.length_append]; omega) h2 (by omega) hmm
  refine this.mono fun e w' ⟨he, hh, hb⟩ => ⟨he, ⟨A ++ B1, B2, Z ++ sortE B1, by simp, by simp [h1, hl], by rw [List.length_append, sortE_len, h2, hl], hh, fun B' => ?_⟩, hb⟩
  rw [List.append_assoc, h4, chS_app (by omega) hl, List.append_assoc]
theorem St1.fin {W : World} {g n c a : Nat} {l : List E3} (h : St1 W g l a) (hn : l.length = n) (ha : n < a + 20) (han : a ≤ n) (hmm : n ≤ 10000) :
    Calls Try.prog 22 #[.slice (some ⟨g, 0, none⟩) n c, .int .i64 a, .int .i64 n, cmpF] W fun e w' => e = .returned (.tuple #[]) ∧ Hd w' g (chS 20 l) ∧ Below g W w' := by
  obtain ⟨A, B, Z, rfl, h1, h2, h3, h4⟩ := h
  rw [List.length_append] at hn
  have := insort_any Z B [] g n c a n W (by simpa using h3) (by simp only [List.length_append, List.length_nil]; omega) h2 (by omega) hmm
  refine this.mono fun e w' ⟨he, hh, hb⟩ => ⟨he, ?_, hb⟩
  rw [h4, chS_short (by omega)]
  simpa using hh

def St2 (W : World) (g : Nat) (l : List E3) (bs a : Nat) : Prop := ∃ A B Z : List E3, l = A ++ B ∧ A.length = a ∧ Z.length = a ∧ Hd W g (Z ++ chS bs B) ∧ ∀ B', chS (2 * bs) (A ++ B') = Z ++ chS (2 * bs) B'
theorem St2.step {W : World} {g n c bs a : Nat} {l : List E3} (h : St2 W g l bs a) (h0 : 0 < bs) (hn : l.length = n) (ha : a + 2 * bs ≤ n) (hmm : n ≤ 10000) :
    Calls Try.prog 23 #[.slice (some ⟨g, 0, none⟩) n c, .int .i64 a, .int .i64 (a + bs : Nat), .int .i64 (a + 2 * bs : Nat), cmpF] W fun e w' => e = .returned (.tuple #[]) ∧ St2 w' g l bs (a + 2 * bs) ∧ Below g W w' := by
  obtain ⟨A, B, Z, rfl, h1, h2, h3, h4⟩ := h
  rw [List.length_append] at hn
  obtain ⟨B1, B2, B3, rfl, l1, l2⟩ : ∃ B1 B2 B3, B = B1 ++ (B2 ++ B3) ∧ B1.length = bs ∧ B2.length = bs :=
    ⟨B.take bs, (B.drop bs).take bs, (B.drop bs).drop bs, by rw [List.take_append_drop, List.take_append_drop], by rw [List.length_take]; omega, by rw [List.length_take, List.length_drop]; omega⟩
  rw [List.length_append, List.length_append] at hn
  have e3 : chS bs (B1 ++ (B2 ++ B3)) = sortE B1 ++ (sortE B2 ++ chS bs B3) := by rw [chS_app h0 l1, chS_app h0 l2]
  rw [e3] at h3
  have := symm_any g n c hmm (2 * bs + 1) Z (sortE B1) (sortE B2) (chS bs B3) a (a + bs) (a + 2 * bs) W (by simpa using h3) (by simp only [List.length_append, sortE_len, chS_len]; omega) h2 (by rw [sortE_len]; omega) (by rw [sortE_len]; omega)
    (by rw [sortE_len]; omega) (by rw [sortE_len]; omega) (sortE_sorted _) (sortE_sorted _) (by rw [sortE_len, sortE_len]; omega)
  refine this.mono fun e w' ⟨he, hh, hb⟩ => ⟨he, ⟨A ++ (B1 ++ B2), B3, Z ++ sortE (B1 ++ B2), by simp, by simp; omega, by rw [List.length_append, sortE_len, List.length_append]; omega, ?_, fun B' => ?_⟩, hb⟩
  · rw [sortE_two] at hh; exact hh
  · rw [List.append_assoc, h4, chS_app (by omega) (by rw [List.length_append]; omega), List.append_assoc]
theorem St2.fin {W : World} {g n c bs a : Nat} {l : List E3} (h : St2 W g l bs a) (h0 : 0 < bs) (hn : l.length = n) (ha : n < a + 2 * bs) (hm : a + bs < n) (hmm : n ≤ 10000) :
    Calls Try.prog 23 #[.slice (some ⟨g, 0, none⟩) n c, .int .i64 a, .int .i64 (a + bs : Nat), .int .i64 n, cmpF] W fun e w' => e = .returned (.tuple #[]) ∧ Hd w' g (chS (2 * bs) l) ∧ Below g W w' := by
  obtain ⟨A, B, Z, rfl, h1, h2, h3, h4⟩ := h
  rw [List.length_append] at hn
  obtain ⟨B1, B2, rfl, l1⟩ : ∃ B1 B2, B = B1 ++ B2 ∧ B1.length = bs := ⟨B.take bs, B.drop bs, by rw [List.take_append_drop], by rw [List.length_take]; omega⟩
  rw [List.length_append] at hn
  have e3 : chS bs (B1 ++ B2) = sortE B1 ++ sortE B2 := by rw [chS_app h0 l1, chS_short (by omega)]
  rw [e3] at h3
  have := symm_any g n c hmm (2 * bs + 1) Z (sortE B1) (sortE B2) [] a (a + bs) n W (by simpa using h3) (by simp only [List.length_append, sortE_len, List.length_nil]; omega) h2 (by rw [sortE_len]; omega) (by rw [sortE_len]; omega)
    (by rw [sortE_len]; omega) (by rw [sortE_len]; omega) (sortE_sorted _) (sortE_sorted _) (by rw [sortE_len, sortE_len]; omega)
  refine this.mono fun e w' ⟨he, hh, hb⟩ => ⟨he, ?_, hb⟩
  rw [h4, chS_short (l := B1 ++ B2) (by rw [List.length_append]; omega)]
  rw [sortE_two] at hh
  simpa using hh
theorem St2.done {W : World} {g n bs a : Nat} {l : List E3} (h : St2 W g l bs a) (hn : l.length = n) (hm : n ≤ a + bs) : Hd W g (chS (2 * bs) l) := by
  obtain ⟨A, B, Z, rfl, h1, h2, h3, h4⟩ := h
  rw [List.length_append] at hn
  rw [chS_short (l := B) (by omega)] at h3
  rw [h4, chS_short (l := B) (by omega)]
  exact h3

set_option maxHeartbeats 3200000 in
theorem stable_any (l : List E3) (g m c : Nat) (w : World) (hH : Hd w g l) (hm : l.length = m) (hmm : m ≤ 10000) :
    Calls Try.prog 21 #[.slice (some ⟨g, 0, none⟩) m c, .int .i64 m, cmpF] w fun e w' => e = .returned (.tuple #[]) ∧ Hd w' g (sortE l) ∧ Below g w w' := by
  have HM := hide hm
  have Q1 := hide (fun W a (h : St1 W g l a) h2 => h.step (c := c) hm h2 hmm)
  have Q2 := hide (fun W a (h : St1 W g l a) h2 h3 => h.fin (c := c) hm h2 h3 hmm)
  have Q3 := hide (fun W bs a (h : St2 W g l bs a) h0 h2 => h.step (c := c) h0 hm h2 hmm)
  have Q4 := hide (fun W bs a (h : St2 W g l bs a) h0 h2 h3 => h.fin (c := c) h0 hm h2 h3 hmm)
  have H0 : Hid (St1 w g l 0) := ⟨[], l, [], rfl, rfl, rfl, hH, fun _ => rfl⟩
  clear hm hH
  unfold cmpF at *
  go_enter Try.func21, Try.ntmps21
  go_wp2_with (fail)
  go_loopw [7, 8] (fun u v wr => ∃ a b : Nat, u = .int .i64 a ∧ v = .int .i64 b ∧ a ≤ m ∧ Hid (b = a + 20) ∧ Hid (St1 wr g l a) ∧ Below g w wr) (fun u v _ => m + 20 - (intOf v).toNat)
  case atStart => exact ⟨0, 20, rfl, rfl, Nat.zero_le _, hide rfl, H0, Below.refl _ _⟩
  case round =>
    clear H0
    obtain ⟨a, b, rfl, rfl, ham, HB, HS, hbr⟩ := hrel
    by_cases hlt : b ≤ m
    · have Q := Q1.out wr a HS.out (by have := HB.out; omega)
      rw [← HB.out] at Q
      have QC := hide Q
      clear Q
      go_wp2_with (fail)
      refine (QC.out).mono ?_
      rintro e w1 ⟨rfl, h1, b1⟩
      have H1 := hide h1
      have hb1 := hbr.trans b1
      clear h1 b1 HS QC
      go_wp2_with (fail)
      exact ⟨⟨b, b + 20, rfl, by go_num, hlt, hide rfl, H1, hb1⟩, by simp [intOf]; omega⟩
    · have QC := hide (Q2.out wr a HS.out (by have := HB.out; omega) ham)
      go_wp2_with (fail)
      refine (QC.out).mono ?_
      rintro e w1 ⟨rfl, h1, b1⟩
      have H1 := hide h1
      have hb1 := hbr.trans b1
      clear h1 b1 HS QC Q1 Q2 hbr HB
      go_wp2_with (fail)
      go_loopw [6] (fun u wr => ∃ bs : Nat, u = .int .i64 bs ∧ 20 ≤ bs ∧ bs ≤ 20000 ∧ Hid (Hd wr g (chS bs l)) ∧ Below g w wr) (fun u _ => m - (intOf u).toNat)
      case atStart => exact ⟨20, rfl, Nat.le_refl _, by omega, H1, hb1⟩
      case round =>
        clear H1 hb1
        obtain ⟨bs, rfl, h20, hbs, HS, hbr⟩ := hrel
        by_cases hlt : bs < m
        · have H2 : Hid (St2 wr g l bs 0) := ⟨[], l, [], rfl, rfl, rfl, HS.out, fun _ => rfl⟩
          obtain ⟨d, hd⟩ : ∃ d, d = 2 * bs := ⟨_, rfl⟩
          have e1 : (2 : Int) * (bs : Int) = (d : Int) := by omega
          have e2 : (bs : Int) * 2 = (d : Int) := by omega
          have HDD := hide hd
          have d1 : 40 ≤ d := by omega
          have d2 : d ≤ 20000 := by omega
          have d3 : bs < d := by omega
          clear hd HS
          go_wp2_with (fail)
          go_loopw [7, 8] (fun u v wr => ∃ a b : Nat, u = .int .i64 a ∧ v = .int .i64 b ∧ a ≤ m ∧ Hid (b = a + d) ∧ Hid (St2 wr g l bs a) ∧ Below g w wr) (fun u v _ => m + d - (intOf v).toNat)
          case atStart => exact ⟨0, d, rfl, rfl, Nat.zero_le _, hide (by omega), H2, hbr⟩
          case round =>
            clear H2 hbr
            obtain ⟨a, b, rfl, rfl, ham, HB, HS, hbr⟩ := hrel
            obtain ⟨k, hk⟩ : ∃ k, k = a + bs := ⟨_, rfl⟩
            have e3 : (a : Int) + (bs : Int) = (k : Int) := by omega
            by_cases hlt2 : b ≤ m
            · have Q := Q3.out wr bs a HS.out (by omega) (by have := HB.out; have := HDD.out; omega)
              rw [← HDD.out, ← HB.out, ← hk] at Q
              have QC := hide Q
              clear Q hk
              go_wp2_with (fail)
              refine (QC.out).mono ?_
              rintro e w1 ⟨rfl, h1, b1⟩
              have H1 := hide h1
              have hb1 := hbr.trans b1
              clear h1 b1 HS QC
              go_wp2_with (fail)
              exact ⟨⟨b, b + d, rfl, by go_num, hlt2, hide rfl, H1, hb1⟩, by simp [intOf]; omega⟩
            · have HG := hide (show m < a + 2 * bs by have := HB.out; have := HDD.out; omega)
              by_cases hkm : k < m
              · have Q := Q4.out wr bs a HS.out (by omega) HG.out (by omega)
                rw [← hk, ← HDD.out] at Q
                have QC := hide Q
                clear Q hk
                go_wp2_with (fail)
                refine (QC.out).mono ?_
                rintro e w1 ⟨rfl, h1, b1⟩
                have H1 := hide h1
                have hb1 := hbr.trans b1
                clear h1 b1 HS QC
                go_wp2_with (fail)
                exact ⟨⟨d, rfl, by omega, by omega, H1, hb1⟩, by simp [intOf]; omega⟩
              · have h1 := HS.out.done HM.out (by omega)
                rw [← HDD.out] at h1
                have H1 := hide h1
                clear h1 HS hk
                go_wp2_with (fail)
                exact ⟨⟨d, rfl, by omega, by omega, H1, hbr⟩, by simp [intOf]; omega⟩
        · have h1 := HS.out
          rw [chS_short (by have := HM.out; omega)] at h1
          have H1 := hide h1
          clear h1 HS
          go_wp2_with (fail)
          go_end0
          exact ⟨rfl, H1.out, hbr⟩
end Go.Proofs.Ytnfogcnlkchdmaa
