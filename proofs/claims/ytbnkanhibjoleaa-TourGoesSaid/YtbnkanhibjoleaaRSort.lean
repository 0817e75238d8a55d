/-
  raftsmanref03.Sort walked.
-/
import Derived.Test.YtbnkanhibjoleaaSort0
import Derived.Test.YtbnkanhibjoleaaE1
import Derived.Test.YtbnkanhibjoleaaSlcE
import Derived.Test.YtbnkanhibjoleaaRLess
import Derived.Test.YtbnkanhibjoleaaLexD
namespace Go.Proofs.Ytbnkanhibjoleaa
open Go Go.RowKit
attribute [local go_sem] Heavy heavyUpon
attribute [local go_sem ↓] esl_hi esl_lo

/-- A slice of another block than the one that is grown. -/
theorem Sl.grown_own {w w' : World} {size : Nat} {A : Option Addr} {n c : Nat} {xs : List Value} {v : Value} (h : Sl w [] size A n c xs) (hg : w.grownBy w' v.ownBlock) (hne : ∀ ad, A = some ad → 0 < n → some ad.block ≠ v.ownBlock) : Sl w' [] size A n c xs :=
  ⟨h.len, h.le, h.cap, fun hn => by
    obtain ⟨ad, e, hb, hm, hc⟩ := h.at_ hn
    exact ⟨ad, e, Nat.lt_of_lt_of_le hb hg.size, hm, fun j u hu => (World.cell?_of_block (by rw [block_of_add]; exact hg.block _ hb (hne ad e hn))).trans (hc j u hu)⟩⟩

set_option maxRecDepth 100000 in
set_option maxHeartbeats 6400000 in
theorem sort_any (l : List E3) (A : Option Addr) (m c : Nat) (w : World) (hS : ESl w [] A m c l) (hm : m ≤ 4096) :
    Calls Try.prog 31 #[.slice A m c] w fun e w' => ∃ R d, e = .returned (.slice R m d) ∧ ESl w' [] R m d (sortE l) ∧ Below w.heap.size w w' := by
  have HL := hide hS.length
  obtain ⟨ie, hie, hze, he1, he2⟩ := info_parts edge_info
  go_enter Try.func31, Try.ntmps31
  go_wp2_with (fail)
  go_loopw [3, 4] (fun a i wr => ∃ (k : Nat) (B : Option Addr) (co : Nat), k ≤ m ∧ i = .int .i64 k ∧ a = .slice B k co ∧ Below w.heap.size w wr ∧ ESl wr [] B k co (sortE (l.take k))) (fun _ i _ => m - (intOf i).toNat)
  case atStart => exact ⟨0, none, 0, Nat.zero_le _, rfl, rfl, Below.refl _ _, Sl.nil_ w [] 3⟩
  case round =>
    obtain ⟨k, B, co, hk, rfl, rfl, hbr, SB⟩ := hrel
    by_cases hlt : k < m
    · have hx : k < l.length := by have := HL.out; omega
      have HU := hide (sortE_step l hx)
      have hyl : (sortE (l.take k)).length = k := by rw [sortE_len, List.length_take]; omega
      generalize sortE (l.take k) = Y at *
      obtain ⟨x, hx2⟩ : ∃ x, l[k] = x := ⟨_, rfl⟩
      rw [hx2] at HU
      obtain ⟨x0, x1, x2⟩ := x
      have HX2 := hide hx2
      have HYL := hide hyl
      clear hx2 hyl
      obtain ⟨WL, rfl⟩ : ∃ W : World, W = wr := ⟨_, rfl⟩
      go_wp2_with (fail)
      go_loopw [5] (fun a wr => ∃ j : Nat, j ≤ k ∧ a = .int .i64 j ∧ Below WL.heap.size WL wr ∧ Hid (backN Y (x0, x1, x2) j = backN Y (x0, x1, x2) Y.length)) (fun a _ => (intOf a).toNat)
      case atStart => exact ⟨k, Nat.le_refl _, rfl, Below.refl _ _, hide (by rw [HYL.out])⟩
      case round =>
        obtain ⟨j, hj, rfl, hbj, HJ⟩ := hrel
        have hbz := hbr.trans (hbj.mono hbr.size)
        have Sz : ESl wr [] A m c l := hS.below hbz
        have SBz : ESl wr [] B k co Y := SB.below hbj
        by_cases hj0 : 0 < j
        · have hjl : j - 1 < Y.length := by have := HYL.out; omega
          obtain ⟨ad, hA, had, _, c0, c1, c2⟩ := Sz.get hx
          subst hA
          obtain ⟨bd, hB, hbd, _, d0, d1, d2⟩ := SBz.get hjl
          subst hB
          have hwk : (ad.add (k * 3)).block < wr.heap.size := by rw [block_of_add]; exact had
          have hwj : (bd.add ((j - 1) * 3)).block < wr.heap.size := by rw [block_of_add]; exact hbd
          rw [HX2.out] at c0 c1 c2
          simp only [] at c0 c1 c2
          have HST := hide (show backN Y (x0, x1, x2) j = if ltE (x0, x1, x2) Y[j - 1] = true then backN Y (x0, x1, x2) (j - 1) else j by
            obtain ⟨i, rfl⟩ : ∃ i, j = i + 1 := ⟨j - 1, by omega⟩
            have hil : i < Y.length := by simpa using hjl
            show (if ltE (x0, x1, x2) (Y.getD i ez) = true then _ else _) = _
            rw [show Y.getD i ez = Y[i] by simp [List.getD, List.getElem?_eq_getElem hil]]; rfl)
          generalize Y[j - 1] = y at *
          obtain ⟨y0, y1, y2⟩ := y
          simp only [] at d0 d1 d2
          have i0 : (0 : Int) ≤ (j : Int) - 1 := by omega
          have i0' : (1 : Int) ≤ (j : Int) := by omega
          have i1 : (j : Int) - 1 < (k : Int) := by omega
          have i2 : ((j : Int) - 1).toNat = j - 1 := by omega
          have g0 : (0 : Int) < (j : Int) := by omega
          cases hl : ltE (x0, x1, x2) (y0, y1, y2)
          · have ql : ∀ W, Calls Try.prog 35 #[.agg #[.int .i64 x0, .int .i64 x1, .int .i64 x2], .agg #[.int .i64 y0, .int .i64 y1, .int .i64 y2]] W (Ret (.bool false) W) := fun W => by have := rless_any x0 x1 x2 y0 y1 y2 W; rwa [hl] at this
            have HJ2 := hide (show backN Y (x0, x1, x2) Y.length = j by rw [← HJ.out, HST.out, hl]; rfl)
            clear hl HST HJ
            go_wp2_with (fail)
            refine wp_region_lexD [12] (fun w' => Below (wr).heap.size (wr) w') (by kernel_rfl) (by kernel_rfl) (Below.refl _ _).drew ?_
            (repeat ((with_reducible refine wpLex_step (fun K hK => ?_)); go_simp; first | ((with_reducible refine hK _ _ ?_); clear hK K) | ((with_reducible apply Exists.intro); refine ⟨fun w' hw' => ?_, hK _ _ ?_⟩; (· (have hq := bcells hw'; apply valEq; (· (go_simp; first | done | (with_reducible rfl))); (· ((try go_bits); with_reducible rfl)))); clear hK K)))
            ((with_reducible refine wpLex_step (fun K hK => ?_)); go_simp; refine (ql _).mono ?_; rintro e w3 ⟨rfl, hbx⟩; have g3 := ((Below.refl wr.heap.size wr).drew).trans (hbx.mono ((Below.refl wr.heap.size wr).drew).size); refine ⟨_, rfl, g3, hK _ _ ?_⟩; clear hK K hbx)
            (repeat ((with_reducible refine wpLex_step (fun K hK => ?_)); go_simp; first | ((with_reducible refine hK _ _ ?_); clear hK K) | ((with_reducible apply Exists.intro); refine ⟨fun w' hw' => ?_, hK _ _ ?_⟩; (· (have hq := bcells hw'; apply valEq; (· (go_simp; first | done | (with_reducible rfl))); (· ((try go_bits); with_reducible rfl)))); clear hK K)))
            refine wpLex_nil (fun _ => ?_)
            have SB3 := SBz.below g3
            have S3 : ESl w3 [] (some ad) m c l := Sz.below g3
            have hb3w := hbz.trans (g3.mono hbz.size)
            clear c0 c1 c2 d0 d1 d2 SBz Sz SB
            (have hpk : j ≤ k := hj; have hkc : k ≤ co := SB3.le; have i0 : (j : Int) ≤ (co : Int) := (by omega); have i1 : (j : Int) ≤ (k : Int) := (by omega); have own0 := hide (World.ownsRow_nil w3 w3.heap.size 38 3); have hbz := (Below.refl w3.heap.size w3); (go_wp2_with (at_builtin; refine stopAt ?_); refine stopGo ?_); refine wpList_append_sl _ rfl (.tmp 31) (.tmp 34) _ rfl w3.heap.size 38 ie _ 3 24 Try.underlying33 hie hze he1 he2 rfl (by omega) _ _ _ rfl own0.out [] _ j co _ rfl (p_head SB3 hpk) ecells_one (by simp only [maxLen]; omega) (by omega) (Nat.le_refl _) ?_; intro A5 c5 w5 own5 g5 _; have hb5 := below_grown own0.out g5 (Nat.le_refl _) (Nat.le_refl _); have SB5 := SB3.below hb5; have S5 : ESl w5 [] (some ad) m c l := S3.below hb5; rw [Nat.zero_add] at own5 ⊢; rw [List.nil_append] at own5; have OW5 := hide own5; clear own5 g5 own0; obtain ⟨ae, hA, had2, _, c0, c1, c2⟩ := S5.get hx; (injection hA with hA; subst hA); rw [HX2.out] at c0 c1 c2; simp only [] at c0 c1 c2; (go_wp2_with (at_builtin; refine stopAt ?_); refine stopGo ?_); have N2 : Sl (w5.alloc (.cells #[.int .i64 x0, .int .i64 x1, .int .i64 x2] 38)) [] 3 (some ⟨w5.heap.size, 0, none⟩) 1 1 (ecells [(x0, x1, x2)]) := e1_new w5 x0 x1 x2; have O2 := OW5.out.alloc (.cells #[.int .i64 x0, .int .i64 x1, .int .i64 x2] 38); have hb6 := hb5.alloc hb5.size (.cells #[.int .i64 x0, .int .i64 x1, .int .i64 x2] 38); refine wpList_append_sl _ rfl (.tmp 36) (.tmp 41) _ rfl w3.heap.size 38 ie _ 3 24 Try.underlying33 hie hze he1 he2 rfl (by omega) _ _ _ rfl O2 [] _ 1 1 (ecells [(x0, x1, x2)]) rfl N2 ecells_one (by simp only [maxLen]; omega) (by omega) hb6.size ?_; intro A7 c7 w7 own7 g7 _; have hg7 := below_grown O2 g7 (Nat.le_refl _) hb6.size; have hb7 := hb6.trans hg7; have SB7 := SB3.below hb7; have OW7 := hide own7; clear own7 g7 hg7 O2 N2 OW5 hb6 hb5 c0 c1 c2 S5 SB5; (go_wp2_with (at_builtin; refine stopAt ?_); refine stopGo ?_); refine wpList_append_sl _ rfl (.tmp 43) (.tmp 46) _ rfl w3.heap.size 38 ie _ 3 24 Try.underlying33 hie hze he1 he2 rfl (by omega) _ _ _ rfl OW7.out [] _ (k - j) (co - j) _ rfl (p_tail SB7 hpk) ecells_one (by simp only [maxLen]; omega) (by omega) hb7.size ?_; intro A9 c9 w9 own9 g9 _; have hg9 := below_grown OW7.out g9 (Nat.le_refl _) hb7.size; have hb9 := hb7.trans hg9; have e9 : j + 1 + (k - j) = k + 1 := (by omega); have e8 : ecells (Y.take j) ++ ecells [(x0, x1, x2)] ++ ecells (Y.drop j) = ecells (putS Y (x0, x1, x2)) := (by unfold putS; rw [HJ2.out, ← ecells_append, ← ecells_append, List.append_assoc]; rfl); rw [e9, e8, ← HU.out] at own9; rw [e9]; have N9 := hide (own_sl own9 [] (by simp)); have hbw := hb3w.trans (hb9.mono hb3w.size); clear own9 g9 hg9 hb9 e9 e8 OW7 SB7 hb7; go_wp2_with (fail); exact ⟨⟨k + 1, A9, c9, by omega, by go_num, rfl, hbw, N9.out⟩, by simp [intOf]; omega⟩)
          · have ql : ∀ W, Calls Try.prog 35 #[.agg #[.int .i64 x0, .int .i64 x1, .int .i64 x2], .agg #[.int .i64 y0, .int .i64 y1, .int .i64 y2]] W (Ret (.bool true) W) := fun W => by have := rless_any x0 x1 x2 y0 y1 y2 W; rwa [hl] at this
            have HJ2 := hide (show backN Y (x0, x1, x2) (j - 1) = backN Y (x0, x1, x2) Y.length by rw [← HJ.out, HST.out, hl]; rfl)
            clear hl HST HJ
            go_wp2_with (fail)
            refine wp_region_lexD [12] (fun w' => Below (wr).heap.size (wr) w') (by kernel_rfl) (by kernel_rfl) (Below.refl _ _).drew ?_
            (repeat ((with_reducible refine wpLex_step (fun K hK => ?_)); go_simp; first | ((with_reducible refine hK _ _ ?_); clear hK K) | ((with_reducible apply Exists.intro); refine ⟨fun w' hw' => ?_, hK _ _ ?_⟩; (· (have hq := bcells hw'; apply valEq; (· (go_simp; first | done | (with_reducible rfl))); (· ((try go_bits); with_reducible rfl)))); clear hK K)))
            ((with_reducible refine wpLex_step (fun K hK => ?_)); go_simp; refine (ql _).mono ?_; rintro e w3 ⟨rfl, hbx⟩; have g3 := ((Below.refl wr.heap.size wr).drew).trans (hbx.mono ((Below.refl wr.heap.size wr).drew).size); refine ⟨_, rfl, g3, hK _ _ ?_⟩; clear hK K hbx)
            (repeat ((with_reducible refine wpLex_step (fun K hK => ?_)); go_simp; first | ((with_reducible refine hK _ _ ?_); clear hK K) | ((with_reducible apply Exists.intro); refine ⟨fun w' hw' => ?_, hK _ _ ?_⟩; (· (have hq := bcells hw'; apply valEq; (· (go_simp; first | done | (with_reducible rfl))); (· ((try go_bits); with_reducible rfl)))); clear hK K)))
            refine wpLex_nil (fun _ => ?_)
            have hb3 := hbj.trans (g3.mono hbj.size)
            go_wp2_with (fail)
            exact ⟨⟨j - 1, by omega, by congr 1; omega, hb3, HJ2⟩, by simp [intOf]; omega⟩
        · obtain rfl : j = 0 := by omega
          have HJ2 := hide (show backN Y (x0, x1, x2) Y.length = 0 by rw [← HJ.out]; rfl)
          go_wp2_with (fail)
          refine wp_region_lexD [12] (fun w' => Below (wr).heap.size (wr) w') (by kernel_rfl) (by kernel_rfl) (Below.refl _ _).drew ?_
          (repeat ((with_reducible refine wpLex_step (fun K hK => ?_)); go_simp; first | ((with_reducible refine hK _ _ ?_); clear hK K) | ((with_reducible apply Exists.intro); refine ⟨fun w' hw' => ?_, hK _ _ ?_⟩; (· (have hq := bcells hw'; apply valEq; (· (go_simp; first | done | (with_reducible rfl))); (· ((try go_bits); with_reducible rfl)))); clear hK K)))
          refine wpLex_nil (fun _ => ?_)
          have SB3 := SBz.drew
          have S3 : ESl wr.drew [] A m c l := Sz.drew
          have hb3w := hbz.drew
          clear SBz Sz SB HJ
          generalize wr.drew = w3 at *
          (have hpk : 0 ≤ k := hj; have hkc : k ≤ co := SB3.le; have i0 : (0 : Int) ≤ (co : Int) := (by omega); have i1 : (0 : Int) ≤ (k : Int) := (by omega); have own0 := hide (World.ownsRow_nil w3 w3.heap.size 38 3); have hbz := (Below.refl w3.heap.size w3); (go_wp2_with (at_builtin; refine stopAt ?_); refine stopGo ?_); refine wpList_append_sl _ rfl (.tmp 31) (.tmp 34) _ rfl w3.heap.size 38 ie _ 3 24 Try.underlying33 hie hze he1 he2 rfl (by omega) _ _ _ rfl own0.out [] _ 0 co _ rfl (p_head SB3 hpk) ecells_one (by simp only [maxLen]; omega) (by omega) (Nat.le_refl _) ?_; intro A5 c5 w5 own5 g5 _; have hb5 := below_grown own0.out g5 (Nat.le_refl _) (Nat.le_refl _); have SB5 := SB3.below hb5; have S5 : ESl w5 [] A m c l := S3.below hb5; rw [Nat.zero_add] at own5 ⊢; rw [List.nil_append] at own5; have OW5 := hide own5; clear own5 g5 own0; obtain ⟨ae, hA, had2, _, c0, c1, c2⟩ := S5.get hx; (subst hA); rw [HX2.out] at c0 c1 c2; simp only [] at c0 c1 c2; (go_wp2_with (at_builtin; refine stopAt ?_); refine stopGo ?_); have N2 : Sl (w5.alloc (.cells #[.int .i64 x0, .int .i64 x1, .int .i64 x2] 38)) [] 3 (some ⟨w5.heap.size, 0, none⟩) 1 1 (ecells [(x0, x1, x2)]) := e1_new w5 x0 x1 x2; have O2 := OW5.out.alloc (.cells #[.int .i64 x0, .int .i64 x1, .int .i64 x2] 38); have hb6 := hb5.alloc hb5.size (.cells #[.int .i64 x0, .int .i64 x1, .int .i64 x2] 38); refine wpList_append_sl _ rfl (.tmp 36) (.tmp 41) _ rfl w3.heap.size 38 ie _ 3 24 Try.underlying33 hie hze he1 he2 rfl (by omega) _ _ _ rfl O2 [] _ 1 1 (ecells [(x0, x1, x2)]) rfl N2 ecells_one (by simp only [maxLen]; omega) (by omega) hb6.size ?_; intro A7 c7 w7 own7 g7 _; have hg7 := below_grown O2 g7 (Nat.le_refl _) hb6.size; have hb7 := hb6.trans hg7; have SB7 := SB3.below hb7; have OW7 := hide own7; clear own7 g7 hg7 O2 N2 OW5 hb6 hb5 c0 c1 c2 S5 SB5; (go_wp2_with (at_builtin; refine stopAt ?_); refine stopGo ?_); refine wpList_append_sl _ rfl (.tmp 43) (.tmp 46) _ rfl w3.heap.size 38 ie _ 3 24 Try.underlying33 hie hze he1 he2 rfl (by omega) _ _ _ rfl OW7.out [] _ (k - 0) (co - 0) _ rfl (p_tail SB7 hpk) ecells_one (by simp only [maxLen]; omega) (by omega) hb7.size ?_; intro A9 c9 w9 own9 g9 _; have hg9 := below_grown OW7.out g9 (Nat.le_refl _) hb7.size; have hb9 := hb7.trans hg9; have e9 : 0 + 1 + (k - 0) = k + 1 := (by omega); have e8 : ecells (Y.take 0) ++ ecells [(x0, x1, x2)] ++ ecells (Y.drop 0) = ecells (putS Y (x0, x1, x2)) := (by unfold putS; rw [HJ2.out, ← ecells_append, ← ecells_append, List.append_assoc]; rfl); rw [e9, e8, ← HU.out] at own9; rw [e9]; have N9 := hide (own_sl own9 [] (by simp)); have hbw := hb3w.trans (hb9.mono hb3w.size); clear own9 g9 hg9 hb9 e9 e8 OW7 SB7 hb7; go_wp2_with (fail); exact ⟨⟨k + 1, A9, c9, by omega, by go_num, rfl, hbw, N9.out⟩, by simp [intOf]; omega⟩)
    · have HF := hide (show l.take k = l from List.take_of_length_le (by have := HL.out; omega))
      have hkm : k = m := by omega
      subst hkm
      rw [HF.out] at SB
      go_wp2_with (fail)
      go_ret
      exact ⟨B, co, rfl, SB, hbr⟩
end Go.Proofs.Ytbnkanhibjoleaa
