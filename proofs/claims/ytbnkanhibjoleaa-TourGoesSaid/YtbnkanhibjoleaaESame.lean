/-
  raftsmanref03.Same walked: are two lists of edges equal?
-/
import Derived.Test.YtbnkanhibjoleaaEdge
namespace Go.Proofs.Ytbnkanhibjoleaa
open Go Go.RowKit
attribute [local go_sem] Heavy heavyUpon
attribute [local go_sem ↓] edge_neq

set_option maxHeartbeats 400000 in
theorem esame_any (xs ys : List E3) (M N : List Nat) (A B : Option Addr) (n c m d : Nat) (w : World) (ha : ESl w M A n c xs) (hb : ESl w N B m d ys) :
    Calls Try.prog 30 #[.slice A n c, .slice B m d] w fun e w' => e = .returned (.bool (decide (xs = ys))) ∧ Below w.heap.size w w' := by
  have hx : xs.length = n := ha.length
  have hy : ys.length = m := hb.length
  have hlA := ha.le
  have hcA := ha.cap
  unfold maxLen at hcA
  have HX := hide hx
  have HY := hide hy
  clear hx hy
  by_cases hnm : n = m
  · subst hnm
    go_enter Try.func30, Try.ntmps30
    go_wp2
    go_loopw [5] (fun i wr => ∃ k : Nat, k ≤ n ∧ i = .int .i64 k ∧ xs.take k = ys.take k ∧ Below w.heap.size w wr) (fun i _ => n - (intOf i).toNat)
    case atStart => exact ⟨0, Nat.zero_le _, rfl, by simp, Below.refl _ _⟩
    case round =>
      obtain ⟨k, hk, rfl, ht, hbel⟩ := hrel
      have HT := hide ht
      clear ht
      by_cases hlt : k < n
      · have ha1 : ESl wr M A n c xs := ha.below hbel
        have hb1 : ESl wr N B n d ys := hb.below hbel
        have hkx : k < xs.length := by have := HX.out; omega
        have hky : k < ys.length := by have := HY.out; omega
        obtain ⟨ad, rfl, had, _, c0, c1, c2⟩ := ha1.get hkx
        obtain ⟨bd, rfl, hbd, _, d0, d1, d2⟩ := hb1.get hky
        have HE := hide (show xs.take (k + 1) = ys.take (k + 1) ↔ xs[k] = ys[k] by
          rw [List.take_succ_eq_append_getElem hkx, List.take_succ_eq_append_getElem hky, HT.out, List.append_cancel_left_eq, List.cons.injEq]; exact and_iff_left rfl)
        have HN := hide (show xs[k] ≠ ys[k] → xs ≠ ys from fun h e => h (by subst e; rfl))
        by_cases hxy : xs[k] = ys[k]
        · have hn := ene_eq hxy
          have HE1 := hide (HE.out.2 hxy)
          clear hxy HE HN
          generalize xs[k] = x at *
          generalize ys[k] = y at *
          go_wp2
          refine wp_region_lex [] (fun w' => ∀ p, w'.cell? p = wr.cell? p) (by kernel_rfl) (by kernel_rfl) (fun _ => rfl) ?_
          (repeat ((with_reducible refine wpLex_step (fun K hK => ?_)); go_simp; first | ((with_reducible refine hK _ _ ?_); clear hK K) | ((with_reducible apply Exists.intro); refine ⟨fun w' hw' => ?_, hK _ _ ?_⟩; (· (apply valEq; (· (go_simp; first | done | (with_reducible rfl))); (· ((try go_bits); with_reducible rfl)))); clear hK K)))
          refine wpLex_nil (fun hw => ?_)
          go_wp2
          go_roundw
          case rel => exact ⟨k + 1, by omega, by go_num, HE1.out, hbel.drew⟩
          case measure => simp [intOf]; omega
        · have hn := ene_ne hxy
          have HE1 := hide (HN.out hxy)
          clear hxy HE HN
          generalize xs[k] = x at *
          generalize ys[k] = y at *
          go_wp2
          refine wp_region_lex [] (fun w' => ∀ p, w'.cell? p = wr.cell? p) (by kernel_rfl) (by kernel_rfl) (fun _ => rfl) ?_
          (repeat ((with_reducible refine wpLex_step (fun K hK => ?_)); go_simp; first | ((with_reducible refine hK _ _ ?_); clear hK K) | ((with_reducible apply Exists.intro); refine ⟨fun w' hw' => ?_, hK _ _ ?_⟩; (· (apply valEq; (· (go_simp; first | done | (with_reducible rfl))); (· ((try go_bits); with_reducible rfl)))); clear hK K)))
          refine wpLex_nil (fun hw => ?_)
          go_wp2
          go_ret
          exact ⟨by simp [HE1.out], hbel.drew⟩
      · have hkn : k = n := by omega
        have HE := hide (show xs = ys by
          have h1 := HT.out
          rw [List.take_of_length_le (by have := HX.out; omega), List.take_of_length_le (by have := HY.out; omega)] at h1
          exact h1)
        clear hkn
        go_wp2
        go_ret
        exact ⟨by simp [HE.out], hbel⟩
  · have hq : ((n : Int) != (m : Int)) = true := by rw [bne_iff_ne]; omega
    have HE := hide (show xs ≠ ys from fun e => hnm (by rw [← HX.out, ← HY.out, e]))
    clear hnm
    go_enter Try.func30, Try.ntmps30
    go_wp2
    go_ret
    exact ⟨by simp [HE.out], Below.refl _ _⟩
end Go.Proofs.Ytbnkanhibjoleaa
