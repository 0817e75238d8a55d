/-
  raftsmanref06.Same walked: are two lists of ints equal?
-/
import Derived.Test.YtbnkanhibjoleaaApp
import Derived.Test.YtbnkanhibjoleaaLex
import Derived.Test.YtbnkanhibjoleaaProg
import Derived.Test.YtbnkanhibjoleaaMem
import Derived.BigQuiet
namespace Go.Proofs.Ytbnkanhibjoleaa
open Go Go.RowKit
attribute [local go_sem] Heavy heavyUpon

set_option maxHeartbeats 400000 in
theorem isame_any (xs ys : List Int) (M N : List Nat) (A B : Option Addr) (n c m d : Nat) (w : World) (ha : Sl w M 1 A n c (ints .i64 xs)) (hb : Sl w N 1 B m d (ints .i64 ys)) :
    Calls Try.prog 11 #[.slice A n c, .slice B m d] w (Ret (.bool (decide (xs = ys))) w) := by
  have hx : xs.length = n := by have := ha.len; simpa using this
  have hy : ys.length = m := by have := hb.len; simpa using this
  have hlA := ha.le
  have hcA := ha.cap
  unfold maxLen at hcA
  have HX := hide hx
  have HY := hide hy
  clear hx hy
  by_cases hnm : n = m
  · subst hnm
    go_enter Try.func11, Try.ntmps11
    go_wp2_with (fail)
    go_loopw [5] (fun i wr => ∃ k : Nat, k ≤ n ∧ i = .int .i64 k ∧ xs.take k = ys.take k ∧ Below w.heap.size w wr) (fun i _ => n - (intOf i).toNat)
    case atStart => exact ⟨0, Nat.zero_le _, rfl, by simp, Below.refl _ _⟩
    case round =>
      obtain ⟨k, hk, rfl, ht, hbel⟩ := hrel
      have HT := hide ht
      clear ht
      by_cases hlt : k < n
      · have ha1 := ha.below hbel
        have hb1 := hb.below hbel
        have hkx : k < xs.length := by have := HX.out; omega
        have hky : k < ys.length := by have := HY.out; omega
        obtain ⟨ad, rfl, had, _, hc⟩ := ha1.at_ (by omega)
        obtain ⟨bd, rfl, hbd, _, hd⟩ := hb1.at_ (by omega)
        have c0 := hc _ _ (ints_get hkx)
        have d0 := hd _ _ (ints_get hky)
        clear hc hd
        have HE := hide (show xs.take (k + 1) = ys.take (k + 1) ↔ xs[k] = ys[k] by
          rw [List.take_succ_eq_append_getElem hkx, List.take_succ_eq_append_getElem hky, HT.out, List.append_cancel_left_eq, List.cons.injEq]; exact and_iff_left rfl)
        have HN := hide (show xs[k] ≠ ys[k] → xs ≠ ys from fun h e => h (by subst e; rfl))
        by_cases hxy : xs[k] = ys[k]
        · have hn : (xs[k] == ys[k]) = true := by simp [hxy]
          have HE1 := hide (HE.out.2 hxy)
          clear hxy HE HN
          generalize xs[k] = x at *
          generalize ys[k] = y at *
          go_wp2_with (fail)
          refine wp_region_lex [] (fun w' => ∀ p, w'.cell? p = wr.cell? p) (by kernel_rfl) (by kernel_rfl) (fun _ => rfl) ?_
          (repeat ((with_reducible refine wpLex_step (fun K hK => ?_)); go_simp; first | ((with_reducible refine hK _ _ ?_); clear hK K) | ((with_reducible apply Exists.intro); refine ⟨fun w' hw' => ?_, hK _ _ ?_⟩; (· (apply valEq; (· (go_simp; first | done | (with_reducible rfl))); (· ((try go_bits); with_reducible rfl)))); clear hK K)))
          refine wpLex_nil (fun hw => ?_)
          go_wp2_with (fail)
          exact ⟨⟨k + 1, by omega, by go_num, HE1.out, hbel.drew⟩, by simp [intOf]; omega⟩
        · have hn : (xs[k] == ys[k]) = false := by simp [hxy]
          have HE1 := hide (decide_eq_false (HN.out hxy))
          clear hxy HE HN
          generalize xs[k] = x at *
          generalize ys[k] = y at *
          go_wp2_with (fail)
          refine wp_region_lex [] (fun w' => ∀ p, w'.cell? p = wr.cell? p) (by kernel_rfl) (by kernel_rfl) (fun _ => rfl) ?_
          (repeat ((with_reducible refine wpLex_step (fun K hK => ?_)); go_simp; first | ((with_reducible refine hK _ _ ?_); clear hK K) | ((with_reducible apply Exists.intro); refine ⟨fun w' hw' => ?_, hK _ _ ?_⟩; (· (apply valEq; (· (go_simp; first | done | (with_reducible rfl))); (· ((try go_bits); with_reducible rfl)))); clear hK K)))
          refine wpLex_nil (fun hw => ?_)
          go_wp2_with (fail)
          go_ret
          exact ⟨congrArg (fun x => Ending.returned (.bool x)) HE1.out.symm, hbel.drew⟩
      · have hkn : k = n := by omega
        have HE := hide (decide_eq_true (show xs = ys by
          have h1 := HT.out
          rw [List.take_of_length_le (by have := HX.out; omega), List.take_of_length_le (by have := HY.out; omega)] at h1
          exact h1))
        clear hkn
        go_wp2_with (fail)
        go_ret
        exact ⟨congrArg (fun x => Ending.returned (.bool x)) HE.out.symm, hbel⟩
  · have hq : ((n : Int) == (m : Int)) = false := by simp; omega
    have HE := hide (decide_eq_false (show xs ≠ ys from fun e => hnm (by rw [← HX.out, ← HY.out, e])))
    have hq2 : ((n : Int) != (m : Int)) = true := by rw [bne_iff_ne]; omega
    clear hnm
    go_enter Try.func11, Try.ntmps11
    go_wp2_with (fail)
    go_ret
    exact ⟨congrArg (fun x => Ending.returned (.bool x)) HE.out.symm, Below.refl _ _⟩
end Go.Proofs.Ytbnkanhibjoleaa
