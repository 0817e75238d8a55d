/-
  The walk of the law DrawGood.
-/
import Derived.Test.YtikbcmcmjfkjcaaAwake
namespace Go.Proofs.Ytikbcmcmjfkjcaa
open Go Go.RowKit
attribute [local go_sem] Heavy heavyUpon low_eq

set_option maxRecDepth 100000 in
set_option maxHeartbeats 400000 in
theorem drawGood_walk (xs : List Int) (A : Option Addr) (n c : Nat) (w : World) (hS : Sl w [] 1 A n c (ints .u64 xs)) (hW : ∀ x ∈ xs, 0 ≤ x ∧ x < 18446744073709551616) :
    Calls Try.prog 7 #[.slice A n c] w fun e w' => e = .returned (.bool true) ∧ Below w.heap.size w w' := by
  have hlen := hide (show xs.length = n by have := hS.len; simpa using this)
  have HW := hide hW
  clear hW
  have hcap : n ≤ maxLen := Nat.le_trans hS.le hS.cap
  by_cases hn : n ≤ 200
  · go_enter Try.func7, Try.ntmps7
    go_wp2_with (fail)
    go_loopw [20] (fun i wr => ∃ k : Nat, k ≤ n ∧ i = .int .i64 k ∧ Below w.heap.size w wr ∧ Hid (∀ x ∈ xs.take k, isLow x = true)) (fun i _ => n - (intOf i).toNat)
    case atStart => exact ⟨0, Nat.zero_le _, rfl, Below.refl _ _, hide (by simp)⟩
    case round =>
      obtain ⟨k, hk, rfl, hbr, HL⟩ := hrel
      have hSr := hS.below hbr
      by_cases hlt : k < n
      · obtain ⟨ad, rfl, had, hM, hcell⟩ := hSr.at_ (by omega)
        have hx : k < xs.length := by have := hlen.out; omega
        have hck := hcell k _ (ints_get hx)
        have HB := hide (HW.out _ (List.getElem_mem hx))
        have HX := hide (show isLow xs[k] = true → ∀ x ∈ xs.take (k + 1), isLow x = true by
          intro h x hx'
          rw [List.take_succ_eq_append_getElem hx, List.mem_append] at hx'
          rcases hx' with h' | h'
          · exact HL.out x h'
          · rw [List.mem_singleton.1 h']; exact h)
        clear hcell
        generalize xs[k] = x at *
        cases hl : isLow x
        case true =>
          have HY := hide (HX.out hl)
          have a1 := isLow_ne hl
          clear hl HX
          go_wp2_with (fail)
          exact ⟨⟨k + 1, by omega, by go_num, hbr, HY⟩, by simp [intOf]; omega⟩
        case false =>
          have a1 := isLow_top HB.out.1 HB.out.2 hl
          clear hl HX
          go_wp2_with (fail)
          refine (awake_true _).mono ?_
          rintro e w3 ⟨rfl, hb4⟩
          go_wp2_with (fail)
          go_ret
          exact ⟨rfl, hbr.trans (hb4.mono hbr.size)⟩
      · have hkn : k = n := by omega
        have HA := hide (show ∀ x ∈ xs, isLow x = true by
          have := HL.out
          rwa [List.take_of_length_le (by have := hlen.out; omega)] at this)
        clear hkn
        obtain ⟨hs, e1, e2, e3⟩ := drawH_all HA.out (n / 2) 0 (by have := hlen.out; omega)
        have E1 := hide e1; have E2 := hide e2; have E3 := hide e3
        have E4 := hide (drawH_dry HA.out (n / 2 + 1) 0 (Nat.zero_le _) (by have := hlen.out; omega))
        clear e1 e2 e3
        go_wp2_with (fail)
        rw [show ((n : Int) / 2) = ((n / 2 : Nat) : Int) from by omega]
        have hm1 : 2 * (n / 2) ≤ n := by omega
        have hm2 : n / 2 + 1 ≤ 128 := by omega
        generalize n / 2 = m at *
        refine (hashes_ok xs [] A n c 0 m wr (Nat.zero_le _) (by omega) hSr (by simp)).mono ?_
        rintro e w2 ⟨hb2, g1, _⟩
        obtain ⟨B, d, rfl, hH⟩ := g1 _ _ E1.out
        clear g1 E1
        rw [show (((0 + 2 * m : Nat) : Int)) = 2 * (m : Int) from by omega]
        have hb3 := hbr.trans (hb2.mono hbr.size)
        have hSr2 := hSr.below hb2
        have Q0 := Blk.new w2 25 #[.slice A n c, .int .i64 (2 * (m : Int))]
        go_wp2_with (fail)
        have hb4 := hb3.alloc hb3.size (.cells #[.slice A n c, .int .i64 (2 * (m : Int))] 25)
        have hH4 := hH.alloc (.cells #[.slice A n c, .int .i64 (2 * (m : Int))] 25)
        have hS4 := hSr2.alloc (.cells #[.slice A n c, .int .i64 (2 * (m : Int))] 25)
        generalize w2.alloc (.cells #[.slice A n c, .int .i64 (2 * (m : Int))] 25) = W at *
        go_loopw [57] (fun i wq => ∃ k : Nat, k ≤ m ∧ i = .int .i64 k ∧ Below W.heap.size W wq) (fun i _ => m - (intOf i).toNat)
        case atStart => exact ⟨0, Nat.zero_le _, rfl, Below.refl _ _⟩
        case round =>
          obtain ⟨k, hk, rfl, hbq⟩ := hrel
          by_cases hlt2 : k < m
          · have hx : k < hs.length := by have := E2.out; omega
            obtain ⟨bd, rfl, hbd, _, hc⟩ := (hH4.below hbq).at_ (by omega)
            have c0 := hc _ _ (hcells_get0 hs k hx)
            have c1 := cell_off (hc _ _ (hcells_get1 hs k hx)) (by decide)
            have hkx := E3.out k hlt2
            rw [List.getElem?_eq_getElem hx] at hkx
            injection hkx with hkx
            rw [hkx] at c0 c1
            have hx0 : 2 * k < xs.length := by have := hlen.out; omega
            have hx1 : 2 * k + 1 < xs.length := by have := hlen.out; omega
            simp only [Nat.zero_add, List.getD, List.getElem?_eq_getElem hx0, List.getElem?_eq_getElem hx1, Option.getD_some] at c0 c1
            clear hkx hc
            obtain ⟨ad, rfl, had, _, hc⟩ := (hS4.below hbq).at_ (by omega)
            have d0 := hc _ _ (ints_get hx0)
            have d1 := hc _ _ (ints_get hx1)
            clear hc
            generalize xs[2 * k] = x0 at *
            generalize xs[2 * k + 1] = x1 at *
            have hb2k : (bd.add (k * 2)).block < wr.heap.size := by rw [block_of_add]; exact hbd
            go_wp2_with (fail)
            have V0 := Blk.new wr 46 #[.int .u64 (low x0), .int .u64 (low x1)]
            have f0 : (wr.alloc (.cells #[.int .u64 (low x0), .int .u64 (low x1)] 46)).cell? (ad.add (2 * k)) = some (.int .u64 x0) := by
              rw [World.cell?_of_block (Below.heap_alloc wr _ _ (by rw [block_of_add]; exact had))]; exact d0
            have f1 : (wr.alloc (.cells #[.int .u64 (low x0), .int .u64 (low x1)] 46)).cell? (ad.add (2 * k + 1)) = some (.int .u64 x1) := by
              rw [World.cell?_of_block (Below.heap_alloc wr _ _ (by rw [block_of_add]; exact had))]; exact d1
            have hbv := hbq.alloc hbq.size (.cells #[.int .u64 (low x0), .int .u64 (low x1)] 46)
            clear c0 c1 d0 d1
            generalize wr.alloc (.cells #[.int .u64 (low x0), .int .u64 (low x1)] 46) = V at *
            obtain ⟨q0, _, _⟩ := V0.facts
            have f1' : V.cell? ⟨ad.block, ad.off + (2 * k + 1), none⟩ = some (.int .u64 x1) := cell_off (i := 0) (by rw [Nat.zero_add]; exact f1) (by omega)
            have i0 : (0 : Int) ≤ 2 * (k : Int) := by omega
            have i1 : 2 * (k : Int) < (n : Int) := by omega
            have i2 : (2 * (k : Int)).toNat = 2 * k := by omega
            have i3 : (0 : Int) ≤ 2 * (k : Int) + 1 := by omega
            have i4 : 2 * (k : Int) + 1 < (n : Int) := by omega
            have i5 : (2 * (k : Int) + 1).toNat = 2 * k + 1 := by omega
            refine wp_region_lex [] (fun w' => ∀ p, w'.cell? p = V.cell? p) (by kernel_rfl) (by kernel_rfl) (fun _ => rfl) ?_
            (repeat (refine wpLex_step (fun K hK => ?_); go_simp; apply Exists.intro; refine ⟨fun w' hw' => ?_, hK _ _ ?_⟩; (· (apply valEq; (· (go_simp; first | done | rfl)); (· ((try go_bits); rfl)))); clear hK K))
            refine wpLex_nil (fun hw => ?_)
            clear i2 i5
            go_wp2_with (fail)
            exact ⟨⟨k + 1, by omega, by go_num, hbv.drew⟩, by simp [intOf]; omega⟩
          · go_wp2_with (fail)
            rw [show ((m : Int) + 1) = ((m + 1 : Nat) : Int) from by omega]
            refine (hashes_ok xs [] A n c 0 (m + 1) wr (Nat.zero_le _) (by omega) (hS4.below hbq) (by simp)).mono ?_
            rintro e w5 ⟨hb5, _, g2⟩
            obtain rfl := g2 E4.out
            clear g2
            have hb6 := (hb4.trans (hbq.mono hb4.size)).trans (hb5.mono (by have := hb4.size; have := hbq.size; omega))
            go_wp2_with (fail)
            refine (awake_true _).mono ?_
            rintro e w6 ⟨rfl, hb7⟩
            go_wp2_with (fail)
            go_ret
            exact ⟨rfl, (hb6.alloc hb6.size _).trans (hb7.mono (by have := hb6.size; simp; omega))⟩
  · go_enter Try.func7, Try.ntmps7
    go_wp2_with (go_at_call 8; refine (awake_true _).mono ?_; rintro e w1 ⟨rfl, hb⟩)
    go_ret
    exact ⟨rfl, hb⟩
end Go.Proofs.Ytikbcmcmjfkjcaa
