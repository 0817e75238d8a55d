/-
  The walk of the law DrawOn.
-/
import Derived.Test.YtikbcmcmjfkjcaaAwake
import Derived.Test.YtikbcmcmjfkjcaaApp
namespace Go.Proofs.Ytikbcmcmjfkjcaa
open Go Go.RowKit
attribute [local go_sem] Heavy heavyUpon low_eq

theorem u64_info : (Try.prog.info? 27).map (fun i => (i.zero, i.size, i.bytes)) = some (some (.int .u64 0), 1, 8) := by kernel_rfl
theorem hcells_one {l : List (Int × Int)} : ∀ u ∈ hcells l, u.oneCell' = true := by
  intro u hu
  simp only [hcells, List.mem_flatMap, hcell, List.mem_cons, List.not_mem_nil, or_false] at hu
  obtain ⟨x, _, rfl | rfl⟩ := hu <;> rfl

set_option maxHeartbeats 1600000 in
theorem drawOn_small (xs ys : List Int) (A B : Option Addr) (n c m d : Nat) (p q : Nat) (w : World) (hS : Sl w [] 1 A n c (ints .u64 xs)) (hT : Sl w [] 1 B m d (ints .u64 ys)) (hp : p ≤ 255) (hq : q ≤ 255) (hn : n ≤ 300) (hm : m ≤ 300) :
    Calls Try.prog 5 #[.slice A n c, .slice B m d, .int .u8 p, .int .u8 q] w fun e w' => e = .returned (.bool true) ∧ Below w.heap.size w w' := by
  have hlen := hide (show xs.length = n by have := hS.len; simpa using this)
  have hlem := hide (show ys.length = m by have := hT.len; simpa using this)
  have e1 : ((p : Int) % 60) = ((p % 60 : Nat) : Int) := by omega
  have e2 : ((q : Int) % 60) = ((q % 60 : Nat) : Int) := by omega
  have hj : p % 60 < 60 := by omega
  have hk : q % 60 < 60 := by omega
  generalize p % 60 = j at *
  generalize q % 60 = k at *
  go_enter Try.func5, Try.ntmps5
  go_wp2_with (fail)
  clear e1 e2
  have V0 := Blk.new w 25 #[.slice A n c, .int .i64 0]
  have hb0 := (Below.refl w.heap.size w).alloc (Nat.le_refl _) (.cells #[.slice A n c, .int .i64 0] 25)
  have hS0 := hS.alloc (.cells #[.slice A n c, .int .i64 0] 25)
  have hT0 := hT.alloc (.cells #[.slice A n c, .int .i64 0] 25)
  generalize w.alloc (.cells #[.slice A n c, .int .i64 0] 25) = W0 at *
  cases hq1 : drawH xs j 0
  case none =>
    have hq3 : drawH xs (j + k) 0 = none := by rw [drawH_add, hq1]
    refine (hashes_none hq1 (Nat.zero_le _) (by omega) hS0 (by simp)).mono ?_
    rintro e w1 ⟨rfl, b1⟩
    have V1 := (V0.below b1 V0.lt).alloc (.cells #[.slice A n c, .int .i64 0] 25)
    have hb1' := (hb0.trans (b1.mono hb0.size))
    have hb1 := hb1'.alloc hb1'.size (.cells #[.slice A n c, .int .i64 0] 25)
    have hS1 := (hS0.below b1).alloc (.cells #[.slice A n c, .int .i64 0] 25)
    clear hq1 b1 hb1'
    go_wp2_with (fail)
    generalize w1.alloc (.cells #[.slice A n c, .int .i64 0] 25) = W1 at *
    refine (hashes_any (at_ := 0) (Nat.zero_le _) (by omega) hS1 (by simp)).mono ?_
    rintro e w2 ⟨B2, r2, d2, k2, e2, rfl, b2⟩
    have V2 := (V1.below b2 V1.lt).alloc (.cells #[.slice A n c, .int .i64 k2] 25)
    have hb2' := (hb1.trans (b2.mono hb1.size))
    have hb2 := hb2'.alloc hb2'.size (.cells #[.slice A n c, .int .i64 k2] 25)
    have hS2 := (hS1.below b2).alloc (.cells #[.slice A n c, .int .i64 k2] 25)
    obtain ⟨v2, f2, l2⟩ := (V1.below b2 V1.lt).facts
    clear b2 hb2'
    go_wp2_with (fail)
    clear v2 f2 l2
    rw [show ((j : Int) + (k : Int)) = ((j + k : Nat) : Int) from by omega]
    generalize w2.alloc (.cells #[.slice A n c, .int .i64 k2] 25) = W2 at *
    refine (hashes_none (at_ := 0) hq3 (Nat.zero_le _) (by omega) hS2 (by simp)).mono ?_
    rintro e w3 ⟨rfl, b3⟩
    have hb3 := (hb2.trans (b3.mono hb2.size))
    clear hq3 b3
    go_wp2_with (fail)
    refine (awake_true _).mono ?_
    rintro e w4 ⟨rfl, b4⟩
    go_wp2_with (fail)
    go_ret
    exact ⟨rfl, (hb3.alloc hb3.size _).trans (b4.mono (by have := hb3.size; simp; omega))⟩
  case some r =>
    obtain ⟨h1, k1⟩ := r
    have hk1 := drawH_le (Nat.zero_le _) hq1
    rw [hlen.out] at hk1
    refine (hashes_some hq1 (Nat.zero_le _) (by omega) hS0 (by simp)).mono ?_
    rintro e w1 ⟨B1, d1, rfl, H1, b1⟩
    have V1 := (V0.below b1 V0.lt).alloc (.cells #[.slice A n c, .int .i64 k1] 25)
    have U1 := Blk.new w1 25 #[.slice A n c, .int .i64 k1]
    have hb1' := (hb0.trans (b1.mono hb0.size))
    have hb1 := hb1'.alloc hb1'.size (.cells #[.slice A n c, .int .i64 k1] 25)
    have hS1 := (hS0.below b1).alloc (.cells #[.slice A n c, .int .i64 k1] 25)
    have hT1 := (hT0.below b1).alloc (.cells #[.slice A n c, .int .i64 k1] 25)
    have G1 := H1.alloc (.cells #[.slice A n c, .int .i64 k1] 25)
    clear b1 hb1'
    cases hq2 : drawH xs k k1
    case none =>
      have hq3 : drawH xs (j + k) 0 = none := by rw [drawH_add, hq1]; simp only [hq2]; rfl
      clear hq1
      go_wp2_with (fail)
      generalize w1.alloc (.cells #[.slice A n c, .int .i64 k1] 25) = W1 at *
      refine (hashes_none hq2 hk1.2.1 (by omega) hS1 (by simp)).mono ?_
      rintro e w2 ⟨rfl, b2⟩
      have V2 := (V1.below b2 V1.lt).alloc (.cells #[.slice A n c, .int .i64 k1] 25)
      have hb2' := (hb1.trans (b2.mono hb1.size))
      have hb2 := hb2'.alloc hb2'.size (.cells #[.slice A n c, .int .i64 k1] 25)
      have hS2 := (hS1.below b2).alloc (.cells #[.slice A n c, .int .i64 k1] 25)
      obtain ⟨v2, f2, l2⟩ := (V1.below b2 V1.lt).facts
      clear b2 hb2' hq2
      go_wp2_with (fail)
      clear v2 f2 l2
      rw [show ((j : Int) + (k : Int)) = ((j + k : Nat) : Int) from by omega]
      generalize w2.alloc (.cells #[.slice A n c, .int .i64 k1] 25) = W2 at *
      refine (hashes_none (at_ := 0) hq3 (Nat.zero_le _) (by omega) hS2 (by simp)).mono ?_
      rintro e w3 ⟨rfl, b3⟩
      have hb3 := (hb2.trans (b3.mono hb2.size))
      clear hq3 b3
      go_wp2_with (fail)
      refine (awake_true _).mono ?_
      rintro e w4 ⟨rfl, b4⟩
      go_wp2_with (fail)
      go_ret
      exact ⟨rfl, (hb3.alloc hb3.size _).trans (b4.mono (by have := hb3.size; simp; omega))⟩
    case some r =>
      obtain ⟨h2, k2⟩ := r
      have hk2 := drawH_le (by rw [hlen.out]; exact hk1.2.1) hq2
      rw [hlen.out] at hk2
      have hq3 : drawH xs (j + k) 0 = some (h1 ++ h2, k2) := by rw [drawH_add, hq1]; simp only [hq2]; rfl
      have hq4 := drawH_more ys (Nat.zero_le _) hq3
      clear hq1
      go_wp2_with (fail)
      generalize w1.alloc (.cells #[.slice A n c, .int .i64 k1] 25) = W1 at *
      refine (hashes_some hq2 hk1.2.1 (by omega) hS1 (by simp)).mono ?_
      rintro e w2 ⟨B2, d2, rfl, H2, b2⟩
      have V2 := (V1.below b2 V1.lt).alloc (.cells #[.slice A n c, .int .i64 k2] 25)
      have U2 := Blk.new w2 25 #[.slice A n c, .int .i64 k2]
      have hb2' := (hb1.trans (b2.mono hb1.size))
      have hb2 := hb2'.alloc hb2'.size (.cells #[.slice A n c, .int .i64 k2] 25)
      have hS2 := (hS1.below b2).alloc (.cells #[.slice A n c, .int .i64 k2] 25)
      have hT2 := (hT1.below b2).alloc (.cells #[.slice A n c, .int .i64 k2] 25)
      have G2 := (G1.below b2).alloc (.cells #[.slice A n c, .int .i64 k2] 25)
      have F2 := H2.alloc (.cells #[.slice A n c, .int .i64 k2] 25)
      obtain ⟨v2, f2, l2⟩ := (V1.below b2 V1.lt).facts
      clear b2 hb2' hq2
      go_wp2_with (fail)
      clear v2 f2 l2
      rw [show ((j : Int) + (k : Int)) = ((j + k : Nat) : Int) from by omega]
      generalize w2.alloc (.cells #[.slice A n c, .int .i64 k2] 25) = W2 at *
      refine (hashes_some (at_ := 0) hq3 (Nat.zero_le _) (by omega) hS2 (by simp)).mono ?_
      rintro e w3 ⟨B3, d3, rfl, H3, b3⟩
      have U3 := (U2.below b3 U2.lt).alloc (.cells #[.slice A n c, .int .i64 k2] 25)
      have X3 := Blk.new w3 25 #[.slice A n c, .int .i64 k2]
      have hb3' := (hb2.trans (b3.mono hb2.size))
      have hb3 := hb3'.alloc hb3'.size (.cells #[.slice A n c, .int .i64 k2] 25)
      have hS3 := (hS2.below b3).alloc (.cells #[.slice A n c, .int .i64 k2] 25)
      have hT3 := (hT2.below b3).alloc (.cells #[.slice A n c, .int .i64 k2] 25)
      have G3 := (G2.below b3).alloc (.cells #[.slice A n c, .int .i64 k2] 25)
      have F3 := (F2.below b3).alloc (.cells #[.slice A n c, .int .i64 k2] 25)
      have E3 := H3.alloc (.cells #[.slice A n c, .int .i64 k2] 25)
      have HQ4 := hide hq4
      clear hq3 hq4 b3 hb3' H3 H2 H1
      obtain ⟨iu, hiu, hzu, hu1, hu2⟩ := info_parts u64_info
      obtain ⟨ih, hih, hzh, hh1, hh2⟩ := info_parts hash_info
      (go_wp2_with (at_builtin; refine stopAt ?_); refine stopGo ?_)
      have hz := heap_alloc_size w3 (.cells #[.slice A n c, .int .i64 k2] 25)
      generalize w3.alloc (.cells #[.slice A n c, .int .i64 k2] 25) = W3 at *
      have HZ := hide hz
      have oe := own_empty W3 27 1
      have hT3n := (hT3.new (.cells #[] 27))
      rw [hz] at oe hT3n
      clear hz
      refine wpList_append_sl _ rfl (.tmp 86) (.tmp 87) _ rfl (w3.heap.size + 1) 27 iu _ 1 8 Try.underlying22 hiu hzu hu1 hu2 rfl (by omega) (.slice (some ⟨w3.heap.size + 1, 0, none⟩) 0 0) 0 [] rfl oe [] A n c (ints .u64 xs) rfl (hS3.alloc _) ints_one (by simp only [maxLen]; omega) (by omega) (by rw [heap_alloc_size, HZ.out]; omega) ?_
      intro A4 c4 w4 own4 g4 _
      have s4 := g4.size
      have T4 := hT3n.grown g4 (by simp [Value.ownBlock])
      have x4 := (((Below.refl W3.heap.size W3).alloc (Nat.le_refl _) (.cells #[] 27)).trans (below_grown oe g4 (by rw [HZ.out]; exact Nat.le_refl _) (by rw [heap_alloc_size, HZ.out]; omega)))
      simp only [Nat.zero_add, List.nil_append, heap_alloc_size] at own4 s4 ⊢
      rw [HZ.out] at s4
      clear g4 hT3n
      (go_wp2_with (at_builtin; refine stopAt ?_); refine stopGo ?_)
      refine wpList_append_sl _ rfl (.tmp 88) (.tmp 89) _ rfl (w3.heap.size + 1) 27 iu _ 1 8 Try.underlying22 hiu hzu hu1 hu2 rfl (by omega) (.slice A4 n c4) n _ rfl own4 [w3.heap.size + 1] B m d (ints .u64 ys) rfl T4 ints_one (by simp only [maxLen]; omega) (by omega) (by omega) ?_
      intro A5 c5 w5 own5 g5 _
      have s5 := g5.size
      have x5 := x4.trans (below_grown own4 g5 (by rw [HZ.out]; exact Nat.le_refl _) (by omega))
      clear g5 own4 T4
      rw [← ints_append] at own5
      have S5 := own_sl own5 [] (by simp)
      go_wp2_with (fail)
      rw [show ((j : Int) + (k : Int)) = ((j + k : Nat) : Int) from by omega]
      refine (hashes_some (at_ := 0) HQ4.out (Nat.zero_le _) (by omega) S5 (by simp)).mono ?_
      rintro e w6 ⟨B6, d6, rfl, H6, b6⟩
      have U6 := ((U3.below x5 U3.lt).below b6 (U3.below x5 U3.lt).lt).alloc (.cells #[.slice A5 (n + m) c5, .int .i64 k2] 25)
      have X6 := ((X3.below x5 X3.lt).below b6 (X3.below x5 X3.lt).lt).alloc (.cells #[.slice A5 (n + m) c5, .int .i64 k2] 25)
      have Y6 := Blk.new w6 25 #[.slice A5 (n + m) c5, .int .i64 k2]
      have G6 := ((G3.below x5).below b6).alloc (.cells #[.slice A5 (n + m) c5, .int .i64 k2] 25)
      have F6 := ((F3.below x5).below b6).alloc (.cells #[.slice A5 (n + m) c5, .int .i64 k2] 25)
      have E6 := ((E3.below x5).below b6).alloc (.cells #[.slice A5 (n + m) c5, .int .i64 k2] 25)
      have D6 := H6.alloc (.cells #[.slice A5 (n + m) c5, .int .i64 k2] 25)
      have hb6' := (hb3.trans (x5.mono hb3.size))
      have hb6' := hb6'.trans (b6.mono hb6'.size)
      have hb6 := hb6'.alloc hb6'.size (.cells #[.slice A5 (n + m) c5, .int .i64 k2] 25)
      clear b6 hb6' H6 HQ4 S5 own5 x5 x4 s4 s5 oe HZ
      (go_wp2_with (at_builtin; refine stopAt ?_); refine stopGo ?_)
      have hz := heap_alloc_size w6 (.cells #[.slice A5 (n + m) c5, .int .i64 k2] 25)
      generalize w6.alloc (.cells #[.slice A5 (n + m) c5, .int .i64 k2] 25) = W6 at *
      have HZ := hide hz
      have oe := own_empty W6 46 2
      have F6n := (F6.new (.cells #[] 46))
      rw [hz] at oe F6n
      clear hz
      refine wpList_append_slg _ rfl (.tmp 106) (.tmp 107) _ rfl (w6.heap.size + 1) 46 ih _ 2 16 Try.underlying33 hih hzh hh1 hh2 rfl (by omega) (.slice (some ⟨w6.heap.size + 1, 0, none⟩) 0 0) 0 [] rfl oe [] B1 j d1 (hcells h1) rfl (G6.alloc _) hcells_one (by simp only [maxLen]; omega) (by omega) (by rw [heap_alloc_size, HZ.out]; omega) ?_
      intro A7 c7 w7 own7 g7 _
      have s7 := g7.size
      have F7 := F6n.grown g7 (by simp [Value.ownBlock])
      have x7 := (((Below.refl W6.heap.size W6).alloc (Nat.le_refl _) (.cells #[] 46)).trans (below_grown oe g7 (by rw [HZ.out]; exact Nat.le_refl _) (by rw [heap_alloc_size, HZ.out]; omega)))
      simp only [Nat.zero_add, List.nil_append, heap_alloc_size] at own7 s7 ⊢
      rw [HZ.out] at s7
      clear g7 F6n
      (go_wp2_with (at_builtin; refine stopAt ?_); refine stopGo ?_)
      refine wpList_append_slg _ rfl (.tmp 108) (.tmp 109) _ rfl (w6.heap.size + 1) 46 ih _ 2 16 Try.underlying33 hih hzh hh1 hh2 rfl (by omega) (.slice A7 j c7) j _ rfl own7 [w6.heap.size + 1] B2 k d2 (hcells h2) rfl F7 hcells_one (by simp only [maxLen]; omega) (by omega) (by omega) ?_
      intro A8 c8 w8 own8 g8 _
      have s8 := g8.size
      have x8 := x7.trans (below_grown own7 g8 (by rw [HZ.out]; exact Nat.le_refl _) (by omega))
      clear g8 own7 F7
      rw [← hcells_append] at own8
      have S8 := own_sl own8 [] (by simp)
      have E8 := E6.below x8
      have D8 := D6.below x8
      have U8 := U6.below x8 U6.lt
      have X8 := X6.below x8 X6.lt
      have Y8 := Y6.below x8 Y6.lt
      have hb8 := hb6.trans (x8.mono hb6.size)
      go_wp2_with (fail)
      have q1 := hsame_any _ _ _ _ _ _ _ _ _ _ _ S8 E8
      rw [decide_eq_true rfl] at q1
      refine q1.mono ?_
      rintro e w9 ⟨rfl, b9⟩
      have hb9 := hb8.trans (b9.mono hb8.size)
      have q2 := hsame_any _ _ _ _ _ _ _ _ _ _ _ (E8.below b9) (D8.below b9)
      rw [decide_eq_true rfl] at q2
      go_wp2_with (fail)
      refine q2.mono ?_
      rintro e wa ⟨rfl, ba⟩
      have hba := hb9.trans (ba.mono hb9.size)
      obtain ⟨ua, _, ul⟩ := ((U8.below b9 U8.lt).below ba (U8.below b9 U8.lt).lt).facts
      obtain ⟨xa, _, xl⟩ := ((X8.below b9 X8.lt).below ba (X8.below b9 X8.lt).lt).facts
      obtain ⟨ya, _, yl⟩ := ((Y8.below b9 Y8.lt).below ba (Y8.below b9 Y8.lt).lt).facts
      clear q1 q2 x7 x8 b9 ba oe HZ
      go_wp2_with (fail)
      refine (awake_true _).mono ?_
      rintro e wb ⟨rfl, bb⟩
      go_wp2_with (fail)
      go_ret
      exact ⟨rfl, hba.trans (bb.mono hba.size)⟩

theorem drawOn_walk (xs ys : List Int) (A B : Option Addr) (n c m d : Nat) (p q : Nat) (w : World) (hS : Sl w [] 1 A n c (ints .u64 xs)) (hT : Sl w [] 1 B m d (ints .u64 ys)) (hp : p ≤ 255) (hq : q ≤ 255) :
    Calls Try.prog 5 #[.slice A n c, .slice B m d, .int .u8 p, .int .u8 q] w fun e w' => e = .returned (.bool true) ∧ Below w.heap.size w w' := by
  have hcap : n ≤ maxLen := Nat.le_trans hS.le hS.cap
  have hcapm : m ≤ maxLen := Nat.le_trans hT.le hT.cap
  by_cases hn : n ≤ 300
  · by_cases hm : m ≤ 300
    · exact drawOn_small xs ys A B n c m d p q w hS hT hp hq hn hm
    · go_enter Try.func5, Try.ntmps5
      go_wp2_with (go_at_call 8; refine (awake_true _).mono ?_; rintro e w1 ⟨rfl, hb⟩)
      go_ret
      exact ⟨rfl, hb⟩
  · go_enter Try.func5, Try.ntmps5
    go_wp2_with (go_at_call 8; refine (awake_true _).mono ?_; rintro e w1 ⟨rfl, hb⟩)
    go_ret
    exact ⟨rfl, hb⟩
end Go.Proofs.Ytikbcmcmjfkjcaa
