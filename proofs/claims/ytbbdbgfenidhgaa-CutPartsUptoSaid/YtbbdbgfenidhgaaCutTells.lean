/-
  raftsmanlaw13.CutTells walked.
-/
import Derived.Test.YtbbdbgfenidhgaaCutPlain
import Derived.Test.YtbbdbgfenidhgaaCutAwake
import Derived.Test.YtbbdbgfenidhgaaESame
namespace Go.Proofs.Ytbbdbgfenidhgaa
open Go Go.RowKit
attribute [local go_sem] Heavy heavyUpon

theorem set_v (v : Int) (w : World) : Sl (w.alloc (.cells #[.int .i64 v] 3)) [] 1 (some ⟨w.heap.size, 0, none⟩) 1 1 (ints .i64 [v]) :=
  Sl.of_blk (Blk.new w _ _) rfl (fun x hx => by match x, hx with | 0, _ => rfl) (by simp) (by unfold maxLen; omega)
theorem esame_yes (X : List E3) (M N : List Nat) (A B : Option Addr) (n c m d : Nat) (w : World) (ha : ESl w M A n c X) (hb : ESl w N B m d X) :
    Calls Try.prog 16 #[.slice A n c, .slice B m d] w (Ret (.bool true) w) :=
  (esame_any X X M N A B n c m d w ha hb).mono fun e w' ⟨he, hb⟩ => ⟨by rw [he, decide_eq_true rfl], hb⟩
theorem usame_yes (X : List Int) (M N : List Nat) (A B : Option Addr) (n c m d : Nat) (w : World) (ha : Sl w M 1 A n c (ints .u64 X)) (hb : Sl w N 1 B m d (ints .u64 X)) :
    Calls Try.prog 12 #[.slice A n c, .slice B m d] w (Ret (.bool true) w) := by
  have h := usame_any X X M N A B n c m d w ha hb
  rwa [decide_eq_true rfl] at h

set_option maxHeartbeats 6400000 in
theorem ctells_ok (n v : Int) (l : List E3) (set : List Int) (A B : Option Addr) (m c ms cs : Nat) (w : World) (hS : ESl w [] A m c l) (hT : Sl w [] 1 B ms cs (ints .i64 set)) :
    Calls Try.prog 3 #[.int .i64 n, .slice A m c, .slice B ms cs, .int .i64 v] w (Ret (.bool true) w) := by
  by_cases h1 : 60 < m
  · go_enter Try.func3, Try.ntmps3
    (go_wp2_with (fail); refine (cawake_ok _).mono ?_; rintro e x ⟨rfl, bx⟩; go_wp2_with (fail); go_ret; exact ⟨rfl, (Below.refl w.heap.size w).trans (bx.mono (Below.refl w.heap.size w).size)⟩)
  · by_cases h2 : 60 < ms
    · go_enter Try.func3, Try.ntmps3
      (go_wp2_with (fail); refine (cawake_ok _).mono ?_; rintro e x ⟨rfl, bx⟩; go_wp2_with (fail); go_ret; exact ⟨rfl, (Below.refl w.heap.size w).trans (bx.mono (Below.refl w.heap.size w).size)⟩)
    · have hgo : (60 < n ∧ n ≤ 1024) ∨ n ≤ 60 ∨ (60 < n ∧ 1024 < n) := by omega
      have h1' : m ≤ 60 := by omega
      have h2' : ms ≤ 60 := by omega
      clear h1 h2
      rcases hgo with ⟨g1, g2⟩ | hgo
      · go_enter Try.func3, Try.ntmps3
        (go_wp2_with (fail); refine (cawake_ok _).mono ?_; rintro e x ⟨rfl, bx⟩; go_wp2_with (fail); go_ret; exact ⟨rfl, (Below.refl w.heap.size w).trans (bx.mono (Below.refl w.heap.size w).size)⟩)
      · have qc := fun W h1 h2 => cut_ok l set [] [] A B n m c ms cs W h1 h2 (by omega) [] (by simp)
        have qm := fun W h1 h2 => mix_ok l set [] [] A B n m c ms cs W h1 h2 (by omega) [] (by simp)
        have qs := fun W h1 => star_ok l v [] A n m c W h1 (by omega) [] (by simp)
        have QN := hide (fun W h1 => names_ok l [] A m c W h1 (by omega) [] (by simp))
        have QO := hide (fun W h1 => rnames_ok l [] A m c W h1 (by omega) [] (by simp))
        have QU := hide (fun W A B c d => usame_yes (namesE l) [] [] A B m c m d W)
        have qv := fun W B h1 h2 => may_any l [v] [] [] A B n m c 1 1 W h1 h2
        have qf := fun W h1 h2 => may_any l set [] [] A B n m c ms cs W h1 h2
        have QR := hide (fun W h1 h2 => rcut_ok l set [] [] A B m c ms cs W h1 h2 (by omega) [] (by simp))
        have QX := hide (fun W h1 h2 => rmix_ok l set [] [] A B m c ms cs W h1 h2 (by omega) [] (by simp))
        have QT := hide (fun W B h1 h2 => rcut_ok l [v] [] [] A B m c 1 1 W h1 h2 (by omega) [] (by simp))
        cases fs : fitsE n l set
        case false =>
          rw [bad_e fs, bad_c fs] at qc qm
          rw [fs] at qf
          have QC := hide qc
          have QM := hide qm
          have QF := hide qf
          clear qc qm qf fs
          cases fv : fitsE n l [v]
          case false =>
            rw [bad_s fv, bad_c fv] at qs
            rw [fv] at qv
            have QS := hide qs
            have QV := hide qv
            clear qs qv fv
            rcases hgo with g | ⟨g, g'⟩
            all_goals
              (go_enter Try.func3, Try.ntmps3; go_wp2_with (fail); refine (QC.out w hS hT).mono ?_; rintro e w1 ⟨R1, d1, rfl, Z1, b1⟩; have S1 := hS.below b1; have T1 := hT.below b1; go_wp2_with (fail); refine (QM.out w1 S1 T1).mono ?_; rintro e w2 ⟨R2, d2, rfl, Z2, b2⟩; have S2 := S1.below b2; have T2 := T1.below b2; have Z12 := Z1.below b2; have c2 := b1.trans (b2.mono b1.size); clear S1 T1 Z1 b1 b2; go_wp2_with (fail); refine (QS.out w2 S2).mono ?_; rintro e w3 ⟨R3, d3, rfl, Z3, b3⟩; have S3 := S2.below b3; have T3 := T2.below b3; have Z13 := Z12.below b3; have Z23 := Z2.below b3; have c3 := c2.trans (b3.mono c2.size); clear S2 T2 Z12 Z2 b3 c2; go_wp2_with (fail); refine (QN.out w3 S3).mono ?_; rintro e w4 ⟨R4, d4, rfl, N4, b4⟩; have S4 := S3.below b4; have T4 := T3.below b4; have Z14 := Z13.below b4; have Z24 := Z23.below b4; have Z34 := Z3.below b4; have c4 := c3.trans (b4.mono c3.size); clear S3 T3 Z13 Z23 Z3 b4 c3; go_wp2_with (fail); refine (QO.out w4 S4).mono ?_; rintro e w5 ⟨R5, d5, rfl, N5, b5⟩; have S5 := S4.below b5; have T5 := T4.below b5; have Z15 := Z14.below b5; have Z25 := Z24.below b5; have Z35 := Z34.below b5; have N45 := N4.below b5; have c5 := c4.trans (b5.mono c4.size); clear S4 T4 Z14 Z24 Z34 b5 c4 N4; go_wp2_with (fail); refine (QU.out w5 _ _ _ _ N45 N5).mono ?_; rintro e w6 ⟨rfl, b6⟩; have S6 := S5.below b6; have T6 := T5.below b6; have Z16 := Z15.below b6; have Z26 := Z25.below b6; have Z36 := Z35.below b6; have c6 := c5.trans (b6.mono c5.size); clear S5 T5 Z15 Z25 Z35 b6 c5 N5 N45; have V6 := set_v v w6; go_wp2_with (fail); refine (QV.out _ _ (S6.alloc _) V6).mono ?_; rintro e w7 ⟨rfl, b7⟩; have S7 := (S6.alloc _).below b7; have T7 := (T6.alloc _).below b7; have Z17 := (Z16.alloc _).below b7; have Z27 := (Z26.alloc _).below b7; have Z37 := (Z36.alloc _).below b7; have c7 := (c6.alloc c6.size _).trans (b7.mono (Nat.le_trans c6.size (by simp))); clear S6 T6 Z16 Z26 Z36 b7 c6 V6)
              (go_wp2_with (fail); refine (QF.out _ S7 T7).mono ?_; rintro e y ⟨rfl, by_⟩; have cy := (c7).trans (by_.mono (c7).size); (go_wp2_with (fail); refine (cawake_ok _).mono ?_; rintro e x ⟨rfl, bx⟩; go_wp2_with (fail); go_ret; exact ⟨rfl, (cy).trans (bx.mono (cy).size)⟩))
          case true =>
            rw [out_star fv, out_c fv] at qs
            rw [fv] at qv
            have QS := hide qs
            have QV := hide qv
            clear qs qv fv
            rcases hgo with g | ⟨g, g'⟩
            all_goals
              (go_enter Try.func3, Try.ntmps3; go_wp2_with (fail); refine (QC.out w hS hT).mono ?_; rintro e w1 ⟨R1, d1, rfl, Z1, b1⟩; have S1 := hS.below b1; have T1 := hT.below b1; go_wp2_with (fail); refine (QM.out w1 S1 T1).mono ?_; rintro e w2 ⟨R2, d2, rfl, Z2, b2⟩; have S2 := S1.below b2; have T2 := T1.below b2; have Z12 := Z1.below b2; have c2 := b1.trans (b2.mono b1.size); clear S1 T1 Z1 b1 b2; go_wp2_with (fail); refine (QS.out w2 S2).mono ?_; rintro e w3 ⟨R3, d3, rfl, Z3, b3⟩; have S3 := S2.below b3; have T3 := T2.below b3; have Z13 := Z12.below b3; have Z23 := Z2.below b3; have c3 := c2.trans (b3.mono c2.size); clear S2 T2 Z12 Z2 b3 c2; go_wp2_with (fail); refine (QN.out w3 S3).mono ?_; rintro e w4 ⟨R4, d4, rfl, N4, b4⟩; have S4 := S3.below b4; have T4 := T3.below b4; have Z14 := Z13.below b4; have Z24 := Z23.below b4; have Z34 := Z3.below b4; have c4 := c3.trans (b4.mono c3.size); clear S3 T3 Z13 Z23 Z3 b4 c3; go_wp2_with (fail); refine (QO.out w4 S4).mono ?_; rintro e w5 ⟨R5, d5, rfl, N5, b5⟩; have S5 := S4.below b5; have T5 := T4.below b5; have Z15 := Z14.below b5; have Z25 := Z24.below b5; have Z35 := Z34.below b5; have N45 := N4.below b5; have c5 := c4.trans (b5.mono c4.size); clear S4 T4 Z14 Z24 Z34 b5 c4 N4; go_wp2_with (fail); refine (QU.out w5 _ _ _ _ N45 N5).mono ?_; rintro e w6 ⟨rfl, b6⟩; have S6 := S5.below b6; have T6 := T5.below b6; have Z16 := Z15.below b6; have Z26 := Z25.below b6; have Z36 := Z35.below b6; have c6 := c5.trans (b6.mono c5.size); clear S5 T5 Z15 Z25 Z35 b6 c5 N5 N45; have V6 := set_v v w6; go_wp2_with (fail); refine (QV.out _ _ (S6.alloc _) V6).mono ?_; rintro e w7 ⟨rfl, b7⟩; have S7 := (S6.alloc _).below b7; have T7 := (T6.alloc _).below b7; have Z17 := (Z16.alloc _).below b7; have Z27 := (Z26.alloc _).below b7; have Z37 := (Z36.alloc _).below b7; have c7 := (c6.alloc c6.size _).trans (b7.mono (Nat.le_trans c6.size (by simp))); clear S6 T6 Z16 Z26 Z36 b7 c6 V6)
              (go_wp2_with (fail); refine (QT.out _ _ (S7.alloc _) (set_v v w7)).mono ?_; rintro e w8 ⟨R8, d8, rfl, Z8, b8⟩; have c8 := (c7.alloc c7.size _).trans (b8.mono (Nat.le_trans c7.size (by simp))); have S8 := (S7.alloc _).below b8; have T8 := (T7.alloc _).below b8; have Z18 := (Z17.alloc _).below b8; have Z28 := (Z27.alloc _).below b8; have Z38 := (Z37.alloc _).below b8; clear b8 S7 T7 Z17 Z27 Z37 c7; go_wp2_with (fail); refine (esame_yes _ _ _ _ _ _ _ _ _ _ Z38 Z8).mono ?_; rintro e w9 ⟨rfl, b9⟩; have c9 := c8.trans (b9.mono c8.size); have S9 := S8.below b9; have T9 := T8.below b9; have Z19 := Z18.below b9; have Z29 := Z28.below b9; clear b9 S8 T8 Z18 Z28 Z38 Z8 c8)
              (go_wp2_with (fail); refine (QF.out _ S9 T9).mono ?_; rintro e y ⟨rfl, by_⟩; have cy := (c9).trans (by_.mono (c9).size); (go_wp2_with (fail); refine (cawake_ok _).mono ?_; rintro e x ⟨rfl, bx⟩; go_wp2_with (fail); go_ret; exact ⟨rfl, (cy).trans (bx.mono (cy).size)⟩))
        case true =>
          rw [out_cut fs, out_c fs] at qc
          rw [out_mix fs, out_c fs] at qm
          rw [fs] at qf
          have QC := hide qc
          have QM := hide qm
          have QF := hide qf
          clear qc qm qf fs
          cases fv : fitsE n l [v]
          case false =>
            rw [bad_s fv, bad_c fv] at qs
            rw [fv] at qv
            have QS := hide qs
            have QV := hide qv
            clear qs qv fv
            rcases hgo with g | ⟨g, g'⟩
            all_goals
              (go_enter Try.func3, Try.ntmps3; go_wp2_with (fail); refine (QC.out w hS hT).mono ?_; rintro e w1 ⟨R1, d1, rfl, Z1, b1⟩; have S1 := hS.below b1; have T1 := hT.below b1; go_wp2_with (fail); refine (QM.out w1 S1 T1).mono ?_; rintro e w2 ⟨R2, d2, rfl, Z2, b2⟩; have S2 := S1.below b2; have T2 := T1.below b2; have Z12 := Z1.below b2; have c2 := b1.trans (b2.mono b1.size); clear S1 T1 Z1 b1 b2; go_wp2_with (fail); refine (QS.out w2 S2).mono ?_; rintro e w3 ⟨R3, d3, rfl, Z3, b3⟩; have S3 := S2.below b3; have T3 := T2.below b3; have Z13 := Z12.below b3; have Z23 := Z2.below b3; have c3 := c2.trans (b3.mono c2.size); clear S2 T2 Z12 Z2 b3 c2; go_wp2_with (fail); refine (QN.out w3 S3).mono ?_; rintro e w4 ⟨R4, d4, rfl, N4, b4⟩; have S4 := S3.below b4; have T4 := T3.below b4; have Z14 := Z13.below b4; have Z24 := Z23.below b4; have Z34 := Z3.below b4; have c4 := c3.trans (b4.mono c3.size); clear S3 T3 Z13 Z23 Z3 b4 c3; go_wp2_with (fail); refine (QO.out w4 S4).mono ?_; rintro e w5 ⟨R5, d5, rfl, N5, b5⟩; have S5 := S4.below b5; have T5 := T4.below b5; have Z15 := Z14.below b5; have Z25 := Z24.below b5; have Z35 := Z34.below b5; have N45 := N4.below b5; have c5 := c4.trans (b5.mono c4.size); clear S4 T4 Z14 Z24 Z34 b5 c4 N4; go_wp2_with (fail); refine (QU.out w5 _ _ _ _ N45 N5).mono ?_; rintro e w6 ⟨rfl, b6⟩; have S6 := S5.below b6; have T6 := T5.below b6; have Z16 := Z15.below b6; have Z26 := Z25.below b6; have Z36 := Z35.below b6; have c6 := c5.trans (b6.mono c5.size); clear S5 T5 Z15 Z25 Z35 b6 c5 N5 N45; have V6 := set_v v w6; go_wp2_with (fail); refine (QV.out _ _ (S6.alloc _) V6).mono ?_; rintro e w7 ⟨rfl, b7⟩; have S7 := (S6.alloc _).below b7; have T7 := (T6.alloc _).below b7; have Z17 := (Z16.alloc _).below b7; have Z27 := (Z26.alloc _).below b7; have Z37 := (Z36.alloc _).below b7; have c7 := (c6.alloc c6.size _).trans (b7.mono (Nat.le_trans c6.size (by simp))); clear S6 T6 Z16 Z26 Z36 b7 c6 V6)
              (go_wp2_with (fail); refine (QF.out _ S7 T7).mono ?_; rintro e y ⟨rfl, by_⟩; have cy := (c7).trans (by_.mono (c7).size); have Sy := (S7).below by_; have Ty := (T7).below by_; have Z1y := (Z17).below by_; have Z2y := (Z27).below by_; clear by_; go_wp2_with (fail); refine (QR.out _ Sy Ty).mono ?_; rintro e y2 ⟨R9, d9, rfl, Z9, bz⟩; have cz := cy.trans (bz.mono cy.size); have Sz := Sy.below bz; have Tz := Ty.below bz; have Z1z := Z1y.below bz; have Z2z := Z2y.below bz; clear bz; go_wp2_with (fail); refine (esame_yes _ _ _ _ _ _ _ _ _ _ Z1z Z9).mono ?_; rintro e y3 ⟨rfl, bz⟩; have cu := cz.trans (bz.mono cz.size); have Su := Sz.below bz; have Tu := Tz.below bz; have Z2u := Z2z.below bz; clear bz; go_wp2_with (fail); refine (QX.out _ Su Tu).mono ?_; rintro e y4 ⟨R10, d10, rfl, Z10, bz⟩; have cv := cu.trans (bz.mono cu.size); have Z2v := Z2u.below bz; clear bz; go_wp2_with (fail); refine (esame_yes _ _ _ _ _ _ _ _ _ _ Z2v Z10).mono ?_; rintro e y5 ⟨rfl, bz⟩; have cx := cv.trans (bz.mono cv.size); (go_wp2_with (fail); refine (cawake_ok _).mono ?_; rintro e x ⟨rfl, bx⟩; go_wp2_with (fail); go_ret; exact ⟨rfl, (cx).trans (bx.mono (cx).size)⟩))
          case true =>
            rw [out_star fv, out_c fv] at qs
            rw [fv] at qv
            have QS := hide qs
            have QV := hide qv
            clear qs qv fv
            rcases hgo with g | ⟨g, g'⟩
            all_goals
              (go_enter Try.func3, Try.ntmps3; go_wp2_with (fail); refine (QC.out w hS hT).mono ?_; rintro e w1 ⟨R1, d1, rfl, Z1, b1⟩; have S1 := hS.below b1; have T1 := hT.below b1; go_wp2_with (fail); refine (QM.out w1 S1 T1).mono ?_; rintro e w2 ⟨R2, d2, rfl, Z2, b2⟩; have S2 := S1.below b2; have T2 := T1.below b2; have Z12 := Z1.below b2; have c2 := b1.trans (b2.mono b1.size); clear S1 T1 Z1 b1 b2; go_wp2_with (fail); refine (QS.out w2 S2).mono ?_; rintro e w3 ⟨R3, d3, rfl, Z3, b3⟩; have S3 := S2.below b3; have T3 := T2.below b3; have Z13 := Z12.below b3; have Z23 := Z2.below b3; have c3 := c2.trans (b3.mono c2.size); clear S2 T2 Z12 Z2 b3 c2; go_wp2_with (fail); refine (QN.out w3 S3).mono ?_; rintro e w4 ⟨R4, d4, rfl, N4, b4⟩; have S4 := S3.below b4; have T4 := T3.below b4; have Z14 := Z13.below b4; have Z24 := Z23.below b4; have Z34 := Z3.below b4; have c4 := c3.trans (b4.mono c3.size); clear S3 T3 Z13 Z23 Z3 b4 c3; go_wp2_with (fail); refine (QO.out w4 S4).mono ?_; rintro e w5 ⟨R5, d5, rfl, N5, b5⟩; have S5 := S4.below b5; have T5 := T4.below b5; have Z15 := Z14.below b5; have Z25 := Z24.below b5; have Z35 := Z34.below b5; have N45 := N4.below b5; have c5 := c4.trans (b5.mono c4.size); clear S4 T4 Z14 Z24 Z34 b5 c4 N4; go_wp2_with (fail); refine (QU.out w5 _ _ _ _ N45 N5).mono ?_; rintro e w6 ⟨rfl, b6⟩; have S6 := S5.below b6; have T6 := T5.below b6; have Z16 := Z15.below b6; have Z26 := Z25.below b6; have Z36 := Z35.below b6; have c6 := c5.trans (b6.mono c5.size); clear S5 T5 Z15 Z25 Z35 b6 c5 N5 N45; have V6 := set_v v w6; go_wp2_with (fail); refine (QV.out _ _ (S6.alloc _) V6).mono ?_; rintro e w7 ⟨rfl, b7⟩; have S7 := (S6.alloc _).below b7; have T7 := (T6.alloc _).below b7; have Z17 := (Z16.alloc _).below b7; have Z27 := (Z26.alloc _).below b7; have Z37 := (Z36.alloc _).below b7; have c7 := (c6.alloc c6.size _).trans (b7.mono (Nat.le_trans c6.size (by simp))); clear S6 T6 Z16 Z26 Z36 b7 c6 V6)
              (go_wp2_with (fail); refine (QT.out _ _ (S7.alloc _) (set_v v w7)).mono ?_; rintro e w8 ⟨R8, d8, rfl, Z8, b8⟩; have c8 := (c7.alloc c7.size _).trans (b8.mono (Nat.le_trans c7.size (by simp))); have S8 := (S7.alloc _).below b8; have T8 := (T7.alloc _).below b8; have Z18 := (Z17.alloc _).below b8; have Z28 := (Z27.alloc _).below b8; have Z38 := (Z37.alloc _).below b8; clear b8 S7 T7 Z17 Z27 Z37 c7; go_wp2_with (fail); refine (esame_yes _ _ _ _ _ _ _ _ _ _ Z38 Z8).mono ?_; rintro e w9 ⟨rfl, b9⟩; have c9 := c8.trans (b9.mono c8.size); have S9 := S8.below b9; have T9 := T8.below b9; have Z19 := Z18.below b9; have Z29 := Z28.below b9; clear b9 S8 T8 Z18 Z28 Z38 Z8 c8)
              (go_wp2_with (fail); refine (QF.out _ S9 T9).mono ?_; rintro e y ⟨rfl, by_⟩; have cy := (c9).trans (by_.mono (c9).size); have Sy := (S9).below by_; have Ty := (T9).below by_; have Z1y := (Z19).below by_; have Z2y := (Z29).below by_; clear by_; go_wp2_with (fail); refine (QR.out _ Sy Ty).mono ?_; rintro e y2 ⟨R9, d9, rfl, Z9, bz⟩; have cz := cy.trans (bz.mono cy.size); have Sz := Sy.below bz; have Tz := Ty.below bz; have Z1z := Z1y.below bz; have Z2z := Z2y.below bz; clear bz; go_wp2_with (fail); refine (esame_yes _ _ _ _ _ _ _ _ _ _ Z1z Z9).mono ?_; rintro e y3 ⟨rfl, bz⟩; have cu := cz.trans (bz.mono cz.size); have Su := Sz.below bz; have Tu := Tz.below bz; have Z2u := Z2z.below bz; clear bz; go_wp2_with (fail); refine (QX.out _ Su Tu).mono ?_; rintro e y4 ⟨R10, d10, rfl, Z10, bz⟩; have cv := cu.trans (bz.mono cu.size); have Z2v := Z2u.below bz; clear bz; go_wp2_with (fail); refine (esame_yes _ _ _ _ _ _ _ _ _ _ Z2v Z10).mono ?_; rintro e y5 ⟨rfl, bz⟩; have cx := cv.trans (bz.mono cv.size); (go_wp2_with (fail); refine (cawake_ok _).mono ?_; rintro e x ⟨rfl, bx⟩; go_wp2_with (fail); go_ret; exact ⟨rfl, (cx).trans (bx.mono (cx).size)⟩))
end Go.Proofs.Ytbbdbgfenidhgaa
