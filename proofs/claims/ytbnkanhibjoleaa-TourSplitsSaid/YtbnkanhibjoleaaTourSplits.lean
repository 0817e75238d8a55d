/-
  raftsmanlaw08.TourSplits walked.
-/
import Derived.Test.YtbnkanhibjoleaaTourTurns
import Derived.Test.YtbnkanhibjoleaaTSplit0
namespace Go.Proofs.Ytbnkanhibjoleaa
open Go Go.RowKit
attribute [local go_sem] Heavy heavyUpon

theorem come_no {a b : List Int} (h : comeI a b = false) : ∀ x ∈ a, x ∉ b := fun x hx hb => by
  unfold comeI at h
  rw [List.any_eq_false] at h
  exact h x hb (by simpa using hx)

set_option maxRecDepth 100000 in
set_option maxHeartbeats 6400000 in
theorem tsplits_ok (a b : List Int) (ha : ∀ x ∈ a, (Lit.int .i64 x).wf = true) (hb : ∀ x ∈ b, (Lit.int .i64 x).wf = true) (u v : Int) (hu64 : (Lit.int .i64 u).wf = true) (A B : Option Addr) (m c n d : Nat) (w : World) (hS : Sl w [] 1 A m c (ints .i64 a)) (hT : Sl w [] 1 B n d (ints .i64 b)) :
    Calls Try.prog 6 #[.slice A m c, .slice B n d, .int .i64 u, .int .i64 v] w (Ret (.bool true) w) := by
  by_cases h1 : 60 < m
  · (go_enter Try.func6, Try.ntmps6)
    (go_wp2_with (fail); refine (wawake_ok _).mono ?_; rintro e x ⟨rfl, bx⟩; go_wp2_with (fail); go_ret; exact ⟨rfl, (Below.refl w.heap.size w).trans (bx.mono (Below.refl w.heap.size w).size)⟩)
  have hm : m ≤ 60 := by omega
  clear h1
  by_cases h1 : 60 < n
  · (go_enter Try.func6, Try.ntmps6)
    (go_wp2_with (fail); refine (wawake_ok _).mono ?_; rintro e x ⟨rfl, bx⟩; go_wp2_with (fail); go_ret; exact ⟨rfl, (Below.refl w.heap.size w).trans (bx.mono (Below.refl w.heap.size w).size)⟩)
  have hn : n ≤ 60 := by omega
  clear h1
  have HLA := hide (show a.length = m by have := hS.len; simpa using this)
  have HLB := hide (show b.length = n by have := hT.len; simpa using this)
  have ql := fun W h h' => link_any a b ha hb u v A B m c n d W h h' (by omega) (by omega)
  by_cases hok : isT a = true ∧ isT b = true ∧ u ∈ a ∧ v ∈ b ∧ comeI a b = false
  case neg =>
    have e : ∃ q, outL a b u v = ([], q) ∧ (q = 1 ∨ q = 3 ∨ q = 4) := by
      unfold outL
      split
      · split
        · split
          · exact ⟨4, rfl, .inr (.inr rfl)⟩
          · exfalso
            apply hok
            rename_i g1 g2 g3
            simp only [Bool.and_eq_true, decide_eq_true_eq] at g1 g2
            exact ⟨g1.1, g1.2, g2.1, g2.2, by simpa using g3⟩
        · exact ⟨3, rfl, .inr (.inl rfl)⟩
      · exact ⟨1, rfl, .inl rfl⟩
    obtain ⟨q, e, hq⟩ := e
    rw [e] at ql
    have QL := hide ql
    clear ql e hok ha hb
    rcases hq with rfl | rfl | rfl
    all_goals
      (go_enter Try.func6, Try.ntmps6)
      go_wp2_with (fail)
      refine (QL.out w hS hT).mono ?_
      rintro e w1 ⟨R1, d1, rfl, _, b1⟩
      (go_wp2_with (fail); refine (wawake_ok _).mono ?_; rintro e x ⟨rfl, bx⟩; go_wp2_with (fail); go_ret; exact ⟨rfl, (b1).trans (bx.mono (b1).size)⟩)
  obtain ⟨ta, tb, hu, hv, hcm⟩ := hok
  have hdis := come_no hcm
  have e : outL a b u v = (fromT a u ++ fromT b v ++ [u], 0) := by
    unfold outL
    rw [ta, tb, hcm, decide_eq_true hu, decide_eq_true hv]
    rfl
  rw [e] at ql
  simp only [] at ql
  obtain ⟨hAl, _, _, hAm⟩ := fromT_spec ta hu
  obtain ⟨hBl, _, _, hBm⟩ := fromT_spec tb hv
  obtain ⟨tA, pA⟩ := from_tour ta hu
  obtain ⟨tB, pB⟩ := from_tour tb hv
  have lA := from_loop ta hu
  have lB := from_loop tb hv
  have wA := wf_from ta hu ha
  have wB := wf_from tb hv hb
  rw [HLA.out] at hAl
  rw [HLB.out] at hBl
  have hd : ∀ x ∈ fromT a u, x ∉ fromT b v := fun x hx hy => hdis x ((hAm x).1 hx) ((hBm x).1 hy)
  have hd2 : ∀ x ∈ fromT b v, x ∉ fromT a u := fun x hx hy => hd x hy hx
  have tt := link_tour lA lB hd tA tB
  have he := link_edge lA lB hd
  obtain ⟨f1, f2⟩ := link_from lA lB hd
  have htl : (fromT a u ++ fromT b v ++ [u]).length = (fromT a u).length + (fromT b v).length + 1 := by simp; omega
  obtain ⟨x1, y1⟩ := cut_parts lA lB hd f1 htl
  obtain ⟨x2, y2⟩ := cut_parts lB lA hd2 f2 (by rw [htl]; omega)
  have wT : ∀ x ∈ fromT a u ++ fromT b v ++ [u], (Lit.int .i64 x).wf = true := fun x hx => by
    rcases List.mem_append.1 hx with hx | hx
    · rcases List.mem_append.1 hx with hx | hx
      · exact wA x hx
      · exact wB x hx
    · rw [List.mem_singleton.1 hx]; exact hu64
  have hTl : (fromT a u ++ fromT b v ++ [u]).length = m + n + 1 := by rw [htl, hAl, hBl]
  have qc := fun W B d h => cutT_any (fromT a u ++ fromT b v ++ [u]) wT u v B (m + n + 1) d W h (by omega)
  have qd := fun W B d h => cutT_any (fromT a u ++ fromT b v ++ [u]) wT v u B (m + n + 1) d W h (by omega)
  have ec : outC3 (fromT a u ++ fromT b v ++ [u]) u v = (fromT a u, fromT b v, 0) := by
    unfold outC3
    rw [if_pos tt, decide_eq_true he, if_pos rfl, x1, y1]
  have ed : outC3 (fromT a u ++ fromT b v ++ [u]) v u = (fromT b v, fromT a u, 0) := by
    unfold outC3
    rw [if_pos tt, decide_eq_true (by rw [mkE_comm]; exact he), if_pos rfl, x2, y2]
  rw [ec] at qc
  rw [ed] at qd
  simp only [] at qc qd
  rw [hTl] at ql
  rw [hAl, hBl] at qc qd
  have qea := fun W h => edges_any a ha A m c W h (by omega)
  have qeb := fun W h => edges_any b hb B n d W h (by omega)
  have qex := fun W B d h => edges_any (fromT a u) wA B m d W h (by omega)
  have qey := fun W B d h => edges_any (fromT b v) wB B n d W h (by omega)
  rw [outD_in ta] at qea
  rw [outD_in tb] at qeb
  rw [outD_in tA] at qex
  rw [outD_in tB] at qey
  have qvx := fun W B d h => verts_any (fromT a u) wA B m d W h (by omega)
  rw [outV_in tA] at qvx
  have h1 : (edgesT a).length ≤ 60 := by have := tour_len ta; have := HLA.out; omega
  have h2 : (edgesT b).length ≤ 60 := by have := tour_len tb; have := HLB.out; omega
  have h3 : (edgesT (fromT a u)).length ≤ 60 := by have := tour_len tA; omega
  have h4 : (edgesT (fromT b v)).length ≤ 60 := by have := tour_len tB; omega
  have QDX := hide (fun W B d B' d' h h' => ledges_yes _ _ pA (fun e he => edges_zero he) B B' (edgesT (fromT a u)).length d (edgesT a).length d' W h h' (by omega) (by omega))
  have QDY := hide (fun W B d B' d' h h' => ledges_yes _ _ pB (fun e he => edges_zero he) B B' (edgesT (fromT b v)).length d (edgesT b).length d' W h h' (by omega) (by omega))
  have hm0 : 0 < m := by have := lA.pos; omega
  have QL := hide ql
  have QC := hide qc
  have QD := hide qd
  have QEA := hide qea
  have QEB := hide qeb
  have QEX := hide qex
  have QEY := hide qey
  have QVX := hide qvx
  clear ql qc qd qea qeb qex qey qvx h1 h2 h3 h4 hTl wT wA wB tt he f1 f2 htl x1 y1 x2 y2 ec ed hd hd2 lA lB tA tB pA pB hAm hBm hAl hBl e hdis hcm hu hv ta tb ha hb
  generalize fromT a u ++ fromT b v ++ [u] = T at *
  generalize fromT a u = X at *
  generalize fromT b v = Y at *
  generalize edgesT a = EA at *
  generalize edgesT b = EB at *
  generalize edgesT X = EX at *
  generalize edgesT Y = EY at *
  generalize vertsT X = VX at *
  have hmb : (0 : Int) < (m : Int) := by omega
  (go_enter Try.func6, Try.ntmps6)
  go_wp2_with (fail)
  refine (QL.out w hS hT).mono ?_
  rintro e w1 ⟨R1, d1, rfl, N1, b1⟩
  have S1 := hS.below b1
  have T1 := hT.below b1
  go_wp2_with (fail)
  refine (QC.out w1 _ _ N1).mono ?_
  rintro e w2 ⟨R2, d2, R3, d3, rfl, X2, Y2, b2⟩
  have hb2 := b1.trans (b2.mono b1.size)
  have S2 := S1.below b2
  have T2 := T1.below b2
  have N2 := N1.below b2
  clear b2 b1 S1 T1 N1
  go_wp2_with (fail)
  refine (QD.out w2 _ _ N2).mono ?_
  rintro e w3 ⟨R4, d4, R5, d5, rfl, P3, Q3, b3⟩
  have hb3 := hb2.trans (b3.mono hb2.size)
  have S3 := S2.below b3
  have T3 := T2.below b3
  have X3 := X2.below b3
  have Y3 := Y2.below b3
  clear b3 hb2 S2 T2 N2 X2 Y2 P3
  go_wp2_with (fail)
  refine (QEX.out w3 _ _ X3).mono ?_
  rintro e w4 ⟨R6, d6, rfl, Z4, b4⟩
  have hb4 := hb3.trans (b4.mono hb3.size)
  have S4 := S3.below b4
  have T4 := T3.below b4
  have X4 := X3.below b4
  have Y4 := Y3.below b4
  have Q4 := Q3.below b4
  clear b4 hb3 S3 T3 X3 Y3 Q3
  go_wp2_with (fail)
  refine (QEA.out w4 S4).mono ?_
  rintro e w5 ⟨R7, d7, rfl, Z5, b5⟩
  have hb5 := hb4.trans (b5.mono hb4.size)
  have T5 := T4.below b5
  have X5 := X4.below b5
  have Y5 := Y4.below b5
  have Q5 := Q4.below b5
  have Z45 := Z4.below b5
  clear b5 hb4 S4 T4 X4 Y4 Q4 Z4
  go_wp2_with (fail)
  refine (QDX.out w5 _ _ _ _ Z45 Z5).mono ?_
  rintro e w6 ⟨rfl, b6⟩
  have hb6 := hb5.trans (b6.mono hb5.size)
  have T6 := T5.below b6
  have X6 := X5.below b6
  have Y6 := Y5.below b6
  have Q6 := Q5.below b6
  clear b6 hb5 T5 X5 Y5 Q5 Z45 Z5
  go_wp2_with (fail)
  refine (QEY.out w6 _ _ Y6).mono ?_
  rintro e w7 ⟨R8, d8, rfl, Z7, b7⟩
  have hb7 := hb6.trans (b7.mono hb6.size)
  have T7 := T6.below b7
  have X7 := X6.below b7
  have Q7 := Q6.below b7
  clear b7 hb6 T6 X6 Y6 Q6
  go_wp2_with (fail)
  refine (QEB.out w7 T7).mono ?_
  rintro e w8 ⟨R9, d9, rfl, Z8, b8⟩
  have hb8 := hb7.trans (b8.mono hb7.size)
  have X8 := X7.below b8
  have Q8 := Q7.below b8
  have Z78 := Z7.below b8
  clear b8 hb7 T7 X7 Q7 Z7
  go_wp2_with (fail)
  refine (QDY.out w8 _ _ _ _ Z78 Z8).mono ?_
  rintro e w9 ⟨rfl, b9⟩
  have hb9 := hb8.trans (b9.mono hb8.size)
  have X9 := X8.below b9
  have Q9 := Q8.below b9
  clear b9 hb8 X8 Q8 Z78 Z8
  go_wp2_with (fail)
  refine (QVX.out w9 _ _ X9).mono ?_
  rintro e wa ⟨Ra, da, rfl, Va, ba⟩
  have hba := hb9.trans (ba.mono hb9.size)
  have Qa := Q9.below ba
  clear ba hb9 X9 Q9
  go_wp2_with (fail)
  refine (QVX.out wa _ _ Qa).mono ?_
  rintro e wb ⟨Rb, db, rfl, Vb, bb⟩
  have hbb := hba.trans (bb.mono hba.size)
  have Vab := Va.below bb
  clear bb hba Qa
  go_wp2_with (fail)
  refine (isame_yes _ _ _ _ _ _ _ _ _ _ Vab Vb).mono ?_
  rintro e wc ⟨rfl, bc⟩
  have hbc := hbb.trans (bc.mono hbb.size)
  clear bc hbb Vab Vb
  (go_wp2_with (fail); refine (wawake_ok _).mono ?_; rintro e x ⟨rfl, bx⟩; go_wp2_with (fail); go_ret; exact ⟨rfl, (hbc).trans (bx.mono (hbc).size)⟩)
end Go.Proofs.Ytbnkanhibjoleaa
