/-
  raftsmanlaw13.CutStars walked.
-/
import Derived.Test.YtbbdbgfenidhgaaCutMixed
namespace Go.Proofs.Ytbbdbgfenidhgaa
open Go Go.RowKit
attribute [local go_sem] Heavy heavyUpon

/-- The first k vertices. -/
def uptoL (k : Nat) : List Int := (List.range k).map Int.ofNat
theorem uptoL_step (k : Nat) : uptoL (k + 1) = uptoL k ++ [(k : Int)] := by unfold uptoL; rw [List.range_succ, List.map_append]; rfl
theorem uptoL_len (k : Nat) : (uptoL k).length = k := by simp [uptoL]
theorem uptoL_mem {k : Nat} {v : Int} : v ∈ uptoL k ↔ 0 ≤ v ∧ v < k := by
  unfold uptoL
  simp only [List.mem_map, List.mem_range]
  constructor
  · rintro ⟨a, ha, rfl⟩
    exact ⟨by simp, by simpa using ha⟩
  · rintro ⟨h0, h1⟩
    exact ⟨v.toNat, by omega, by simp [Int.toNat_of_nonneg h0]⟩
/-- How many edges the stars of the first k vertices have together. -/
def degN (l : List E3) : Nat → Nat
  | 0 => 0
  | k + 1 => degN l k + (cutR l [(k : Int)]).length
theorem degN_le (l : List E3) (k : Nat) : degN l k ≤ k * l.length := by
  induction k with
  | zero => simp [degN]
  | succ k ih =>
    have : (cutR l [(k : Int)]).length ≤ l.length := List.length_filter_le _ _
    rw [degN, Nat.add_mul]; omega
def endN (k : Nat) (e : E3) : Nat := (if e.1 < k then 1 else 0) + (if e.2.1 < k then 1 else 0)
theorem degN_eq (l : List E3) (k : Nat) (h : ∀ e ∈ l, 0 ≤ e.1 ∧ e.1 < e.2.1) : degN l k = (l.map (endN k)).sum := by
  induction k with
  | zero =>
    rw [degN]
    induction l with
    | nil => rfl
    | cons x l ih =>
      have hx := h x List.mem_cons_self
      rw [List.map_cons, List.sum_cons, ← ih (fun e he => h e (List.mem_cons_of_mem _ he))]
      have h1 : ¬ x.1 < ((0 : Nat) : Int) := by simp; omega
      have h2 : ¬ x.2.1 < ((0 : Nat) : Int) := by simp; omega
      unfold endN
      rw [if_neg h1, if_neg h2]
  | succ k ih =>
    rw [degN, ih]
    clear ih
    unfold cutR
    induction l with
    | nil => rfl
    | cons x l ih =>
      have hx := h x List.mem_cons_self
      have hi := ih (fun e he => h e (List.mem_cons_of_mem _ he))
      rw [List.map_cons, List.sum_cons, List.map_cons, List.sum_cons, ← hi, List.filter_cons]
      have hc : endN (k + 1) x = endN k x + (if cutT [(k : Int)] x = true then 1 else 0) := by
        unfold endN cutT
        by_cases h1 : x.1 = k
        · by_cases h2 : x.2.1 = k
          · omega
          · have e1 : (x.1 < ((k + 1 : Nat) : Int)) := by omega
            have e2 : ¬ (x.1 < (k : Int)) := by omega
            have e3 : (x.2.1 < ((k + 1 : Nat) : Int)) ↔ (x.2.1 < (k : Int)) := by omega
            have e4 : (if (decide (x.1 ∈ [(k : Int)]) != decide (x.2.1 ∈ [(k : Int)])) = true then 1 else 0) = 1 := if_pos (by simp [h1, h2])
            rw [e4, if_pos e1, if_neg e2]
            by_cases h3 : x.2.1 < (k : Int)
            · rw [if_pos h3, if_pos (e3.2 h3)]
            · rw [if_neg h3, if_neg (fun h => h3 (e3.1 h))]
        · by_cases h2 : x.2.1 = k
          · have e1 : (x.2.1 < ((k + 1 : Nat) : Int)) := by omega
            have e2 : ¬ (x.2.1 < (k : Int)) := by omega
            have e3 : (x.1 < ((k + 1 : Nat) : Int)) ↔ (x.1 < (k : Int)) := by omega
            have e4 : (if (decide (x.1 ∈ [(k : Int)]) != decide (x.2.1 ∈ [(k : Int)])) = true then 1 else 0) = 1 := if_pos (by simp [h1, h2])
            rw [e4, if_pos e1, if_neg e2]
            by_cases h3 : x.1 < (k : Int)
            · rw [if_pos h3, if_pos (e3.2 h3)]
            · rw [if_neg h3, if_neg (fun h => h3 (e3.1 h))]
          · have e1 : (x.2.1 < ((k + 1 : Nat) : Int)) ↔ (x.2.1 < (k : Int)) := by omega
            have e3 : (x.1 < ((k + 1 : Nat) : Int)) ↔ (x.1 < (k : Int)) := by omega
            have e4 : (if (decide (x.1 ∈ [(k : Int)]) != decide (x.2.1 ∈ [(k : Int)])) = true then 1 else 0) = 0 := if_neg (by simp [h1, h2])
            rw [e4]
            simp only [e1, e3, Nat.add_zero]
      rw [hc]
      split <;> simp <;> omega
theorem degN_all {n : Nat} {l : List E3} (hr : rightE n l = true) : degN l n = 2 * l.length := by
  rw [degN_eq l n (fun e he => by have := rightE_mem hr he; omega)]
  have H : ∀ l' : List E3, (∀ e ∈ l', endN n e = 2) → (l'.map (endN n)).sum = 2 * l'.length := by
    intro l'
    induction l' with
    | nil => intro _; rfl
    | cons x l' ih => intro h; rw [List.map_cons, List.sum_cons, ih (fun e he => h e (List.mem_cons_of_mem _ he)), h x List.mem_cons_self, List.length_cons]; omega
  refine H l fun e he => ?_
  have := rightE_mem hr he
  unfold endN
  rw [if_pos (by omega), if_pos (by omega)]
theorem fits_one {n : Int} {l : List E3} {v : Int} (hr : rightE n l = true) (h : 0 ≤ v ∧ v < n) : fitsE n l [v] = true := by
  unfold fitsE; rw [hr]; simp [inN_yes h]
theorem fits_none {n : Int} {l : List E3} (hr : rightE n l = true) : fitsE n l [] = true := by unfold fitsE; rw [hr]; rfl
theorem fits_upto {n : Nat} {l : List E3} (hr : rightE n l = true) : fitsE n l (uptoL n) = true := by
  unfold fitsE
  rw [hr, Bool.true_and, List.all_eq_true]
  exact fun v hv => inN_iff.2 (uptoL_mem.1 hv)
theorem cut_none (l : List E3) : cutR l [] = [] := by
  unfold cutR
  rw [List.filter_eq_nil_iff]
  intro e _
  simp [cutT]
theorem cut_upto {n : Nat} {l : List E3} (hr : rightE n l = true) : cutR l (uptoL n) = [] := by
  unfold cutR
  rw [List.filter_eq_nil_iff]
  intro e he
  have hm := rightE_mem hr he
  unfold cutT
  rw [decide_eq_true (uptoL_mem.2 ⟨by omega, by omega⟩), decide_eq_true (uptoL_mem.2 ⟨by omega, by omega⟩)]
  decide

set_option maxHeartbeats 6400000 in
theorem cstars_ok (n : Int) (l : List E3) (A : Option Addr) (m c : Nat) (w : World) (hS : ESl w [] A m c l) :
    Calls Try.prog 6 #[.int .i64 n, .slice A m c] w (Ret (.bool true) w) := by
  by_cases h1 : 60 < m
  · (go_enter Try.func6, Try.ntmps6)
    (go_wp2_with (fail); refine (cawake_ok _).mono ?_; rintro e x ⟨rfl, bx⟩; go_wp2_with (fail); go_ret; exact ⟨rfl, (Below.refl w.heap.size w).trans (bx.mono (Below.refl w.heap.size w).size)⟩)
  have h1' : m ≤ 60 := by omega
  clear h1
  by_cases h3 : 60 < n
  · (go_enter Try.func6, Try.ntmps6)
    (go_wp2_with (fail); refine (cawake_ok _).mono ?_; rintro e x ⟨rfl, bx⟩; go_wp2_with (fail); go_ret; exact ⟨rfl, (Below.refl w.heap.size w).trans (bx.mono (Below.refl w.heap.size w).size)⟩)
  have h3' : n ≤ 60 := by omega
  clear h3
  have qr := fun W h => rright_any l [] A n m c W h
  cases hr : rightE n l
  case false =>
    rw [hr] at qr
    have QRT := hide qr
    clear qr hr
    (go_enter Try.func6, Try.ntmps6)
    go_wp2_with (fail)
    refine (QRT.out w hS).mono ?_
    rintro e w1 ⟨rfl, b1⟩
    (go_wp2_with (fail); refine (cawake_ok _).mono ?_; rintro e x ⟨rfl, bx⟩; go_wp2_with (fail); go_ret; exact ⟨rfl, (b1).trans (bx.mono (b1).size)⟩)
  rw [hr] at qr
  have QRT := hide qr
  clear qr
  obtain ⟨hn0, hn1⟩ := rightE_n hr
  obtain ⟨n, rfl⟩ := Int.eq_ofNat_of_zero_le hn0
  have qe := fun W h1 => cut_ok l [] [] [] A none n m c 0 0 W h1 (Sl.nil_ _ _ _) (by omega) [] (by simp)
  rw [out_cut (fits_none hr), out_c (fits_none hr), cut_none l] at qe
  have qa := fun W E d h1 h2 => cut_ok l (uptoL n) [] [] A E n m c n d W h1 h2 (by omega) [] (by simp)
  rw [out_cut (fits_upto hr), out_c (fits_upto hr), cut_upto hr] at qa
  have QE := hide qe
  have QA := hide qa
  have HR := hide hr
  have HD := hide (show degN l n = 2 * m by rw [degN_all hr, hS.length])
  have HDL := hide (fun k => degN_le l k)
  have HL := hide hS.length
  clear qe qa hr
  obtain ⟨ie, hie, hze, he1, he2⟩ := info_parts int_info
  (go_enter Try.func6, Try.ntmps6)
  go_wp2_with (fail)
  refine (QRT.out w hS).mono ?_
  rintro e w1 ⟨rfl, b1⟩
  go_wp2_with (fail)
  go_loopw [5, 6, 31] (fun d a i wr => ∃ (k : Nat) (Ao : Option Addr) (co : Nat), k ≤ n ∧ i = .int .i64 k ∧ d = .int .i64 (degN l k : Nat) ∧ a = .slice Ao k co ∧ Below w.heap.size w wr ∧
      wr.ownsRow w.heap.size 3 1 (.slice Ao k co) k (ints .i64 (uptoL k))) (fun _ _ i _ => n - (intOf i).toNat)
  case atStart => exact ⟨0, none, 0, Nat.zero_le _, rfl, rfl, rfl, b1, by simpa [uptoL, ints] using World.ownsRow_nil w1 w.heap.size 3 1⟩
  case round =>
    obtain ⟨k, Ao, co, hk, rfl, rfl, rfl, hbr, hown⟩ := hrel
    have Sr : ESl wr [] A m c l := hS.below hbr
    by_cases hlt : k < n
    · have qs := fun W h => star_ok l (k : Int) [] A n m c W h (by omega) [] (by simp)
      rw [out_star (fits_one HR.out (by omega)), out_c (fits_one HR.out (by omega))] at qs
      have qc := fun W B h1 h2 => cut_ok l [(k : Int)] [] [] A B n m c 1 1 W h1 h2 (by omega) [] (by simp)
      rw [out_cut (fits_one HR.out (by omega)), out_c (fits_one HR.out (by omega))] at qc
      have QS := hide qs
      have QC := hide qc
      clear qs qc
      have hdl : degN l k ≤ k * 60 := by
        have h := HDL.out k
        have h2 := HL.out
        rw [h2] at h
        exact Nat.le_trans h (Nat.mul_le_mul_left _ h1')
      have hxl : (cutR l [(k : Int)]).length ≤ 60 := by
        have h : (cutR l [(k : Int)]).length ≤ l.length := List.length_filter_le _ _
        have := HL.out
        omega
      have HU := hide (uptoL_step k)
      have HG := hide (show degN l (k + 1) = degN l k + (cutR l [(k : Int)]).length from rfl)
      generalize cutR l [(k : Int)] = X at *
      generalize degN l k = dk at *
      have HOW := hide hown
      clear hown
      generalize Value.slice Ao k co = RV at *
      go_wp2_with (fail)
      refine (QS.out wr Sr).mono ?_
      rintro e w2 ⟨R2, d2, rfl, Z2, b2⟩
      have hb2 := hbr.trans (b2.mono hbr.size)
      have S2 := Sr.below b2
      have HO2 := hide (own_below HOW.out b2)
      clear b2 HOW Sr
      go_wp2_with (fail)
      refine (QC.out _ _ (S2.alloc _) (set_v (k : Int) w2)).mono ?_
      rintro e w3 ⟨R3, d3, rfl, Z3, b3⟩
      have hb3 := (hb2.alloc hb2.size (.cells #[.int .i64 (k : Int)] 3)).trans (b3.mono (Nat.le_trans hb2.size (by simp)))
      have HO3 := hide (own_below (HO2.out.alloc (.cells #[.int .i64 (k : Int)] 3)) b3)
      have Z23 := (Z2.alloc (.cells #[.int .i64 (k : Int)] 3)).below b3
      clear b3 HO2 Z2 S2
      go_wp2_with (fail)
      refine (esame_yes _ _ _ _ _ _ _ _ _ _ Z23 Z3).mono ?_
      rintro e w4 ⟨rfl, b4⟩
      have hb4 := hb3.trans (b4.mono hb3.size)
      have HO4 := hide (own_below HO3.out b4)
      clear b4 HO3 Z23 Z3
      (go_wp2_with (at_builtin; refine stopAt ?_); refine stopGo ?_)
      have N2 := set_new (k : Int) w4
      have O2 := HO4.out.alloc (.cells #[.int .i64 (k : Int)] 3)
      have hb6 := hb4.alloc hb4.size (.cells #[.int .i64 (k : Int)] 3)
      have szl := hb6.size
      refine wpList_append_sl _ rfl (.tmp 65) (.tmp 67) _ rfl w.heap.size 3 ie _ 1 8 Try.underlying23 hie hze he1 he2 rfl (by omega) RV _ _ rfl O2 [] _ 1 1 (ints .i64 [(k : Int)]) rfl N2 ints_one (by simp only [maxLen]; omega) (by omega) (by first | omega | (simp; done) | (simp; omega)) ?_
      intro A5 c5 w5 own5 g5 _
      rw [← ints_append, ← HU.out] at own5
      have hg5 := below_grown O2 g5 (Nat.le_refl _) (by first | omega | (simp; omega))
      have hb5 := hb6.trans hg5
      have OW5 := hide own5
      clear own5 g5 hg5 O2 N2
      go_wp2_with (fail)
      exact ⟨⟨k + 1, A5, c5, by omega, by go_num, by rw [HG.out]; go_num, rfl, hb5, OW5.out⟩, by simp [intOf]; omega⟩
    · have hkn : k = n := by omega
      subst hkn
      have N5 := own_sl hown [] (by simp)
      clear hown
      rw [HD.out]
      go_wp2_with (fail)
      refine (QE.out wr Sr).mono ?_
      rintro e w5 ⟨R5, d5, rfl, Z5, b5⟩
      have hb5 := hbr.trans (b5.mono hbr.size)
      have N6 := N5.below b5
      have S6 := Sr.below b5
      go_wp2_with (fail)
      refine (QA.out w5 _ _ S6 N6).mono ?_
      rintro e w6 ⟨R6, d6, rfl, Z6, b6⟩
      have hb6 := hb5.trans (b6.mono hb5.size)
      (go_wp2_with (fail); refine (cawake_ok _).mono ?_; rintro e x ⟨rfl, bx⟩; go_wp2_with (fail); go_ret; exact ⟨rfl, (hb6).trans (bx.mono (hb6).size)⟩)
end Go.Proofs.Ytbbdbgfenidhgaa
