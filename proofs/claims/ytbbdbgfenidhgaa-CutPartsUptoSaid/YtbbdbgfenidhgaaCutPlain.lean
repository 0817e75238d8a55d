/-
  The plain law of cuts: what the program marks is what the document says.
-/
import Derived.Test.YtbbdbgfenidhgaaStar
import Derived.Test.YtbbdbgfenidhgaaRMixed
namespace Go.Proofs.Ytbbdbgfenidhgaa
open Go Go.RowKit

theorem markB_set {b : List Bool} {x v : Int} (t : Bool) (h0 : 0 ≤ x) (h1 : 0 ≤ v) (h2 : v.toNat < b.length) : markB (b.set x.toNat t) v = if x = v then t else markB b v := by
  unfold markB
  simp only [List.getD_eq_getElem?_getD]
  by_cases h : x = v
  · subst h; simp [h2]
  · rw [if_neg h, List.getElem?_set_ne (by omega)]
theorem markOn_all : ∀ (s : List Int) (b : List Bool) {v : Int}, 0 ≤ v → v.toNat < b.length → (∀ x ∈ s, 0 ≤ x) → markB (s.foldl markOn b) v = (markB b v || decide (v ∈ s))
  | [], b, v, _, _, _ => by simp
  | x :: s, b, v, h0, h1, hs => by
    rw [List.foldl_cons, markOn_all s (markOn b x) h0 (by rw [markOn_len]; exact h1) (fun y hy => hs y (List.mem_cons_of_mem _ hy))]
    unfold markOn
    rw [markB_set true (hs x List.mem_cons_self) h0 h1]
    by_cases h : x = v
    · simp [h]
    · simp [h, Ne.symm h]
theorem markTurn_all : ∀ (s : List Int) (b : List Bool) {v : Int}, 0 ≤ v → v.toNat < b.length → (∀ x ∈ s, 0 ≤ x) → markB (s.foldl markTurn b) v = (markB b v != (s.count v % 2 == 1))
  | [], b, v, _, _, _ => by simp
  | x :: s, b, v, h0, h1, hs => by
    rw [List.foldl_cons, markTurn_all s (markTurn b x) h0 (by rw [markTurn_len]; exact h1) (fun y hy => hs y (List.mem_cons_of_mem _ hy))]
    unfold markTurn
    rw [markB_set _ (hs x List.mem_cons_self) h0 h1]
    by_cases h : x = v
    · subst h
      rw [if_pos rfl, List.count_cons_self]
      rcases Nat.mod_two_eq_zero_or_one (s.count x) with e | e
      · have e2 : (s.count x + 1) % 2 = 1 := by omega
        rw [e, e2]; cases markB b x <;> rfl
      · have e2 : (s.count x + 1) % 2 = 0 := by omega
        rw [e, e2]; cases markB b x <;> rfl
    · rw [if_neg h, List.count_cons_of_ne h]
theorem markB_none (n : Nat) (v : Int) : markB (List.replicate n false) v = false := by
  unfold markB
  rw [List.getD_eq_getElem?_getD, List.getElem?_replicate]
  split <;> rfl
theorem cntE_sum (set : List Int) {u v : Int} (h : u ≠ v) : cntE set u v = set.count u + set.count v := by
  induction set with
  | nil => rfl
  | cons x s ih =>
    unfold cntE at ih ⊢
    rw [List.countP_cons, ih, List.count_cons, List.count_cons]
    by_cases h1 : u = x
    · subst h1
      have h2 : (u == v) = false := by simp [h]
      have h3 : (v == u) = false := by simp [Ne.symm h]
      simp [h2, h3]; omega
    · by_cases h2 : v = x
      · subst h2
        have h3 : (u == v) = false := by simp [h]
        have h4 : (v == u) = false := by simp [Ne.symm h]
        simp [h3, h4]; omega
      · have h3 : (u == x) = false := by simp [h1]
        have h4 : (v == x) = false := by simp [h2]
        have h5 : (x == u) = false := by simp [Ne.symm h1]
        have h6 : (x == v) = false := by simp [Ne.symm h2]
        simp [h3, h4, h5, h6]

theorem out_cut {n : Int} {l : List E3} {set : List Int} (h : fitsE n l set = true) : outE markOn n l set = cutR l set := by
  obtain ⟨hr, hset⟩ := fitsE_parts h
  have hn := rightE_n hr
  unfold outE unlikeE cutR
  rw [if_pos h]
  refine List.filter_congr fun e he => ?_
  have hm := rightE_mem hr he
  unfold cutT marksB
  have h1 : e.1.toNat < (List.replicate n.toNat false).length := by rw [List.length_replicate]; omega
  have h2 : e.2.1.toNat < (List.replicate n.toNat false).length := by rw [List.length_replicate]; omega
  rw [markOn_all set _ (by omega) h1 (fun x hx => (hset x hx).1), markOn_all set _ (by omega) h2 (fun x hx => (hset x hx).1), markB_none, markB_none, Bool.false_or, Bool.false_or]
theorem out_mix {n : Int} {l : List E3} {set : List Int} (h : fitsE n l set = true) : outE markTurn n l set = mixR l set := by
  obtain ⟨hr, hset⟩ := fitsE_parts h
  have hn := rightE_n hr
  unfold outE unlikeE mixR
  rw [if_pos h]
  refine List.filter_congr fun e he => ?_
  have hm := rightE_mem hr he
  unfold mixT marksB
  have h1 : e.1.toNat < (List.replicate n.toNat false).length := by rw [List.length_replicate]; omega
  have h2 : e.2.1.toNat < (List.replicate n.toNat false).length := by rw [List.length_replicate]; omega
  rw [markTurn_all set _ (by omega) h1 (fun x hx => (hset x hx).1), markTurn_all set _ (by omega) h2 (fun x hx => (hset x hx).1), markB_none, markB_none, cntE_sum set (by omega)]
  rcases Nat.mod_two_eq_zero_or_one (set.count e.1) with e1 | e1 <;> rcases Nat.mod_two_eq_zero_or_one (set.count e.2.1) with e2 | e2
  all_goals
    rw [Nat.add_mod, e1, e2]
    rfl
theorem out_star {n : Int} {l : List E3} {v : Int} (h : fitsE n l [v] = true) : outS n l v = cutR l [v] := by
  obtain ⟨hr, hset⟩ := fitsE_parts h
  unfold outS starE cutR
  rw [if_pos h]
  refine List.filter_congr fun e he => ?_
  have hm := rightE_mem hr he
  unfold starT cutT
  by_cases h1 : e.1 = v
  · have h2 : ¬ e.2.1 = v := by omega
    simp [h1, h2]
  · by_cases h2 : e.2.1 = v
    · simp [h1, h2]
    · simp [h1, h2]
theorem out_c {n : Int} {l : List E3} {set : List Int} (h : fitsE n l set = true) : outC n l set = 0 := by unfold outC; rw [if_pos h]
theorem bad_e {f : List Bool → Int → List Bool} {n : Int} {l : List E3} {set : List Int} (h : fitsE n l set = false) : outE f n l set = [] := by unfold outE; rw [if_neg (by simp [h])]
theorem bad_s {n : Int} {l : List E3} {v : Int} (h : fitsE n l [v] = false) : outS n l v = [] := by unfold outS; rw [if_neg (by simp [h])]
theorem bad_c {n : Int} {l : List E3} {set : List Int} (h : fitsE n l set = false) : outC n l set = 1 := by unfold outC; rw [if_neg (by simp [h])]
end Go.Proofs.Ytbbdbgfenidhgaa
