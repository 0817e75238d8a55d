/-
  raftsmanlaw12.TableNear walked.
-/
import Derived.Test.YthhmlcckeipolaaTabBack
namespace Go.Proofs.Ythhmlcckeipolaa
open Go Go.RowKit
attribute [local go_sem] Heavy heavyUpon

/-- How many the first k vertices are near to, together. -/
def nearN (l : List E3) : Nat → Nat
  | 0 => 0
  | k + 1 => nearN l k + (nearI l (k : Int)).length
def endN (k : Nat) (e : E3) : Nat := (if e.1 < k then 1 else 0) + (if e.2.1 < k then 1 else 0)
theorem nearOf_len (v : Int) (e : E3) (h : e.1 ≠ e.2.1) : (nearOf v e).length = (if e.1 = v then 1 else 0) + (if e.2.1 = v then 1 else 0) := by
  unfold nearOf
  by_cases h1 : v = e.1
  · have h2 : ¬ e.2.1 = v := fun h2 => h (by rw [h2, h1])
    rw [if_pos h1, if_pos h1.symm, if_neg h2]; rfl
  · rw [if_neg h1, if_neg (show ¬ e.1 = v from fun h => h1 h.symm)]
    by_cases h2 : v = e.2.1
    · rw [if_pos h2, if_pos h2.symm]; rfl
    · rw [if_neg h2, if_neg (show ¬ e.2.1 = v from fun h => h2 h.symm)]; rfl
theorem endN_step (k : Nat) (e : E3) : endN (k + 1) e = endN k e + ((if e.1 = (k : Int) then 1 else 0) + (if e.2.1 = (k : Int) then 1 else 0)) := by
  have key : ∀ a : Int, (if a < ((k + 1 : Nat) : Int) then 1 else 0) = (if a < (k : Int) then 1 else 0) + (if a = (k : Int) then 1 else 0) := by
    intro a
    by_cases h1 : a < (k : Int)
    · rw [if_pos h1, if_pos (by omega), if_neg (by omega)]
    · by_cases h2 : a = (k : Int)
      · rw [if_neg h1, if_pos (by omega), if_pos h2]
      · rw [if_neg h1, if_neg (by omega), if_neg h2]
  unfold endN
  rw [key, key]; omega
theorem nearN_eq (l : List E3) (k : Nat) (h : ∀ e ∈ l, 0 ≤ e.1 ∧ e.1 < e.2.1) : nearN l k = (l.map (endN k)).sum := by
  induction k with
  | zero =>
    rw [nearN]
    induction l with
    | nil => rfl
    | cons x l ih =>
      have hx := h x List.mem_cons_self
      rw [List.map_cons, List.sum_cons, ← ih (fun e he => h e (List.mem_cons_of_mem _ he))]
      have h1 : ¬ x.1 < ((0 : Nat) : Int) := by simp; omega
      have h2 : ¬ x.2.1 < ((0 : Nat) : Int) := by simp; omega
      unfold endN
      rw [if_neg h1, if_neg h2]
  | succ k ih =>
    rw [nearN, ih]
    clear ih
    induction l with
    | nil => rfl
    | cons x l ih =>
      have hx := h x List.mem_cons_self
      have hi := ih (fun e he => h e (List.mem_cons_of_mem _ he))
      have e1 : nearI (x :: l) (k : Int) = nearOf (k : Int) x ++ nearI l (k : Int) := rfl
      rw [List.map_cons, List.sum_cons, List.map_cons, List.sum_cons, ← hi, e1, List.length_append, nearOf_len _ _ (by omega), endN_step]
      omega
theorem nearN_all {n : Nat} {l : List E3} (hr : rightE n l = true) : nearN l n = 2 * l.length := by
  rw [nearN_eq l n (fun e he => by have := right_edge hr he; omega)]
  have H : ∀ l' : List E3, (∀ e ∈ l', endN n e = 2) → (l'.map (endN n)).sum = 2 * l'.length := by
    intro l'
    induction l' with
    | nil => intro _; rfl
    | cons x l' ih => intro h; rw [List.map_cons, List.sum_cons, ih (fun e he => h e (List.mem_cons_of_mem _ he)), h x List.mem_cons_self, List.length_cons]; omega
  refine H l fun e he => ?_
  have := right_edge hr he
  unfold endN
  rw [if_pos (by omega), if_pos (by omega)]
theorem nearN_le (l : List E3) (k : Nat) : nearN l k ≤ k * l.length := by
  induction k with
  | zero => simp [nearN]
  | succ k ih =>
    have := nearI_len l (k : Int)
    rw [nearN, Nat.add_mul]; omega
theorem nearI_mem {l : List E3} {v x : Int} : x ∈ nearI l v ↔ ∃ e ∈ l, (v = e.1 ∧ x = e.2.1) ∨ (v ≠ e.1 ∧ v = e.2.1 ∧ x = e.1) := by
  unfold nearI
  rw [List.mem_flatMap]
  constructor
  · rintro ⟨e, he, h⟩
    refine ⟨e, he, ?_⟩
    unfold nearOf at h
    split at h
    · left; exact ⟨‹_›, by simpa using h⟩
    · split at h
      · right; exact ⟨‹_›, ‹_›, by simpa using h⟩
      · cases h
  · rintro ⟨e, he, h⟩
    refine ⟨e, he, ?_⟩
    unfold nearOf
    rcases h with ⟨h1, h2⟩ | ⟨h1, h2, h3⟩
    · rw [if_pos h1]; simp [h2]
    · rw [if_neg h1, if_pos h2]; simp [h3]
theorem near_back {n : Int} {l : List E3} (hr : rightE n l = true) {v x : Int} (h : x ∈ nearI l v) : v ∈ nearI l x ∧ x ≠ v ∧ inN n x = true := by
  rw [nearI_mem] at h
  obtain ⟨e, he, h⟩ := h
  have hm := right_edge hr he
  refine ⟨nearI_mem.2 ⟨e, he, ?_⟩, ?_, inN_iff.2 ?_⟩ <;> omega
theorem filter_right {n : Int} {l : List E3} (hr : rightE n l = true) (p : E3 → Bool) : rightE n (l.filter p) = true := by
  obtain ⟨hn, h1, h2⟩ := rightE_iff.1 hr
  exact rightE_iff.2 ⟨hn, fun e he => h1 e (List.mem_filter.1 he).1, h2.sublist List.filter_sublist⟩
theorem forest_forest (l : List E3) (k : Int) : forestE (forestE l (k + 1)) k = forestE l k := by
  unfold forestE
  rw [List.filter_filter]
  refine List.filter_congr fun e _ => ?_
  unfold tierT
  by_cases h1 : 1 ≤ e.2.2
  · by_cases h2 : e.2.2 ≤ k
    · have h3 : e.2.2 ≤ k + 1 := by omega
      simp [h1, h2, h3]
    · simp [h2]
  · simp [h1]
theorem forest_le (l : List E3) (k : Int) : (forestE l k).length ≤ (forestE l (k + 1)).length := by
  rw [← forest_forest l k]
  exact List.length_filter_le _ _
theorem outF_in {n : Int} {l : List E3} (hr : rightE n l = true) (k : Int) : outF n l k = forestE l k := by unfold outF; rw [if_pos hr]
theorem outN_in {n : Int} {l : List E3} (hr : rightE n l = true) {v : Int} (h : inN n v = true) : outN n l v = nearI l v := by unfold outN; rw [hr, h, if_pos (by rfl)]
theorem mem_take_succ {l : List Int} (v : Int) {j : Nat} (h : j < l.length) : decide (v ∈ l.take (j + 1)) = (decide (v ∈ l.take j) || l[j] == v) := by
  rw [List.take_succ_eq_append_getElem h, Bool.eq_iff_iff]
  simp only [decide_eq_true_eq, Bool.or_eq_true, beq_iff_eq, List.mem_append, List.mem_singleton]
  constructor <;> (rintro (h | h) <;> simp [h])

set_option maxRecDepth 100000 in
set_option maxHeartbeats 6400000 in
theorem tnear_ok (n t : Int) (ht : 0 ≤ t ∧ t ≤ 255) (l : List E3) (A : Option Addr) (m c : Nat) (w : World) (hS : ESl w [] A m c l) :
    Calls Try.prog 4 #[.int .i64 n, .slice A m c, .int .u8 t] w (Ret (.bool true) w) := by
  by_cases h1 : 60 < m
  · (go_enter Try.func4, Try.ntmps4)
    (go_wp2_with (fail); refine (tawake_ok _).mono ?_; rintro e x ⟨rfl, bx⟩; go_wp2_with (fail); go_ret; exact ⟨rfl, (Below.refl w.heap.size w).trans (bx.mono (Below.refl w.heap.size w).size)⟩)
  have h1' : m ≤ 60 := by omega
  clear h1
  by_cases h3 : 60 < n
  · (go_enter Try.func4, Try.ntmps4)
    (go_wp2_with (fail); refine (tawake_ok _).mono ?_; rintro e x ⟨rfl, bx⟩; go_wp2_with (fail); go_ret; exact ⟨rfl, (Below.refl w.heap.size w).trans (bx.mono (Below.refl w.heap.size w).size)⟩)
  have h3' : n ≤ 60 := by omega
  clear h3
  have qr := fun W h => tright_any l [] A n m c W h
  cases hr : rightE n l
  case false =>
    rw [hr] at qr
    have QR := hide qr
    clear qr hr
    (go_enter Try.func4, Try.ntmps4)
    (go_wp2_with (fail); refine (QR.out w hS).mono ?_; rintro e w1 ⟨rfl, b1⟩; have S1 := hS.below b1)
    (go_wp2_with (fail); refine (tawake_ok _).mono ?_; rintro e x ⟨rfl, bx⟩; go_wp2_with (fail); go_ret; exact ⟨rfl, (b1).trans (bx.mono (b1).size)⟩)
  rw [hr] at qr
  have QR := hide qr
  clear qr
  have HL := hide hS.length
  obtain ⟨hn0, hn1⟩ := (rightE_iff.1 hr).1
  obtain ⟨n, rfl⟩ := Int.eq_ofNat_of_zero_le hn0
  obtain ⟨t0, t1⟩ := ht
  have HR := hide hr
  have HD := hide (show nearN l n = 2 * m by rw [nearN_all hr, HL.out])
  have HDL := hide (fun k => nearN_le l k)
  have qx := fun W h => forest_ok l n (t % 17) [] A m c W h (by omega)
  have qy := fun W h => forest_ok l n (t % 17 + 1) [] A m c W h (by omega)
  rw [outF_in hr] at qx qy
  have hfl : (forestE l (t % 17 + 1)).length ≤ 60 := by
    have : (forestE l (t % 17 + 1)).length ≤ l.length := List.length_filter_le _ _
    have := HL.out
    omega
  have qz := fun W B d h => forest_ok (forestE l (t % 17 + 1)) n (t % 17) [] B (forestE l (t % 17 + 1)).length d W h (by omega)
  rw [outF_in (show rightE n (forestE l (t % 17 + 1)) = true from filter_right hr _), forest_forest] at qz
  have hle := forest_le l (t % 17)
  have QX := hide qx
  have QY := hide qy
  have QZ := hide qz
  clear qx qy qz hr
  (go_enter Try.func4, Try.ntmps4)
  (go_wp2_with (fail); refine (QR.out w hS).mono ?_; rintro e w1 ⟨rfl, b1⟩; have S1 := hS.below b1)
  go_wp2_with (fail)
  go_loopw [7, 32] (fun a i wr => ∃ k : Nat, k ≤ n ∧ i = .int .i64 k ∧ a = .int .i64 (nearN l k : Nat) ∧ Below w.heap.size w wr) (fun _ i _ => n - (intOf i).toNat)
  case atStart => exact ⟨0, Nat.zero_le _, rfl, rfl, b1⟩
  case round =>
    obtain ⟨k, hk, rfl, rfl, hbr⟩ := hrel
    have Sr : ESl wr [] A m c l := hS.below hbr
    by_cases hlt : k < n
    · have hdl : nearN l k ≤ k * 60 := by
        have h := HDL.out k
        have h2 := HL.out
        rw [h2] at h
        exact Nat.le_trans h (Nat.mul_le_mul_left _ h1')
      have qn := fun W h => near_ok l n (k : Int) [] A m c W h (by omega)
      rw [outN_in HR.out (inN_yes (by omega))] at qn
      have hnl : (nearI l (k : Int)).length ≤ 60 := by have := nearI_len l (k : Int); have := HL.out; omega
      have HG := hide (show nearN l (k + 1) = nearN l k + (nearI l (k : Int)).length from rfl)
      have HB := hide (fun x (hx : x ∈ nearI l (k : Int)) => near_back HR.out hx)
      have QN := hide qn
      clear qn
      generalize nearI l (k : Int) = X at *
      generalize nearN l k = nk at *
      go_wp2_with (fail)
      refine (QN.out wr Sr).mono ?_
      rintro e w3 ⟨R3, d3, rfl, N3, b3⟩
      have hb3 := hbr.trans (b3.mono hbr.size)
      clear b3 Sr
      go_wp2_with (fail)
      go_loopw [7, 40] (fun a i wx => ∃ j : Nat, j ≤ X.length ∧ i = .int .i64 j ∧ a = .int .i64 ((nk + j : Nat) : Int) ∧ Below w3.heap.size w3 wx) (fun _ i _ => X.length - (intOf i).toNat)
      case atStart => exact ⟨0, Nat.zero_le _, rfl, rfl, Below.refl _ _⟩
      case round =>
        obtain ⟨j, hj, rfl, rfl, hbx⟩ := hrel
        have hbw := hb3.trans (hbx.mono hb3.size)
        by_cases hjl : j < X.length
        · have Nx := N3.below hbx
          obtain ⟨xd, hX, hxd, _, hc⟩ := Nx.at_ (by omega)
          subst hX
          have x0 := hc _ _ (ints_get hjl)
          obtain ⟨p1, p2, p3⟩ := HB.out _ (List.getElem_mem hjl)
          clear hc
          generalize X[j] = y at *
          have qm := fun W h => near_ok l n y [] A m c W h (by omega)
          rw [outN_in HR.out p3] at qm
          have hyl : (nearI l y).length ≤ 60 := by have := nearI_len l y; have := HL.out; omega
          have QM := hide qm
          have P1 := hide p1
          have hyk : (y == (k : Int)) = false := by simpa using p2
          clear qm p1 p2 p3
          generalize nearI l y = Y at *
          go_wp2_with (fail)
          refine (QM.out _ (hS.below hbw)).mono ?_
          rintro e w4 ⟨R4, d4, rfl, N4, b4⟩
          have hbx4 := hbx.trans (b4.mono hbx.size)
          clear x0 b4
          go_wp2_with (fail)
          go_loopw [11, 51] (fun a i wz => ∃ i' : Nat, i' ≤ Y.length ∧ i = .int .i64 i' ∧ a = .bool (decide ((k : Int) ∈ Y.take i')) ∧ wz = w4) (fun _ i _ => Y.length - (intOf i).toNat)
          case atStart => exact ⟨0, Nat.zero_le _, rfl, by simp, rfl⟩
          case round =>
            obtain ⟨i', hi, rfl, rfl, rfl⟩ := hrel
            by_cases hil : i' < Y.length
            · obtain ⟨yd, hY, hyd, _, hc⟩ := N4.at_ (by omega)
              subst hY
              have y0 := hc _ _ (ints_get hil)
              have HC := hide (mem_take_succ (k : Int) hil)
              clear hc
              generalize Y[i'] = s at *
              generalize decide ((k : Int) ∈ Y.take i') = p at *
              cases hp : p
              · cases hq : s == (k : Int)
                · have HF := hide (show decide ((k : Int) ∈ Y.take (i' + 1)) = false by rw [HC.out, hp, hq]; rfl)
                  clear hp
                  go_wp2_with (fail)
                  exact ⟨⟨i' + 1, by omega, by go_num, by rw [HF.out], by trivial⟩, by simp [intOf]; omega⟩
                · have HF := hide (show decide ((k : Int) ∈ Y.take (i' + 1)) = true by rw [HC.out, hp, hq]; rfl)
                  clear hp
                  go_wp2_with (fail)
                  exact ⟨⟨i' + 1, by omega, by go_num, by rw [HF.out], by trivial⟩, by simp [intOf]; omega⟩
              · have HF := hide (show decide ((k : Int) ∈ Y.take (i' + 1)) = true by rw [HC.out, hp]; rfl)
                clear hp
                go_wp2_with (fail)
                exact ⟨⟨i' + 1, by omega, by go_num, by rw [HF.out], by trivial⟩, by simp [intOf]; omega⟩
            · have HF := hide (show decide ((k : Int) ∈ Y.take i') = true by rw [List.take_of_length_le (by omega)]; exact decide_eq_true P1.out)
              rw [HF.out]
              go_wp2_with (fail)
              exact ⟨⟨j + 1, by omega, by go_num, by go_num, hbx4⟩, by simp [intOf]; omega⟩
        · have hje : j = X.length := by omega
          subst hje
          go_wp2_with (fail)
          exact ⟨⟨k + 1, by omega, by go_num, by rw [HG.out], hbw⟩, by simp [intOf]; omega⟩
    · have hkn : k = n := by omega
      subst hkn
      rw [HD.out]
      have i0 : (0 : Int) ≤ t % 17 := by omega
      have i1 : t % 17 < 17 := by omega
      generalize forestE l (t % 17) = X at *
      generalize forestE l (t % 17 + 1) = Y at *
      go_wp2_with (fail)
      refine (QX.out wr Sr).mono ?_
      rintro e w3 ⟨R3, d3, rfl, Z3, b3⟩
      have hb3 := hbr.trans (b3.mono hbr.size)
      have S3 : ESl w3 [] A m c l := Sr.below b3
      clear b3 Sr
      go_wp2_with (fail)
      refine (QY.out w3 S3).mono ?_
      rintro e w4 ⟨R4, d4, rfl, Z4, b4⟩
      have hb4 := hb3.trans (b4.mono hb3.size)
      have Z34 := Z3.below b4
      clear b4 S3 Z3 hb3
      go_wp2_with (fail)
      refine (QZ.out w4 _ _ Z4).mono ?_
      rintro e w5 ⟨R5, d5, rfl, Z5, b5⟩
      have hb5 := hb4.trans (b5.mono hb4.size)
      have Z35 := Z34.below b5
      clear b5 Z34 hb4
      go_wp2_with (fail)
      refine (esame_yes _ _ _ _ _ _ _ _ _ _ Z5 Z35).mono ?_
      rintro e w6 ⟨rfl, b6⟩
      have hb6 := hb5.trans (b6.mono hb5.size)
      (go_wp2_with (fail); refine (tawake_ok _).mono ?_; rintro e x ⟨rfl, bx⟩; go_wp2_with (fail); go_ret; exact ⟨rfl, (hb6).trans (bx.mono (hb6).size)⟩)
end Go.Proofs.Ythhmlcckeipolaa
