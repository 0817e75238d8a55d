/-
  raftsmanlaw13.CutMixed walked.
-/
import Derived.Test.YtbbdbgfenidhgaaCutTells
import Derived.Test.YtbbdbgfenidhgaaDistinct
namespace Go.Proofs.Ytbbdbgfenidhgaa
open Go Go.RowKit
attribute [local go_sem] Heavy heavyUpon

theorem count_one : ∀ {l : List Int} {a : Int}, l.Nodup → a ∈ l → l.count a = 1
  | [], _, _, h => by cases h
  | x :: l, a, hn, h => by
    rw [List.nodup_cons] at hn
    by_cases hx : x = a
    · subst hx
      rw [List.count_cons_self, List.count_eq_zero_of_not_mem hn.1]
    · rw [List.count_cons_of_ne hx]
      exact count_one hn.2 ((List.mem_cons.1 h).resolve_left (Ne.symm hx))
theorem mix_eq_cut {n : Int} {l : List E3} {set : List Int} (hr : rightE n l = true) (hn : set.Nodup) : mixR l set = cutR l set := by
  unfold mixR cutR
  refine List.filter_congr fun e he => ?_
  have hm := rightE_mem hr he
  unfold mixT cutT
  rw [cntE_sum set (by omega)]
  by_cases h1 : e.1 ∈ set <;> by_cases h2 : e.2.1 ∈ set
  · rw [count_one hn h1, count_one hn h2]; simp [h1, h2]
  · rw [count_one hn h1, List.count_eq_zero_of_not_mem h2]; simp [h1, h2]
  · rw [List.count_eq_zero_of_not_mem h1, count_one hn h2]; simp [h1, h2]
  · rw [List.count_eq_zero_of_not_mem h1, List.count_eq_zero_of_not_mem h2]; simp [h1, h2]

/-- The first k vertices that are not in a set. -/
def restL (set : List Int) (k : Nat) : List Int := ((List.range k).map Int.ofNat).filter fun v => decide (v ∉ set)
theorem restL_step (set : List Int) (k : Nat) : restL set (k + 1) = restL set k ++ (if (k : Int) ∈ set then [] else [(k : Int)]) := by
  unfold restL
  rw [List.range_succ, List.map_append, List.filter_append]
  by_cases h : (k : Int) ∈ set
  · simp [h]
  · simp [h]
theorem restL_mem {set : List Int} {k : Nat} {v : Int} : v ∈ restL set k ↔ (0 ≤ v ∧ v < k) ∧ v ∉ set := by
  unfold restL
  simp only [List.mem_filter, List.mem_map, List.mem_range, decide_eq_true_eq]
  constructor
  · rintro ⟨⟨a, ha, rfl⟩, h⟩
    exact ⟨⟨by simp, by simpa using ha⟩, h⟩
  · rintro ⟨⟨h0, h1⟩, h⟩
    exact ⟨⟨v.toNat, by omega, by simp [Int.toNat_of_nonneg h0]⟩, h⟩
theorem restL_len (set : List Int) (k : Nat) : (restL set k).length ≤ k := by
  have := List.length_filter_le (fun v => decide (v ∉ set)) ((List.range k).map Int.ofNat)
  simpa [restL] using this
theorem cut_rest {n : Nat} {l : List E3} {set : List Int} (hr : rightE n l = true) : cutR l (restL set n) = cutR l set := by
  unfold cutR
  refine List.filter_congr fun e he => ?_
  have hm := rightE_mem hr he
  unfold cutT
  have h1 : (e.1 ∈ restL set n) ↔ e.1 ∉ set := by rw [restL_mem]; exact ⟨fun h => h.2, fun h => ⟨by omega, h⟩⟩
  have h2 : (e.2.1 ∈ restL set n) ↔ e.2.1 ∉ set := by rw [restL_mem]; exact ⟨fun h => h.2, fun h => ⟨by omega, h⟩⟩
  by_cases g1 : e.1 ∈ set <;> by_cases g2 : e.2.1 ∈ set <;> simp [h1, h2, g1, g2]
theorem mem_take_succ {l : List Int} (v : Int) {j : Nat} (h : j < l.length) : decide (v ∈ l.take (j + 1)) = (decide (v ∈ l.take j) || v == l[j]) := by
  rw [List.take_succ_eq_append_getElem h, Bool.eq_iff_iff]
  simp only [decide_eq_true_eq, Bool.or_eq_true, beq_iff_eq, List.mem_append, List.mem_singleton]
theorem fits_rest {n : Nat} {l : List E3} (set : List Int) (hr : rightE n l = true) : fitsE n l (restL set n) = true := by
  unfold fitsE
  rw [hr, Bool.true_and, List.all_eq_true]
  intro v hv
  exact inN_iff.2 (restL_mem.1 hv).1
theorem int_info : (Try.prog.info? 3).map (fun i => (i.zero, i.size, i.bytes)) = some (some (.int .i64 0), 1, 8) := by kernel_rfl
theorem set_new (v : Int) (w : World) : Sl (w.alloc (.cells #[.int .i64 v] 3)) [] 1 (some ⟨w.heap.size, 0, none⟩) 1 1 (ints .i64 [v]) := set_v v w

set_option maxHeartbeats 6400000 in
theorem cmixed_ok (n : Int) (l : List E3) (set : List Int) (A B : Option Addr) (m c ms cs : Nat) (w : World) (hS : ESl w [] A m c l) (hT : Sl w [] 1 B ms cs (ints .i64 set)) :
    Calls Try.prog 4 #[.int .i64 n, .slice A m c, .slice B ms cs] w (Ret (.bool true) w) := by
  by_cases h1 : 60 < m
  · (go_enter Try.func4, Try.ntmps4)
    (go_wp2_with (fail); refine (cawake_ok _).mono ?_; rintro e x ⟨rfl, bx⟩; go_wp2_with (fail); go_ret; exact ⟨rfl, (Below.refl w.heap.size w).trans (bx.mono (Below.refl w.heap.size w).size)⟩)
  by_cases h2 : 60 < ms
  · (go_enter Try.func4, Try.ntmps4)
    (go_wp2_with (fail); refine (cawake_ok _).mono ?_; rintro e x ⟨rfl, bx⟩; go_wp2_with (fail); go_ret; exact ⟨rfl, (Below.refl w.heap.size w).trans (bx.mono (Below.refl w.heap.size w).size)⟩)
  have h1' : m ≤ 60 := by omega
  have h2' : ms ≤ 60 := by omega
  clear h1 h2
  by_cases h3 : 60 < n
  · (go_enter Try.func4, Try.ntmps4)
    (go_wp2_with (fail); refine (cawake_ok _).mono ?_; rintro e x ⟨rfl, bx⟩; go_wp2_with (fail); go_ret; exact ⟨rfl, (Below.refl w.heap.size w).trans (bx.mono (Below.refl w.heap.size w).size)⟩)
  have h3' : n ≤ 60 := by omega
  clear h3
  have qr := fun W h => rright_any l [] A n m c W h
  have qd := fun W h => distinct_any set [] B ms cs W h
  cases hr : rightE n l
  case false =>
    rw [hr] at qr
    have QRT := hide qr
    clear qr hr qd
    (go_enter Try.func4, Try.ntmps4)
    go_wp2_with (fail)
    refine (QRT.out w hS).mono ?_
    rintro e w1 ⟨rfl, b1⟩
    (go_wp2_with (fail); refine (cawake_ok _).mono ?_; rintro e x ⟨rfl, bx⟩; go_wp2_with (fail); go_ret; exact ⟨rfl, (b1).trans (bx.mono (b1).size)⟩)
  rw [hr] at qr
  have QRT := hide qr
  clear qr
  by_cases hn : set.Nodup
  case neg =>
    rw [decide_eq_false hn] at qd
    have QD := hide qd
    clear qd hr hn
    (go_enter Try.func4, Try.ntmps4)
    go_wp2_with (fail)
    refine (QRT.out w hS).mono ?_
    rintro e w1 ⟨rfl, b1⟩
    go_wp2_with (fail)
    refine (QD.out w1 (hT.below b1)).mono ?_
    rintro e w2 ⟨rfl, b2⟩
    have c2 := b1.trans (b2.mono b1.size)
    (go_wp2_with (fail); refine (cawake_ok _).mono ?_; rintro e x ⟨rfl, bx⟩; go_wp2_with (fail); go_ret; exact ⟨rfl, (c2).trans (bx.mono (c2).size)⟩)
  rw [decide_eq_true hn] at qd
  have QD := hide qd
  clear qd
  obtain ⟨hn0, hn1⟩ := rightE_n hr
  obtain ⟨n, rfl⟩ := Int.eq_ofNat_of_zero_le hn0
  have qc := fun W h1 h2 => cut_ok l set [] [] A B n m c ms cs W h1 h2 (by omega) [] (by simp)
  have qm := fun W h1 h2 => mix_ok l set [] [] A B n m c ms cs W h1 h2 (by omega) [] (by simp)
  have qe := fun W E k d h1 h2 => cut_ok l (restL set n) [] [] A E n m c k d W h1 h2 (by omega) [] (by simp)
  rw [out_cut (fits_rest set hr), out_c (fits_rest set hr), cut_rest hr] at qe
  have QE := hide qe
  clear qe
  cases fs : fitsE n l set
  case false =>
    rw [bad_e fs, bad_c fs] at qc qm
    have QC := hide qc
    have QM := hide qm
    clear qc qm fs hr hn
    (go_enter Try.func4, Try.ntmps4)
    go_wp2_with (fail)
    refine (QRT.out w hS).mono ?_
    rintro e w1 ⟨rfl, b1⟩
    go_wp2_with (fail)
    refine (QD.out w1 (hT.below b1)).mono ?_
    rintro e w2 ⟨rfl, b2⟩
    have c2 := b1.trans (b2.mono b1.size)
    go_wp2_with (fail)
    refine (QC.out w2 (hS.below c2) (hT.below c2)).mono ?_
    rintro e w3 ⟨R3, d3, rfl, _, b3⟩
    have c3 := c2.trans (b3.mono c2.size)
    go_wp2_with (fail)
    refine (QM.out w3 (hS.below c3) (hT.below c3)).mono ?_
    rintro e w4 ⟨R4, d4, rfl, _, b4⟩
    have c4 := c3.trans (b4.mono c3.size)
    (go_wp2_with (fail); refine (cawake_ok _).mono ?_; rintro e x ⟨rfl, bx⟩; go_wp2_with (fail); go_ret; exact ⟨rfl, (c4).trans (bx.mono (c4).size)⟩)
  rw [out_cut fs, out_c fs] at qc
  rw [out_mix fs, out_c fs, mix_eq_cut hr hn] at qm
  have QC := hide qc
  have QM := hide qm
  clear qc qm fs hr hn
  obtain ⟨ie, hie, hze, he1, he2⟩ := info_parts int_info
  have HLS := hide (show set.length = ms by have := hT.len; simpa using this)
  (go_enter Try.func4, Try.ntmps4)
  go_wp2_with (fail)
  refine (QRT.out w hS).mono ?_
  rintro e w1 ⟨rfl, b1⟩
  go_wp2_with (fail)
  refine (QD.out w1 (hT.below b1)).mono ?_
  rintro e w2 ⟨rfl, b2⟩
  have c2 := b1.trans (b2.mono b1.size)
  go_wp2_with (fail)
  refine (QC.out w2 (hS.below c2) (hT.below c2)).mono ?_
  rintro e w3 ⟨R3, d3, rfl, Z3, b3⟩
  have c3 := c2.trans (b3.mono c2.size)
  go_wp2_with (fail)
  refine (QM.out w3 (hS.below c3) (hT.below c3)).mono ?_
  rintro e w4 ⟨R4, d4, rfl, Z4, b4⟩
  have c4 := c3.trans (b4.mono c3.size)
  have Z34 := Z3.below b4
  have S4 := hS.below c4
  have T4 := hT.below c4
  clear b1 b2 b3 b4 c2 c3 Z3
  generalize cutR l set = X at *
  go_wp2_with (fail)
  go_loopw [11, 64] (fun a i wr => ∃ (k : Nat) (Ao : Option Addr) (co : Nat), k ≤ n ∧ i = .int .i64 k ∧ a = .slice Ao (restL set k).length co ∧ Below w4.heap.size w4 wr ∧
      wr.ownsRow w4.heap.size 3 1 (.slice Ao (restL set k).length co) (restL set k).length (ints .i64 (restL set k))) (fun _ i _ => n - (intOf i).toNat)
  case atStart => exact ⟨0, none, 0, Nat.zero_le _, rfl, rfl, Below.refl _ _, by simpa [restL, ints] using World.ownsRow_nil w4 w4.heap.size 3 1⟩
  case round =>
    obtain ⟨k, Ao, co, hk, rfl, rfl, hbr, hown⟩ := hrel
    have hTr := T4.below hbr
    have hlen := restL_len set k
    by_cases hlt : k < n
    · have HU := hide (restL_step set k)
      have HOW := hide hown
      clear hown
      have HRV := hide (show ∃ A c, (Value.slice Ao (restL set k).length co) = .slice A (restL set k).length c from ⟨_, _, rfl⟩)
      generalize Value.slice Ao (restL set k).length co = RV at *
      obtain ⟨WL, rfl⟩ : ∃ W : World, W = wr := ⟨_, rfl⟩
      go_wp2_with (fail)
      go_loopw [13, 69] (fun a i wr => ∃ j : Nat, j ≤ ms ∧ i = .int .i64 j ∧ a = .bool (decide ((k : Int) ∈ set.take j)) ∧ wr = WL) (fun _ i _ => ms - (intOf i).toNat)
      case atStart => exact ⟨0, Nat.zero_le _, rfl, by simp, rfl⟩
      case round =>
        obtain ⟨j, hj, rfl, rfl, rfl⟩ := hrel
        by_cases hjl : j < ms
        · obtain ⟨bd, rfl, hbd, _, hc⟩ := hTr.at_ (by omega)
          have hy : j < set.length := by have := HLS.out; omega
          have e0 := hc _ _ (ints_get hy)
          have HC := hide (mem_take_succ (k : Int) hy)
          clear hc
          generalize set[j] = s at *
          generalize decide ((k : Int) ∈ set.take j) = p at *
          cases hp : p
          · cases hq : (k : Int) == s
            · have HF := hide (show decide ((k : Int) ∈ set.take (j + 1)) = false by rw [HC.out, hp, hq]; rfl)
              clear hp
              go_wp2_with (fail)
              exact ⟨⟨j + 1, by omega, by go_num, by rw [HF.out], by trivial⟩, by simp [intOf]; omega⟩
            · have HF := hide (show decide ((k : Int) ∈ set.take (j + 1)) = true by rw [HC.out, hp, hq]; rfl)
              clear hp
              go_wp2_with (fail)
              exact ⟨⟨j + 1, by omega, by go_num, by rw [HF.out], by trivial⟩, by simp [intOf]; omega⟩
          · have HF := hide (show decide ((k : Int) ∈ set.take (j + 1)) = true by rw [HC.out, hp]; rfl)
            clear hp
            go_wp2_with (fail)
            exact ⟨⟨j + 1, by omega, by go_num, by rw [HF.out], by trivial⟩, by simp [intOf]; omega⟩
        · have HF0 := hide (show set.take j = set from List.take_of_length_le (by have := HLS.out; omega))
          rw [HF0.out]
          by_cases hin : (k : Int) ∈ set
          · have HF := hide (show restL set (k + 1) = restL set k by rw [HU.out, if_pos hin, List.append_nil])
            rw [decide_eq_true hin]
            clear hin
            go_wp2_with (fail)
            obtain ⟨A6, c6, rfl⟩ := HRV.out
            exact ⟨⟨k + 1, A6, c6, by omega, by go_num, by rw [HF.out], hbr, by rw [HF.out]; exact HOW.out⟩, by simp [intOf]; omega⟩
          · have HF := hide (show restL set (k + 1) = restL set k ++ [(k : Int)] by rw [HU.out, if_neg hin])
            rw [decide_eq_false hin]
            clear hin
            (go_wp2_with (at_builtin; refine stopAt ?_); refine stopGo ?_)
            have N2 := set_new (k : Int) wr
            have O2 := HOW.out.alloc (.cells #[.int .i64 (k : Int)] 3)
            have hb6 := hbr.alloc hbr.size (.cells #[.int .i64 (k : Int)] 3)
            have szl := hb6.size
            refine wpList_append_sl _ rfl (.tmp 82) (.tmp 84) _ rfl w4.heap.size 3 ie _ 1 8 Try.underlying23 hie hze he1 he2 rfl (by omega) RV _ _ rfl O2 [] _ 1 1 (ints .i64 [(k : Int)]) rfl N2 ints_one (by simp only [maxLen]; omega) (by omega) (by first | omega | (simp; done) | (simp; omega)) ?_
            intro A5 c5 w5 own5 g5 _
            rw [← ints_append, ← HF.out] at own5
            have hl5 : (restL set k).length + 1 = (restL set (k + 1)).length := by rw [HF.out, List.length_append]; rfl
            rw [hl5] at own5 ⊢
            clear hl5
            have hg5 := below_grown O2 g5 (Nat.le_refl _) (by first | omega | (simp; omega))
            have hb5 := hb6.trans hg5
            have OW5 := hide own5
            clear own5 g5 hg5 O2 N2
            go_wp2_with (fail)
            exact ⟨⟨k + 1, A5, c5, by omega, by go_num, rfl, hb5, OW5.out⟩, by simp [intOf]; omega⟩
    · have hkn : k = n := by omega
      subst hkn
      have N5 := own_sl hown [] (by simp)
      clear hown hlen
      go_wp2_with (fail)
      refine (QE.out wr _ _ _ (S4.below hbr) N5).mono ?_
      rintro e w5 ⟨R5, d5, rfl, Z5, b5⟩
      have hb5 := hbr.trans (b5.mono hbr.size)
      have Z35 := Z34.below hb5
      have Z45 := Z4.below hb5
      go_wp2_with (fail)
      refine (esame_yes _ _ _ _ _ _ _ _ _ _ Z35 Z45).mono ?_
      rintro e w6 ⟨rfl, b6⟩
      have hb6 := hb5.trans (b6.mono hb5.size)
      have Z36 := Z35.below b6
      have Z56 := Z5.below b6
      go_wp2_with (fail)
      refine (esame_yes _ _ _ _ _ _ _ _ _ _ Z36 Z56).mono ?_
      rintro e w7 ⟨rfl, b7⟩
      have hb7 := c4.trans ((hb6.trans (b7.mono hb6.size)).mono c4.size)
      (go_wp2_with (fail); refine (cawake_ok _).mono ?_; rintro e x ⟨rfl, bx⟩; go_wp2_with (fail); go_ret; exact ⟨rfl, (hb7).trans (bx.mono (hb7).size)⟩)
end Go.Proofs.Ytbbdbgfenidhgaa
