/-
  raftsmanlaw13.CutNames walked.
-/
import Derived.Test.YtbbdbgfenidhgaaCutStars
import Derived.Test.YtbbdbgfenidhgaaFind
import Derived.Test.YtbbdbgfenidhgaaEnds
namespace Go.Proofs.Ytbbdbgfenidhgaa
open Go Go.RowKit
attribute [local go_sem] Heavy heavyUpon

theorem chainE_lt {n : Int} : ∀ {l : List E3} {p : Option E3}, chainE n p l = true → ∀ {k : Nat} (h : k + 1 < l.length), ltE (l[k]'(by omega)) l[k + 1] = true
  | [], _, _, _, h => by simp at h
  | [x], _, _, _, h => by simp at h
  | x :: y :: l, p, hc, k, h => by
    simp only [chainE, Bool.and_eq_true] at hc
    cases k with
    | zero => exact hc.2.1.2
    | succ k =>
      have h2 : chainE n (some x) (y :: l) = true := by simp only [chainE, Bool.and_eq_true]; exact hc.2
      exact chainE_lt h2 (by simpa using h)
theorem nameT_eq {n : Int} {l : List E3} (hr : rightE n l = true) {e : E3} (he : e ∈ l) : nameT e = e.1 * 16777216 + e.2.1 := by
  have h := rightE_mem hr he
  have hn := rightE_n hr
  unfold nameT nameE
  rw [if_pos ⟨vtx_iff.2 (by omega), vtx_iff.2 (by omega)⟩, if_neg (by omega), if_pos (by omega)]
theorem ends_nameT {n : Int} {l : List E3} (hr : rightE n l = true) {e : E3} (he : e ∈ l) : endsI (nameT e) = (e.1, e.2.1, true) := by
  have h := rightE_mem hr he
  have hn := rightE_n hr
  rw [nameT_eq hr he]
  have h1 : (e.1 * 16777216 + e.2.1) / 16777216 = e.1 := by omega
  have h2 : (e.1 * 16777216 + e.2.1) % 16777216 = e.2.1 := by omega
  unfold endsI
  rw [h1, h2, if_pos ⟨by omega, by omega⟩]
theorem nameT_bd {n : Int} {l : List E3} (hr : rightE n l = true) {e : E3} (he : e ∈ l) : 0 ≤ nameT e ∧ nameT e < 18446744073709551616 := by
  have h := rightE_mem hr he
  have hn := rightE_n hr
  rw [nameT_eq hr he]
  omega
theorem nameT_lt {n : Int} {l : List E3} (hr : rightE n l = true) {k : Nat} (hk : k + 1 < l.length) : nameT (l[k]'(by omega)) < nameT l[k + 1] := by
  have h1 := rightE_mem hr (List.getElem_mem (show k < l.length by omega))
  have h2 := rightE_mem hr (List.getElem_mem hk)
  rw [nameT_eq hr (List.getElem_mem _), nameT_eq hr (List.getElem_mem _)]
  have hn := rightE_n hr
  rw [rightE_in hn.1 hn.2] at hr
  have hl := chainE_lt hr hk
  unfold ltE at hl
  simp only [Bool.or_eq_true, Bool.and_eq_true, decide_eq_true_eq, beq_iff_eq] at hl
  omega
/-- The stars of some vertices, one behind the other. -/
def starsL (l : List E3) (set : List Int) : List E3 := set.flatMap fun v => cutR l [v]
theorem starsL_step (l : List E3) (set : List Int) {k : Nat} (h : k < set.length) : starsL l (set.take (k + 1)) = starsL l (set.take k) ++ cutR l [set[k]] := by
  unfold starsL
  rw [List.take_succ_eq_append_getElem h, List.flatMap_append]; simp
theorem starsL_len (l : List E3) (set : List Int) (k : Nat) : (starsL l (set.take k)).length ≤ k * l.length := by
  induction k with
  | zero => simp [starsL]
  | succ k ih =>
    rcases Nat.lt_or_ge k set.length with h | h
    · rw [starsL_step l set h, List.length_append]
      have : (cutR l [set[k]]).length ≤ l.length := List.length_filter_le _ _
      rw [Nat.add_mul]; omega
    · rw [List.take_of_length_le (show set.length ≤ k + 1 by omega)]
      rw [List.take_of_length_le h] at ih
      exact Nat.le_trans ih (Nat.mul_le_mul_right _ (by omega))
theorem cut_in_stars {n : Int} {l : List E3} (hr : rightE n l = true) {set : List Int} {x : E3} (hx : x ∈ cutR l set) : 0 ≤ findI (starsL l set) x.1 x.2.1 0 := by
  rw [findI_mem _ _ _ _ (Int.le_refl _)]
  unfold cutR at hx
  rw [List.mem_filter] at hx
  obtain ⟨hl, hc⟩ := hx
  have hm := rightE_mem hr hl
  refine ⟨x, ?_, by simp [hitE]⟩
  have key : ∃ v, v ∈ set ∧ cutT [v] x = true := by
    unfold cutT at hc
    by_cases h1 : x.1 ∈ set
    · refine ⟨x.1, h1, ?_⟩
      have h2 : ¬ x.2.1 = x.1 := by omega
      simp [cutT, h2]
    · by_cases h2 : x.2.1 ∈ set
      · refine ⟨x.2.1, h2, ?_⟩
        have h3 : ¬ x.1 = x.2.1 := by omega
        simp [cutT, h3]
      · simp [h1, h2] at hc
  obtain ⟨v, hv, hc2⟩ := key
  unfold starsL
  rw [List.mem_flatMap]
  exact ⟨v, hv, by unfold cutR; rw [List.mem_filter]; exact ⟨hl, hc2⟩⟩
theorem fits_right {n : Int} {l : List E3} {set : List Int} (h : fitsE n l set = true) : rightE n l = true := (fitsE_parts h).1

set_option maxRecDepth 100000 in
set_option maxHeartbeats 6400000 in
theorem cnames_ok (n : Int) (l : List E3) (set : List Int) (A B : Option Addr) (m c ms cs : Nat) (w : World) (hS : ESl w [] A m c l) (hT : Sl w [] 1 B ms cs (ints .i64 set)) :
    Calls Try.prog 7 #[.int .i64 n, .slice A m c, .slice B ms cs] w (Ret (.bool true) w) := by
  by_cases h1 : 60 < m
  · (go_enter Try.func7, Try.ntmps7)
    (go_wp2_with (fail); refine (cawake_ok _).mono ?_; rintro e x ⟨rfl, bx⟩; go_wp2_with (fail); go_ret; exact ⟨rfl, (Below.refl w.heap.size w).trans (bx.mono (Below.refl w.heap.size w).size)⟩)
  by_cases h2 : 60 < ms
  · (go_enter Try.func7, Try.ntmps7)
    (go_wp2_with (fail); refine (cawake_ok _).mono ?_; rintro e x ⟨rfl, bx⟩; go_wp2_with (fail); go_ret; exact ⟨rfl, (Below.refl w.heap.size w).trans (bx.mono (Below.refl w.heap.size w).size)⟩)
  have h1' : m ≤ 60 := by omega
  have h2' : ms ≤ 60 := by omega
  clear h1 h2
  by_cases h3 : 60 < n
  · (go_enter Try.func7, Try.ntmps7)
    (go_wp2_with (fail); refine (cawake_ok _).mono ?_; rintro e x ⟨rfl, bx⟩; go_wp2_with (fail); go_ret; exact ⟨rfl, (Below.refl w.heap.size w).trans (bx.mono (Below.refl w.heap.size w).size)⟩)
  have h3' : n ≤ 60 := by omega
  clear h3
  have qf := fun W h1 h2 => may_any l set [] [] A B n m c ms cs W h1 h2
  cases fs : fitsE n l set
  case false =>
    rw [fs] at qf
    have QF := hide qf
    clear qf fs
    (go_enter Try.func7, Try.ntmps7)
    go_wp2_with (fail)
    refine (QF.out w hS hT).mono ?_
    rintro e w1 ⟨rfl, b1⟩
    (go_wp2_with (fail); refine (cawake_ok _).mono ?_; rintro e x ⟨rfl, bx⟩; go_wp2_with (fail); go_ret; exact ⟨rfl, (b1).trans (bx.mono (b1).size)⟩)
  rw [fs] at qf
  have QF := hide qf
  clear qf
  have HR := hide (fits_right fs)
  have HST := hide (fitsE_parts fs).2
  obtain ⟨hn0, hn1⟩ := rightE_n HR.out
  obtain ⟨n, rfl⟩ := Int.eq_ofNat_of_zero_le hn0
  have QN := hide (fun W h1 => names_ok l [] A m c W h1 (by omega) [] (by simp))
  have qc := fun W h1 h2 => cut_ok l set [] [] A B n m c ms cs W h1 h2 (by omega) [] (by simp)
  rw [out_cut fs, out_c fs] at qc
  have QC := hide qc
  clear qc fs
  have HIN := hide (fun x (hx : x ∈ cutR l set) => cut_in_stars HR.out hx)
  have hxl : (cutR l set).length ≤ 60 := by
    have h : (cutR l set).length ≤ l.length := List.length_filter_le _ _
    have := hS.length
    omega
  have HL := hide hS.length
  have HLS := hide (show set.length = ms by have := hT.len; simpa using this)
  obtain ⟨ie, hie, hze, he1, he2⟩ := info_parts edge_info
  (go_enter Try.func7, Try.ntmps7)
  go_wp2_with (fail)
  refine (QF.out w hS hT).mono ?_
  rintro e w1 ⟨rfl, b1⟩
  have S1 := hS.below b1
  have T1 := hT.below b1
  go_wp2_with (fail)
  refine (QN.out w1 S1).mono ?_
  rintro e w2 ⟨R2, d2, rfl, N2, b2⟩
  have hb2 := b1.trans (b2.mono b1.size)
  have S2 := S1.below b2
  have T2 := T1.below b2
  clear b1 b2 S1 T1
  go_wp2_with (fail)
  go_loopw [51] (fun i wr => ∃ k : Nat, k ≤ m ∧ i = .int .i64 k ∧ Below w2.heap.size w2 wr) (fun i _ => m - (intOf i).toNat)
  case atStart => exact ⟨0, Nat.zero_le _, rfl, Below.refl _ _⟩
  case round =>
    obtain ⟨k, hk, rfl, hbr⟩ := hrel
    have Nr := N2.below hbr
    have Sr : ESl wr [] A m c l := S2.below hbr
    by_cases hlt : k < m
    · have hx : k < l.length := by have := HL.out; omega
      have hxn : k < (namesE l).length := by rw [namesE_len]; exact hx
      obtain ⟨nd, rfl, hnd, _, hnc⟩ := Nr.at_ (by omega)
      have n0 := hnc _ _ (ints_get hxn)
      have HNC := hide hnc
      clear hnc
      have HNK := hide (show (namesE l)[k] = nameT l[k] by simp [namesE])
      rw [HNK.out] at n0
      have hbd := nameT_bd HR.out (List.getElem_mem hx)
      have q := fun W => rends_any (nameT l[k]) hbd.1 hbd.2 W
      rw [ends_nameT HR.out (List.getElem_mem hx)] at q
      have Q := hide q
      clear q
      obtain ⟨ad, hA, had, _, c0, c1, c2⟩ := Sr.get hx
      subst hA
      by_cases hk0 : 0 < k
      · have hd : decide ((0 : Int) < (k : Int)) = true := decide_eq_true (by omega)
        have hp : k - 1 < (namesE l).length := by omega
        have n1 := HNC.out _ _ (ints_get hp)
        have HNJ := hide (show (namesE l)[k - 1] = nameT (l[k - 1]'(by omega)) by simp [namesE])
        rw [HNJ.out] at n1
        have hq : nameT (l[k - 1]'(by omega)) < nameT l[k] := by
          obtain ⟨j, rfl⟩ : ∃ j, k = j + 1 := ⟨k - 1, by omega⟩
          exact nameT_lt HR.out hx
        generalize nameT l[k] = z at *
        generalize nameT (l[k - 1]'(by omega)) = y at *
        generalize l[k] = x at *
        obtain ⟨p, q, t⟩ := x
        simp only [] at c0 c1 c2
        have i0 : (0 : Int) ≤ (k : Int) - 1 := by omega
        have i0' : (1 : Int) ≤ (k : Int) := by omega
        have i1 : (k : Int) - 1 < (m : Int) := by omega
        have i2 : ((k : Int) - 1).toNat = k - 1 := by omega
        have p1 : (p != p) = false := by simp
        have p2 : (q != q) = false := by simp
        have hwk : (ad.add (k * 3)).block < wr.heap.size := by rw [block_of_add]; exact had
        have hwn : (nd.add (k - 1)).block < wr.heap.size := by rw [block_of_add]; exact hnd
        go_wp2_with (fail)
        refine (Q.out wr).mono ?_
        rintro e w3 ⟨rfl, b3⟩
        have hb3 := hbr.trans (b3.mono hbr.size)
        have d0 := (bcells b3 _ hwk).trans c0
        have d1 := (bcells b3 ⟨(ad.add (k * 3)).block, (ad.add (k * 3)).off + 1, none⟩ hwk).trans c1
        have m1 := (bcells b3 _ hwn).trans n1
        clear c0 c1 c2 n0 n1 b3
        go_wp2_with (fail)
        exact ⟨⟨k + 1, by omega, by go_num, hb3⟩, by simp [intOf]; omega⟩
      · have hd : decide ((0 : Int) < (k : Int)) = false := decide_eq_false (by omega)
        generalize nameT l[k] = z at *
        generalize l[k] = x at *
        obtain ⟨p, q, t⟩ := x
        simp only [] at c0 c1 c2
        have p1 : (p != p) = false := by simp
        have p2 : (q != q) = false := by simp
        have hwk : (ad.add (k * 3)).block < wr.heap.size := by rw [block_of_add]; exact had
        go_wp2_with (fail)
        refine (Q.out wr).mono ?_
        rintro e w3 ⟨rfl, b3⟩
        have hb3 := hbr.trans (b3.mono hbr.size)
        have d0 := (bcells b3 _ hwk).trans c0
        have d1 := (bcells b3 ⟨(ad.add (k * 3)).block, (ad.add (k * 3)).off + 1, none⟩ hwk).trans c1
        clear c0 c1 c2 n0 b3
        go_wp2_with (fail)
        exact ⟨⟨k + 1, by omega, by go_num, hb3⟩, by simp [intOf]; omega⟩
    · have S4 : ESl wr [] A m c l := Sr
      have T4 := T2.below hbr
      have hb4 := hb2.trans (hbr.mono hb2.size)
      clear Nr Sr
      generalize cutR l set = X at *
      go_wp2_with (fail)
      refine (QC.out wr S4 T4).mono ?_
      rintro e w5 ⟨R5, d5, rfl, Z5, b5⟩
      have S5 : ESl w5 [] A m c l := S4.below b5
      have T5 := T4.below b5
      have hb5 := hb4.trans (b5.mono hb4.size)
      clear b5 S4 T4 hbr hb4
      obtain ⟨G, hG⟩ : ∃ G : Nat → List E3, G = fun k => starsL l (set.take k) := ⟨_, rfl⟩
      have H0 := hide (show G 0 = [] by rw [hG]; rfl)
      have HST2 := hide (show ∀ (k : Nat) (h : k < set.length), G (k + 1) = G k ++ cutR l [set[k]] from fun k h => by rw [hG]; exact starsL_step l set h)
      have HLN := hide (show ∀ k, (G k).length ≤ k * m from fun k => by rw [hG, ← HL.out]; exact starsL_len l set k)
      have HE := hide (show G ms = starsL l set by rw [hG]; simp only []; rw [List.take_of_length_le (by have := HLS.out; omega)])
      clear hG
      go_wp2_with (fail)
      go_loopw [15, 105] (fun a i wr => ∃ (k : Nat) (Ao : Option Addr) (co : Nat), k ≤ ms ∧ i = .int .i64 k ∧ a = .slice Ao (G k).length co ∧ Below w5.heap.size w5 wr ∧
          wr.ownsRow w5.heap.size 39 3 (.slice Ao (G k).length co) (G k).length (ecells (G k))) (fun _ i _ => ms - (intOf i).toNat)
      case atStart => exact ⟨0, none, 0, Nat.zero_le _, rfl, by rw [H0.out]; rfl, Below.refl _ _, by rw [H0.out]; exact World.ownsRow_nil w5 w5.heap.size 39 3⟩
      case round =>
        obtain ⟨k, Ao, co, hk, rfl, rfl, hbr, hown⟩ := hrel
        have Sr : ESl wr [] A m c l := S5.below hbr
        have Tr := T5.below hbr
        have hlen := HLN.out k
        have hlen2 : (G k).length ≤ k * 60 := Nat.le_trans hlen (Nat.mul_le_mul_left _ h1')
        by_cases hlt : k < ms
        · obtain ⟨td, hB, htd, _, hc⟩ := Tr.at_ (by omega)
          subst hB
          have hy : k < set.length := by have := HLS.out; omega
          have e0 := hc _ _ (ints_get hy)
          have HU := hide (HST2.out k hy)
          have hv := HST.out _ (List.getElem_mem hy)
          have hyl : (cutR l [set[k]]).length ≤ 60 := by
            have h : (cutR l [set[k]]).length ≤ l.length := List.length_filter_le _ _
            have := HL.out
            omega
          clear hc
          generalize set[k] = s at *
          have qs := fun W h => star_ok l s [] A n m c W h (by omega) [] (by simp)
          rw [out_star (fits_one HR.out hv), out_c (fits_one HR.out hv)] at qs
          have QS := hide qs
          clear qs hv
          generalize cutR l [s] = Y at *
          have HOW := hide hown
          clear hown hlen
          generalize Value.slice Ao (G k).length co = RV at *
          go_wp2_with (fail)
          refine (QS.out wr Sr).mono ?_
          rintro e w6 ⟨R6, d6, rfl, Z6, b6⟩
          have hb6 := hbr.trans (b6.mono hbr.size)
          have HO6 := hide (own_below HOW.out b6)
          clear b6 HOW e0
          (go_wp2_with (at_builtin; refine stopAt ?_); refine stopGo ?_)
          refine wpList_append_sl _ rfl (.tmp 116) (.tmp 117) _ rfl w5.heap.size 39 ie _ 3 24 Try.underlying22 hie hze he1 he2 rfl (by omega) RV _ _ rfl HO6.out [] _ Y.length _ (ecells Y) rfl Z6 ecells_one (by simp only [maxLen]; omega) (by omega) hb6.size ?_
          intro A7 c7 w7 own7 g7 _
          rw [← ecells_append, ← HU.out] at own7
          have hl7 : (G k).length + Y.length = (G (k + 1)).length := by rw [HU.out, List.length_append]
          rw [hl7] at own7 ⊢
          clear hl7
          have hg7 := below_grown HO6.out g7 (Nat.le_refl _) hb6.size
          have hb7 := hb6.trans hg7
          have OW7 := hide own7
          clear own7 g7 hg7 Z6
          go_wp2_with (fail)
          exact ⟨⟨k + 1, A7, c7, by omega, by go_num, rfl, hb7, OW7.out⟩, by simp [intOf]; omega⟩
        · have hkm : k = ms := by omega
          subst hkm
          rw [HE.out] at hown
          rw [HE.out]
          have N8 := own_sl hown [] (by simp)
          clear hown hlen hlen2
          have Z8 : ESl wr [] R5 X.length d5 X := Z5.below hbr
          have hb8 := hb5.trans (hbr.mono hb5.size)
          have HXL := hide Z8.length
          generalize starsL l set = Y at *
          go_wp2_with (fail)
          go_loopw [122] (fun i wx => ∃ j : Nat, j ≤ X.length ∧ i = .int .i64 j ∧ Below wr.heap.size wr wx) (fun i _ => X.length - (intOf i).toNat)
          case atStart => exact ⟨0, Nat.zero_le _, rfl, Below.refl _ _⟩
          case round =>
            obtain ⟨j, hj, rfl, hbx⟩ := hrel
            have Zx : ESl _ [] R5 X.length d5 X := Z8.below hbx
            have Nx := N8.below hbx
            by_cases hjl : j < X.length
            · obtain ⟨xd, hX, hxd, _, f0, f1, f2⟩ := Zx.get hjl
              subst hX
              have hin := HIN.out _ (List.getElem_mem hjl)
              generalize X[j] = x at *
              obtain ⟨p, q, t⟩ := x
              simp only [] at f0 f1 f2 hin
              have qf := fun W h => find_any Y p q [] Ao Y.length co W h
              generalize findI Y p q 0 = fi at *
              have QF2 := hide qf
              clear qf
              go_wp2_with (fail)
              refine (QF2.out _ (Nx.alloc _)).mono ?_
              rintro e w9 ⟨rfl, b9⟩
              have hb9 := (hbx.alloc hbx.size (.cells #[.int .i64 p, .int .i64 q, .int .i64 t] 39)).trans (b9.mono (hbx.alloc hbx.size (.cells #[.int .i64 p, .int .i64 q, .int .i64 t] 39)).size)
              clear b9 f0 f1 f2
              go_wp2_with (fail)
              exact ⟨⟨j + 1, by omega, by go_num, hb9⟩, by simp [intOf]; omega⟩
            · have hb9 := hb8.trans (hbx.mono hb8.size)
              (go_wp2_with (fail); refine (cawake_ok _).mono ?_; rintro e x ⟨rfl, bx⟩; go_wp2_with (fail); go_ret; exact ⟨rfl, (hb9).trans (bx.mono (hb9).size)⟩)
end Go.Proofs.Ytbbdbgfenidhgaa
