/-
  raftsmanlaw12.TableSets walked.
-/
import Derived.Test.YthhmlcckeipolaaTabNear
import Derived.Test.YthhmlcckeipolaaLexD
namespace Go.Proofs.Ythhmlcckeipolaa
open Go Go.RowKit
attribute [local go_sem] Heavy heavyUpon

theorem sets_put {n : Int} {l : List E3} (h : rightE n l = true) (i : Nat) (hi : i < l.length) {t : Int} (ht : 0 ≤ t ∧ t ≤ 16) :
    putE n l l[i].2.1 l[i].1 t = (l.set i (l[i].1, l[i].2.1, t), 0) := by
  have he := right_edge h (List.getElem_mem hi)
  have hh : hitE l[i].2.1 l[i].1 l[i] = true := hitE_iff.2 (.inr ⟨rfl, rfl⟩)
  have hf : 0 ≤ findI l l[i].2.1 l[i].1 0 := found_iff.2 ⟨_, List.getElem_mem hi, hh⟩
  unfold putE
  rw [h, inN_yes (n := n) (v := l[i].2.1) (by omega), inN_yes (n := n) (v := l[i].1) (by omega), decide_eq_true ht.1, decide_eq_true ht.2, if_pos (by rfl), if_pos hf]
  obtain ⟨j, _, hj, h2, _, h4⟩ := find_spec l l[i].2.1 l[i].1 0 (Int.le_refl _) hf
  have hji : j = i := hit_one h hj hi h2 hh
  subst hji
  rw [h4]
def posT (e : E3) : Bool := decide (0 < e.2.2)
def posE (l : List E3) : List E3 := l.filter posT
theorem forest_pos {n : Int} {l : List E3} (h : rightE n l = true) : forestE l 16 = posE l := by
  refine List.filter_congr fun e he => ?_
  have := right_edge h he
  unfold tierT posT
  rw [decide_eq_true this.2.2.2.2, Bool.and_true]
  by_cases h1 : 1 ≤ e.2.2
  · rw [decide_eq_true h1, decide_eq_true (by omega)]
  · rw [decide_eq_false h1, decide_eq_false (by omega)]
theorem forest_zero (l : List E3) : forestE l 0 = [] := by
  unfold forestE
  rw [List.filter_eq_nil_iff]
  intro e _
  unfold tierT
  by_cases h1 : 1 ≤ e.2.2
  · rw [decide_eq_false (show ¬ e.2.2 ≤ 0 by omega)]; simp
  · rw [decide_eq_false h1]; simp

set_option maxRecDepth 100000 in
set_option maxHeartbeats 6400000 in
theorem tsets_ok (n a t : Int) (ha : 0 ≤ a ∧ a ≤ 255) (ht : 0 ≤ t ∧ t ≤ 255) (l : List E3) (A : Option Addr) (m c : Nat) (w : World) (hS : ESl w [] A m c l) :
    Calls Try.prog 6 #[.int .i64 n, .slice A m c, .int .u8 a, .int .u8 t] w (Ret (.bool true) w) := by
  obtain ⟨a0, a1⟩ := ha
  obtain ⟨t0, t1⟩ := ht
  by_cases h1 : 60 < m
  · (go_enter Try.func6, Try.ntmps6)
    (go_wp2_with (fail); refine (tawake_ok _).mono ?_; rintro e x ⟨rfl, bx⟩; go_wp2_with (fail); go_ret; exact ⟨rfl, (Below.refl w.heap.size w).trans (bx.mono (Below.refl w.heap.size w).size)⟩)
  have h1' : m ≤ 60 := by omega
  clear h1
  by_cases h3 : 60 < n
  · (go_enter Try.func6, Try.ntmps6)
    (go_wp2_with (fail); refine (tawake_ok _).mono ?_; rintro e x ⟨rfl, bx⟩; go_wp2_with (fail); go_ret; exact ⟨rfl, (Below.refl w.heap.size w).trans (bx.mono (Below.refl w.heap.size w).size)⟩)
  have h3' : n ≤ 60 := by omega
  clear h3
  have qr := fun W h => tright_any l [] A n m c W h
  cases hr : rightE n l
  case false =>
    rw [hr] at qr
    have QR := hide qr
    clear qr hr
    (go_enter Try.func6, Try.ntmps6)
    (go_wp2_with (fail); refine (QR.out w hS).mono ?_; rintro e w1 ⟨rfl, b1⟩; have S1 := hS.below b1)
    (go_wp2_with (fail); refine (tawake_ok _).mono ?_; rintro e x ⟨rfl, bx⟩; go_wp2_with (fail); go_ret; exact ⟨rfl, (b1).trans (bx.mono (b1).size)⟩)
  rw [hr] at qr
  have QR := hide qr
  clear qr
  by_cases hm0 : m = 0
  · subst hm0
    clear hr
    (go_enter Try.func6, Try.ntmps6)
    (go_wp2_with (fail); refine (QR.out w hS).mono ?_; rintro e w1 ⟨rfl, b1⟩; have S1 := hS.below b1)
    (go_wp2_with (fail); refine (tawake_ok _).mono ?_; rintro e x ⟨rfl, bx⟩; go_wp2_with (fail); go_ret; exact ⟨rfl, (b1).trans (bx.mono (b1).size)⟩)
  have hmp : 0 < m := by omega
  have hm1 : ((m : Int) == 0) = false := by simpa using hm0
  clear hm0
  have HL := hide hS.length
  obtain ⟨ii, hii⟩ : ∃ ii : Nat, a % (m : Int) = (ii : Int) := ⟨(a % (m : Int)).toNat, by rw [Int.toNat_of_nonneg (Int.emod_nonneg _ (by omega))]⟩
  have hil : ii < m := by have := Int.emod_lt_of_pos a (show (0 : Int) < (m : Int) by omega); omega
  have hk0 : (0 : Int) ≤ t % 17 := by omega
  have hk1 : t % 17 ≤ 16 := by omega
  obtain ⟨kk, hkk⟩ : ∃ kk, t % 17 = kk := ⟨_, rfl⟩
  rw [hkk] at hk0 hk1
  have hi : ii < l.length := by have := HL.out; omega
  have hp := sets_put hr ii hi ⟨hk0, hk1⟩
  have hyl : (l.set ii (l[ii].1, l[ii].2.1, kk)).length = m := by rw [List.length_set, HL.out]
  have hr2 := set_right hr ii hi ⟨hk0, hk1⟩
  have qs := fun W (h : ESl W [] A m c l) => set_ok l n l[ii].2.1 l[ii].1 kk A m c W h (by omega)
  rw [hp] at qs
  simp only [] at qs
  rw [hyl] at qs
  have HY := hide (show ∀ (j : Nat) (h1 : j < l.length) (h2 : j < (l.set ii (l[ii].1, l[ii].2.1, kk)).length), (l.set ii (l[ii].1, l[ii].2.1, kk))[j] = (l[j].1, l[j].2.1, if j = ii then kk else l[j].2.2) from fun j h1 h2 => by
    rw [List.getElem_set]
    by_cases e : ii = j
    · subst e; rw [if_pos rfl, if_pos rfl]
    · rw [if_neg e, if_neg (fun h => e h.symm)])
  have qf := fun W B d (h : ESl W [] B m d (l.set ii (l[ii].1, l[ii].2.1, kk))) => forest_ok (l.set ii (l[ii].1, l[ii].2.1, kk)) n 16 [] B m d W h (by omega)
  have qg := fun W B d (h : ESl W [] B m d (l.set ii (l[ii].1, l[ii].2.1, kk))) => forest_ok (l.set ii (l[ii].1, l[ii].2.1, kk)) n 0 [] B m d W h (by omega)
  rw [outF_in hr2, forest_pos hr2] at qf
  rw [outF_in hr2, forest_zero] at qg
  have HYL := hide hyl
  have QS := hide qs
  have QF := hide qf
  have QG := hide qg
  clear qs qf qg hp hyl hr2 hr
  generalize hYY : l.set ii (l[ii].1, l[ii].2.1, kk) = Y at *
  clear hYY
  (go_enter Try.func6, Try.ntmps6)
  (go_wp2_with (fail); refine (QR.out w hS).mono ?_; rintro e w1 ⟨rfl, b1⟩; have S1 := hS.below b1)
  obtain ⟨ad, rfl, had, _, c0, c1, c2⟩ := ESl.get S1 hi
  have hwk : (ad.add (ii * 3)).block < w1.heap.size := by rw [block_of_add]; exact had
  generalize l[ii].1 = u at *
  generalize l[ii].2.1 = v at *
  go_wp2_with (fail)
  refine wp_region_lexD [13] (fun w' => Below (w1).heap.size (w1) w') (by kernel_rfl) (by kernel_rfl) (Below.refl _ _).drew ?_
  (repeat ((with_reducible refine wpLex_step (fun K hK => ?_)); go_simp; first | ((with_reducible refine hK _ _ ?_); clear hK K) | ((with_reducible apply Exists.intro); refine ⟨fun w' hw' => ?_, hK _ _ ?_⟩; (· (have hq := bcells hw'; apply valEq; (· (go_simp; first | done | (with_reducible rfl))); (· ((try go_bits); with_reducible rfl)))); clear hK K)))
  ((with_reducible refine wpLex_step (fun K hK => ?_)); go_simp; refine (QS.out w1.drew S1.drew).mono ?_; rintro e w3 ⟨R5, d5, rfl, N5, hbx⟩; have g3 := ((Below.refl w1.heap.size w1).drew).trans (hbx.mono ((Below.refl w1.heap.size w1).drew).size); skip; refine ⟨_, rfl, g3, hK _ _ ?_⟩; clear hK K hbx)
  (repeat ((with_reducible refine wpLex_step (fun K hK => ?_)); go_simp; first | ((with_reducible refine hK _ _ ?_); clear hK K) | ((with_reducible apply Exists.intro); refine ⟨fun w' hw' => ?_, hK _ _ ?_⟩; (· (have hq := bcells hw'; apply valEq; (· (go_simp; first | done | (with_reducible rfl))); (· ((try go_bits); with_reducible rfl)))); clear hK K)))
  refine wpLex_nil (fun _ => ?_)
  have hb3 := b1.trans (g3.mono b1.size)
  have S3 := S1.below g3
  clear c0 c1 c2 hii hkk
  go_wp2_with (fail)
  go_loopw [13, 71] (fun a i wr => ∃ j : Nat, j ≤ m ∧ i = .int .i64 j ∧ a = .int .i64 ((posE (Y.take j)).length : Nat) ∧ Below w3.heap.size w3 wr) (fun _ i _ => m - (intOf i).toNat)
  case atStart => exact ⟨0, Nat.zero_le _, rfl, by simp [posE], Below.refl _ _⟩
  case round =>
    obtain ⟨j, hj, rfl, rfl, hbr⟩ := hrel
    by_cases hjl : j < m
    · have Zr : ESl wr [] R5 m d5 Y := N5.below hbr
      have Sr : ESl wr [] (some ad) m c l := S3.below hbr
      have hx : j < l.length := by have := HL.out; omega
      have hy : j < Y.length := by have := HYL.out; omega
      obtain ⟨yd, hY, hyd, _, e0, e1, e2⟩ := Zr.get hy
      subst hY
      obtain ⟨ad', hA, had', _, c0, c1, c2⟩ := Sr.get hx
      injection hA with hA
      subst hA
      have hyj := HY.out j hx hy
      have HST := hide (filter_step posT Y hy)
      rw [hyj] at e0 e1 e2 HST
      clear hyj
      have hcl := filter_len posT Y j
      have HU := hide (show (posE (Y.take (j + 1))) = posE (Y.take j) ++ (if posT (l[j].1, l[j].2.1, if j = ii then kk else l[j].2.2) = true then [(l[j].1, l[j].2.1, if j = ii then kk else l[j].2.2)] else []) from HST.out)
      clear HST
      generalize l[j] = x at *
      obtain ⟨u, v, t⟩ := x
      simp only [] at c0 c1 c2 e0 e1 e2
      have hcn : (posE (Y.take j)).length ≤ j := hcl
      clear hcl
      by_cases hji : j = ii
      · have g1 : ((j : Int) == (ii : Int)) = true := by simp [hji]
        have g2 : (j == ii) = true := by simp [hji]
        have g3' : ((j : Int) != (ii : Int)) = false := by simp [hji]
        have g4 : (j != ii) = false := by simp [hji]
        rw [if_pos hji] at e2
        have HU := hide (show (posE (Y.take (j + 1))) = posE (Y.take j) ++ (if posT (u, v, kk) = true then [(u, v, kk)] else []) by have := HU.out; rw [if_pos hji] at this; exact this)
        clear hji
        generalize hcc : (posE (Y.take j)).length = cn at *
        have HCC := hide hcc
        clear hcc
        have hb0 := hbr.alloc hbr.size (.cells #[.int .i64 u, .int .i64 v, .int .i64 kk] 30)
        (have B0 := Blk.new wr 30 #[.int .i64 u, .int .i64 v, .int .i64 kk]; have cc0 : (wr.alloc (.cells #[.int .i64 u, .int .i64 v, .int .i64 kk] 30)).cell? (ad.add (j * 3)) = some (.int .i64 u) := (World.cell?_of_block (Below.heap_alloc wr _ _ (by rw [block_of_add]; exact had'))).trans c0; have cc1 : (wr.alloc (.cells #[.int .i64 u, .int .i64 v, .int .i64 kk] 30)).cell? ⟨(ad.add (j * 3)).block, (ad.add (j * 3)).off + 1, none⟩ = some (.int .i64 v) := (World.cell?_of_block (a := ⟨(ad.add (j * 3)).block, (ad.add (j * 3)).off + 1, none⟩) (Below.heap_alloc wr _ _ (by simp only []; rw [block_of_add]; exact had'))).trans c1; have cc2 : (wr.alloc (.cells #[.int .i64 u, .int .i64 v, .int .i64 kk] 30)).cell? ⟨(ad.add (j * 3)).block, (ad.add (j * 3)).off + 2, none⟩ = some (.int .i64 t) := (World.cell?_of_block (a := ⟨(ad.add (j * 3)).block, (ad.add (j * 3)).off + 2, none⟩) (Below.heap_alloc wr _ _ (by simp only []; rw [block_of_add]; exact had'))).trans c2; obtain ⟨x0, x1, x2⟩ := B0.facts)
        (by_cases hp0 : 0 < kk; (· have HF := hide (show (posE (Y.take (j + 1))).length = cn + 1 by rw [HU.out, if_pos (show posT (u, v, kk) = true from decide_eq_true hp0), List.length_append, HCC.out]; rfl); go_wp2_with (fail); generalize wr.alloc (.cells #[.int .i64 u, .int .i64 v, .int .i64 kk] 30) = W0 at *; refine wp_region_lex [] (fun w' => ∀ p, w'.cell? p = W0.cell? p) (by kernel_rfl) (by kernel_rfl) (fun _ => rfl) ?_; (repeat ((with_reducible refine wpLex_step (fun K hK => ?_)); go_simp; first | ((with_reducible refine hK _ _ ?_); clear hK K) | ((with_reducible apply Exists.intro); refine ⟨fun w' hw' => ?_, hK _ _ ?_⟩; (· (apply valEq; (· (go_simp; first | done | (with_reducible rfl))); (· ((try go_bits); with_reducible rfl)))); clear hK K))); refine wpLex_nil (fun hw => ?_); go_wp2_with (fail); exact ⟨⟨j + 1, by omega, by go_num, by rw [HF.out]; go_num, hb0.drew⟩, by simp [intOf]; omega⟩); (· have HF := hide (show (posE (Y.take (j + 1))).length = cn by rw [HU.out, if_neg (by simp only [posT, decide_eq_true_eq]; exact hp0), List.append_nil, HCC.out]); go_wp2_with (fail); generalize wr.alloc (.cells #[.int .i64 u, .int .i64 v, .int .i64 kk] 30) = W0 at *; refine wp_region_lex [] (fun w' => ∀ p, w'.cell? p = W0.cell? p) (by kernel_rfl) (by kernel_rfl) (fun _ => rfl) ?_; (repeat ((with_reducible refine wpLex_step (fun K hK => ?_)); go_simp; first | ((with_reducible refine hK _ _ ?_); clear hK K) | ((with_reducible apply Exists.intro); refine ⟨fun w' hw' => ?_, hK _ _ ?_⟩; (· (apply valEq; (· (go_simp; first | done | (with_reducible rfl))); (· ((try go_bits); with_reducible rfl)))); clear hK K))); refine wpLex_nil (fun hw => ?_); go_wp2_with (fail); exact ⟨⟨j + 1, by omega, by go_num, by rw [HF.out], hb0.drew⟩, by simp [intOf]; omega⟩))
      · have g1 : ((j : Int) == (ii : Int)) = false := by simp; omega
        have g2 : (j == ii) = false := by simp [hji]
        have g3' : ((j : Int) != (ii : Int)) = true := by simp; omega
        have g4 : (j != ii) = true := by simp [hji]
        rw [if_neg hji] at e2
        have HU := hide (show (posE (Y.take (j + 1))) = posE (Y.take j) ++ (if posT (u, v, t) = true then [(u, v, t)] else []) by have := HU.out; rw [if_neg hji] at this; exact this)
        clear hji
        generalize hcc : (posE (Y.take j)).length = cn at *
        have HCC := hide hcc
        clear hcc
        have hb0 := hbr.alloc hbr.size (.cells #[.int .i64 u, .int .i64 v, .int .i64 t] 30)
        (have B0 := Blk.new wr 30 #[.int .i64 u, .int .i64 v, .int .i64 t]; have cc0 : (wr.alloc (.cells #[.int .i64 u, .int .i64 v, .int .i64 t] 30)).cell? (ad.add (j * 3)) = some (.int .i64 u) := (World.cell?_of_block (Below.heap_alloc wr _ _ (by rw [block_of_add]; exact had'))).trans c0; have cc1 : (wr.alloc (.cells #[.int .i64 u, .int .i64 v, .int .i64 t] 30)).cell? ⟨(ad.add (j * 3)).block, (ad.add (j * 3)).off + 1, none⟩ = some (.int .i64 v) := (World.cell?_of_block (a := ⟨(ad.add (j * 3)).block, (ad.add (j * 3)).off + 1, none⟩) (Below.heap_alloc wr _ _ (by simp only []; rw [block_of_add]; exact had'))).trans c1; have cc2 : (wr.alloc (.cells #[.int .i64 u, .int .i64 v, .int .i64 t] 30)).cell? ⟨(ad.add (j * 3)).block, (ad.add (j * 3)).off + 2, none⟩ = some (.int .i64 t) := (World.cell?_of_block (a := ⟨(ad.add (j * 3)).block, (ad.add (j * 3)).off + 2, none⟩) (Below.heap_alloc wr _ _ (by simp only []; rw [block_of_add]; exact had'))).trans c2; obtain ⟨x0, x1, x2⟩ := B0.facts)
        (by_cases hp0 : 0 < t; (· have HF := hide (show (posE (Y.take (j + 1))).length = cn + 1 by rw [HU.out, if_pos (show posT (u, v, t) = true from decide_eq_true hp0), List.length_append, HCC.out]; rfl); go_wp2_with (fail); generalize wr.alloc (.cells #[.int .i64 u, .int .i64 v, .int .i64 t] 30) = W0 at *; refine wp_region_lex [] (fun w' => ∀ p, w'.cell? p = W0.cell? p) (by kernel_rfl) (by kernel_rfl) (fun _ => rfl) ?_; (repeat ((with_reducible refine wpLex_step (fun K hK => ?_)); go_simp; first | ((with_reducible refine hK _ _ ?_); clear hK K) | ((with_reducible apply Exists.intro); refine ⟨fun w' hw' => ?_, hK _ _ ?_⟩; (· (apply valEq; (· (go_simp; first | done | (with_reducible rfl))); (· ((try go_bits); with_reducible rfl)))); clear hK K))); refine wpLex_nil (fun hw => ?_); go_wp2_with (fail); exact ⟨⟨j + 1, by omega, by go_num, by rw [HF.out]; go_num, hb0.drew⟩, by simp [intOf]; omega⟩); (· have HF := hide (show (posE (Y.take (j + 1))).length = cn by rw [HU.out, if_neg (by simp only [posT, decide_eq_true_eq]; exact hp0), List.append_nil, HCC.out]); go_wp2_with (fail); generalize wr.alloc (.cells #[.int .i64 u, .int .i64 v, .int .i64 t] 30) = W0 at *; refine wp_region_lex [] (fun w' => ∀ p, w'.cell? p = W0.cell? p) (by kernel_rfl) (by kernel_rfl) (fun _ => rfl) ?_; (repeat ((with_reducible refine wpLex_step (fun K hK => ?_)); go_simp; first | ((with_reducible refine hK _ _ ?_); clear hK K) | ((with_reducible apply Exists.intro); refine ⟨fun w' hw' => ?_, hK _ _ ?_⟩; (· (apply valEq; (· (go_simp; first | done | (with_reducible rfl))); (· ((try go_bits); with_reducible rfl)))); clear hK K))); refine wpLex_nil (fun hw => ?_); go_wp2_with (fail); exact ⟨⟨j + 1, by omega, by go_num, by rw [HF.out], hb0.drew⟩, by simp [intOf]; omega⟩))
    · have HF := hide (show Y.take j = Y from List.take_of_length_le (by have := HYL.out; omega))
      rw [HF.out]
      have hb4 := hb3.trans (hbr.mono hb3.size)
      have Zr : ESl wr [] R5 m d5 Y := N5.below hbr
      generalize posE Y = X at *
      go_wp2_with (fail)
      refine (QF.out wr _ _ Zr).mono ?_
      rintro e w5 ⟨R6, d6, rfl, _, b5⟩
      have hb5 := hb4.trans (b5.mono hb4.size)
      have Z5 := Zr.below b5
      go_wp2_with (fail)
      refine (QG.out w5 _ _ Z5).mono ?_
      rintro e w6 ⟨R7, d7, rfl, _, b6⟩
      have hb6 := hb5.trans (b6.mono hb5.size)
      (go_wp2_with (fail); refine (tawake_ok _).mono ?_; rintro e x ⟨rfl, bx⟩; go_wp2_with (fail); go_ret; exact ⟨rfl, (hb6).trans (bx.mono (hb6).size)⟩)
end Go.Proofs.Ythhmlcckeipolaa
