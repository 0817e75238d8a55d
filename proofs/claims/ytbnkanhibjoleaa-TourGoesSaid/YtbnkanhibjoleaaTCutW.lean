/-
  tour.Cut walked.
-/
import Derived.Test.YtbnkanhibjoleaaTCut0
import Derived.Test.YtbnkanhibjoleaaTLink
namespace Go.Proofs.Ytbnkanhibjoleaa
open Go Go.RowKit
attribute [local go_sem] Heavy heavyUpon
attribute [local go_sem ↓] isl_hi isl_lo isl_both

/-- What a cut gives: from u on, and from v on. -/
def cutX (l : List Int) (u v : Int) : List Int := (fromT l u).take (firstI (fromT l u) v 0).toNat ++ (fromT l u).drop ((lastK (fromT l u) v 0 l.length).toNat + 2)
def cutY (l : List Int) (u v : Int) : List Int := ((fromT l u).take ((lastK (fromT l u) v 0 l.length).toNat + 1)).drop (firstI (fromT l u) v 0).toNat
def outC3 (l : List Int) (u v : Int) : List Int × List Int × Int :=
  if isT l = true then (if decide (mkE u v ∈ edgesT l) = true then (cutX l u v, cutY l u v, 0) else ([], [], 3)) else ([], [], 1)

theorem cut_call (W : World) (l : List Int) (A : Option Addr) (m c f e : Nat) (hS : Sl W [] 1 A m c (ints .i64 l)) (hf : f ≤ m) (he : e + 2 ≤ m) (hm : m ≤ 4096) :
    Calls Try.prog 20 #[.slice (some ⟨W.heap.size, 0, none⟩) 2 2] (W.alloc (.cells #[.slice A f c, .slice (cutA A c (e + 2) 1) (m - (e + 2)) (c - (e + 2))] 22))
      fun e' w' => ∃ R d, e' = .returned (.slice R (f + (m - (e + 2))) d) ∧ Sl w' [] 1 R (f + (m - (e + 2))) d (ints .i64 (l.take f ++ l.drop (e + 2))) ∧ Below (W.alloc (.cells #[.slice A f c, .slice (cutA A c (e + 2) 1) (m - (e + 2)) (c - (e + 2))] 22)).heap.size (W.alloc (.cells #[.slice A f c, .slice (cutA A c (e + 2) 1) (m - (e + 2)) (c - (e + 2))] 22)) w' := by
  have hb := Blk.new W 22 #[.slice A f c, .slice (cutA A c (e + 2) 1) (m - (e + 2)) (c - (e + 2))]
  have S0 := hS.alloc (.cells #[.slice A f c, .slice (cutA A c (e + 2) 1) (m - (e + 2)) (c - (e + 2))] 22)
  generalize (W.alloc (.cells #[.slice A f c, .slice (cutA A c (e + 2) 1) (m - (e + 2)) (c - (e + 2))] 22)) = W2 at *
  have hP := concatI_ok [(A, f, c, ints .i64 (l.take f)), (cutA A c (e + 2) 1, m - (e + 2), c - (e + 2), ints .i64 (l.drop (e + 2)))] [] (some ⟨W.heap.size, 0, none⟩) 2 2 W2
    (Sl.of_blk hb rfl (fun x hx => by match x, hx with | 0, _ | 1, _ => rfl) (by simp) (by unfold maxLen; omega))
    (by
      intro x hx
      simp only [List.mem_cons, List.not_mem_nil, or_false] at hx
      rcases hx with rfl | rfl
      · exact ⟨q_head (k := f) S0 hf, ints_one⟩
      · exact ⟨q_tail (k := e + 2) S0 he, ints_one⟩)
    (by decide) (by simp [ptot]; omega)
  have e1 : ptot [(A, f, c, ints .i64 (l.take f)), (cutA A c (e + 2) 1, m - (e + 2), c - (e + 2), ints .i64 (l.drop (e + 2)))] = f + (m - (e + 2)) := by simp [ptot]
  have e2 : pcat [(A, f, c, ints .i64 (l.take f)), (cutA A c (e + 2) 1, m - (e + 2), c - (e + 2), ints .i64 (l.drop (e + 2)))] = ints .i64 (l.take f ++ l.drop (e + 2)) := by
    rw [ints_append]
    simp [pcat]
  rw [e1, e2] at hP
  exact hP
theorem clone_mid (W : World) (l : List Int) (A : Option Addr) (m c f e : Nat) (hS : Sl W [] 1 A m c (ints .i64 l)) (hf : f ≤ e) (he : e + 2 ≤ m) (hm : m ≤ 4096) :
    Calls Try.prog 28 #[.slice (cutA A c f 1) (e + 1 - f) (c - f)] W fun e' w' => ∃ R d, e' = .returned (.slice R (e + 1 - f) d) ∧ Sl w' [] 1 R (e + 1 - f) d (ints .i64 ((l.take (e + 1)).drop f)) ∧ Below W.heap.size W w' :=
  (cloneI_ok _ [] _ _ _ W (q_mid (k := e + 1) (j := f) hS (by omega) (by omega)) ints_one (by omega)).mono fun _ _ ⟨R, d, h1, h2, h3⟩ => ⟨R, d, h1, own_sl h2 [] (by simp), h3⟩

set_option maxRecDepth 100000 in
set_option maxHeartbeats 6400000 in
theorem cutT_any (l : List Int) (hwf : ∀ x ∈ l, (Lit.int .i64 x).wf = true) (u v : Int) (A : Option Addr) (m c : Nat) (w : World) (hS : Sl w [] 1 A m c (ints .i64 l)) (hm : m ≤ 4096) :
    Calls Try.prog 14 #[.slice A m c, .int .i64 u, .int .i64 v] w fun e w' => ∃ R d R' d', e = .returned (.tuple #[.slice R (outC3 l u v).1.length d, .slice R' (outC3 l u v).2.1.length d', .int .i64 (outC3 l u v).2.2]) ∧
      Sl w' [] 1 R (outC3 l u v).1.length d (ints .i64 (outC3 l u v).1) ∧ Sl w' [] 1 R' (outC3 l u v).2.1.length d' (ints .i64 (outC3 l u v).2.1) ∧ Below w.heap.size w w' := by
  have HL := hide (show l.length = m by have := hS.len; simpa using this)
  have qr := fun W h => isT_any l hwf A m c W h hm
  have qe := fun W h => edges_any l hwf A m c W h hm
  unfold outC3
  cases hr : isT l
  case false =>
    rw [hr] at qr
    have QR := hide qr
    clear qr hr hwf qe
    rw [if_neg (by decide)]
    (go_enter Try.func14, Try.ntmps14)
    (go_wp2_with (fail); refine (QR.out w hS).mono ?_; rintro e w1 ⟨rfl, b1⟩; have S1 := hS.below b1)
    (go_wp2_with (fail); refine bodyPost_ret (v := .tuple #[.slice none 0 0, .slice none 0 0, .int .i64 1]) (by simp [results, Try.results14, go_sem]) rfl ⟨none, 0, none, 0, rfl, Sl.nil_ _ _ _, Sl.nil_ _ _ _, b1⟩)
  rw [hr] at qr
  have QR := hide qr
  clear qr
  rw [if_pos rfl]
  have hD : outD l = edgesT l := by unfold outD; rw [if_pos hr]
  rw [hD] at qe
  have QE := hide qe
  clear qe hD
  have qh := fun W B d h => ehas_any (edgesT l) (mkE u v).1 (mkE u v).2.1 (mkE u v).2.2 [] B (edgesT l).length d W h
  have hmk : ((mkE u v).1, (mkE u v).2.1, (mkE u v).2.2) = mkE u v := rfl
  rw [hmk] at qh
  clear hmk
  by_cases hin : mkE u v ∈ edgesT l
  case neg =>
    rw [decide_eq_false hin] at qh
    rw [decide_eq_false hin, if_neg (by decide)]
    clear hin hr hwf
    generalize edgesT l = E at *
    by_cases h1 : u < v
    · rw [show mkE u v = (u, v, 0) from if_pos h1] at qh
      have QH := hide qh
      clear qh
      (go_enter Try.func14, Try.ntmps14)
      (go_wp2_with (fail); refine (QR.out w hS).mono ?_; rintro e w1 ⟨rfl, b1⟩; have S1 := hS.below b1)
      (go_wp2_with (fail); refine (QE.out w1 S1).mono ?_; rintro e w2 ⟨R2, d2, rfl, Z2, b2⟩; have S2 := S1.below b2; have hb2 := b1.trans (b2.mono b1.size); clear b2 b1 S1; go_wp2_with (fail); refine (QH.out w2 _ _ Z2).mono ?_; rintro e w3 ⟨rfl, b3⟩; have S3 := S2.below b3; have hb3 := hb2.trans (b3.mono hb2.size); clear b3 S2 Z2 hb2)
      (go_wp2_with (fail); refine bodyPost_ret (v := .tuple #[.slice none 0 0, .slice none 0 0, .int .i64 3]) (by simp [results, Try.results14, go_sem]) rfl ⟨none, 0, none, 0, rfl, Sl.nil_ _ _ _, Sl.nil_ _ _ _, hb3⟩)
    · rw [show mkE u v = (v, u, 0) from if_neg h1] at qh
      by_cases h2 : v < u
      · have QH := hide qh
        clear qh h1
        (go_enter Try.func14, Try.ntmps14)
        (go_wp2_with (fail); refine (QR.out w hS).mono ?_; rintro e w1 ⟨rfl, b1⟩; have S1 := hS.below b1)
        (go_wp2_with (fail); refine (QE.out w1 S1).mono ?_; rintro e w2 ⟨R2, d2, rfl, Z2, b2⟩; have S2 := S1.below b2; have hb2 := b1.trans (b2.mono b1.size); clear b2 b1 S1; go_wp2_with (fail); refine (QH.out w2 _ _ Z2).mono ?_; rintro e w3 ⟨rfl, b3⟩; have S3 := S2.below b3; have hb3 := hb2.trans (b3.mono hb2.size); clear b3 S2 Z2 hb2)
        (go_wp2_with (fail); refine bodyPost_ret (v := .tuple #[.slice none 0 0, .slice none 0 0, .int .i64 3]) (by simp [results, Try.results14, go_sem]) rfl ⟨none, 0, none, 0, rfl, Sl.nil_ _ _ _, Sl.nil_ _ _ _, hb3⟩)
      · obtain rfl : u = v := by omega
        have QH := hide qh
        clear qh h1 h2
        (go_enter Try.func14, Try.ntmps14)
        (go_wp2_with (fail); refine (QR.out w hS).mono ?_; rintro e w1 ⟨rfl, b1⟩; have S1 := hS.below b1)
        (go_wp2_with (fail); refine (QE.out w1 S1).mono ?_; rintro e w2 ⟨R2, d2, rfl, Z2, b2⟩; have S2 := S1.below b2; have hb2 := b1.trans (b2.mono b1.size); clear b2 b1 S1; go_wp2_with (fail); refine (QH.out w2 _ _ Z2).mono ?_; rintro e w3 ⟨rfl, b3⟩; have S3 := S2.below b3; have hb3 := hb2.trans (b3.mono hb2.size); clear b3 S2 Z2 hb2)
        (go_wp2_with (fail); refine bodyPost_ret (v := .tuple #[.slice none 0 0, .slice none 0 0, .int .i64 3]) (by simp [results, Try.results14, go_sem]) rfl ⟨none, 0, none, 0, rfl, Sl.nil_ _ _ _, Sl.nil_ _ _ _, hb3⟩)
  rw [decide_eq_true hin] at qh
  rw [decide_eq_true hin, if_pos rfl]
  obtain ⟨f, e0, ef, ee, hfe, hel, hu⟩ := cut_places hr hin
  obtain ⟨hxl, _, _, _⟩ := fromT_spec hr hu
  have huv := (edge_ends (isT_ne hr) hin).2.2
  have qu := fun W h => reroot_any l hwf u A m c W h hm
  rw [outR_in hr hu] at qu
  simp only [] at qu
  rw [show rotT l (firstI l u 0).toNat = fromT l u from rfl, hxl, HL.out] at qu
  have HC1 := hide (show cutX l u v = (fromT l u).take f ++ (fromT l u).drop (e0 + 2) by unfold cutX; rw [ef, ee]; rfl)
  have HC2 := hide (show cutY l u v = ((fromT l u).take (e0 + 1)).drop f by unfold cutY; rw [ef, ee]; rfl)
  rw [HL.out] at hxl hel ee
  have qi := fun W B d h => idx_any (fromT l u) v [] B m d W h
  rw [ef] at qi
  have HXL := hide hxl
  have HLK := hide (ee f)
  rw [HC1.out, HC2.out]
  clear hin hr hwf ef ee hxl HC1 HC2 hu
  generalize fromT l u = X at *
  generalize edgesT l = E at *
  have HL1 := hide (show (X.take f ++ X.drop (e0 + 2)).length = f + (m - (e0 + 2)) by rw [List.length_append, List.length_take, List.length_drop, HXL.out]; omega)
  have HL2 := hide (show ((X.take (e0 + 1)).drop f).length = e0 + 1 - f by rw [List.length_drop, List.length_take, HXL.out]; omega)
  have QU := hide qu
  have QI := hide qi
  clear qu qi
  by_cases h1 : u < v
  · rw [show mkE u v = (u, v, 0) from if_pos h1] at qh
    have QH := hide qh
    clear qh huv
    ((go_enter Try.func14, Try.ntmps14); (go_wp2_with (fail); refine (QR.out w hS).mono ?_; rintro e w1 ⟨rfl, b1⟩; have S1 := hS.below b1); (go_wp2_with (fail); refine (QE.out w1 S1).mono ?_; rintro e w2 ⟨R2, d2, rfl, Z2, b2⟩; have S2 := S1.below b2; have hb2 := b1.trans (b2.mono b1.size); clear b2 b1 S1; go_wp2_with (fail); refine (QH.out w2 _ _ Z2).mono ?_; rintro e w3 ⟨rfl, b3⟩; have S3 := S2.below b3; have hb3 := hb2.trans (b3.mono hb2.size); clear b3 S2 Z2 hb2); go_wp2_with (fail); refine (QU.out w3 S3).mono ?_; rintro e w4 ⟨R4, d4, rfl, N4, b4⟩; have hb4 := hb3.trans (b4.mono hb3.size); clear b4 S3 hb3; go_wp2_with (fail); refine (QI.out w4 _ _ N4).mono ?_; rintro e w5 ⟨rfl, b5⟩; have hb5 := hb4.trans (b5.mono hb4.size); have N5a := N4.below b5; clear b5 N4 hb4; go_wp2_with (fail); go_loop [12, 41] (fun a i => ∃ k : Nat, k ≤ m ∧ i = .int .i64 k ∧ a = .int .i64 (lastK X v f k)) (fun _ i => m - (intOf i).toNat); (case atStart => exact ⟨0, Nat.zero_le _, rfl, rfl⟩); (case round => obtain ⟨k, hk, rfl, rfl⟩ := hrel; by_cases hlt : k < m; (· have hx : k < X.length := (by have := HXL.out; omega); obtain ⟨ad, hA, had, _, hc⟩ := N5a.at_ (by omega); have c0 := hc k (.int .i64 X[k]) (ints_get hx); rw [← atI_lt hx] at c0; have HK := hide (show lastK X v f (k + 1) = if atI X k = v then (k : Int) else lastK X v f k from rfl); clear hc; rw [hA]; generalize atI X k = x at *; generalize lastK X v f k = lk at *; by_cases hxv : x = v; (· have HF := hide (show lastK X v f (k + 1) = (k : Int) by rw [HK.out, if_pos hxv]); have hd : (x == v) = true := (by simp [hxv]); clear hxv HK; go_wp2_with (fail); exact ⟨⟨k + 1, by omega, by go_num, by rw [HF.out]⟩, by simp [intOf]; omega⟩); (· have HF := hide (show lastK X v f (k + 1) = lk by rw [HK.out, if_neg hxv]); have hd : (x == v) = false := (by simp [hxv]); clear hxv HK; go_wp2_with (fail); exact ⟨⟨k + 1, by omega, by go_num, by rw [HF.out]⟩, by simp [intOf]; omega⟩)); (· have hkm : k = m := (by omega); subst hkm; rw [HLK.out]; have hmc := N5a.le; have i0 : (f : Int) ≤ (d4 : Int) := (by omega); have i1 : (0 : Int) ≤ (e0 : Int) + 2 := (by omega); have i2 : (e0 : Int) + 2 ≤ (k : Int) := (by omega); have i3 : ((e0 : Int) + 2).toNat = e0 + 2 := (by omega); have i4 : (f : Int) ≤ (e0 : Int) + 1 := (by omega); have i5 : (e0 : Int) + 1 ≤ (d4 : Int) := (by omega); have i6 : ((e0 : Int) + 1).toNat = e0 + 1 := (by omega); have i7 : (0 : Int) ≤ (f : Int) := (by omega); have g6 := (Below.refl w5.heap.size w5).drew.alloc (Nat.le_refl _) (.cells #[.slice R4 f d4, .slice (cutA R4 d4 (e0 + 2) 1) (k - (e0 + 2)) (d4 - (e0 + 2))] 22); go_wp2_with (fail); refine wp_region_lexD [7,8,14] (fun w' => Below (w5).heap.size (w5) w') (by kernel_rfl) (by kernel_rfl) (Below.refl _ _).drew ?_; (repeat ((with_reducible refine wpLex_step (fun K hK => ?_)); go_simp; first | ((with_reducible refine hK _ _ ?_); clear hK K) | ((with_reducible apply Exists.intro); refine ⟨fun w' hw' => ?_, hK _ _ ?_⟩; (· (have hq := bcells hw'; apply valEq; (· (go_simp; first | done | (with_reducible rfl))); (· ((try go_bits); with_reducible rfl)))); clear hK K))); ((with_reducible refine wpLex_step (fun K hK => ?_)); go_simp; first | (refine hK _ _ ?_; clear hK K) | (refine ⟨?_, hK _ _ ?_⟩; (· (exact g6)); clear hK K)); ((with_reducible refine wpLex_step (fun K hK => ?_)); go_simp; refine (cut_call w5.drew X R4 k d4 f e0 N5a.drew (by omega) (by omega) hm).mono ?_; rintro e w7 ⟨R5, d5, rfl, N5, hbx⟩; have g7 := (g6).trans (hbx.mono (g6).size); skip; refine ⟨_, rfl, g7, hK _ _ ?_⟩; clear hK K hbx); have NX := N5; obtain ⟨R6, hR6⟩ : ∃ R6, R6 = R5 := ⟨_, rfl⟩; subst hR6; obtain ⟨d6, hd6⟩ : ∃ d6, d6 = d5 := ⟨_, rfl⟩; subst hd6; clear N5; (repeat ((with_reducible refine wpLex_step (fun K hK => ?_)); go_simp; first | ((with_reducible refine hK _ _ ?_); clear hK K) | ((with_reducible apply Exists.intro); refine ⟨fun w' hw' => ?_, hK _ _ ?_⟩; (· (have hq := bcells hw'; apply valEq; (· (go_simp; first | done | (with_reducible rfl))); (· ((try go_bits); with_reducible rfl)))); clear hK K))); ((with_reducible refine wpLex_step (fun K hK => ?_)); go_simp; refine (clone_mid w7 X R4 k d4 f e0 (N5a.below g7) (by omega) (by omega) hm).mono ?_; rintro e w8 ⟨R5, d5, rfl, N5, hbx⟩; have g8 := (g7).trans (hbx.mono (g7).size); have NX8 := NX.below hbx; refine ⟨_, rfl, g8, hK _ _ ?_⟩; clear hK K hbx); (repeat ((with_reducible refine wpLex_step (fun K hK => ?_)); go_simp; first | ((with_reducible refine hK _ _ ?_); clear hK K) | ((with_reducible apply Exists.intro); refine ⟨fun w' hw' => ?_, hK _ _ ?_⟩; (· (have hq := bcells hw'; apply valEq; (· (go_simp; first | done | (with_reducible rfl))); (· ((try go_bits); with_reducible rfl)))); clear hK K))); refine wpLex_nil (fun _ => ?_); have hb8 := hb5.trans (g8.mono hb5.size); go_wp2_with (fail); refine bodyPost_ret (v := .tuple #[.slice R6 (f + (k - (e0 + 2))) d6, .slice R5 (e0 + 1 - f) d5, .int .i64 0]) (by simp [results, Try.results14, go_sem]) rfl ⟨R6, d6, R5, d5, by rw [HL1.out, HL2.out], by rw [HL1.out]; exact NX8, by rw [HL2.out]; exact N5, hb8⟩)))
  · have h2 : v < u := by omega
    rw [show mkE u v = (v, u, 0) from if_neg h1] at qh
    have QH := hide qh
    clear qh huv h1
    ((go_enter Try.func14, Try.ntmps14); (go_wp2_with (fail); refine (QR.out w hS).mono ?_; rintro e w1 ⟨rfl, b1⟩; have S1 := hS.below b1); (go_wp2_with (fail); refine (QE.out w1 S1).mono ?_; rintro e w2 ⟨R2, d2, rfl, Z2, b2⟩; have S2 := S1.below b2; have hb2 := b1.trans (b2.mono b1.size); clear b2 b1 S1; go_wp2_with (fail); refine (QH.out w2 _ _ Z2).mono ?_; rintro e w3 ⟨rfl, b3⟩; have S3 := S2.below b3; have hb3 := hb2.trans (b3.mono hb2.size); clear b3 S2 Z2 hb2); go_wp2_with (fail); refine (QU.out w3 S3).mono ?_; rintro e w4 ⟨R4, d4, rfl, N4, b4⟩; have hb4 := hb3.trans (b4.mono hb3.size); clear b4 S3 hb3; go_wp2_with (fail); refine (QI.out w4 _ _ N4).mono ?_; rintro e w5 ⟨rfl, b5⟩; have hb5 := hb4.trans (b5.mono hb4.size); have N5a := N4.below b5; clear b5 N4 hb4; go_wp2_with (fail); go_loop [12, 41] (fun a i => ∃ k : Nat, k ≤ m ∧ i = .int .i64 k ∧ a = .int .i64 (lastK X v f k)) (fun _ i => m - (intOf i).toNat); (case atStart => exact ⟨0, Nat.zero_le _, rfl, rfl⟩); (case round => obtain ⟨k, hk, rfl, rfl⟩ := hrel; by_cases hlt : k < m; (· have hx : k < X.length := (by have := HXL.out; omega); obtain ⟨ad, hA, had, _, hc⟩ := N5a.at_ (by omega); have c0 := hc k (.int .i64 X[k]) (ints_get hx); rw [← atI_lt hx] at c0; have HK := hide (show lastK X v f (k + 1) = if atI X k = v then (k : Int) else lastK X v f k from rfl); clear hc; rw [hA]; generalize atI X k = x at *; generalize lastK X v f k = lk at *; by_cases hxv : x = v; (· have HF := hide (show lastK X v f (k + 1) = (k : Int) by rw [HK.out, if_pos hxv]); have hd : (x == v) = true := (by simp [hxv]); clear hxv HK; go_wp2_with (fail); exact ⟨⟨k + 1, by omega, by go_num, by rw [HF.out]⟩, by simp [intOf]; omega⟩); (· have HF := hide (show lastK X v f (k + 1) = lk by rw [HK.out, if_neg hxv]); have hd : (x == v) = false := (by simp [hxv]); clear hxv HK; go_wp2_with (fail); exact ⟨⟨k + 1, by omega, by go_num, by rw [HF.out]⟩, by simp [intOf]; omega⟩)); (· have hkm : k = m := (by omega); subst hkm; rw [HLK.out]; have hmc := N5a.le; have i0 : (f : Int) ≤ (d4 : Int) := (by omega); have i1 : (0 : Int) ≤ (e0 : Int) + 2 := (by omega); have i2 : (e0 : Int) + 2 ≤ (k : Int) := (by omega); have i3 : ((e0 : Int) + 2).toNat = e0 + 2 := (by omega); have i4 : (f : Int) ≤ (e0 : Int) + 1 := (by omega); have i5 : (e0 : Int) + 1 ≤ (d4 : Int) := (by omega); have i6 : ((e0 : Int) + 1).toNat = e0 + 1 := (by omega); have i7 : (0 : Int) ≤ (f : Int) := (by omega); have g6 := (Below.refl w5.heap.size w5).drew.alloc (Nat.le_refl _) (.cells #[.slice R4 f d4, .slice (cutA R4 d4 (e0 + 2) 1) (k - (e0 + 2)) (d4 - (e0 + 2))] 22); go_wp2_with (fail); refine wp_region_lexD [7,8,14] (fun w' => Below (w5).heap.size (w5) w') (by kernel_rfl) (by kernel_rfl) (Below.refl _ _).drew ?_; (repeat ((with_reducible refine wpLex_step (fun K hK => ?_)); go_simp; first | ((with_reducible refine hK _ _ ?_); clear hK K) | ((with_reducible apply Exists.intro); refine ⟨fun w' hw' => ?_, hK _ _ ?_⟩; (· (have hq := bcells hw'; apply valEq; (· (go_simp; first | done | (with_reducible rfl))); (· ((try go_bits); with_reducible rfl)))); clear hK K))); ((with_reducible refine wpLex_step (fun K hK => ?_)); go_simp; first | (refine hK _ _ ?_; clear hK K) | (refine ⟨?_, hK _ _ ?_⟩; (· (exact g6)); clear hK K)); ((with_reducible refine wpLex_step (fun K hK => ?_)); go_simp; refine (cut_call w5.drew X R4 k d4 f e0 N5a.drew (by omega) (by omega) hm).mono ?_; rintro e w7 ⟨R5, d5, rfl, N5, hbx⟩; have g7 := (g6).trans (hbx.mono (g6).size); skip; refine ⟨_, rfl, g7, hK _ _ ?_⟩; clear hK K hbx); have NX := N5; obtain ⟨R6, hR6⟩ : ∃ R6, R6 = R5 := ⟨_, rfl⟩; subst hR6; obtain ⟨d6, hd6⟩ : ∃ d6, d6 = d5 := ⟨_, rfl⟩; subst hd6; clear N5; (repeat ((with_reducible refine wpLex_step (fun K hK => ?_)); go_simp; first | ((with_reducible refine hK _ _ ?_); clear hK K) | ((with_reducible apply Exists.intro); refine ⟨fun w' hw' => ?_, hK _ _ ?_⟩; (· (have hq := bcells hw'; apply valEq; (· (go_simp; first | done | (with_reducible rfl))); (· ((try go_bits); with_reducible rfl)))); clear hK K))); ((with_reducible refine wpLex_step (fun K hK => ?_)); go_simp; refine (clone_mid w7 X R4 k d4 f e0 (N5a.below g7) (by omega) (by omega) hm).mono ?_; rintro e w8 ⟨R5, d5, rfl, N5, hbx⟩; have g8 := (g7).trans (hbx.mono (g7).size); have NX8 := NX.below hbx; refine ⟨_, rfl, g8, hK _ _ ?_⟩; clear hK K hbx); (repeat ((with_reducible refine wpLex_step (fun K hK => ?_)); go_simp; first | ((with_reducible refine hK _ _ ?_); clear hK K) | ((with_reducible apply Exists.intro); refine ⟨fun w' hw' => ?_, hK _ _ ?_⟩; (· (have hq := bcells hw'; apply valEq; (· (go_simp; first | done | (with_reducible rfl))); (· ((try go_bits); with_reducible rfl)))); clear hK K))); refine wpLex_nil (fun _ => ?_); have hb8 := hb5.trans (g8.mono hb5.size); go_wp2_with (fail); refine bodyPost_ret (v := .tuple #[.slice R6 (f + (k - (e0 + 2))) d6, .slice R5 (e0 + 1 - f) d5, .int .i64 0]) (by simp [results, Try.results14, go_sem]) rfl ⟨R6, d6, R5, d5, by rw [HL1.out, HL2.out], by rw [HL1.out]; exact NX8, by rw [HL2.out]; exact N5, hb8⟩)))
end Go.Proofs.Ytbnkanhibjoleaa
