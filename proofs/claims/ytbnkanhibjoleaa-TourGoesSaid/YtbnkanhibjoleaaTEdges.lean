/-
  tour.Edges walked.
-/
import Derived.Test.YtbnkanhibjoleaaTFirsts
import Derived.Test.YtbnkanhibjoleaaE1
namespace Go.Proofs.Ytbnkanhibjoleaa
open Go Go.RowKit
attribute [local go_sem] Heavy heavyUpon
attribute [local go_sem ↓] isl_hi isl_lo

theorem firstsN_cons (l : List Int) (m : Nat) : firstsN l (m + 1) = 0 :: ((List.range m).map Nat.succ).filter (newAt l) := by
  unfold firstsN
  rw [List.range_succ_eq_map, List.filter_cons, if_pos (by simp [newAt])]
theorem firstsN_drop {l : List Int} {m i : Nat} (h : i ∈ (firstsN l (m + 1)).drop 1) : 0 < i ∧ i < m + 1 := by
  rw [firstsN_cons] at h
  simp only [List.drop_succ_cons, List.drop_zero, List.mem_filter, List.mem_map, List.mem_range] at h
  obtain ⟨⟨x, hx, rfl⟩, _⟩ := h
  omega

set_option maxRecDepth 100000 in
set_option maxHeartbeats 3200000 in
theorem edges_any (l : List Int) (hwf : ∀ x ∈ l, (Lit.int .i64 x).wf = true) (A : Option Addr) (m c : Nat) (w : World) (hS : Sl w [] 1 A m c (ints .i64 l)) (hm : m ≤ 4096) :
    Calls Try.prog 16 #[.slice A m c] w fun e w' => ∃ R d, e = .returned (.slice R (outD l).length d) ∧ ESl w' [] R (outD l).length d (outD l) ∧ Below w.heap.size w w' := by
  have HL := hide (show l.length = m by have := hS.len; simpa using this)
  have qr := fun W h => isT_any l hwf A m c W h hm
  have QF := hide (fun W h => firsts_any l hwf A m c W h hm)
  unfold outD
  cases hr : isT l
  case false =>
    rw [hr] at qr
    have QR := hide qr
    clear qr hr hwf
    go_enter Try.func16, Try.ntmps16
    go_wp2_with (fail)
    refine (QR.out w hS).mono ?_
    rintro e w1 ⟨rfl, b1⟩
    go_wp2_with (fail)
    go_ret
    exact ⟨none, 0, rfl, Sl.nil_ _ _ _, b1⟩
  case true =>
    have hm0 : 0 < m := by
      match l, hr with
      | x :: s, _ => have := HL.out; simp at this; omega
    rw [hr] at qr
    have QR := hide qr
    clear qr hr hwf
    rw [if_pos rfl]
    obtain ⟨ie, hie, hze, he1, he2⟩ := info_parts edge_info
    have HFT := hide (show ∀ i, i ∈ (firstsN l m).drop 1 → 0 < i ∧ i < m from fun i h => by obtain ⟨m', rfl⟩ : ∃ m', m = m' + 1 := ⟨m - 1, by omega⟩; exact firstsN_drop h)
    have HFL := hide (firstsN_len l m)
    have HF1 := hide (show 1 ≤ (firstsN l m).length by obtain ⟨m', rfl⟩ : ∃ m', m = m' + 1 := ⟨m - 1, by omega⟩; rw [firstsN_cons]; simp)
    unfold edgesT
    rw [HL.out]
    generalize firstsN l m = F0 at *
    obtain ⟨F, hF⟩ : ∃ F, F = F0.drop 1 := ⟨_, rfl⟩
    have HFF := hide (show F0.length = F.length + 1 by rw [hF, List.length_drop]; have := HF1.out; omega)
    have HFC := hide (show (natI F0).drop 1 = natI F by rw [hF]; simp [natI])
    rw [← hF] at HFT ⊢
    clear hF
    obtain ⟨G, hG⟩ : ∃ G : Nat → List E3, G = fun k => (F.take k).map (edgeAt l) := ⟨_, rfl⟩
    have H0 := hide (show G 0 = [] by rw [hG]; rfl)
    have HST := hide (show ∀ (k : Nat) (h : k < F.length), G (k + 1) = G k ++ [mkE (atI l F[k]) (atI l (F[k] - 1))] from fun k h => by rw [hG]; exact map_step _ F h)
    have HLN := hide (show ∀ k, (G k).length ≤ k from fun k => by rw [hG]; simp; omega)
    have HE := hide (show G F.length = F.map (edgeAt l) by rw [hG]; simp)
    clear hG
    go_enter Try.func16, Try.ntmps16
    go_wp2_with (fail)
    refine (QR.out w hS).mono ?_
    rintro e w1 ⟨rfl, b1⟩
    go_wp2_with (fail)
    refine (QF.out w1 (hS.below b1)).mono ?_
    rintro e w2 ⟨R2, d2, rfl, N2', b2⟩
    have hb2' := b1.trans (b2.mono b1.size)
    have hcut := q_tail (k := 1) N2' HF1.out
    rw [HFC.out] at hcut
    have hfl := HFL.out
    have hn1 : 1 ≤ F0.length := HF1.out
    generalize F0.length = n1 at *
    have HF1' := hide (show F.length = n1 - 1 by have := HFF.out; omega)
    have j1 : (1 : Int) ≤ (n1 : Int) := by omega
    clear b1 b2 N2'
    go_wp2_with (fail)
    go_loopw [3, 15] (fun a i wr => ∃ (k : Nat) (Ao : Option Addr) (co : Nat), k ≤ n1 - 1 ∧ i = .int .i64 k ∧ a = .slice Ao (G k).length co ∧ Below w2.heap.size w2 wr ∧
        wr.ownsRow w2.heap.size 38 3 (.slice Ao (G k).length co) (G k).length (ecells (G k))) (fun _ i _ => n1 - 1 - (intOf i).toNat)
    case atStart => exact ⟨0, none, 0, Nat.zero_le _, rfl, by rw [H0.out]; rfl, Below.refl _ _, by rw [H0.out]; exact World.ownsRow_nil _ _ _ _⟩
    case round =>
      obtain ⟨k, Ao, co, hk, rfl, rfl, hbr, hown⟩ := hrel
      have hlen := HLN.out k
      have Sr := hS.below (hb2'.trans (hbr.mono hb2'.size))
      by_cases hlt' : k < n1 - 1
      · have hlt : k < F.length := by have := HF1'.out; omega
        obtain ⟨fd, hF, hfd, _, hc⟩ := (hcut.below hbr).at_ (by omega)
        rw [hF]
        have c0 := hc k _ (natI_get hlt)
        obtain ⟨hp0, hpl⟩ := HFT.out _ (List.getElem_mem hlt)
        have HU := hide (HST.out k hlt)
        clear hc hF
        generalize F[k] = p at *
        obtain ⟨ad, hA, had, _, hc⟩ := Sr.at_ (by omega)
        subst hA
        have hp : p < l.length := by have := HL.out; omega
        have hp2 : p - 1 < l.length := by omega
        have c1 := hc p (.int .i64 l[p]) (ints_get hp)
        have c2 := hc (p - 1) (.int .i64 l[p - 1]) (ints_get hp2)
        rw [← atI_lt hp] at c1
        rw [← atI_lt hp2] at c2
        clear hc
        generalize atI l p = v at *
        generalize atI l (p - 1) = q at *
        have i0 : (0 : Int) ≤ (p : Int) - 1 := by omega
        have i0' : (1 : Int) ≤ (p : Int) := by omega
        have i1 : (p : Int) - 1 < (m : Int) := by omega
        have i2 : ((p : Int) - 1).toNat = p - 1 := by omega
        have i3 : (p : Int) < (m : Int) := by omega
        have HOW := hide hown
        clear hown
        generalize Value.slice Ao (G k).length co = RV at *
        by_cases hvq : v < q
        · (have HM := hide (show mkE v q = (v, q, 0) by unfold mkE; (rw [if_pos hvq])); go_wp2_with (fail); refine wp_region_lex [] (fun w' => ∀ p, w'.cell? p = wr.cell? p) (by kernel_rfl) (by kernel_rfl) (fun _ => rfl) ?_; (repeat ((with_reducible refine wpLex_step (fun K hK => ?_)); go_simp; first | ((with_reducible refine hK _ _ ?_); clear hK K) | ((with_reducible apply Exists.intro); refine ⟨fun w' hw' => ?_, hK _ _ ?_⟩; (· (apply valEq; (· (go_simp; first | done | (with_reducible rfl))); (· ((try go_bits); with_reducible rfl)))); clear hK K))); refine wpLex_nil (fun hw => ?_); clear hw; have OW3 := hide HOW.out.drew; have hb3 := hbr.drew; clear HOW; generalize wr.drew = w3 at *; ((go_wp2_with (at_builtin; refine stopAt ?_); refine stopGo ?_); have N2 : Sl ((w3).alloc (.cells #[.int .i64 v, .int .i64 q, .int .i64 0] 38)) [] 3 (some ⟨(w3).heap.size, 0, none⟩) 1 1 (ecells [(v, q, 0)]) := e1_new (w3) v q 0; have O2 := (OW3.out).alloc (.cells #[.int .i64 v, .int .i64 q, .int .i64 0] 38); have hb2 := (hb3).alloc (hb3).size (.cells #[.int .i64 v, .int .i64 q, .int .i64 0] 38); have szl := hb2.size; (try rw [heap_alloc_size] at N2); refine wpList_append_sl _ rfl (.tmp 28) (.tmp 36) _ rfl w2.heap.size 38 ie _ 3 24 Try.underlying33 hie hze he1 he2 rfl (by omega) RV _ _ rfl O2 [] _ 1 1 (ecells [(v, q, 0)]) rfl N2 ecells_one (by simp only [maxLen]; omega) (by omega) (by first | omega | (simp; done) | (simp; omega)) ?_; intro A5 c5 w5 own5 g5 _; rw [← ecells_append] at own5); have HF := hide (show G (k + 1) = G k ++ [(v, q, 0)] by rw [HU.out, HM.out]); rw [← HF.out] at own5; have hl5 : (G k).length + 1 = (G (k + 1)).length := (by rw [HF.out, List.length_append]; rfl); rw [hl5] at own5 ⊢; have hg5 := below_grown O2 g5 (Nat.le_refl _) (by first | omega | (simp; omega)); have hb5 := hb2.trans hg5; have OW5 := hide own5; clear own5 g5 hg5 O2 N2 hl5 c0 c1 c2; go_wp2_with (fail); exact ⟨⟨k + 1, A5, c5, by omega, by go_num, rfl, hb5, OW5.out⟩, by simp [intOf]; omega⟩)
        · by_cases hqv : q < v
          · (have HM := hide (show mkE v q = (q, v, 0) by unfold mkE; (rw [if_neg (by omega)])); go_wp2_with (fail); refine wp_region_lex [] (fun w' => ∀ p, w'.cell? p = wr.cell? p) (by kernel_rfl) (by kernel_rfl) (fun _ => rfl) ?_; (repeat ((with_reducible refine wpLex_step (fun K hK => ?_)); go_simp; first | ((with_reducible refine hK _ _ ?_); clear hK K) | ((with_reducible apply Exists.intro); refine ⟨fun w' hw' => ?_, hK _ _ ?_⟩; (· (apply valEq; (· (go_simp; first | done | (with_reducible rfl))); (· ((try go_bits); with_reducible rfl)))); clear hK K))); refine wpLex_nil (fun hw => ?_); clear hw; have OW3 := hide HOW.out.drew; have hb3 := hbr.drew; clear HOW; generalize wr.drew = w3 at *; ((go_wp2_with (at_builtin; refine stopAt ?_); refine stopGo ?_); have N2 : Sl ((w3).alloc (.cells #[.int .i64 q, .int .i64 v, .int .i64 0] 38)) [] 3 (some ⟨(w3).heap.size, 0, none⟩) 1 1 (ecells [(q, v, 0)]) := e1_new (w3) q v 0; have O2 := (OW3.out).alloc (.cells #[.int .i64 q, .int .i64 v, .int .i64 0] 38); have hb2 := (hb3).alloc (hb3).size (.cells #[.int .i64 q, .int .i64 v, .int .i64 0] 38); have szl := hb2.size; (try rw [heap_alloc_size] at N2); refine wpList_append_sl _ rfl (.tmp 28) (.tmp 36) _ rfl w2.heap.size 38 ie _ 3 24 Try.underlying33 hie hze he1 he2 rfl (by omega) RV _ _ rfl O2 [] _ 1 1 (ecells [(q, v, 0)]) rfl N2 ecells_one (by simp only [maxLen]; omega) (by omega) (by first | omega | (simp; done) | (simp; omega)) ?_; intro A5 c5 w5 own5 g5 _; rw [← ecells_append] at own5); have HF := hide (show G (k + 1) = G k ++ [(q, v, 0)] by rw [HU.out, HM.out]); rw [← HF.out] at own5; have hl5 : (G k).length + 1 = (G (k + 1)).length := (by rw [HF.out, List.length_append]; rfl); rw [hl5] at own5 ⊢; have hg5 := below_grown O2 g5 (Nat.le_refl _) (by first | omega | (simp; omega)); have hb5 := hb2.trans hg5; have OW5 := hide own5; clear own5 g5 hg5 O2 N2 hl5 c0 c1 c2; go_wp2_with (fail); exact ⟨⟨k + 1, A5, c5, by omega, by go_num, rfl, hb5, OW5.out⟩, by simp [intOf]; omega⟩)
          · have heq : q = v := by omega
            subst heq
            clear hvq hqv
            (have HM := hide (show mkE q q = (q, q, 0) by unfold mkE; (rw [if_neg (by omega)])); go_wp2_with (fail); refine wp_region_lex [] (fun w' => ∀ p, w'.cell? p = wr.cell? p) (by kernel_rfl) (by kernel_rfl) (fun _ => rfl) ?_; (repeat ((with_reducible refine wpLex_step (fun K hK => ?_)); go_simp; first | ((with_reducible refine hK _ _ ?_); clear hK K) | ((with_reducible apply Exists.intro); refine ⟨fun w' hw' => ?_, hK _ _ ?_⟩; (· (apply valEq; (· (go_simp; first | done | (with_reducible rfl))); (· ((try go_bits); with_reducible rfl)))); clear hK K))); refine wpLex_nil (fun hw => ?_); clear hw; have OW3 := hide HOW.out.drew; have hb3 := hbr.drew; clear HOW; generalize wr.drew = w3 at *; ((go_wp2_with (at_builtin; refine stopAt ?_); refine stopGo ?_); have N2 : Sl ((w3).alloc (.cells #[.int .i64 q, .int .i64 q, .int .i64 0] 38)) [] 3 (some ⟨(w3).heap.size, 0, none⟩) 1 1 (ecells [(q, q, 0)]) := e1_new (w3) q q 0; have O2 := (OW3.out).alloc (.cells #[.int .i64 q, .int .i64 q, .int .i64 0] 38); have hb2 := (hb3).alloc (hb3).size (.cells #[.int .i64 q, .int .i64 q, .int .i64 0] 38); have szl := hb2.size; (try rw [heap_alloc_size] at N2); refine wpList_append_sl _ rfl (.tmp 28) (.tmp 36) _ rfl w2.heap.size 38 ie _ 3 24 Try.underlying33 hie hze he1 he2 rfl (by omega) RV _ _ rfl O2 [] _ 1 1 (ecells [(q, q, 0)]) rfl N2 ecells_one (by simp only [maxLen]; omega) (by omega) (by first | omega | (simp; done) | (simp; omega)) ?_; intro A5 c5 w5 own5 g5 _; rw [← ecells_append] at own5); have HF := hide (show G (k + 1) = G k ++ [(q, q, 0)] by rw [HU.out, HM.out]); rw [← HF.out] at own5; have hl5 : (G k).length + 1 = (G (k + 1)).length := (by rw [HF.out, List.length_append]; rfl); rw [hl5] at own5 ⊢; have hg5 := below_grown O2 g5 (Nat.le_refl _) (by first | omega | (simp; omega)); have hb5 := hb2.trans hg5; have OW5 := hide own5; clear own5 g5 hg5 O2 N2 hl5 c0 c1 c2; go_wp2_with (fail); exact ⟨⟨k + 1, A5, c5, by omega, by go_num, rfl, hb5, OW5.out⟩, by simp [intOf]; omega⟩)
      · have hkm : k = F.length := by have := HF1'.out; omega
        subst hkm
        have N5 := hide (own_sl hown [] (by simp))
        rw [HE.out] at N5
        rw [HE.out]
        clear hown
        go_wp2_with (fail)
        go_ret
        exact ⟨Ao, co, rfl, N5.out, hb2'.trans (hbr.mono hb2'.size)⟩
end Go.Proofs.Ytbnkanhibjoleaa
