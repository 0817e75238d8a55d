/-
  slices.Concat, tour.Reroot, tour.Link and tour.Cut: what they answer lies off given old blocks.
-/
import Derived.Test.YtbnkanhibjoleaaTCutW
namespace Go.Proofs.Ytbnkanhibjoleaa
open Go Go.RowKit
attribute [local go_sem] Heavy heavyUpon
attribute [local go_sem ↓] isl_hi isl_lo isl_both

set_option maxHeartbeats 1600000 in
theorem concatI_off (ps : List Part) (M : List Nat) (A : Option Addr) (m c : Nat) (w : World) (hS : Sl w M 1 A m c (pcells ps)) (hx : ∀ p ∈ ps, Sl w [] 1 p.1 p.2.1 p.2.2.1 p.2.2.2 ∧ ∀ u ∈ p.2.2.2, u.oneCell' = true) (hm : m ≤ 16) (ht : ptot ps ≤ 10000) (MO : List Nat) (hMO : ∀ b ∈ MO, b < w.heap.size) :
    Calls Try.prog 20 #[.slice A m c] w fun e w' => ∃ R d, e = .returned (.slice R (ptot ps) d) ∧ Sl w' MO 1 R (ptot ps) d (pcat ps) ∧ Below w.heap.size w w' := by
  obtain ⟨ie, hie, hze, he1, he2⟩ := info_parts int_info
  have HL := hide (show ps.length = m by have := hS.len; simpa [pcells] using this)
  have HX := hide hx
  have HMO := hide hMO
  have HT := hide (fun k => ptot_le ps k)
  clear hx hMO
  go_enter Try.func20, Try.ntmps20
  go_wp2_with (fail)
  go_loop [3, 11] (fun s i => ∃ k : Nat, k ≤ m ∧ i = .int .i64 k ∧ s = .int .i64 (ptot (ps.take k) : Nat)) (fun _ i => m - (intOf i).toNat)
  case atStart => exact ⟨0, Nat.zero_le _, rfl, rfl⟩
  case round =>
    obtain ⟨k, hk, rfl, rfl⟩ := hrel
    have htk := HT.out k
    by_cases hlt : k < m
    · obtain ⟨ad, rfl, had, _, hc⟩ := hS.at_ (by omega)
      have hp : k < ps.length := by have := HL.out; omega
      have c0 := hc k (pcell ps[k]) (by simp [pcells, hp])
      have HST := hide (ptot_step ps hp)
      have htk2 := HT.out (k + 1)
      rw [HST.out] at htk2
      clear hc
      generalize ps[k] = p at *
      obtain ⟨pa, pn, pc, px⟩ := p
      simp only [pcell] at c0 htk2 HST
      generalize ptot (ps.take k) = tk at *
      go_wp2_with (fail)
      exact ⟨⟨k + 1, by omega, by go_num, by rw [HST.out]; go_num⟩, by simp [intOf]; omega⟩
    · have HF := hide (show ps.take k = ps from List.take_of_length_le (by have := HL.out; omega))
      rw [HF.out]
      clear htk
      generalize hq : ptot ps = tt at *
      have HQ := hide hq
      clear hq
      go_wp2_with (fail)
      refine (growI_ok tt (by omega) w).mono ?_
      rintro e w1 ⟨A1, c1, rfl, own1, b1⟩
      go_wp2_with (fail)
      go_loopw [6, 27] (fun a i wr => ∃ (k : Nat) (Ao : Option Addr) (co : Nat), k ≤ m ∧ i = .int .i64 k ∧ a = .slice Ao (ptot (ps.take k)) co ∧ Below w.heap.size w wr ∧
        wr.ownsRow w.heap.size 3 1 (.slice Ao (ptot (ps.take k)) co) (ptot (ps.take k)) (pcat (ps.take k))) (fun _ i _ => m - (intOf i).toNat)
      case atStart => exact ⟨0, A1, c1, Nat.zero_le _, rfl, rfl, b1, own1⟩
      case round =>
        obtain ⟨k, Ao, co, hk, rfl, rfl, hbr, hown⟩ := hrel
        have hSr := hS.below hbr
        by_cases hlt : k < m
        · obtain ⟨ad, rfl, had, _, hc⟩ := hSr.at_ (by omega)
          have hp : k < ps.length := by have := HL.out; omega
          have c0 := hc k (pcell ps[k]) (by simp [pcells, hp])
          have HST := hide (ptot_step ps hp)
          have HCT := hide (pcat_step ps hp)
          have htk2 := HT.out (k + 1)
          rw [HST.out] at htk2
          have HP := hide (HX.out _ (List.getElem_mem hp))
          clear hc
          generalize ps[k] = p at *
          obtain ⟨pa, pn, pc, px⟩ := p
          simp only [pcell] at c0 htk2 HST HP HCT
          have HOW := hide hown
          clear hown
          generalize hv : ptot (ps.take k) = tk at *
          clear hv
          generalize Value.slice Ao tk co = RV at *
          (go_wp2_with (at_builtin; refine stopAt ?_); refine stopGo ?_)
          refine wpList_append_sl _ rfl (.tmp 31) (.tmp 32) _ rfl w.heap.size 3 ie _ 1 8 Try.underlying22 hie hze he1 he2 rfl (by omega) RV _ _ rfl HOW.out [] _ pn pc px rfl (HP.out.1.below hbr) HP.out.2 (by simp only [maxLen]; omega) (by omega) (by have := hbr.size; omega) ?_
          intro A5 c5 w5 own5 g5 _
          rw [← HCT.out, ← HST.out] at own5
          rw [← HST.out]
          have hg5 := below_grown HOW.out g5 (Nat.le_refl _) hbr.size
          have hb5 := hbr.trans hg5
          have OW5 := hide own5
          clear own5 g5 hg5
          go_wp2_with (fail)
          exact ⟨⟨k + 1, A5, c5, by omega, by go_num, rfl, hb5, OW5.out⟩, by simp [intOf]; omega⟩
        · have HF := hide (show ps.take k = ps from List.take_of_length_le (by have := HL.out; omega))
          rw [HF.out, HQ.out] at hown
          rw [HF.out, HQ.out]
          go_wp2_with (fail)
          go_ret
          refine ⟨Ao, co, ?_, ?_, hbr⟩
          · rw [HQ.out]; rfl
          · rw [HQ.out]; exact own_sl hown MO HMO.out


theorem rot_off (W : World) (l : List Int) (A : Option Addr) (m c f : Nat) (hS : Sl W [] 1 A m c (ints .i64 l)) (hf : f < m) (hm : m ≤ 4096) (MO : List Nat) (hMO : ∀ b ∈ MO, b < W.heap.size) :
    Calls Try.prog 20 #[.slice (some ⟨W.heap.size, 0, none⟩) 2 2] (W.alloc (.cells #[.slice (cutA A c f 1) (m - f) (c - f), .slice (cutA A c 1 1) f (c - 1)] 22))
      fun e w' => ∃ R d, e = .returned (.slice R m d) ∧ Sl w' MO 1 R m d (ints .i64 (rotT l f)) ∧ Below (W.alloc (.cells #[.slice (cutA A c f 1) (m - f) (c - f), .slice (cutA A c 1 1) f (c - 1)] 22)).heap.size (W.alloc (.cells #[.slice (cutA A c f 1) (m - f) (c - f), .slice (cutA A c 1 1) f (c - 1)] 22)) w' := by
  have hb := Blk.new W 22 #[.slice (cutA A c f 1) (m - f) (c - f), .slice (cutA A c 1 1) f (c - 1)]
  have S0 := hS.alloc (.cells #[.slice (cutA A c f 1) (m - f) (c - f), .slice (cutA A c 1 1) f (c - 1)] 22)
  have hMO2 : ∀ b ∈ MO, b < (W.alloc (.cells #[.slice (cutA A c f 1) (m - f) (c - f), .slice (cutA A c 1 1) f (c - 1)] 22)).heap.size := fun b hb => by have := hMO b hb; simp; omega
  generalize (W.alloc (.cells #[.slice (cutA A c f 1) (m - f) (c - f), .slice (cutA A c 1 1) f (c - 1)] 22)) = W2 at *
  have hmid := q_mid (k := f + 1) (j := 1) S0 (by omega) (by omega)
  rw [Nat.add_sub_cancel] at hmid
  have hP := concatI_off [(cutA A c f 1, m - f, c - f, ints .i64 (l.drop f)), (cutA A c 1 1, f, c - 1, ints .i64 ((l.take (f + 1)).drop 1))] [] (some ⟨W.heap.size, 0, none⟩) 2 2 W2
    (Sl.of_blk hb rfl (fun x hx => by match x, hx with | 0, _ | 1, _ => rfl) (by simp) (by unfold maxLen; omega))
    (by
      intro x hx
      simp only [List.mem_cons, List.not_mem_nil, or_false] at hx
      rcases hx with rfl | rfl
      · exact ⟨q_tail (k := f) S0 (by omega), ints_one⟩
      · exact ⟨hmid, ints_one⟩)
    (by decide) (by simp [ptot]; omega) MO hMO2
  have e1 : ptot [(cutA A c f 1, m - f, c - f, ints .i64 (l.drop f)), (cutA A c 1 1, f, c - 1, ints .i64 ((l.take (f + 1)).drop 1))] = m := by simp [ptot]; omega
  have e2 : pcat [(cutA A c f 1, m - f, c - f, ints .i64 (l.drop f)), (cutA A c 1 1, f, c - 1, ints .i64 ((l.take (f + 1)).drop 1))] = ints .i64 (rotT l f) := by
    unfold rotT
    rw [ints_append]
    simp [pcat]
  rw [e1, e2] at hP
  exact hP


set_option maxHeartbeats 3200000 in
theorem reroot_off (l : List Int) (hwf : ∀ x ∈ l, (Lit.int .i64 x).wf = true) (v : Int) (A : Option Addr) (m c : Nat) (w : World) (hS : Sl w [] 1 A m c (ints .i64 l)) (hm : m ≤ 4096) (MO : List Nat) (hMO : ∀ b ∈ MO, b < w.heap.size) (hO : Sl w MO 1 A m c (ints .i64 l)) :
    Calls Try.prog 13 #[.slice A m c, .int .i64 v] w fun e w' => ∃ R d, e = .returned (.tuple #[.slice R (outR l v).1.length d, .int .i64 (outR l v).2]) ∧ Sl w' MO 1 R (outR l v).1.length d (ints .i64 (outR l v).1) ∧ Below w.heap.size w w' := by
  have HL := hide (show l.length = m by have := hS.len; simpa using this)
  have qr := fun W h => isT_any l hwf A m c W h hm
  have qi := fun W h => idx_any l v [] A m c W h
  clear hwf
  have HMO := hide hMO
  have HO := hide hO
  clear hMO hO
  unfold outR
  cases hr : isT l
  case false =>
    rw [hr] at qr
    have QR := hide qr
    clear qr hr qi
    rw [if_neg (by decide)]
    go_enter Try.func13, Try.ntmps13
    go_wp2_with (fail)
    refine (QR.out w hS).mono ?_
    rintro e w1 ⟨rfl, b1⟩
    go_wp2_with (fail)
    refine bodyPost_ret (v := .tuple #[.slice none 0 0, .int .i64 1]) (by simp [results, Try.results13, go_sem]) rfl ⟨none, 0, rfl, Sl.nil_ _ _ _, b1⟩
  rw [hr] at qr
  have QR := hide qr
  clear qr hr
  rw [if_pos rfl]
  by_cases hf : 0 ≤ firstI l v 0
  · rw [if_pos hf]
    obtain ⟨f, ef, hfl, _, _⟩ := first_spec l v 0 (Int.le_refl _) hf
    rw [Int.zero_add] at ef
    rw [ef, Int.toNat_natCast]
    rw [ef] at qi
    have QI := hide qi
    clear qi hf ef
    have hfm : f < m := by have := HL.out; omega
    by_cases h0 : f = 0
    · subst h0
      rw [rotT_zero]
      go_enter Try.func13, Try.ntmps13
      go_wp2_with (fail)
      refine (QR.out w hS).mono ?_
      rintro e w1 ⟨rfl, b1⟩
      go_wp2_with (fail)
      refine (QI.out w1 (hS.below b1)).mono ?_
      rintro e w2 ⟨rfl, b2⟩
      have hb2 := b1.trans (b2.mono b1.size)
      go_wp2_with (fail)
      refine bodyPost_ret (v := .tuple #[.slice A m c, .int .i64 0]) (by simp [results, Try.results13, go_sem]) rfl ⟨A, c, by rw [HL.out], by rw [HL.out]; exact HO.out.below hb2, hb2⟩
    · have hd : ((f : Int) == 0) = false := by simpa using h0
      have hd2 : (f == 0) = false := by simpa using h0
      have HRL := hide (show (rotT l f).length = m by rw [rotT_len hfl, HL.out])
      have hmc := hS.le
      have hcap := hS.cap
      unfold maxLen at hcap
      have i0 : (f : Int) ≤ (m : Int) := by omega
      have i1 : (1 : Int) ≤ (f : Int) + 1 := by omega
      have i2 : (f : Int) + 1 ≤ (c : Int) := by omega
      have i3 : ((f : Int) + 1).toNat = f + 1 := by omega
      have i4 : (0 : Int) ≤ (f : Int) := by omega
      clear h0
      go_enter Try.func13, Try.ntmps13
      go_wp2_with (fail)
      refine (QR.out w hS).mono ?_
      rintro e w1 ⟨rfl, b1⟩
      go_wp2_with (fail)
      refine (QI.out w1 (hS.below b1)).mono ?_
      rintro e w2 ⟨rfl, b2⟩
      have hb2 := b1.trans (b2.mono b1.size)
      have g6 := (Below.refl w2.heap.size w2).drew.alloc (Nat.le_refl _) (.cells #[.slice (cutA A c f 1) (m - f) (c - f), .slice (cutA A c 1 1) f (c - 1)] 22)
      go_wp2_with (fail)
      refine wp_region_lexD [7,8] (fun w' => Below (w2).heap.size (w2) w') (by kernel_rfl) (by kernel_rfl) (Below.refl _ _).drew ?_
      (repeat ((with_reducible refine wpLex_step (fun K hK => ?_)); go_simp; first | ((with_reducible refine hK _ _ ?_); clear hK K) | ((with_reducible apply Exists.intro); refine ⟨fun w' hw' => ?_, hK _ _ ?_⟩; (· (have hq := bcells hw'; apply valEq; (· (go_simp; first | done | (with_reducible rfl))); (· ((try go_bits); with_reducible rfl)))); clear hK K)))
      ((with_reducible refine wpLex_step (fun K hK => ?_)); go_simp; first | (refine hK _ _ ?_; clear hK K) | (refine ⟨?_, hK _ _ ?_⟩; (· (exact g6)); clear hK K))
      ((with_reducible refine wpLex_step (fun K hK => ?_)); go_simp; refine (rot_off w2.drew l A m c f (hS.below hb2).drew hfm hm MO (fun b hb => Nat.lt_of_lt_of_le (HMO.out b hb) hb2.size)).mono ?_; rintro e w7 ⟨R5, d5, rfl, N5, hbx⟩; have g7 := (g6).trans (hbx.mono (g6).size); skip; refine ⟨_, rfl, g7, hK _ _ ?_⟩; clear hK K hbx)
      (repeat ((with_reducible refine wpLex_step (fun K hK => ?_)); go_simp; first | ((with_reducible refine hK _ _ ?_); clear hK K) | ((with_reducible apply Exists.intro); refine ⟨fun w' hw' => ?_, hK _ _ ?_⟩; (· (have hq := bcells hw'; apply valEq; (· (go_simp; first | done | (with_reducible rfl))); (· ((try go_bits); with_reducible rfl)))); clear hK K)))
      refine wpLex_nil (fun _ => ?_)
      have hb7 := hb2.trans (g7.mono hb2.size)
      go_wp2_with (fail)
      refine bodyPost_ret (v := .tuple #[.slice R5 m d5, .int .i64 0]) (by simp [results, Try.results13, go_sem]) rfl ⟨R5, d5, by rw [HRL.out], by rw [HRL.out]; exact N5, hb7⟩
  · rw [if_neg hf]
    have hf2 : firstI l v 0 < 0 := by omega
    clear hf
    generalize firstI l v 0 = f at *
    have QI := hide qi
    clear qi
    go_enter Try.func13, Try.ntmps13
    go_wp2_with (fail)
    refine (QR.out w hS).mono ?_
    rintro e w1 ⟨rfl, b1⟩
    go_wp2_with (fail)
    refine (QI.out w1 (hS.below b1)).mono ?_
    rintro e w2 ⟨rfl, b2⟩
    have hb2 := b1.trans (b2.mono b1.size)
    go_wp2_with (fail)
    refine bodyPost_ret (v := .tuple #[.slice none 0 0, .int .i64 3]) (by simp [results, Try.results13, go_sem]) rfl ⟨none, 0, rfl, Sl.nil_ _ _ _, hb2⟩

theorem link_off_call (W : World) (X Y : List Int) (A B : Option Addr) (n1 d1 n2 d2 : Nat) (u : Int) (hX : Sl W [] 1 A n1 d1 (ints .i64 X)) (hY : Sl W [] 1 B n2 d2 (ints .i64 Y)) (h1 : n1 ≤ 4096) (h2 : n2 ≤ 4096) (MO : List Nat) (hMO : ∀ b ∈ MO, b < W.heap.size) :
    Calls Try.prog 20 #[.slice (some ⟨W.heap.size + 1, 0, none⟩) 3 3] ((W.alloc (.cells #[.int .i64 u] 3)).alloc (.cells #[.slice A n1 d1, .slice B n2 d2, .slice (some ⟨W.heap.size, 0, none⟩) 1 1] 22))
      fun e w' => ∃ R d, e = .returned (.slice R (n1 + n2 + 1) d) ∧ Sl w' MO 1 R (n1 + n2 + 1) d (ints .i64 (X ++ Y ++ [u])) ∧ Below ((W.alloc (.cells #[.int .i64 u] 3)).alloc (.cells #[.slice A n1 d1, .slice B n2 d2, .slice (some ⟨W.heap.size, 0, none⟩) 1 1] 22)).heap.size ((W.alloc (.cells #[.int .i64 u] 3)).alloc (.cells #[.slice A n1 d1, .slice B n2 d2, .slice (some ⟨W.heap.size, 0, none⟩) 1 1] 22)) w' := by
  have S1 := (i1_new W u).alloc (.cells #[.slice A n1 d1, .slice B n2 d2, .slice (some ⟨W.heap.size, 0, none⟩) 1 1] 22)
  have hb := Blk.new (W.alloc (.cells #[.int .i64 u] 3)) 22 #[.slice A n1 d1, .slice B n2 d2, .slice (some ⟨W.heap.size, 0, none⟩) 1 1]
  rw [heap_alloc_size] at hb
  have SX := (hX.alloc (.cells #[.int .i64 u] 3)).alloc (.cells #[.slice A n1 d1, .slice B n2 d2, .slice (some ⟨W.heap.size, 0, none⟩) 1 1] 22)
  have SY := (hY.alloc (.cells #[.int .i64 u] 3)).alloc (.cells #[.slice A n1 d1, .slice B n2 d2, .slice (some ⟨W.heap.size, 0, none⟩) 1 1] 22)
  have hMO2 : ∀ b ∈ MO, b < ((W.alloc (.cells #[.int .i64 u] 3)).alloc (.cells #[.slice A n1 d1, .slice B n2 d2, .slice (some ⟨W.heap.size, 0, none⟩) 1 1] 22)).heap.size := fun b hb => by have := hMO b hb; simp; omega
  generalize ((W.alloc (.cells #[.int .i64 u] 3)).alloc (.cells #[.slice A n1 d1, .slice B n2 d2, .slice (some ⟨W.heap.size, 0, none⟩) 1 1] 22)) = W2 at *
  have hP := concatI_off [(A, n1, d1, ints .i64 X), (B, n2, d2, ints .i64 Y), (some ⟨W.heap.size, 0, none⟩, 1, 1, ints .i64 [u])] [] (some ⟨W.heap.size + 1, 0, none⟩) 3 3 W2
    (Sl.of_blk hb rfl (fun x hx => by match x, hx with | 0, _ | 1, _ | 2, _ => rfl) (by simp) (by unfold maxLen; omega))
    (by
      intro x hx
      simp only [List.mem_cons, List.not_mem_nil, or_false] at hx
      rcases hx with rfl | rfl | rfl
      · exact ⟨SX, ints_one⟩
      · exact ⟨SY, ints_one⟩
      · exact ⟨S1, ints_one⟩)
    (by decide) (by simp [ptot]; omega) MO hMO2
  have e1 : ptot [(A, n1, d1, ints .i64 X), (B, n2, d2, ints .i64 Y), (some ⟨W.heap.size, 0, none⟩, 1, 1, ints .i64 [u])] = n1 + n2 + 1 := by simp [ptot]; omega
  have e2 : pcat [(A, n1, d1, ints .i64 X), (B, n2, d2, ints .i64 Y), (some ⟨W.heap.size, 0, none⟩, 1, 1, ints .i64 [u])] = ints .i64 (X ++ Y ++ [u]) := by
    rw [ints_append, ints_append]
    simp [pcat]
  rw [e1, e2] at hP
  exact hP

set_option maxRecDepth 100000 in
set_option maxHeartbeats 3200000 in
theorem link_off (a b : List Int) (ha : ∀ x ∈ a, (Lit.int .i64 x).wf = true) (hb : ∀ x ∈ b, (Lit.int .i64 x).wf = true) (u v : Int) (A B : Option Addr) (m c n d : Nat) (w : World) (hS : Sl w [] 1 A m c (ints .i64 a)) (hT : Sl w [] 1 B n d (ints .i64 b)) (hm : m ≤ 2000) (hn : n ≤ 2000) (MO : List Nat) (hMO : ∀ b ∈ MO, b < w.heap.size) :
    Calls Try.prog 9 #[.slice A m c, .slice B n d, .int .i64 u, .int .i64 v] w fun e w' => ∃ R d', e = .returned (.tuple #[.slice R (outL a b u v).1.length d', .int .i64 (outL a b u v).2]) ∧ Sl w' MO 1 R (outL a b u v).1.length d' (ints .i64 (outL a b u v).1) ∧ Below w.heap.size w w' := by
  have HMO := hide hMO
  clear hMO
  have HLA := hide (show a.length = m by have := hS.len; simpa using this)
  have HLB := hide (show b.length = n by have := hT.len; simpa using this)
  have qra := fun W h => isT_any a ha A m c W h (by omega)
  have qrb := fun W h => isT_any b hb B n d W h (by omega)
  have qha := fun W h => has_any a u [] A m c W h
  have qhb := fun W h => has_any b v [] B n d W h
  unfold outL
  cases h1 : isT a
  case false =>
    rw [h1] at qra
    have QRA := hide qra
    clear qra qrb qha qhb h1 ha hb
    rw [if_neg (by simp)]
    (go_enter Try.func9, Try.ntmps9)
    (go_wp2_with (fail); refine (QRA.out w hS).mono ?_; rintro e w1 ⟨rfl, b1⟩)
    (go_wp2_with (fail); refine bodyPost_ret (v := .tuple #[.slice none 0 0, .int .i64 1]) (by simp [results, Try.results9, go_sem]) rfl ⟨none, 0, rfl, Sl.nil_ _ _ _, b1⟩)
  rw [h1] at qra
  have QRA := hide qra
  clear qra
  cases h2 : isT b
  case false =>
    rw [h2] at qrb
    have QRB := hide qrb
    clear qrb qha qhb h2 h1 ha hb
    rw [if_neg (by simp)]
    (go_enter Try.func9, Try.ntmps9)
    (go_wp2_with (fail); refine (QRA.out w hS).mono ?_; rintro e w1 ⟨rfl, b1⟩)
    (go_wp2_with (fail); refine (QRB.out w1 (hT.below b1)).mono ?_; rintro e w2 ⟨rfl, b2⟩; have b12 := b1.trans (b2.mono b1.size); clear b1 b2)
    (go_wp2_with (fail); refine bodyPost_ret (v := .tuple #[.slice none 0 0, .int .i64 1]) (by simp [results, Try.results9, go_sem]) rfl ⟨none, 0, rfl, Sl.nil_ _ _ _, b12⟩)
  rw [h2] at qrb
  have QRB := hide qrb
  clear qrb
  rw [if_pos (by rfl)]
  by_cases hu : u ∈ a
  case neg =>
    rw [decide_eq_false hu] at qha
    have QHA := hide qha
    rw [decide_eq_false hu, if_neg (by simp)]
    clear qha qhb h1 h2 hu ha hb
    (go_enter Try.func9, Try.ntmps9)
    (go_wp2_with (fail); refine (QRA.out w hS).mono ?_; rintro e w1 ⟨rfl, b1⟩)
    (go_wp2_with (fail); refine (QRB.out w1 (hT.below b1)).mono ?_; rintro e w2 ⟨rfl, b2⟩; have b12 := b1.trans (b2.mono b1.size); clear b1 b2)
    (go_wp2_with (fail); refine (QHA.out w2 (hS.below b12)).mono ?_; rintro e w3 ⟨rfl, b3⟩; have b13 := b12.trans (b3.mono b12.size); clear b12 b3)
    (go_wp2_with (fail); refine bodyPost_ret (v := .tuple #[.slice none 0 0, .int .i64 3]) (by simp [results, Try.results9, go_sem]) rfl ⟨none, 0, rfl, Sl.nil_ _ _ _, b13⟩)
  rw [decide_eq_true hu] at qha
  have QHA := hide qha
  clear qha
  by_cases hv : v ∈ b
  case neg =>
    rw [decide_eq_false hv] at qhb
    have QHB := hide qhb
    rw [decide_eq_true hu, decide_eq_false hv, if_neg (by simp)]
    clear qhb h1 h2 hu hv ha hb
    (go_enter Try.func9, Try.ntmps9)
    (go_wp2_with (fail); refine (QRA.out w hS).mono ?_; rintro e w1 ⟨rfl, b1⟩)
    (go_wp2_with (fail); refine (QRB.out w1 (hT.below b1)).mono ?_; rintro e w2 ⟨rfl, b2⟩; have b12 := b1.trans (b2.mono b1.size); clear b1 b2)
    (go_wp2_with (fail); refine (QHA.out w2 (hS.below b12)).mono ?_; rintro e w3 ⟨rfl, b3⟩; have b13 := b12.trans (b3.mono b12.size); clear b12 b3)
    (go_wp2_with (fail); refine (QHB.out w3 (hT.below b13)).mono ?_; rintro e w4 ⟨rfl, b4⟩; have b14 := b13.trans (b4.mono b13.size); clear b13 b4)
    (go_wp2_with (fail); refine bodyPost_ret (v := .tuple #[.slice none 0 0, .int .i64 3]) (by simp [results, Try.results9, go_sem]) rfl ⟨none, 0, rfl, Sl.nil_ _ _ _, b14⟩)
  rw [decide_eq_true hv] at qhb
  have QHB := hide qhb
  rw [decide_eq_true hu, decide_eq_true hv, if_pos (by rfl)]
  have qu := fun W h => reroot_any a ha u A m c W h (by omega)
  have qv := fun W h => reroot_any b hb v B n d W h (by omega)
  rw [outR_in h1 hu] at qu
  rw [outR_in h2 hv] at qv
  simp only [] at qu qv
  rw [rot_first_len hu, HLA.out] at qu
  rw [rot_first_len hv, HLB.out] at qv
  have HLL := hide (show (linkT a b u v).length = m + n + 1 by
    unfold linkT
    rw [List.length_append, List.length_append, rot_first_len hu, rot_first_len hv, HLA.out, HLB.out]; rfl)
  have HLK := hide (show linkT a b u v = rotT a (firstI a u 0).toNat ++ rotT b (firstI b v 0).toNat ++ [u] from rfl)
  have QU := hide qu
  have QV := hide qv
  have HWA := hide ha
  have HWB := hide hb
  clear qhb h1 h2 hu hv ha hb qu qv
  generalize rotT a (firstI a u 0).toNat = X at *
  generalize rotT b (firstI b v 0).toNat = Y at *
  generalize linkT a b u v = LK at *
  obtain ⟨OUT, hOUT⟩ : ∃ OUT : List Int × Int, OUT = (if comeI a b = true then ([], 4) else (LK, 0)) := ⟨_, rfl⟩
  have HO1 := hide (show comeI a b = true → OUT = ([], 4) from fun h => by rw [hOUT, if_pos h])
  have HO2 := hide (show ¬ comeI a b = true → OUT = (LK, 0) from fun h => by rw [hOUT, if_neg h])
  rw [← hOUT]
  clear hOUT
  have hmk := @run_makeMap Try.prog
  (go_enter Try.func9, Try.ntmps9)
  (go_wp2_with (fail); refine (QRA.out w hS).mono ?_; rintro e w1 ⟨rfl, b1⟩)
  (go_wp2_with (fail); refine (QRB.out w1 (hT.below b1)).mono ?_; rintro e w2 ⟨rfl, b2⟩; have b12 := b1.trans (b2.mono b1.size); clear b1 b2)
  (go_wp2_with (fail); refine (QHA.out w2 (hS.below b12)).mono ?_; rintro e w3 ⟨rfl, b3⟩; have b13 := b12.trans (b3.mono b12.size); clear b12 b3)
  (go_wp2_with (fail); refine (QHB.out w3 (hT.below b13)).mono ?_; rintro e w4 ⟨rfl, b4⟩; have b14 := b13.trans (b4.mono b13.size); clear b13 b4)
  have seen0 := Seen.made w4
  have b15 := b14.alloc b14.size (.map #[] 0)
  have hw4 := b14.size
  go_wp2_with (fail)
  generalize w4.alloc (.map #[] 0) = w5 at *
  generalize w4.heap.size = g4 at *
  clear b14
  go_loopw [40] (fun i wr => ∃ k : Nat, k ≤ m ∧ i = .int .i64 k ∧ Seen wr g4 k (a.take k) ∧ Below w.heap.size w wr) (fun i _ => m - (intOf i).toNat)
  case atStart => exact ⟨0, Nat.zero_le _, rfl, by simpa using seen0, b15⟩
  case round =>
    obtain ⟨k, hk, rfl, hseen, hbw⟩ := hrel
    have Sr := hS.below hbw
    by_cases hlt : k < m
    · have hx : k < a.length := by have := HLA.out; omega
      obtain ⟨ad, hA, had, _, hc⟩ := Sr.at_ (by omega)
      subst hA
      have c0 := hc k (.int .i64 a[k]) (ints_get hx)
      have hwv := HWA.out _ (List.getElem_mem hx)
      have HP := hide (show ∀ x, x ∈ a[k] :: a.take k ↔ x ∈ a.take (k + 1) from fun x => by rw [List.take_succ_eq_append_getElem hx, List.mem_append, List.mem_cons, List.mem_singleton]; exact Or.comm)
      clear hc
      generalize a[k] = x at *
      have HSE := hide hseen
      clear hseen
      (go_wp2_with (with_reducible refine stopPut ?_); refine stopGo ?_)
      refine wpList_seen_put rfl (.tmp 44) (.tmp 45) _ rfl g4 _ _ rfl HSE.out (by unfold maxLen; omega) x rfl rfl hwv ?_
      intro w6 seen6 g6
      have hb6 : Below w.heap.size w w6 := hbw.grown g6 hbw.size (fun k hk => by cases hk; exact hw4)
      have SE6 := hide (seen6.congr HP.out)
      clear seen6 g6 HSE c0
      go_wp2_with (fail)
      exact ⟨⟨k + 1, by omega, by go_num, SE6.out, hb6⟩, by simp [intOf]; omega⟩
    · have hkm : k = m := by omega
      subst hkm
      have HSE := hide (hseen.congr (S' := a) (fun x => by rw [List.take_of_length_le (by have := HLA.out; omega)]))
      have Tr := hT.below hbw
      clear hseen
      go_wp2_with (fail)
      go_loop [49] (fun i => ∃ j : Nat, j ≤ n ∧ i = .int .i64 j ∧ Hid (∀ x ∈ b.take j, x ∉ a)) (fun i => n - (intOf i).toNat)
      case atStart => exact ⟨0, Nat.zero_le _, rfl, hide (by simp)⟩
      case round =>
        obtain ⟨j, hj, rfl, HJ⟩ := hrel
        by_cases hjl : j < n
        · have hx : j < b.length := by have := HLB.out; omega
          obtain ⟨bd, hB, hbd, _, hc⟩ := Tr.at_ (by omega)
          have c0 := hc j (.int .i64 b[j]) (ints_get hx)
          have hwv := HWB.out _ (List.getElem_mem hx)
          have HP := hide (show b[j] ∉ a → ∀ x ∈ b.take (j + 1), x ∉ a from fun h x hxm => by
            rw [List.take_succ_eq_append_getElem hx, List.mem_append, List.mem_singleton] at hxm
            rcases hxm with hxm | rfl
            · exact HJ.out x hxm
            · exact h)
          have HQ := hide (show b[j] ∈ a → comeI a b = true from fun h => by
            unfold comeI
            rw [List.any_eq_true]
            exact ⟨_, List.getElem_mem hx, by simpa using h⟩)
          clear hc
          generalize b[j] = x at *
          rw [hB]
          (go_wp2_with (with_reducible refine stopLook ?_); refine stopGo ?_)
          refine wpList_seen_look rfl (.tmp 53) (.tmp 54) rfl g4 _ _ rfl HSE.out x rfl hwv ?_
          by_cases hxa : x ∈ a
          · rw [if_pos hxa]
            have HF := hide (HQ.out hxa)
            clear hxa HQ HP
            go_wp2_with (fail)
            refine bodyPost_ret (v := .tuple #[.slice none 0 0, .int .i64 4]) (by simp [results, Try.results9, go_sem]) rfl ?_
            rw [HO1.out HF.out]
            exact ⟨none, 0, rfl, Sl.nil_ _ _ _, hbw⟩
          · rw [if_neg hxa]
            have HF := hide (HP.out hxa)
            clear hxa HQ HP
            go_wp2_with (fail)
            exact ⟨⟨j + 1, by omega, by go_num, HF⟩, by simp [intOf]; omega⟩
        · have hjn : j = n := by omega
          subst hjn
          have HF := hide (show ¬ comeI a b = true from fun h => by
            unfold comeI at h
            rw [List.any_eq_true] at h
            obtain ⟨x, hx, h⟩ := h
            have := HJ.out
            rw [List.take_of_length_le (by have := HLB.out; omega)] at this
            exact this x hx (by simpa using h))
          clear HSE HJ
          go_wp2_with (fail)
          refine (QU.out wr Sr).mono ?_
          rintro e w7 ⟨R7, d7, rfl, N7, b7⟩
          have hb7 := hbw.trans (b7.mono hbw.size)
          have T7 := Tr.below b7
          clear b7 Sr Tr
          go_wp2_with (fail)
          refine (QV.out w7 T7).mono ?_
          rintro e w8 ⟨R8, d8, rfl, N8, b8⟩
          have hb8 := hb7.trans (b8.mono hb7.size)
          have N78 := N7.below b8
          clear b8 N7 T7 hb7
          have hb9 := (hb8.alloc hb8.size (.cells #[.int .i64 u] 3)).alloc (hb8.alloc hb8.size (.cells #[.int .i64 u] 3)).size (.cells #[.slice R7 k d7, .slice R8 j d8, .slice (some ⟨w8.heap.size, 0, none⟩) 1 1] 22)
          go_wp2_with (fail)
          refine (link_off_call w8 X Y R7 R8 k d7 j d8 u N78 N8 (by omega) (by omega) MO (fun b hb => Nat.lt_of_lt_of_le (HMO.out b hb) hb8.size)).mono ?_
          rintro e w9 ⟨R9, d9, rfl, N9, b9⟩
          have hb10 := hb9.trans (b9.mono hb9.size)
          clear b9
          go_wp2_with (fail)
          refine bodyPost_ret (v := .tuple #[.slice R9 (k + j + 1) d9, .int .i64 0]) (by simp [results, Try.results9, go_sem]) rfl ?_
          rw [HO2.out HF.out]
          exact ⟨R9, d9, by rw [HLL.out], by rw [HLL.out, HLK.out]; exact N9, hb10⟩

theorem cut_off_call (W : World) (l : List Int) (A : Option Addr) (m c f e : Nat) (hS : Sl W [] 1 A m c (ints .i64 l)) (hf : f ≤ m) (he : e + 2 ≤ m) (hm : m ≤ 4096) (MO : List Nat) (hMO : ∀ b ∈ MO, b < W.heap.size) :
    Calls Try.prog 20 #[.slice (some ⟨W.heap.size, 0, none⟩) 2 2] (W.alloc (.cells #[.slice A f c, .slice (cutA A c (e + 2) 1) (m - (e + 2)) (c - (e + 2))] 22))
      fun e' w' => ∃ R d, e' = .returned (.slice R (f + (m - (e + 2))) d) ∧ Sl w' MO 1 R (f + (m - (e + 2))) d (ints .i64 (l.take f ++ l.drop (e + 2))) ∧ Below (W.alloc (.cells #[.slice A f c, .slice (cutA A c (e + 2) 1) (m - (e + 2)) (c - (e + 2))] 22)).heap.size (W.alloc (.cells #[.slice A f c, .slice (cutA A c (e + 2) 1) (m - (e + 2)) (c - (e + 2))] 22)) w' := by
  have hb := Blk.new W 22 #[.slice A f c, .slice (cutA A c (e + 2) 1) (m - (e + 2)) (c - (e + 2))]
  have S0 := hS.alloc (.cells #[.slice A f c, .slice (cutA A c (e + 2) 1) (m - (e + 2)) (c - (e + 2))] 22)
  have hMO2 : ∀ b ∈ MO, b < (W.alloc (.cells #[.slice A f c, .slice (cutA A c (e + 2) 1) (m - (e + 2)) (c - (e + 2))] 22)).heap.size := fun b hb => by have := hMO b hb; simp; omega
  generalize (W.alloc (.cells #[.slice A f c, .slice (cutA A c (e + 2) 1) (m - (e + 2)) (c - (e + 2))] 22)) = W2 at *
  have hP := concatI_off [(A, f, c, ints .i64 (l.take f)), (cutA A c (e + 2) 1, m - (e + 2), c - (e + 2), ints .i64 (l.drop (e + 2)))] [] (some ⟨W.heap.size, 0, none⟩) 2 2 W2
    (Sl.of_blk hb rfl (fun x hx => by match x, hx with | 0, _ | 1, _ => rfl) (by simp) (by unfold maxLen; omega))
    (by
      intro x hx
      simp only [List.mem_cons, List.not_mem_nil, or_false] at hx
      rcases hx with rfl | rfl
      · exact ⟨q_head (k := f) S0 hf, ints_one⟩
      · exact ⟨q_tail (k := e + 2) S0 he, ints_one⟩)
    (by decide) (by simp [ptot]; omega) MO hMO2
  have e1 : ptot [(A, f, c, ints .i64 (l.take f)), (cutA A c (e + 2) 1, m - (e + 2), c - (e + 2), ints .i64 (l.drop (e + 2)))] = f + (m - (e + 2)) := by simp [ptot]
  have e2 : pcat [(A, f, c, ints .i64 (l.take f)), (cutA A c (e + 2) 1, m - (e + 2), c - (e + 2), ints .i64 (l.drop (e + 2)))] = ints .i64 (l.take f ++ l.drop (e + 2)) := by
    rw [ints_append]
    simp [pcat]
  rw [e1, e2] at hP
  exact hP

theorem clone_off (W : World) (l : List Int) (A : Option Addr) (m c f e : Nat) (hS : Sl W [] 1 A m c (ints .i64 l)) (hf : f ≤ e) (he : e + 2 ≤ m) (hm : m ≤ 4096) (MO : List Nat) (hMO : ∀ b ∈ MO, b < W.heap.size) :
    Calls Try.prog 28 #[.slice (cutA A c f 1) (e + 1 - f) (c - f)] W fun e' w' => ∃ R d, e' = .returned (.slice R (e + 1 - f) d) ∧ Sl w' MO 1 R (e + 1 - f) d (ints .i64 ((l.take (e + 1)).drop f)) ∧ Below W.heap.size W w' :=
  (cloneI_ok _ [] _ _ _ W (q_mid (k := e + 1) (j := f) hS (by omega) (by omega)) ints_one (by omega)).mono fun _ _ ⟨R, d, h1, h2, h3⟩ => ⟨R, d, h1, own_sl h2 MO hMO, h3⟩


set_option maxRecDepth 100000 in
set_option maxHeartbeats 6400000 in
theorem cutT_off (l : List Int) (hwf : ∀ x ∈ l, (Lit.int .i64 x).wf = true) (u v : Int) (A : Option Addr) (m c : Nat) (w : World) (hS : Sl w [] 1 A m c (ints .i64 l)) (hm : m ≤ 4096) (MO : List Nat) (hMO : ∀ b ∈ MO, b < w.heap.size) :
    Calls Try.prog 14 #[.slice A m c, .int .i64 u, .int .i64 v] w fun e w' => ∃ R d R' d', e = .returned (.tuple #[.slice R (outC3 l u v).1.length d, .slice R' (outC3 l u v).2.1.length d', .int .i64 (outC3 l u v).2.2]) ∧
      Sl w' MO 1 R (outC3 l u v).1.length d (ints .i64 (outC3 l u v).1) ∧ Sl w' MO 1 R' (outC3 l u v).2.1.length d' (ints .i64 (outC3 l u v).2.1) ∧ Below w.heap.size w w' := by
  have HMO := hide hMO
  clear hMO
  have HL := hide (show l.length = m by have := hS.len; simpa using this)
  have qr := fun W h => isT_any l hwf A m c W h hm
  have qe := fun W h => edges_any l hwf A m c W h hm
  unfold outC3
  cases hr : isT l
  case false =>
    rw [hr] at qr
    have QR := hide qr
    clear qr hr hwf qe
    rw [if_neg (by decide)]
    (go_enter Try.func14, Try.ntmps14)
    (go_wp2_with (fail); refine (QR.out w hS).mono ?_; rintro e w1 ⟨rfl, b1⟩; have S1 := hS.below b1)
    (go_wp2_with (fail); refine bodyPost_ret (v := .tuple #[.slice none 0 0, .slice none 0 0, .int .i64 1]) (by simp [results, Try.results14, go_sem]) rfl ⟨none, 0, none, 0, rfl, Sl.nil_ _ _ _, Sl.nil_ _ _ _, b1⟩)
  rw [hr] at qr
  have QR := hide qr
  clear qr
  rw [if_pos rfl]
  have hD : outD l = edgesT l := by unfold outD; rw [if_pos hr]
  rw [hD] at qe
  have QE := hide qe
  clear qe hD
  have qh := fun W B d h => ehas_any (edgesT l) (mkE u v).1 (mkE u v).2.1 (mkE u v).2.2 [] B (edgesT l).length d W h
  have hmk : ((mkE u v).1, (mkE u v).2.1, (mkE u v).2.2) = mkE u v := rfl
  rw [hmk] at qh
  clear hmk
  by_cases hin : mkE u v ∈ edgesT l
  case neg =>
    rw [decide_eq_false hin] at qh
    rw [decide_eq_false hin, if_neg (by decide)]
    clear hin hr hwf
    generalize edgesT l = E at *
    by_cases h1 : u < v
    · rw [show mkE u v = (u, v, 0) from if_pos h1] at qh
      have QH := hide qh
      clear qh
      (go_enter Try.func14, Try.ntmps14)
      (go_wp2_with (fail); refine (QR.out w hS).mono ?_; rintro e w1 ⟨rfl, b1⟩; have S1 := hS.below b1)
      (go_wp2_with (fail); refine (QE.out w1 S1).mono ?_; rintro e w2 ⟨R2, d2, rfl, Z2, b2⟩; have S2 := S1.below b2; have hb2 := b1.trans (b2.mono b1.size); clear b2 b1 S1; go_wp2_with (fail); refine (QH.out w2 _ _ Z2).mono ?_; rintro e w3 ⟨rfl, b3⟩; have S3 := S2.below b3; have hb3 := hb2.trans (b3.mono hb2.size); clear b3 S2 Z2 hb2)
      (go_wp2_with (fail); refine bodyPost_ret (v := .tuple #[.slice none 0 0, .slice none 0 0, .int .i64 3]) (by simp [results, Try.results14, go_sem]) rfl ⟨none, 0, none, 0, rfl, Sl.nil_ _ _ _, Sl.nil_ _ _ _, hb3⟩)
    · rw [show mkE u v = (v, u, 0) from if_neg h1] at qh
      by_cases h2 : v < u
      · have QH := hide qh
        clear qh h1
        (go_enter Try.func14, Try.ntmps14)
        (go_wp2_with (fail); refine (QR.out w hS).mono ?_; rintro e w1 ⟨rfl, b1⟩; have S1 := hS.below b1)
        (go_wp2_with (fail); refine (QE.out w1 S1).mono ?_; rintro e w2 ⟨R2, d2, rfl, Z2, b2⟩; have S2 := S1.below b2; have hb2 := b1.trans (b2.mono b1.size); clear b2 b1 S1; go_wp2_with (fail); refine (QH.out w2 _ _ Z2).mono ?_; rintro e w3 ⟨rfl, b3⟩; have S3 := S2.below b3; have hb3 := hb2.trans (b3.mono hb2.size); clear b3 S2 Z2 hb2)
        (go_wp2_with (fail); refine bodyPost_ret (v := .tuple #[.slice none 0 0, .slice none 0 0, .int .i64 3]) (by simp [results, Try.results14, go_sem]) rfl ⟨none, 0, none, 0, rfl, Sl.nil_ _ _ _, Sl.nil_ _ _ _, hb3⟩)
      · obtain rfl : u = v := by omega
        have QH := hide qh
        clear qh h1 h2
        (go_enter Try.func14, Try.ntmps14)
        (go_wp2_with (fail); refine (QR.out w hS).mono ?_; rintro e w1 ⟨rfl, b1⟩; have S1 := hS.below b1)
        (go_wp2_with (fail); refine (QE.out w1 S1).mono ?_; rintro e w2 ⟨R2, d2, rfl, Z2, b2⟩; have S2 := S1.below b2; have hb2 := b1.trans (b2.mono b1.size); clear b2 b1 S1; go_wp2_with (fail); refine (QH.out w2 _ _ Z2).mono ?_; rintro e w3 ⟨rfl, b3⟩; have S3 := S2.below b3; have hb3 := hb2.trans (b3.mono hb2.size); clear b3 S2 Z2 hb2)
        (go_wp2_with (fail); refine bodyPost_ret (v := .tuple #[.slice none 0 0, .slice none 0 0, .int .i64 3]) (by simp [results, Try.results14, go_sem]) rfl ⟨none, 0, none, 0, rfl, Sl.nil_ _ _ _, Sl.nil_ _ _ _, hb3⟩)
  rw [decide_eq_true hin] at qh
  rw [decide_eq_true hin, if_pos rfl]
  obtain ⟨f, e0, ef, ee, hfe, hel, hu⟩ := cut_places hr hin
  obtain ⟨hxl, _, _, _⟩ := fromT_spec hr hu
  have huv := (edge_ends (isT_ne hr) hin).2.2
  have qu := fun W h => reroot_any l hwf u A m c W h hm
  rw [outR_in hr hu] at qu
  simp only [] at qu
  rw [show rotT l (firstI l u 0).toNat = fromT l u from rfl, hxl, HL.out] at qu
  have HC1 := hide (show cutX l u v = (fromT l u).take f ++ (fromT l u).drop (e0 + 2) by unfold cutX; rw [ef, ee]; rfl)
  have HC2 := hide (show cutY l u v = ((fromT l u).take (e0 + 1)).drop f by unfold cutY; rw [ef, ee]; rfl)
  rw [HL.out] at hxl hel ee
  have qi := fun W B d h => idx_any (fromT l u) v [] B m d W h
  rw [ef] at qi
  have HXL := hide hxl
  have HLK := hide (ee f)
  rw [HC1.out, HC2.out]
  clear hin hr hwf ef ee hxl HC1 HC2 hu
  generalize fromT l u = X at *
  generalize edgesT l = E at *
  have HL1 := hide (show (X.take f ++ X.drop (e0 + 2)).length = f + (m - (e0 + 2)) by rw [List.length_append, List.length_take, List.length_drop, HXL.out]; omega)
  have HL2 := hide (show ((X.take (e0 + 1)).drop f).length = e0 + 1 - f by rw [List.length_drop, List.length_take, HXL.out]; omega)
  have QU := hide qu
  have QI := hide qi
  clear qu qi
  by_cases h1 : u < v
  · rw [show mkE u v = (u, v, 0) from if_pos h1] at qh
    have QH := hide qh
    clear qh huv
    ((go_enter Try.func14, Try.ntmps14); (go_wp2_with (fail); refine (QR.out w hS).mono ?_; rintro e w1 ⟨rfl, b1⟩; have S1 := hS.below b1); (go_wp2_with (fail); refine (QE.out w1 S1).mono ?_; rintro e w2 ⟨R2, d2, rfl, Z2, b2⟩; have S2 := S1.below b2; have hb2 := b1.trans (b2.mono b1.size); clear b2 b1 S1; go_wp2_with (fail); refine (QH.out w2 _ _ Z2).mono ?_; rintro e w3 ⟨rfl, b3⟩; have S3 := S2.below b3; have hb3 := hb2.trans (b3.mono hb2.size); clear b3 S2 Z2 hb2); go_wp2_with (fail); refine (QU.out w3 S3).mono ?_; rintro e w4 ⟨R4, d4, rfl, N4, b4⟩; have hb4 := hb3.trans (b4.mono hb3.size); clear b4 S3 hb3; go_wp2_with (fail); refine (QI.out w4 _ _ N4).mono ?_; rintro e w5 ⟨rfl, b5⟩; have hb5 := hb4.trans (b5.mono hb4.size); have N5a := N4.below b5; clear b5 N4 hb4; go_wp2_with (fail); go_loop [12, 41] (fun a i => ∃ k : Nat, k ≤ m ∧ i = .int .i64 k ∧ a = .int .i64 (lastK X v f k)) (fun _ i => m - (intOf i).toNat); (case atStart => exact ⟨0, Nat.zero_le _, rfl, rfl⟩); (case round => obtain ⟨k, hk, rfl, rfl⟩ := hrel; by_cases hlt : k < m; (· have hx : k < X.length := (by have := HXL.out; omega); obtain ⟨ad, hA, had, _, hc⟩ := N5a.at_ (by omega); have c0 := hc k (.int .i64 X[k]) (ints_get hx); rw [← atI_lt hx] at c0; have HK := hide (show lastK X v f (k + 1) = if atI X k = v then (k : Int) else lastK X v f k from rfl); clear hc; rw [hA]; generalize atI X k = x at *; generalize lastK X v f k = lk at *; by_cases hxv : x = v; (· have HF := hide (show lastK X v f (k + 1) = (k : Int) by rw [HK.out, if_pos hxv]); have hd : (x == v) = true := (by simp [hxv]); clear hxv HK; go_wp2_with (fail); exact ⟨⟨k + 1, by omega, by go_num, by rw [HF.out]⟩, by simp [intOf]; omega⟩); (· have HF := hide (show lastK X v f (k + 1) = lk by rw [HK.out, if_neg hxv]); have hd : (x == v) = false := (by simp [hxv]); clear hxv HK; go_wp2_with (fail); exact ⟨⟨k + 1, by omega, by go_num, by rw [HF.out]⟩, by simp [intOf]; omega⟩)); (· have hkm : k = m := (by omega); subst hkm; rw [HLK.out]; have hmc := N5a.le; have i0 : (f : Int) ≤ (d4 : Int) := (by omega); have i1 : (0 : Int) ≤ (e0 : Int) + 2 := (by omega); have i2 : (e0 : Int) + 2 ≤ (k : Int) := (by omega); have i3 : ((e0 : Int) + 2).toNat = e0 + 2 := (by omega); have i4 : (f : Int) ≤ (e0 : Int) + 1 := (by omega); have i5 : (e0 : Int) + 1 ≤ (d4 : Int) := (by omega); have i6 : ((e0 : Int) + 1).toNat = e0 + 1 := (by omega); have i7 : (0 : Int) ≤ (f : Int) := (by omega); have g6 := (Below.refl w5.heap.size w5).drew.alloc (Nat.le_refl _) (.cells #[.slice R4 f d4, .slice (cutA R4 d4 (e0 + 2) 1) (k - (e0 + 2)) (d4 - (e0 + 2))] 22); go_wp2_with (fail); refine wp_region_lexD [7,8,14] (fun w' => Below (w5).heap.size (w5) w') (by kernel_rfl) (by kernel_rfl) (Below.refl _ _).drew ?_; (repeat ((with_reducible refine wpLex_step (fun K hK => ?_)); go_simp; first | ((with_reducible refine hK _ _ ?_); clear hK K) | ((with_reducible apply Exists.intro); refine ⟨fun w' hw' => ?_, hK _ _ ?_⟩; (· (have hq := bcells hw'; apply valEq; (· (go_simp; first | done | (with_reducible rfl))); (· ((try go_bits); with_reducible rfl)))); clear hK K))); ((with_reducible refine wpLex_step (fun K hK => ?_)); go_simp; first | (refine hK _ _ ?_; clear hK K) | (refine ⟨?_, hK _ _ ?_⟩; (· (exact g6)); clear hK K)); ((with_reducible refine wpLex_step (fun K hK => ?_)); go_simp; refine (cut_off_call w5.drew X R4 k d4 f e0 N5a.drew (by omega) (by omega) hm MO (fun b hb => Nat.lt_of_lt_of_le (HMO.out b hb) hb5.size)).mono ?_; rintro e w7 ⟨R5, d5, rfl, N5, hbx⟩; have g7 := (g6).trans (hbx.mono (g6).size); skip; refine ⟨_, rfl, g7, hK _ _ ?_⟩; clear hK K hbx); have NX := N5; obtain ⟨R6, hR6⟩ : ∃ R6, R6 = R5 := ⟨_, rfl⟩; subst hR6; obtain ⟨d6, hd6⟩ : ∃ d6, d6 = d5 := ⟨_, rfl⟩; subst hd6; clear N5; (repeat ((with_reducible refine wpLex_step (fun K hK => ?_)); go_simp; first | ((with_reducible refine hK _ _ ?_); clear hK K) | ((with_reducible apply Exists.intro); refine ⟨fun w' hw' => ?_, hK _ _ ?_⟩; (· (have hq := bcells hw'; apply valEq; (· (go_simp; first | done | (with_reducible rfl))); (· ((try go_bits); with_reducible rfl)))); clear hK K))); ((with_reducible refine wpLex_step (fun K hK => ?_)); go_simp; refine (clone_off w7 X R4 k d4 f e0 (N5a.below g7) (by omega) (by omega) hm MO (fun b hb => Nat.lt_of_lt_of_le (HMO.out b hb) (Nat.le_trans hb5.size g7.size))).mono ?_; rintro e w8 ⟨R5, d5, rfl, N5, hbx⟩; have g8 := (g7).trans (hbx.mono (g7).size); have NX8 := NX.below hbx; refine ⟨_, rfl, g8, hK _ _ ?_⟩; clear hK K hbx); (repeat ((with_reducible refine wpLex_step (fun K hK => ?_)); go_simp; first | ((with_reducible refine hK _ _ ?_); clear hK K) | ((with_reducible apply Exists.intro); refine ⟨fun w' hw' => ?_, hK _ _ ?_⟩; (· (have hq := bcells hw'; apply valEq; (· (go_simp; first | done | (with_reducible rfl))); (· ((try go_bits); with_reducible rfl)))); clear hK K))); refine wpLex_nil (fun _ => ?_); have hb8 := hb5.trans (g8.mono hb5.size); go_wp2_with (fail); refine bodyPost_ret (v := .tuple #[.slice R6 (f + (k - (e0 + 2))) d6, .slice R5 (e0 + 1 - f) d5, .int .i64 0]) (by simp [results, Try.results14, go_sem]) rfl ⟨R6, d6, R5, d5, by rw [HL1.out, HL2.out], by rw [HL1.out]; exact NX8, by rw [HL2.out]; exact N5, hb8⟩)))
  · have h2 : v < u := by omega
    rw [show mkE u v = (v, u, 0) from if_neg h1] at qh
    have QH := hide qh
    clear qh huv h1
    ((go_enter Try.func14, Try.ntmps14); (go_wp2_with (fail); refine (QR.out w hS).mono ?_; rintro e w1 ⟨rfl, b1⟩; have S1 := hS.below b1); (go_wp2_with (fail); refine (QE.out w1 S1).mono ?_; rintro e w2 ⟨R2, d2, rfl, Z2, b2⟩; have S2 := S1.below b2; have hb2 := b1.trans (b2.mono b1.size); clear b2 b1 S1; go_wp2_with (fail); refine (QH.out w2 _ _ Z2).mono ?_; rintro e w3 ⟨rfl, b3⟩; have S3 := S2.below b3; have hb3 := hb2.trans (b3.mono hb2.size); clear b3 S2 Z2 hb2); go_wp2_with (fail); refine (QU.out w3 S3).mono ?_; rintro e w4 ⟨R4, d4, rfl, N4, b4⟩; have hb4 := hb3.trans (b4.mono hb3.size); clear b4 S3 hb3; go_wp2_with (fail); refine (QI.out w4 _ _ N4).mono ?_; rintro e w5 ⟨rfl, b5⟩; have hb5 := hb4.trans (b5.mono hb4.size); have N5a := N4.below b5; clear b5 N4 hb4; go_wp2_with (fail); go_loop [12, 41] (fun a i => ∃ k : Nat, k ≤ m ∧ i = .int .i64 k ∧ a = .int .i64 (lastK X v f k)) (fun _ i => m - (intOf i).toNat); (case atStart => exact ⟨0, Nat.zero_le _, rfl, rfl⟩); (case round => obtain ⟨k, hk, rfl, rfl⟩ := hrel; by_cases hlt : k < m; (· have hx : k < X.length := (by have := HXL.out; omega); obtain ⟨ad, hA, had, _, hc⟩ := N5a.at_ (by omega); have c0 := hc k (.int .i64 X[k]) (ints_get hx); rw [← atI_lt hx] at c0; have HK := hide (show lastK X v f (k + 1) = if atI X k = v then (k : Int) else lastK X v f k from rfl); clear hc; rw [hA]; generalize atI X k = x at *; generalize lastK X v f k = lk at *; by_cases hxv : x = v; (· have HF := hide (show lastK X v f (k + 1) = (k : Int) by rw [HK.out, if_pos hxv]); have hd : (x == v) = true := (by simp [hxv]); clear hxv HK; go_wp2_with (fail); exact ⟨⟨k + 1, by omega, by go_num, by rw [HF.out]⟩, by simp [intOf]; omega⟩); (· have HF := hide (show lastK X v f (k + 1) = lk by rw [HK.out, if_neg hxv]); have hd : (x == v) = false := (by simp [hxv]); clear hxv HK; go_wp2_with (fail); exact ⟨⟨k + 1, by omega, by go_num, by rw [HF.out]⟩, by simp [intOf]; omega⟩)); (· have hkm : k = m := (by omega); subst hkm; rw [HLK.out]; have hmc := N5a.le; have i0 : (f : Int) ≤ (d4 : Int) := (by omega); have i1 : (0 : Int) ≤ (e0 : Int) + 2 := (by omega); have i2 : (e0 : Int) + 2 ≤ (k : Int) := (by omega); have i3 : ((e0 : Int) + 2).toNat = e0 + 2 := (by omega); have i4 : (f : Int) ≤ (e0 : Int) + 1 := (by omega); have i5 : (e0 : Int) + 1 ≤ (d4 : Int) := (by omega); have i6 : ((e0 : Int) + 1).toNat = e0 + 1 := (by omega); have i7 : (0 : Int) ≤ (f : Int) := (by omega); have g6 := (Below.refl w5.heap.size w5).drew.alloc (Nat.le_refl _) (.cells #[.slice R4 f d4, .slice (cutA R4 d4 (e0 + 2) 1) (k - (e0 + 2)) (d4 - (e0 + 2))] 22); go_wp2_with (fail); refine wp_region_lexD [7,8,14] (fun w' => Below (w5).heap.size (w5) w') (by kernel_rfl) (by kernel_rfl) (Below.refl _ _).drew ?_; (repeat ((with_reducible refine wpLex_step (fun K hK => ?_)); go_simp; first | ((with_reducible refine hK _ _ ?_); clear hK K) | ((with_reducible apply Exists.intro); refine ⟨fun w' hw' => ?_, hK _ _ ?_⟩; (· (have hq := bcells hw'; apply valEq; (· (go_simp; first | done | (with_reducible rfl))); (· ((try go_bits); with_reducible rfl)))); clear hK K))); ((with_reducible refine wpLex_step (fun K hK => ?_)); go_simp; first | (refine hK _ _ ?_; clear hK K) | (refine ⟨?_, hK _ _ ?_⟩; (· (exact g6)); clear hK K)); ((with_reducible refine wpLex_step (fun K hK => ?_)); go_simp; refine (cut_off_call w5.drew X R4 k d4 f e0 N5a.drew (by omega) (by omega) hm MO (fun b hb => Nat.lt_of_lt_of_le (HMO.out b hb) hb5.size)).mono ?_; rintro e w7 ⟨R5, d5, rfl, N5, hbx⟩; have g7 := (g6).trans (hbx.mono (g6).size); skip; refine ⟨_, rfl, g7, hK _ _ ?_⟩; clear hK K hbx); have NX := N5; obtain ⟨R6, hR6⟩ : ∃ R6, R6 = R5 := ⟨_, rfl⟩; subst hR6; obtain ⟨d6, hd6⟩ : ∃ d6, d6 = d5 := ⟨_, rfl⟩; subst hd6; clear N5; (repeat ((with_reducible refine wpLex_step (fun K hK => ?_)); go_simp; first | ((with_reducible refine hK _ _ ?_); clear hK K) | ((with_reducible apply Exists.intro); refine ⟨fun w' hw' => ?_, hK _ _ ?_⟩; (· (have hq := bcells hw'; apply valEq; (· (go_simp; first | done | (with_reducible rfl))); (· ((try go_bits); with_reducible rfl)))); clear hK K))); ((with_reducible refine wpLex_step (fun K hK => ?_)); go_simp; refine (clone_off w7 X R4 k d4 f e0 (N5a.below g7) (by omega) (by omega) hm MO (fun b hb => Nat.lt_of_lt_of_le (HMO.out b hb) (Nat.le_trans hb5.size g7.size))).mono ?_; rintro e w8 ⟨R5, d5, rfl, N5, hbx⟩; have g8 := (g7).trans (hbx.mono (g7).size); have NX8 := NX.below hbx; refine ⟨_, rfl, g8, hK _ _ ?_⟩; clear hK K hbx); (repeat ((with_reducible refine wpLex_step (fun K hK => ?_)); go_simp; first | ((with_reducible refine hK _ _ ?_); clear hK K) | ((with_reducible apply Exists.intro); refine ⟨fun w' hw' => ?_, hK _ _ ?_⟩; (· (have hq := bcells hw'; apply valEq; (· (go_simp; first | done | (with_reducible rfl))); (· ((try go_bits); with_reducible rfl)))); clear hK K))); refine wpLex_nil (fun _ => ?_); have hb8 := hb5.trans (g8.mono hb5.size); go_wp2_with (fail); refine bodyPost_ret (v := .tuple #[.slice R6 (f + (k - (e0 + 2))) d6, .slice R5 (e0 + 1 - f) d5, .int .i64 0]) (by simp [results, Try.results14, go_sem]) rfl ⟨R6, d6, R5, d5, by rw [HL1.out, HL2.out], by rw [HL1.out]; exact NX8, by rw [HL2.out]; exact N5, hb8⟩)))
end Go.Proofs.Ytbnkanhibjoleaa
