/-
  raftsmanref08.Reroot and raftsmanref08.Link walked.
-/
import Derived.Test.YtbnkanhibjoleaaTRefR
import Derived.Test.YtbnkanhibjoleaaTLink
namespace Go.Proofs.Ytbnkanhibjoleaa
open Go Go.RowKit
attribute [local go_sem] Heavy heavyUpon
attribute [local go_sem ↓] isl_hi isl_lo isl_both

theorem rboth_call (W : World) (l : List Int) (A : Option Addr) (m c f : Nat) (hS : Sl W [] 1 A m c (ints .i64 l)) (hf : f < m) (hm : m ≤ 4096) :
    Calls Try.prog 23 #[.slice (cutA A c f 1) (m - f) (c - f), .slice (cutA A c 1 1) f (c - 1)] W
      fun e w' => ∃ R d, e = .returned (.slice R m d) ∧ Sl w' [] 1 R m d (ints .i64 (rotT l f)) ∧ Below W.heap.size W w' := by
  have hmid := q_mid (k := f + 1) (j := 1) hS (by omega) (by omega)
  rw [Nat.add_sub_cancel] at hmid
  have h := both_any (l.drop f) ((l.take (f + 1)).drop 1) (cutA A c f 1) (cutA A c 1 1) (m - f) (c - f) f (c - 1) W (q_tail (k := f) hS (by omega)) hmid (by omega) (by omega)
  rw [show m - f + f = m by omega] at h
  exact h

set_option maxHeartbeats 3200000 in
theorem rreroot_any (l : List Int) (v : Int) (hv : v ∈ l) (A : Option Addr) (m c : Nat) (w : World) (hS : Sl w [] 1 A m c (ints .i64 l)) (hm : m ≤ 4096) :
    Calls Try.prog 24 #[.slice A m c, .int .i64 v] w fun e w' => ∃ R d, e = .returned (.slice R m d) ∧ Sl w' [] 1 R m d (ints .i64 (rotT l (firstI l v 0).toNat)) ∧ Below w.heap.size w w' := by
  have HL := hide (show l.length = m by have := hS.len; simpa using this)
  have qi := fun W h => first_any l v [] A m c W h
  obtain ⟨f, ef, hfl, _, _⟩ := first_spec l v 0 (Int.le_refl _) ((firstI_mem l v 0 (Int.le_refl _)).2 hv)
  rw [Int.zero_add] at ef
  rw [ef, Int.toNat_natCast]
  rw [ef] at qi
  have QI := hide qi
  clear qi ef
  have hfm : f < m := by have := HL.out; omega
  by_cases h0 : f = 0
  · subst h0
    rw [rotT_zero]
    go_enter Try.func24, Try.ntmps24
    go_wp2_with (fail)
    refine (QI.out w hS).mono ?_
    rintro e w1 ⟨rfl, b1⟩
    go_wp2_with (fail)
    refine bodyPost_ret (v := .slice A m c) (by simp [results, Try.results24, go_sem]) rfl ⟨A, c, rfl, hS.below b1, b1⟩
  · have hd : ((f : Int) == 0) = false := by simpa using h0
    have hd2 : (f == 0) = false := by simpa using h0
    have hmc := hS.le
    have hcap := hS.cap
    unfold maxLen at hcap
    have i0 : (f : Int) ≤ (m : Int) := by omega
    have i1 : (1 : Int) ≤ (f : Int) + 1 := by omega
    have i2 : (f : Int) + 1 ≤ (c : Int) := by omega
    have i3 : ((f : Int) + 1).toNat = f + 1 := by omega
    have i4 : (0 : Int) ≤ (f : Int) := by omega
    clear h0
    go_enter Try.func24, Try.ntmps24
    go_wp2_with (fail)
    refine (QI.out w hS).mono ?_
    rintro e w1 ⟨rfl, b1⟩
    have S1 := hS.below b1
    go_wp2_with (fail)
    refine wp_region_lexD [7] (fun w' => Below (w1).heap.size (w1) w') (by kernel_rfl) (by kernel_rfl) (Below.refl _ _).drew ?_
    (repeat ((with_reducible refine wpLex_step (fun K hK => ?_)); go_simp; first | ((with_reducible refine hK _ _ ?_); clear hK K) | ((with_reducible apply Exists.intro); refine ⟨fun w' hw' => ?_, hK _ _ ?_⟩; (· (have hq := bcells hw'; apply valEq; (· (go_simp; first | done | (with_reducible rfl))); (· ((try go_bits); with_reducible rfl)))); clear hK K)))
    ((with_reducible refine wpLex_step (fun K hK => ?_)); go_simp; refine (rboth_call w1.drew l A m c f S1.drew hfm hm).mono ?_; rintro e w7 ⟨R5, d5, rfl, N5, hbx⟩; have g7 := ((Below.refl w1.heap.size w1).drew).trans (hbx.mono ((Below.refl w1.heap.size w1).drew).size); skip; refine ⟨_, rfl, g7, hK _ _ ?_⟩; clear hK K hbx)
    (repeat ((with_reducible refine wpLex_step (fun K hK => ?_)); go_simp; first | ((with_reducible refine hK _ _ ?_); clear hK K) | ((with_reducible apply Exists.intro); refine ⟨fun w' hw' => ?_, hK _ _ ?_⟩; (· (have hq := bcells hw'; apply valEq; (· (go_simp; first | done | (with_reducible rfl))); (· ((try go_bits); with_reducible rfl)))); clear hK K)))
    refine wpLex_nil (fun _ => ?_)
    have hb7 := b1.trans (g7.mono b1.size)
    go_wp2_with (fail)
    refine bodyPost_ret (v := .slice R5 m d5) (by simp [results, Try.results24, go_sem]) rfl ⟨R5, d5, rfl, N5, hb7⟩

def outRL (a b : List Int) (u v : Int) : List Int × Int :=
  if (isT a && isT b) = true then (if (decide (u ∈ a) && decide (v ∈ b)) = true then (if comeI b a = true then ([], 4) else (linkT a b u v, 0)) else ([], 3)) else ([], 1)
theorem comeI_comm (a b : List Int) : comeI a b = comeI b a := by
  unfold comeI
  rw [Bool.eq_iff_iff, List.any_eq_true, List.any_eq_true]
  constructor
  · rintro ⟨x, h1, h2⟩; exact ⟨x, by simpa using h2, by simpa using h1⟩
  · rintro ⟨x, h1, h2⟩; exact ⟨x, by simpa using h2, by simpa using h1⟩
theorem outRL_eq (a b : List Int) (u v : Int) : outRL a b u v = outL a b u v := by
  unfold outRL outL; rw [comeI_comm]

set_option maxRecDepth 100000 in
set_option maxHeartbeats 3200000 in
theorem rlink_any (a b : List Int) (u v : Int) (A B : Option Addr) (m c n d : Nat) (w : World) (hS : Sl w [] 1 A m c (ints .i64 a)) (hT : Sl w [] 1 B n d (ints .i64 b)) (hm : m ≤ 2000) (hn : n ≤ 2000) :
    Calls Try.prog 10 #[.slice A m c, .slice B n d, .int .i64 u, .int .i64 v] w fun e w' => ∃ R d', e = .returned (.tuple #[.slice R (outRL a b u v).1.length d', .int .i64 (outRL a b u v).2]) ∧ Sl w' [] 1 R (outRL a b u v).1.length d' (ints .i64 (outRL a b u v).1) ∧ Below w.heap.size w w' := by
  have HLA := hide (show a.length = m by have := hS.len; simpa using this)
  have HLB := hide (show b.length = n by have := hT.len; simpa using this)
  have qra := fun W h => refR_any a A m c W h (by omega)
  have qrb := fun W h => refR_any b B n d W h (by omega)
  have qha := fun W h => rhas_any a u [] A m c W h
  have qhb := fun W h => rhas_any b v [] B n d W h
  have QHX := hide (fun x W h => rhas_any b x [] B n d W h)
  unfold outRL
  cases h1 : isT a
  case false =>
    rw [h1] at qra
    have QRA := hide qra
    have QRB := hide qrb
    clear qra qrb qha qhb h1
    rw [if_neg (by simp)]
    (go_enter Try.func10, Try.ntmps10)
    (go_wp2_with (fail); refine (QRA.out w hS).mono ?_; rintro e w1 ⟨rfl, b1⟩)
    (go_wp2_with (fail); refine (QRB.out w1 (hT.below b1)).mono ?_; rintro e w2 ⟨rfl, b2⟩; have b12 := b1.trans (b2.mono b1.size); clear b1 b2)
    (go_wp2_with (fail); refine bodyPost_ret (v := .tuple #[.slice none 0 0, .int .i64 1]) (by simp [results, Try.results10, go_sem]) rfl ⟨none, 0, rfl, Sl.nil_ _ _ _, b12⟩)
  rw [h1] at qra
  have QRA := hide qra
  clear qra
  cases h2 : isT b
  case false =>
    rw [h2] at qrb
    have QRB := hide qrb
    clear qrb qha qhb h2 h1
    rw [if_neg (by simp)]
    (go_enter Try.func10, Try.ntmps10)
    (go_wp2_with (fail); refine (QRA.out w hS).mono ?_; rintro e w1 ⟨rfl, b1⟩)
    (go_wp2_with (fail); refine (QRB.out w1 (hT.below b1)).mono ?_; rintro e w2 ⟨rfl, b2⟩; have b12 := b1.trans (b2.mono b1.size); clear b1 b2)
    (go_wp2_with (fail); refine bodyPost_ret (v := .tuple #[.slice none 0 0, .int .i64 1]) (by simp [results, Try.results10, go_sem]) rfl ⟨none, 0, rfl, Sl.nil_ _ _ _, b12⟩)
  rw [h2] at qrb
  have QRB := hide qrb
  clear qrb
  rw [if_pos (by rfl)]
  by_cases hu : u ∈ a
  case neg =>
    rw [decide_eq_false hu] at qha
    have QHA := hide qha
    rw [decide_eq_false hu, if_neg (by simp)]
    clear qha qhb h1 h2 hu
    (go_enter Try.func10, Try.ntmps10)
    (go_wp2_with (fail); refine (QRA.out w hS).mono ?_; rintro e w1 ⟨rfl, b1⟩)
    (go_wp2_with (fail); refine (QRB.out w1 (hT.below b1)).mono ?_; rintro e w2 ⟨rfl, b2⟩; have b12 := b1.trans (b2.mono b1.size); clear b1 b2)
    (go_wp2_with (fail); refine (QHA.out w2 (hS.below b12)).mono ?_; rintro e w3 ⟨rfl, b3⟩; have b13 := b12.trans (b3.mono b12.size); clear b12 b3)
    (go_wp2_with (fail); refine bodyPost_ret (v := .tuple #[.slice none 0 0, .int .i64 3]) (by simp [results, Try.results10, go_sem]) rfl ⟨none, 0, rfl, Sl.nil_ _ _ _, b13⟩)
  rw [decide_eq_true hu] at qha
  have QHA := hide qha
  clear qha
  by_cases hv : v ∈ b
  case neg =>
    rw [decide_eq_false hv] at qhb
    have QHB := hide qhb
    rw [decide_eq_true hu, decide_eq_false hv, if_neg (by simp)]
    clear qhb h1 h2 hu hv
    (go_enter Try.func10, Try.ntmps10)
    (go_wp2_with (fail); refine (QRA.out w hS).mono ?_; rintro e w1 ⟨rfl, b1⟩)
    (go_wp2_with (fail); refine (QRB.out w1 (hT.below b1)).mono ?_; rintro e w2 ⟨rfl, b2⟩; have b12 := b1.trans (b2.mono b1.size); clear b1 b2)
    (go_wp2_with (fail); refine (QHA.out w2 (hS.below b12)).mono ?_; rintro e w3 ⟨rfl, b3⟩; have b13 := b12.trans (b3.mono b12.size); clear b12 b3)
    (go_wp2_with (fail); refine (QHB.out w3 (hT.below b13)).mono ?_; rintro e w4 ⟨rfl, b4⟩; have b14 := b13.trans (b4.mono b13.size); clear b13 b4)
    (go_wp2_with (fail); refine bodyPost_ret (v := .tuple #[.slice none 0 0, .int .i64 3]) (by simp [results, Try.results10, go_sem]) rfl ⟨none, 0, rfl, Sl.nil_ _ _ _, b14⟩)
  rw [decide_eq_true hv] at qhb
  have QHB := hide qhb
  rw [decide_eq_true hu, decide_eq_true hv, if_pos (by rfl)]
  have QU := hide (fun W h => rreroot_any a u hu A m c W h (by omega))
  have QV := hide (fun W h => rreroot_any b v hv B n d W h (by omega))
  have HLL := hide (show (linkT a b u v).length = m + n + 1 by
    unfold linkT
    rw [List.length_append, List.length_append, rot_first_len hu, rot_first_len hv, HLA.out, HLB.out]; rfl)
  have HLK := hide (show linkT a b u v = rotT a (firstI a u 0).toNat ++ rotT b (firstI b v 0).toNat ++ [u] from rfl)
  clear qhb h1 h2 hu hv
  generalize rotT a (firstI a u 0).toNat = X at *
  generalize rotT b (firstI b v 0).toNat = Y at *
  generalize linkT a b u v = LK at *
  obtain ⟨OUT, hOUT⟩ : ∃ OUT : List Int × Int, OUT = (if comeI b a = true then ([], 4) else (LK, 0)) := ⟨_, rfl⟩
  have HO1 := hide (show comeI b a = true → OUT = ([], 4) from fun h => by rw [hOUT, if_pos h])
  have HO2 := hide (show ¬ comeI b a = true → OUT = (LK, 0) from fun h => by rw [hOUT, if_neg h])
  rw [← hOUT]
  clear hOUT
  (go_enter Try.func10, Try.ntmps10)
  (go_wp2_with (fail); refine (QRA.out w hS).mono ?_; rintro e w1 ⟨rfl, b1⟩)
  (go_wp2_with (fail); refine (QRB.out w1 (hT.below b1)).mono ?_; rintro e w2 ⟨rfl, b2⟩; have b12 := b1.trans (b2.mono b1.size); clear b1 b2)
  (go_wp2_with (fail); refine (QHA.out w2 (hS.below b12)).mono ?_; rintro e w3 ⟨rfl, b3⟩; have b13 := b12.trans (b3.mono b12.size); clear b12 b3)
  (go_wp2_with (fail); refine (QHB.out w3 (hT.below b13)).mono ?_; rintro e w4 ⟨rfl, b4⟩; have b14 := b13.trans (b4.mono b13.size); clear b13 b4)
  go_wp2_with (fail)
  go_loopw [12] (fun i wr => ∃ k : Nat, k ≤ m ∧ i = .int .i64 k ∧ Below w.heap.size w wr ∧ Hid (∀ x ∈ a.take k, x ∉ b)) (fun i _ => m - (intOf i).toNat)
  case atStart => exact ⟨0, Nat.zero_le _, rfl, b14, hide (by simp)⟩
  case round =>
    obtain ⟨k, hk, rfl, hbw, HJ⟩ := hrel
    have Sr := hS.below hbw
    have Tr := hT.below hbw
    by_cases hlt : k < m
    · have hx : k < a.length := by have := HLA.out; omega
      obtain ⟨ad, hA, had, _, hc⟩ := Sr.at_ (by omega)
      have c0 := hc k (.int .i64 a[k]) (ints_get hx)
      have HP := hide (show a[k] ∉ b → ∀ x ∈ a.take (k + 1), x ∉ b from fun h x hxm => by
        rw [List.take_succ_eq_append_getElem hx, List.mem_append, List.mem_singleton] at hxm
        rcases hxm with hxm | rfl
        · exact HJ.out x hxm
        · exact h)
      have HQ := hide (show a[k] ∈ b → comeI b a = true from fun h => by
        unfold comeI
        rw [List.any_eq_true]
        exact ⟨_, List.getElem_mem hx, by simpa using h⟩)
      have qx := fun W h => QHX.out a[k] W h
      clear hc HJ
      generalize a[k] = x at *
      rw [hA]
      by_cases hxb : x ∈ b
      · rw [decide_eq_true hxb] at qx
        have QX := hide qx
        have HF := hide (HQ.out hxb)
        clear hxb HQ HP qx
        go_wp2_with (fail)
        refine (QX.out _ Tr).mono ?_
        rintro e w5 ⟨rfl, b5⟩
        have hb5 := hbw.trans (b5.mono hbw.size)
        clear c0
        go_wp2_with (fail)
        refine bodyPost_ret (v := .tuple #[.slice none 0 0, .int .i64 4]) (by simp [results, Try.results10, go_sem]) rfl ?_
        rw [HO1.out HF.out]
        exact ⟨none, 0, rfl, Sl.nil_ _ _ _, hb5⟩
      · rw [decide_eq_false hxb] at qx
        have QX := hide qx
        have HF := hide (HP.out hxb)
        clear hxb HQ HP qx
        go_wp2_with (fail)
        refine (QX.out _ Tr).mono ?_
        rintro e w5 ⟨rfl, b5⟩
        have hb5 := hbw.trans (b5.mono hbw.size)
        clear c0
        go_wp2_with (fail)
        exact ⟨⟨k + 1, by omega, by go_num, hb5, HF⟩, by simp [intOf]; omega⟩
    · have hkm : k = m := by omega
      subst hkm
      have HF := hide (show ¬ comeI b a = true from fun h => by
        unfold comeI at h
        rw [List.any_eq_true] at h
        obtain ⟨x, hx, h⟩ := h
        have := HJ.out
        rw [List.take_of_length_le (by have := HLA.out; omega)] at this
        exact this x hx (by simpa using h))
      clear HJ
      go_wp2_with (fail)
      refine (QU.out wr Sr).mono ?_
      rintro e w7 ⟨R7, d7, rfl, N7, b7⟩
      have hb7 := hbw.trans (b7.mono hbw.size)
      have T7 := Tr.below b7
      clear b7 Sr Tr
      go_wp2_with (fail)
      refine (QV.out w7 T7).mono ?_
      rintro e w8 ⟨R8, d8, rfl, N8, b8⟩
      have hb8 := hb7.trans (b8.mono hb7.size)
      have N78 := N7.below b8
      clear b8 N7 T7 hb7
      go_wp2_with (fail)
      refine (both_any X Y R7 R8 k d7 n d8 w8 N78 N8 (by omega) (by omega)).mono ?_
      rintro e w9 ⟨R9, d9, rfl, N9, b9⟩
      have hb9 := hb8.trans (b9.mono hb8.size)
      have I9 := i1_new w9 u
      have N9a := N9.alloc (.cells #[.int .i64 u] 3)
      have hb10 := hb9.alloc hb9.size (.cells #[.int .i64 u] 3)
      clear b9 N78 N8 hb8
      go_wp2_with (fail)
      refine (both_any (X ++ Y) [u] R9 (some ⟨w9.heap.size, 0, none⟩) (k + n) d9 1 1 _ N9a I9 (by omega) (by omega)).mono ?_
      rintro e w11 ⟨R11, d11, rfl, N11, b11⟩
      have hb11 := hb10.trans (b11.mono hb10.size)
      clear b11 N9a I9
      go_wp2_with (fail)
      refine bodyPost_ret (v := .tuple #[.slice R11 (k + n + 1) d11, .int .i64 0]) (by simp [results, Try.results10, go_sem]) rfl ?_
      rw [HO2.out HF.out]
      exact ⟨R11, d11, by rw [HLL.out], by rw [HLL.out, HLK.out]; exact N11, hb11⟩
end Go.Proofs.Ytbnkanhibjoleaa
