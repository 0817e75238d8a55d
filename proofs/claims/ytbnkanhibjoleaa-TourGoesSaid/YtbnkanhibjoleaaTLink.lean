/-
  tour.Link walked.
-/
import Derived.Test.YtbnkanhibjoleaaTReroot
namespace Go.Proofs.Ytbnkanhibjoleaa
open Go Go.RowKit
attribute [local go_sem] Heavy heavyUpon
attribute [local go_sem ↓] isl_hi isl_lo isl_both

def comeI (a b : List Int) : Bool := b.any fun x => decide (x ∈ a)
/-- What two lists linked give. -/
def linkT (a b : List Int) (u v : Int) : List Int := rotT a (firstI a u 0).toNat ++ rotT b (firstI b v 0).toNat ++ [u]
def outL (a b : List Int) (u v : Int) : List Int × Int :=
  if (isT a && isT b) = true then (if (decide (u ∈ a) && decide (v ∈ b)) = true then (if comeI a b = true then ([], 4) else (linkT a b u v, 0)) else ([], 3)) else ([], 1)

theorem link_call (W : World) (X Y : List Int) (A B : Option Addr) (n1 d1 n2 d2 : Nat) (u : Int) (hX : Sl W [] 1 A n1 d1 (ints .i64 X)) (hY : Sl W [] 1 B n2 d2 (ints .i64 Y)) (h1 : n1 ≤ 4096) (h2 : n2 ≤ 4096) :
    Calls Try.prog 20 #[.slice (some ⟨W.heap.size + 1, 0, none⟩) 3 3] ((W.alloc (.cells #[.int .i64 u] 3)).alloc (.cells #[.slice A n1 d1, .slice B n2 d2, .slice (some ⟨W.heap.size, 0, none⟩) 1 1] 22))
      fun e w' => ∃ R d, e = .returned (.slice R (n1 + n2 + 1) d) ∧ Sl w' [] 1 R (n1 + n2 + 1) d (ints .i64 (X ++ Y ++ [u])) ∧ Below ((W.alloc (.cells #[.int .i64 u] 3)).alloc (.cells #[.slice A n1 d1, .slice B n2 d2, .slice (some ⟨W.heap.size, 0, none⟩) 1 1] 22)).heap.size ((W.alloc (.cells #[.int .i64 u] 3)).alloc (.cells #[.slice A n1 d1, .slice B n2 d2, .slice (some ⟨W.heap.size, 0, none⟩) 1 1] 22)) w' := by
  have S1 := (i1_new W u).alloc (.cells #[.slice A n1 d1, .slice B n2 d2, .slice (some ⟨W.heap.size, 0, none⟩) 1 1] 22)
  have hb := Blk.new (W.alloc (.cells #[.int .i64 u] 3)) 22 #[.slice A n1 d1, .slice B n2 d2, .slice (some ⟨W.heap.size, 0, none⟩) 1 1]
  rw [heap_alloc_size] at hb
  have SX := (hX.alloc (.cells #[.int .i64 u] 3)).alloc (.cells #[.slice A n1 d1, .slice B n2 d2, .slice (some ⟨W.heap.size, 0, none⟩) 1 1] 22)
  have SY := (hY.alloc (.cells #[.int .i64 u] 3)).alloc (.cells #[.slice A n1 d1, .slice B n2 d2, .slice (some ⟨W.heap.size, 0, none⟩) 1 1] 22)
  generalize ((W.alloc (.cells #[.int .i64 u] 3)).alloc (.cells #[.slice A n1 d1, .slice B n2 d2, .slice (some ⟨W.heap.size, 0, none⟩) 1 1] 22)) = W2 at *
  have hP := concatI_ok [(A, n1, d1, ints .i64 X), (B, n2, d2, ints .i64 Y), (some ⟨W.heap.size, 0, none⟩, 1, 1, ints .i64 [u])] [] (some ⟨W.heap.size + 1, 0, none⟩) 3 3 W2
    (Sl.of_blk hb rfl (fun x hx => by match x, hx with | 0, _ | 1, _ | 2, _ => rfl) (by simp) (by unfold maxLen; omega))
    (by
      intro x hx
      simp only [List.mem_cons, List.not_mem_nil, or_false] at hx
      rcases hx with rfl | rfl | rfl
      · exact ⟨SX, ints_one⟩
      · exact ⟨SY, ints_one⟩
      · exact ⟨S1, ints_one⟩)
    (by decide) (by simp [ptot]; omega)
  have e1 : ptot [(A, n1, d1, ints .i64 X), (B, n2, d2, ints .i64 Y), (some ⟨W.heap.size, 0, none⟩, 1, 1, ints .i64 [u])] = n1 + n2 + 1 := by simp [ptot]; omega
  have e2 : pcat [(A, n1, d1, ints .i64 X), (B, n2, d2, ints .i64 Y), (some ⟨W.heap.size, 0, none⟩, 1, 1, ints .i64 [u])] = ints .i64 (X ++ Y ++ [u]) := by
    rw [ints_append, ints_append]
    simp [pcat]
  rw [e1, e2] at hP
  exact hP
theorem outR_in {l : List Int} {v : Int} (h : isT l = true) (hv : v ∈ l) : outR l v = (rotT l (firstI l v 0).toNat, 0) := by
  unfold outR
  rw [if_pos h, if_pos ((firstI_mem l v 0 (Int.le_refl _)).2 hv)]
theorem rot_first_len {l : List Int} {v : Int} (hv : v ∈ l) : (rotT l (firstI l v 0).toNat).length = l.length := by
  obtain ⟨f, ef, hf, _, _⟩ := first_spec l v 0 (Int.le_refl _) ((firstI_mem l v 0 (Int.le_refl _)).2 hv)
  rw [ef, Int.zero_add, Int.toNat_natCast]
  exact rotT_len hf

set_option maxRecDepth 100000 in
set_option maxHeartbeats 3200000 in
theorem link_any (a b : List Int) (ha : ∀ x ∈ a, (Lit.int .i64 x).wf = true) (hb : ∀ x ∈ b, (Lit.int .i64 x).wf = true) (u v : Int) (A B : Option Addr) (m c n d : Nat) (w : World) (hS : Sl w [] 1 A m c (ints .i64 a)) (hT : Sl w [] 1 B n d (ints .i64 b)) (hm : m ≤ 2000) (hn : n ≤ 2000) :
    Calls Try.prog 9 #[.slice A m c, .slice B n d, .int .i64 u, .int .i64 v] w fun e w' => ∃ R d', e = .returned (.tuple #[.slice R (outL a b u v).1.length d', .int .i64 (outL a b u v).2]) ∧ Sl w' [] 1 R (outL a b u v).1.length d' (ints .i64 (outL a b u v).1) ∧ Below w.heap.size w w' := by
  have HLA := hide (show a.length = m by have := hS.len; simpa using this)
  have HLB := hide (show b.length = n by have := hT.len; simpa using this)
  have qra := fun W h => isT_any a ha A m c W h (by omega)
  have qrb := fun W h => isT_any b hb B n d W h (by omega)
  have qha := fun W h => has_any a u [] A m c W h
  have qhb := fun W h => has_any b v [] B n d W h
  unfold outL
  cases h1 : isT a
  case false =>
    rw [h1] at qra
    have QRA := hide qra
    clear qra qrb qha qhb h1 ha hb
    rw [if_neg (by simp)]
    (go_enter Try.func9, Try.ntmps9)
    (go_wp2_with (fail); refine (QRA.out w hS).mono ?_; rintro e w1 ⟨rfl, b1⟩)
    (go_wp2_with (fail); refine bodyPost_ret (v := .tuple #[.slice none 0 0, .int .i64 1]) (by simp [results, Try.results9, go_sem]) rfl ⟨none, 0, rfl, Sl.nil_ _ _ _, b1⟩)
  rw [h1] at qra
  have QRA := hide qra
  clear qra
  cases h2 : isT b
  case false =>
    rw [h2] at qrb
    have QRB := hide qrb
    clear qrb qha qhb h2 h1 ha hb
    rw [if_neg (by simp)]
    (go_enter Try.func9, Try.ntmps9)
    (go_wp2_with (fail); refine (QRA.out w hS).mono ?_; rintro e w1 ⟨rfl, b1⟩)
    (go_wp2_with (fail); refine (QRB.out w1 (hT.below b1)).mono ?_; rintro e w2 ⟨rfl, b2⟩; have b12 := b1.trans (b2.mono b1.size); clear b1 b2)
    (go_wp2_with (fail); refine bodyPost_ret (v := .tuple #[.slice none 0 0, .int .i64 1]) (by simp [results, Try.results9, go_sem]) rfl ⟨none, 0, rfl, Sl.nil_ _ _ _, b12⟩)
  rw [h2] at qrb
  have QRB := hide qrb
  clear qrb
  rw [if_pos (by rfl)]
  by_cases hu : u ∈ a
  case neg =>
    rw [decide_eq_false hu] at qha
    have QHA := hide qha
    rw [decide_eq_false hu, if_neg (by simp)]
    clear qha qhb h1 h2 hu ha hb
    (go_enter Try.func9, Try.ntmps9)
    (go_wp2_with (fail); refine (QRA.out w hS).mono ?_; rintro e w1 ⟨rfl, b1⟩)
    (go_wp2_with (fail); refine (QRB.out w1 (hT.below b1)).mono ?_; rintro e w2 ⟨rfl, b2⟩; have b12 := b1.trans (b2.mono b1.size); clear b1 b2)
    (go_wp2_with (fail); refine (QHA.out w2 (hS.below b12)).mono ?_; rintro e w3 ⟨rfl, b3⟩; have b13 := b12.trans (b3.mono b12.size); clear b12 b3)
    (go_wp2_with (fail); refine bodyPost_ret (v := .tuple #[.slice none 0 0, .int .i64 3]) (by simp [results, Try.results9, go_sem]) rfl ⟨none, 0, rfl, Sl.nil_ _ _ _, b13⟩)
  rw [decide_eq_true hu] at qha
  have QHA := hide qha
  clear qha
  by_cases hv : v ∈ b
  case neg =>
    rw [decide_eq_false hv] at qhb
    have QHB := hide qhb
    rw [decide_eq_true hu, decide_eq_false hv, if_neg (by simp)]
    clear qhb h1 h2 hu hv ha hb
    (go_enter Try.func9, Try.ntmps9)
    (go_wp2_with (fail); refine (QRA.out w hS).mono ?_; rintro e w1 ⟨rfl, b1⟩)
    (go_wp2_with (fail); refine (QRB.out w1 (hT.below b1)).mono ?_; rintro e w2 ⟨rfl, b2⟩; have b12 := b1.trans (b2.mono b1.size); clear b1 b2)
    (go_wp2_with (fail); refine (QHA.out w2 (hS.below b12)).mono ?_; rintro e w3 ⟨rfl, b3⟩; have b13 := b12.trans (b3.mono b12.size); clear b12 b3)
    (go_wp2_with (fail); refine (QHB.out w3 (hT.below b13)).mono ?_; rintro e w4 ⟨rfl, b4⟩; have b14 := b13.trans (b4.mono b13.size); clear b13 b4)
    (go_wp2_with (fail); refine bodyPost_ret (v := .tuple #[.slice none 0 0, .int .i64 3]) (by simp [results, Try.results9, go_sem]) rfl ⟨none, 0, rfl, Sl.nil_ _ _ _, b14⟩)
  rw [decide_eq_true hv] at qhb
  have QHB := hide qhb
  rw [decide_eq_true hu, decide_eq_true hv, if_pos (by rfl)]
  have qu := fun W h => reroot_any a ha u A m c W h (by omega)
  have qv := fun W h => reroot_any b hb v B n d W h (by omega)
  rw [outR_in h1 hu] at qu
  rw [outR_in h2 hv] at qv
  simp only [] at qu qv
  rw [rot_first_len hu, HLA.out] at qu
  rw [rot_first_len hv, HLB.out] at qv
  have HLL := hide (show (linkT a b u v).length = m + n + 1 by
    unfold linkT
    rw [List.length_append, List.length_append, rot_first_len hu, rot_first_len hv, HLA.out, HLB.out]; rfl)
  have HLK := hide (show linkT a b u v = rotT a (firstI a u 0).toNat ++ rotT b (firstI b v 0).toNat ++ [u] from rfl)
  have QU := hide qu
  have QV := hide qv
  have HWA := hide ha
  have HWB := hide hb
  clear qhb h1 h2 hu hv ha hb qu qv
  generalize rotT a (firstI a u 0).toNat = X at *
  generalize rotT b (firstI b v 0).toNat = Y at *
  generalize linkT a b u v = LK at *
  obtain ⟨OUT, hOUT⟩ : ∃ OUT : List Int × Int, OUT = (if comeI a b = true then ([], 4) else (LK, 0)) := ⟨_, rfl⟩
  have HO1 := hide (show comeI a b = true → OUT = ([], 4) from fun h => by rw [hOUT, if_pos h])
  have HO2 := hide (show ¬ comeI a b = true → OUT = (LK, 0) from fun h => by rw [hOUT, if_neg h])
  rw [← hOUT]
  clear hOUT
  have hmk := @run_makeMap Try.prog
  (go_enter Try.func9, Try.ntmps9)
  (go_wp2_with (fail); refine (QRA.out w hS).mono ?_; rintro e w1 ⟨rfl, b1⟩)
  (go_wp2_with (fail); refine (QRB.out w1 (hT.below b1)).mono ?_; rintro e w2 ⟨rfl, b2⟩; have b12 := b1.trans (b2.mono b1.size); clear b1 b2)
  (go_wp2_with (fail); refine (QHA.out w2 (hS.below b12)).mono ?_; rintro e w3 ⟨rfl, b3⟩; have b13 := b12.trans (b3.mono b12.size); clear b12 b3)
  (go_wp2_with (fail); refine (QHB.out w3 (hT.below b13)).mono ?_; rintro e w4 ⟨rfl, b4⟩; have b14 := b13.trans (b4.mono b13.size); clear b13 b4)
  have seen0 := Seen.made w4
  have b15 := b14.alloc b14.size (.map #[] 0)
  have hw4 := b14.size
  go_wp2_with (fail)
  generalize w4.alloc (.map #[] 0) = w5 at *
  generalize w4.heap.size = g4 at *
  clear b14
  go_loopw [40] (fun i wr => ∃ k : Nat, k ≤ m ∧ i = .int .i64 k ∧ Seen wr g4 k (a.take k) ∧ Below w.heap.size w wr) (fun i _ => m - (intOf i).toNat)
  case atStart => exact ⟨0, Nat.zero_le _, rfl, by simpa using seen0, b15⟩
  case round =>
    obtain ⟨k, hk, rfl, hseen, hbw⟩ := hrel
    have Sr := hS.below hbw
    by_cases hlt : k < m
    · have hx : k < a.length := by have := HLA.out; omega
      obtain ⟨ad, hA, had, _, hc⟩ := Sr.at_ (by omega)
      subst hA
      have c0 := hc k (.int .i64 a[k]) (ints_get hx)
      have hwv := HWA.out _ (List.getElem_mem hx)
      have HP := hide (show ∀ x, x ∈ a[k] :: a.take k ↔ x ∈ a.take (k + 1) from fun x => by rw [List.take_succ_eq_append_getElem hx, List.mem_append, List.mem_cons, List.mem_singleton]; exact Or.comm)
      clear hc
      generalize a[k] = x at *
      have HSE := hide hseen
      clear hseen
      (go_wp2_with (with_reducible refine stopPut ?_); refine stopGo ?_)
      refine wpList_seen_put rfl (.tmp 44) (.tmp 45) _ rfl g4 _ _ rfl HSE.out (by unfold maxLen; omega) x rfl rfl hwv ?_
      intro w6 seen6 g6
      have hb6 : Below w.heap.size w w6 := hbw.grown g6 hbw.size (fun k hk => by cases hk; exact hw4)
      have SE6 := hide (seen6.congr HP.out)
      clear seen6 g6 HSE c0
      go_wp2_with (fail)
      exact ⟨⟨k + 1, by omega, by go_num, SE6.out, hb6⟩, by simp [intOf]; omega⟩
    · have hkm : k = m := by omega
      subst hkm
      have HSE := hide (hseen.congr (S' := a) (fun x => by rw [List.take_of_length_le (by have := HLA.out; omega)]))
      have Tr := hT.below hbw
      clear hseen
      go_wp2_with (fail)
      go_loop [49] (fun i => ∃ j : Nat, j ≤ n ∧ i = .int .i64 j ∧ Hid (∀ x ∈ b.take j, x ∉ a)) (fun i => n - (intOf i).toNat)
      case atStart => exact ⟨0, Nat.zero_le _, rfl, hide (by simp)⟩
      case round =>
        obtain ⟨j, hj, rfl, HJ⟩ := hrel
        by_cases hjl : j < n
        · have hx : j < b.length := by have := HLB.out; omega
          obtain ⟨bd, hB, hbd, _, hc⟩ := Tr.at_ (by omega)
          have c0 := hc j (.int .i64 b[j]) (ints_get hx)
          have hwv := HWB.out _ (List.getElem_mem hx)
          have HP := hide (show b[j] ∉ a → ∀ x ∈ b.take (j + 1), x ∉ a from fun h x hxm => by
            rw [List.take_succ_eq_append_getElem hx, List.mem_append, List.mem_singleton] at hxm
            rcases hxm with hxm | rfl
            · exact HJ.out x hxm
            · exact h)
          have HQ := hide (show b[j] ∈ a → comeI a b = true from fun h => by
            unfold comeI
            rw [List.any_eq_true]
            exact ⟨_, List.getElem_mem hx, by simpa using h⟩)
          clear hc
          generalize b[j] = x at *
          rw [hB]
          (go_wp2_with (with_reducible refine stopLook ?_); refine stopGo ?_)
          refine wpList_seen_look rfl (.tmp 53) (.tmp 54) rfl g4 _ _ rfl HSE.out x rfl hwv ?_
          by_cases hxa : x ∈ a
          · rw [if_pos hxa]
            have HF := hide (HQ.out hxa)
            clear hxa HQ HP
            go_wp2_with (fail)
            refine bodyPost_ret (v := .tuple #[.slice none 0 0, .int .i64 4]) (by simp [results, Try.results9, go_sem]) rfl ?_
            rw [HO1.out HF.out]
            exact ⟨none, 0, rfl, Sl.nil_ _ _ _, hbw⟩
          · rw [if_neg hxa]
            have HF := hide (HP.out hxa)
            clear hxa HQ HP
            go_wp2_with (fail)
            exact ⟨⟨j + 1, by omega, by go_num, HF⟩, by simp [intOf]; omega⟩
        · have hjn : j = n := by omega
          subst hjn
          have HF := hide (show ¬ comeI a b = true from fun h => by
            unfold comeI at h
            rw [List.any_eq_true] at h
            obtain ⟨x, hx, h⟩ := h
            have := HJ.out
            rw [List.take_of_length_le (by have := HLB.out; omega)] at this
            exact this x hx (by simpa using h))
          clear HSE HJ
          go_wp2_with (fail)
          refine (QU.out wr Sr).mono ?_
          rintro e w7 ⟨R7, d7, rfl, N7, b7⟩
          have hb7 := hbw.trans (b7.mono hbw.size)
          have T7 := Tr.below b7
          clear b7 Sr Tr
          go_wp2_with (fail)
          refine (QV.out w7 T7).mono ?_
          rintro e w8 ⟨R8, d8, rfl, N8, b8⟩
          have hb8 := hb7.trans (b8.mono hb7.size)
          have N78 := N7.below b8
          clear b8 N7 T7 hb7
          have hb9 := (hb8.alloc hb8.size (.cells #[.int .i64 u] 3)).alloc (hb8.alloc hb8.size (.cells #[.int .i64 u] 3)).size (.cells #[.slice R7 k d7, .slice R8 j d8, .slice (some ⟨w8.heap.size, 0, none⟩) 1 1] 22)
          go_wp2_with (fail)
          refine (link_call w8 X Y R7 R8 k d7 j d8 u N78 N8 (by omega) (by omega)).mono ?_
          rintro e w9 ⟨R9, d9, rfl, N9, b9⟩
          have hb10 := hb9.trans (b9.mono hb9.size)
          clear b9
          go_wp2_with (fail)
          refine bodyPost_ret (v := .tuple #[.slice R9 (k + j + 1) d9, .int .i64 0]) (by simp [results, Try.results9, go_sem]) rfl ?_
          rw [HO2.out HF.out]
          exact ⟨R9, d9, by rw [HLL.out], by rw [HLL.out, HLK.out]; exact N9, hb10⟩
end Go.Proofs.Ytbnkanhibjoleaa
