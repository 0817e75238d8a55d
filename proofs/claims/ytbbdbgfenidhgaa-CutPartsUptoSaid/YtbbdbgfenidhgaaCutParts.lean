/-
  raftsmanlaw13.CutParts walked, for sets that are not too long.
-/
import Derived.Test.YtbbdbgfenidhgaaCutNames
import Derived.Test.YtbbdbgfenidhgaaLexD
namespace Go.Proofs.Ytbbdbgfenidhgaa
open Go Go.RowKit
attribute [local go_sem] Heavy heavyUpon

theorem find_cut {n : Int} {l : List E3} (hr : rightE n l = true) (set : List Int) {e : E3} (he : e ∈ l) : (0 ≤ findI (cutR l set) e.1 e.2.1 0) ↔ cutT set e = true := by
  rw [findI_mem _ _ _ _ (Int.le_refl _)]
  have hm := rightE_mem hr he
  constructor
  · rintro ⟨x, hx, hh⟩
    unfold cutR at hx
    rw [List.mem_filter] at hx
    have hm2 := rightE_mem hr hx.1
    unfold hitE at hh
    simp only [Bool.or_eq_true, Bool.and_eq_true, beq_iff_eq] at hh
    have h1 : x.1 = e.1 ∧ x.2.1 = e.2.1 := by omega
    have h2 := hx.2
    unfold cutT at h2 ⊢
    rw [h1.1, h1.2] at h2
    exact h2
  · intro h
    exact ⟨e, by unfold cutR; rw [List.mem_filter]; exact ⟨he, h⟩, by simp [hitE]⟩
theorem mem_both {a b : List Int} (hn : (a ++ b).Nodup) (v : Int) : decide (v ∈ a ++ b) = (decide (v ∈ a) != decide (v ∈ b)) := by
  have hd := (List.nodup_append.1 hn).2.2
  by_cases h1 : v ∈ a
  · have h2 : v ∉ b := fun h => hd v h1 v h rfl
    simp [h1, h2]
  · by_cases h2 : v ∈ b
    · simp [h1, h2]
    · simp [h1, h2]
theorem cutT_both {a b : List Int} (hn : (a ++ b).Nodup) (e : E3) : cutT (a ++ b) e = (cutT a e != cutT b e) := by
  unfold cutT
  rw [mem_both hn, mem_both hn]
  cases decide (e.1 ∈ a) <;> cases decide (e.1 ∈ b) <;> cases decide (e.2.1 ∈ a) <;> cases decide (e.2.1 ∈ b) <;> rfl
theorem fits_both {n : Int} {l : List E3} {a b : List Int} : fitsE n l (a ++ b) = (fitsE n l a && fitsE n l b) := by
  unfold fitsE
  rw [List.all_append]
  cases rightE n l <;> simp

set_option maxRecDepth 100000 in
set_option maxHeartbeats 6400000 in
theorem cparts_ok (n : Int) (l : List E3) (a b : List Int) (A B D : Option Addr) (m c ma ca mb cb : Nat) (w : World) (hS : ESl w [] A m c l) (hA : Sl w [] 1 B ma ca (ints .i64 a)) (hB : Sl w [] 1 D mb cb (ints .i64 b))
    (ha : ma ≤ 1048576) (hb : mb ≤ 1048576) :
    Calls Try.prog 5 #[.int .i64 n, .slice A m c, .slice B ma ca, .slice D mb cb] w (Ret (.bool true) w) := by
  obtain ⟨ie, hie, hze, he1, he2⟩ := info_parts int_info
  have O2 := hide (own_empty w 3 1)
  have hb2 := (Below.refl w.heap.size w).alloc (Nat.le_refl _) (.cells #[] 3)
  have A2 := hA.alloc (.cells #[] 3)
  have HLA := hide (show a.length = ma by have := hA.len; simpa using this)
  have HLB := hide (show b.length = mb by have := hB.len; simpa using this)
  have HL := hide hS.length
  have qr := fun W h => rright_any l [] A n m c W h
  go_enter Try.func5, Try.ntmps5
  (go_wp2_with (at_builtin; refine stopAt ?_); refine stopGo ?_)
  refine wpList_append_sl _ rfl (.tmp 20) (.tmp 21) _ rfl w.heap.size 3 ie _ 1 8 Try.underlying23 hie hze he1 he2 rfl (by omega) _ _ _ rfl O2.out [] _ ma ca (ints .i64 a) rfl A2 ints_one (by simp only [maxLen]; omega) (by omega) (by simp) ?_
  intro A5 c5 w5 own5 g5 _
  have hg5 := below_grown O2.out g5 (Nat.le_refl _) hb2.size
  have hb5 := hb2.trans hg5
  simp only [Nat.zero_add, List.nil_append] at own5 ⊢
  have OW5 := hide own5
  clear own5 g5 hg5 O2 hb2 A2
  (go_wp2_with (at_builtin; refine stopAt ?_); refine stopGo ?_)
  refine wpList_append_sl _ rfl (.tmp 22) (.tmp 23) _ rfl w.heap.size 3 ie _ 1 8 Try.underlying23 hie hze he1 he2 rfl (by omega) _ _ _ rfl OW5.out [] _ mb cb (ints .i64 b) rfl (hB.below hb5) ints_one (by simp only [maxLen]; omega) (by omega) hb5.size ?_
  intro A6 c6 w6 own6 g6 _
  have hg6 := below_grown OW5.out g6 (Nat.le_refl _) hb5.size
  have hb6 := hb5.trans hg6
  rw [← ints_append] at own6
  have N6 := own_sl own6 [] (by simp)
  have S6 : ESl w6 [] A m c l := hS.below hb6
  have A6s := hA.below hb6
  have B6s := hB.below hb6
  clear own6 g6 hg6 OW5 hb5 hie hze he1 he2 hS hA hB
  have hsum : (((ma + mb : Nat)) : Int) = (ma : Int) + (mb : Int) := by omega
  generalize hk : ma + mb = k6 at *
  have HK6 := hide hk
  clear hk hsum
  have qd := fun W h => distinct_any (a ++ b) [] A6 k6 c6 W h
  by_cases h1 : 60 < m
  · (go_wp2_with (fail); refine (cawake_ok _).mono ?_; rintro e x ⟨rfl, bx⟩; go_wp2_with (fail); go_ret; exact ⟨rfl, (hb6).trans (bx.mono (hb6).size)⟩)
  by_cases h2 : 60 < k6
  · (go_wp2_with (fail); refine (cawake_ok _).mono ?_; rintro e x ⟨rfl, bx⟩; go_wp2_with (fail); go_ret; exact ⟨rfl, (hb6).trans (bx.mono (hb6).size)⟩)
  have h1' : m ≤ 60 := by omega
  have h2' : k6 ≤ 60 := by omega
  clear h1 h2
  by_cases h3 : 60 < n
  · (go_wp2_with (fail); refine (cawake_ok _).mono ?_; rintro e x ⟨rfl, bx⟩; go_wp2_with (fail); go_ret; exact ⟨rfl, (hb6).trans (bx.mono (hb6).size)⟩)
  have h3' : n ≤ 60 := by omega
  clear h3
  cases hr : rightE n l
  case false =>
    rw [hr] at qr
    have QRT := hide qr
    clear qr hr qd
    go_wp2_with (fail)
    refine (QRT.out w6 S6).mono ?_
    rintro e w7 ⟨rfl, b7⟩
    have hb7 := hb6.trans (b7.mono hb6.size)
    (go_wp2_with (fail); refine (cawake_ok _).mono ?_; rintro e x ⟨rfl, bx⟩; go_wp2_with (fail); go_ret; exact ⟨rfl, (hb7).trans (bx.mono (hb7).size)⟩)
  rw [hr] at qr
  have QRT := hide qr
  clear qr
  by_cases hn : (a ++ b).Nodup
  case neg =>
    rw [decide_eq_false hn] at qd
    have QD := hide qd
    clear qd hr hn
    go_wp2_with (fail)
    refine (QRT.out w6 S6).mono ?_
    rintro e w7 ⟨rfl, b7⟩
    have hb7 := hb6.trans (b7.mono hb6.size)
    go_wp2_with (fail)
    refine (QD.out w7 (N6.below b7)).mono ?_
    rintro e w8 ⟨rfl, b8⟩
    have hb8 := hb7.trans (b8.mono hb7.size)
    (go_wp2_with (fail); refine (cawake_ok _).mono ?_; rintro e x ⟨rfl, bx⟩; go_wp2_with (fail); go_ret; exact ⟨rfl, (hb8).trans (bx.mono (hb8).size)⟩)
  rw [decide_eq_true hn] at qd
  have QD := hide qd
  clear qd
  have qa := fun W h1 h2 => cut_ok l a [] [] A B n m c ma ca W h1 h2 (by omega) [] (by simp)
  have qb := fun W h1 h2 => cut_ok l b [] [] A D n m c mb cb W h1 h2 (by omega) [] (by simp)
  have qc := fun W h1 h2 => cut_ok l (a ++ b) [] [] A A6 n m c k6 c6 W h1 h2 (by omega) [] (by simp)
  cases fa : fitsE n l a
  case false =>
    have fc : fitsE n l (a ++ b) = false := by rw [fits_both, fa]; rfl
    rw [bad_e fa, bad_c fa] at qa
    rw [bad_e fc, bad_c fc] at qc
    have QA := hide qa
    have QC := hide qc
    clear qa qc fa fc
    cases fb : fitsE n l b
    case false =>
      rw [bad_e fb, bad_c fb] at qb
      have QB := hide qb
      clear qb fb hr hn
      (go_wp2_with (fail); refine (QRT.out w6 S6).mono ?_; rintro e w7 ⟨rfl, b7⟩; have S7 : ESl w7 [] A m c l := S6.below b7; have A7 := A6s.below b7; have B7 := B6s.below b7; have N7 := N6.below b7; have hb7 := hb6.trans (b7.mono hb6.size); clear b7; go_wp2_with (fail); refine (QD.out w7 N7).mono ?_; rintro e w8 ⟨rfl, b8⟩; have S8 : ESl w8 [] A m c l := S7.below b8; have A8 := A7.below b8; have B8 := B7.below b8; have N8 := N7.below b8; have hb8 := hb7.trans (b8.mono hb7.size); clear b8 S7 A7 B7 N7 hb7; go_wp2_with (fail); refine (QA.out w8 S8 A8).mono ?_; rintro e w9 ⟨R9, d9, rfl, Z9, b9⟩; have S9 : ESl w9 [] A m c l := S8.below b9; have B9 := B8.below b9; have N9 := N8.below b9; have hb9 := hb8.trans (b9.mono hb8.size); clear b9 S8 A8 B8 N8 hb8; go_wp2_with (fail); refine (QB.out w9 S9 B9).mono ?_; rintro e wa ⟨Ra, da, rfl, Za, ba⟩; have Sa : ESl wa [] A m c l := S9.below ba; have Na := N9.below ba; have Z9a := Z9.below ba; have hba := hb9.trans (ba.mono hb9.size); clear ba S9 B9 N9 Z9 hb9; go_wp2_with (fail); refine (QC.out wa Sa Na).mono ?_; rintro e wb ⟨Rb, db, rfl, Zb, bb⟩; have Sb : ESl wb [] A m c l := Sa.below bb; have Z9b := Z9a.below bb; have Zab := Za.below bb; have hbb := hba.trans (bb.mono hba.size); clear bb Sa Na Z9a Za hba)
      (go_wp2_with (fail); refine (cawake_ok _).mono ?_; rintro e x ⟨rfl, bx⟩; go_wp2_with (fail); go_ret; exact ⟨rfl, (hbb).trans (bx.mono (hbb).size)⟩)
    case true =>
      rw [out_cut fb, out_c fb] at qb
      have QB := hide qb
      clear qb fb hr hn
      (go_wp2_with (fail); refine (QRT.out w6 S6).mono ?_; rintro e w7 ⟨rfl, b7⟩; have S7 : ESl w7 [] A m c l := S6.below b7; have A7 := A6s.below b7; have B7 := B6s.below b7; have N7 := N6.below b7; have hb7 := hb6.trans (b7.mono hb6.size); clear b7; go_wp2_with (fail); refine (QD.out w7 N7).mono ?_; rintro e w8 ⟨rfl, b8⟩; have S8 : ESl w8 [] A m c l := S7.below b8; have A8 := A7.below b8; have B8 := B7.below b8; have N8 := N7.below b8; have hb8 := hb7.trans (b8.mono hb7.size); clear b8 S7 A7 B7 N7 hb7; go_wp2_with (fail); refine (QA.out w8 S8 A8).mono ?_; rintro e w9 ⟨R9, d9, rfl, Z9, b9⟩; have S9 : ESl w9 [] A m c l := S8.below b9; have B9 := B8.below b9; have N9 := N8.below b9; have hb9 := hb8.trans (b9.mono hb8.size); clear b9 S8 A8 B8 N8 hb8; go_wp2_with (fail); refine (QB.out w9 S9 B9).mono ?_; rintro e wa ⟨Ra, da, rfl, Za, ba⟩; have Sa : ESl wa [] A m c l := S9.below ba; have Na := N9.below ba; have Z9a := Z9.below ba; have hba := hb9.trans (ba.mono hb9.size); clear ba S9 B9 N9 Z9 hb9; go_wp2_with (fail); refine (QC.out wa Sa Na).mono ?_; rintro e wb ⟨Rb, db, rfl, Zb, bb⟩; have Sb : ESl wb [] A m c l := Sa.below bb; have Z9b := Z9a.below bb; have Zab := Za.below bb; have hbb := hba.trans (bb.mono hba.size); clear bb Sa Na Z9a Za hba)
      (go_wp2_with (fail); refine (cawake_ok _).mono ?_; rintro e x ⟨rfl, bx⟩; go_wp2_with (fail); go_ret; exact ⟨rfl, (hbb).trans (bx.mono (hbb).size)⟩)
  rw [out_cut fa, out_c fa] at qa
  have QA := hide qa
  clear qa
  cases fb : fitsE n l b
  case false =>
    have fc : fitsE n l (a ++ b) = false := by rw [fits_both, fa, fb]; rfl
    rw [bad_e fb, bad_c fb] at qb
    rw [bad_e fc, bad_c fc] at qc
    have QB := hide qb
    have QC := hide qc
    clear qb qc fa fb fc hr hn
    (go_wp2_with (fail); refine (QRT.out w6 S6).mono ?_; rintro e w7 ⟨rfl, b7⟩; have S7 : ESl w7 [] A m c l := S6.below b7; have A7 := A6s.below b7; have B7 := B6s.below b7; have N7 := N6.below b7; have hb7 := hb6.trans (b7.mono hb6.size); clear b7; go_wp2_with (fail); refine (QD.out w7 N7).mono ?_; rintro e w8 ⟨rfl, b8⟩; have S8 : ESl w8 [] A m c l := S7.below b8; have A8 := A7.below b8; have B8 := B7.below b8; have N8 := N7.below b8; have hb8 := hb7.trans (b8.mono hb7.size); clear b8 S7 A7 B7 N7 hb7; go_wp2_with (fail); refine (QA.out w8 S8 A8).mono ?_; rintro e w9 ⟨R9, d9, rfl, Z9, b9⟩; have S9 : ESl w9 [] A m c l := S8.below b9; have B9 := B8.below b9; have N9 := N8.below b9; have hb9 := hb8.trans (b9.mono hb8.size); clear b9 S8 A8 B8 N8 hb8; go_wp2_with (fail); refine (QB.out w9 S9 B9).mono ?_; rintro e wa ⟨Ra, da, rfl, Za, ba⟩; have Sa : ESl wa [] A m c l := S9.below ba; have Na := N9.below ba; have Z9a := Z9.below ba; have hba := hb9.trans (ba.mono hb9.size); clear ba S9 B9 N9 Z9 hb9; go_wp2_with (fail); refine (QC.out wa Sa Na).mono ?_; rintro e wb ⟨Rb, db, rfl, Zb, bb⟩; have Sb : ESl wb [] A m c l := Sa.below bb; have Z9b := Z9a.below bb; have Zab := Za.below bb; have hbb := hba.trans (bb.mono hba.size); clear bb Sa Na Z9a Za hba)
    (go_wp2_with (fail); refine (cawake_ok _).mono ?_; rintro e x ⟨rfl, bx⟩; go_wp2_with (fail); go_ret; exact ⟨rfl, (hbb).trans (bx.mono (hbb).size)⟩)
  have fc : fitsE n l (a ++ b) = true := by rw [fits_both, fa, fb]; rfl
  rw [out_cut fb, out_c fb] at qb
  rw [out_cut fc, out_c fc] at qc
  have QB := hide qb
  have QC := hide qc
  have HXY := hide (show ∀ e ∈ l, ((0 ≤ findI (cutR l a) e.1 e.2.1 0) ∧ (0 ≤ findI (cutR l b) e.1 e.2.1 0) ∧ ¬ (0 ≤ findI (cutR l (a ++ b)) e.1 e.2.1 0)) ∨ (¬ (0 ≤ findI (cutR l a) e.1 e.2.1 0) ∧ ¬ (0 ≤ findI (cutR l b) e.1 e.2.1 0) ∧ ¬ (0 ≤ findI (cutR l (a ++ b)) e.1 e.2.1 0)) ∨
      ((0 ≤ findI (cutR l a) e.1 e.2.1 0) ∧ ¬ (0 ≤ findI (cutR l b) e.1 e.2.1 0) ∧ (0 ≤ findI (cutR l (a ++ b)) e.1 e.2.1 0)) ∨ (¬ (0 ≤ findI (cutR l a) e.1 e.2.1 0) ∧ (0 ≤ findI (cutR l b) e.1 e.2.1 0) ∧ (0 ≤ findI (cutR l (a ++ b)) e.1 e.2.1 0)) from fun e he => by
    rw [find_cut hr a he, find_cut hr b he, find_cut hr (a ++ b) he, cutT_both hn]
    cases cutT a e <;> cases cutT b e <;> simp)
  clear qb qc fa fb fc hr hn
  generalize cutR l a = X at *
  generalize cutR l b = Y at *
  generalize cutR l (a ++ b) = Z at *
  (go_wp2_with (fail); refine (QRT.out w6 S6).mono ?_; rintro e w7 ⟨rfl, b7⟩; have S7 : ESl w7 [] A m c l := S6.below b7; have A7 := A6s.below b7; have B7 := B6s.below b7; have N7 := N6.below b7; have hb7 := hb6.trans (b7.mono hb6.size); clear b7; go_wp2_with (fail); refine (QD.out w7 N7).mono ?_; rintro e w8 ⟨rfl, b8⟩; have S8 : ESl w8 [] A m c l := S7.below b8; have A8 := A7.below b8; have B8 := B7.below b8; have N8 := N7.below b8; have hb8 := hb7.trans (b8.mono hb7.size); clear b8 S7 A7 B7 N7 hb7; go_wp2_with (fail); refine (QA.out w8 S8 A8).mono ?_; rintro e w9 ⟨R9, d9, rfl, Z9, b9⟩; have S9 : ESl w9 [] A m c l := S8.below b9; have B9 := B8.below b9; have N9 := N8.below b9; have hb9 := hb8.trans (b9.mono hb8.size); clear b9 S8 A8 B8 N8 hb8; go_wp2_with (fail); refine (QB.out w9 S9 B9).mono ?_; rintro e wa ⟨Ra, da, rfl, Za, ba⟩; have Sa : ESl wa [] A m c l := S9.below ba; have Na := N9.below ba; have Z9a := Z9.below ba; have hba := hb9.trans (ba.mono hb9.size); clear ba S9 B9 N9 Z9 hb9; go_wp2_with (fail); refine (QC.out wa Sa Na).mono ?_; rintro e wb ⟨Rb, db, rfl, Zb, bb⟩; have Sb : ESl wb [] A m c l := Sa.below bb; have Z9b := Z9a.below bb; have Zab := Za.below bb; have hbb := hba.trans (bb.mono hba.size); clear bb Sa Na Z9a Za hba)
  go_wp2_with (fail)
  go_loopw [83] (fun i wr => ∃ k : Nat, k ≤ m ∧ i = .int .i64 k ∧ Below wb.heap.size wb wr) (fun i _ => m - (intOf i).toNat)
  case atStart => exact ⟨0, Nat.zero_le _, rfl, Below.refl _ _⟩
  case round =>
    obtain ⟨k, hk, rfl, hbr⟩ := hrel
    by_cases hlt : k < m
    · have Sr : ESl wr [] A m c l := Sb.below hbr
      have hx : k < l.length := by have := HL.out; omega
      obtain ⟨ad, rfl, had, _, c0, c1, c2⟩ := Sr.get hx
      have hxy := HXY.out _ (List.getElem_mem hx)
      generalize l[k] = x at *
      obtain ⟨u, v, t⟩ := x
      simp only [] at c0 c1 c2 hxy
      have QX := hide (fun W h => find_any X u v [] R9 X.length d9 W h)
      have QY := hide (fun W h => find_any Y u v [] Ra Y.length da W h)
      have QZ := hide (fun W h => find_any Z u v [] Rb Z.length db W h)
      generalize findI X u v 0 = fx at *
      generalize findI Y u v 0 = fy at *
      generalize findI Z u v 0 = fz at *
      have B0 := Blk.new wr 39 #[.int .i64 u, .int .i64 v, .int .i64 t]
      have hb0 := hbr.alloc hbr.size (.cells #[.int .i64 u, .int .i64 v, .int .i64 t] 39)
      have ZX := (Z9b.below hbr).alloc (.cells #[.int .i64 u, .int .i64 v, .int .i64 t] 39)
      have ZY := (Zab.below hbr).alloc (.cells #[.int .i64 u, .int .i64 v, .int .i64 t] 39)
      have ZZ := (Zb.below hbr).alloc (.cells #[.int .i64 u, .int .i64 v, .int .i64 t] 39)
      go_wp2_with (fail)
      generalize wr.alloc (.cells #[.int .i64 u, .int .i64 v, .int .i64 t] 39) = W0 at *
      obtain ⟨x0, x1, x2⟩ := B0.facts
      rcases hxy with ⟨p1, p2, p3⟩ | ⟨p1, p2, p3⟩ | ⟨p1, p2, p3⟩ | ⟨p1, p2, p3⟩
      · have p3' : fz < 0 := by omega
        clear p3
        (go_wp2_with (fail); refine wp_region_lexD [5,12] (fun w' => Below (W0).heap.size (W0) w') (by kernel_rfl) (by kernel_rfl) (Below.refl _ _).drew ?_; (repeat ((with_reducible refine wpLex_step (fun K hK => ?_)); go_simp; first | ((with_reducible refine hK _ _ ?_); clear hK K) | ((with_reducible apply Exists.intro); refine ⟨fun w' hw' => ?_, hK _ _ ?_⟩; (· (have hq := bcells hw'; apply valEq; (· (go_simp; first | done | (with_reducible rfl))); (· ((try go_bits); with_reducible rfl)))); clear hK K))); ((with_reducible refine wpLex_step (fun K hK => ?_)); go_simp; refine (QX.out W0.drew ZX.drew).mono ?_; rintro e wd ⟨rfl, hbx⟩; have gd := ((Below.refl W0.heap.size W0).drew).trans (hbx.mono ((Below.refl W0.heap.size W0).drew).size); refine ⟨_, rfl, gd, hK _ _ ?_⟩; clear hK K hbx); (repeat ((with_reducible refine wpLex_step (fun K hK => ?_)); go_simp; first | ((with_reducible refine hK _ _ ?_); clear hK K) | ((with_reducible apply Exists.intro); refine ⟨fun w' hw' => ?_, hK _ _ ?_⟩; (· (have hq := bcells hw'; apply valEq; (· (go_simp; first | done | (with_reducible rfl))); (· ((try go_bits); with_reducible rfl)))); clear hK K))); ((with_reducible refine wpLex_step (fun K hK => ?_)); go_simp; refine (QY.out wd (ZY.below gd)).mono ?_; rintro e we ⟨rfl, hbx⟩; have ge := (gd).trans (hbx.mono (gd).size); refine ⟨_, rfl, ge, hK _ _ ?_⟩; clear hK K hbx); (repeat ((with_reducible refine wpLex_step (fun K hK => ?_)); go_simp; first | ((with_reducible refine hK _ _ ?_); clear hK K) | ((with_reducible apply Exists.intro); refine ⟨fun w' hw' => ?_, hK _ _ ?_⟩; (· (have hq := bcells hw'; apply valEq; (· (go_simp; first | done | (with_reducible rfl))); (· ((try go_bits); with_reducible rfl)))); clear hK K))); refine wpLex_nil (fun _ => ?_); have hbe := hb0.trans (ge.mono hb0.size); have B1 := B0.below ge (Blk.lt B0); obtain ⟨y0, y1, y2⟩ := B1.facts; clear x0 x1 x2 B0; go_wp2_with (fail); refine (QZ.out we (ZZ.below ge)).mono ?_; rintro e wf ⟨rfl, bf⟩; have hbf := hbe.trans (bf.mono hbe.size); go_wp2_with (fail); exact ⟨⟨k + 1, by omega, by go_num, hbf⟩, by simp [intOf]; omega⟩)
      · have p1' : fx < 0 := by omega
        have p2' : fy < 0 := by omega
        have p3' : fz < 0 := by omega
        have q1 : decide ((0 : Int) ≤ fx) = false := decide_eq_false (by omega)
        have q2 : decide ((0 : Int) ≤ fy) = false := decide_eq_false (by omega)
        have q3 : decide ((0 : Int) ≤ fz) = false := decide_eq_false (by omega)
        clear p1 p2 p3
        (go_wp2_with (fail); refine wp_region_lexD [5,12] (fun w' => Below (W0).heap.size (W0) w') (by kernel_rfl) (by kernel_rfl) (Below.refl _ _).drew ?_; (repeat ((with_reducible refine wpLex_step (fun K hK => ?_)); go_simp; first | ((with_reducible refine hK _ _ ?_); clear hK K) | ((with_reducible apply Exists.intro); refine ⟨fun w' hw' => ?_, hK _ _ ?_⟩; (· (have hq := bcells hw'; apply valEq; (· (go_simp; first | done | (with_reducible rfl))); (· ((try go_bits); with_reducible rfl)))); clear hK K))); ((with_reducible refine wpLex_step (fun K hK => ?_)); go_simp; refine (QX.out W0.drew ZX.drew).mono ?_; rintro e wd ⟨rfl, hbx⟩; have gd := ((Below.refl W0.heap.size W0).drew).trans (hbx.mono ((Below.refl W0.heap.size W0).drew).size); refine ⟨_, rfl, gd, hK _ _ ?_⟩; clear hK K hbx); (repeat ((with_reducible refine wpLex_step (fun K hK => ?_)); go_simp; first | ((with_reducible refine hK _ _ ?_); clear hK K) | ((with_reducible apply Exists.intro); refine ⟨fun w' hw' => ?_, hK _ _ ?_⟩; (· (have hq := bcells hw'; apply valEq; (· (go_simp; first | done | (with_reducible rfl))); (· ((try go_bits); with_reducible rfl)))); clear hK K))); ((with_reducible refine wpLex_step (fun K hK => ?_)); go_simp; refine (QY.out wd (ZY.below gd)).mono ?_; rintro e we ⟨rfl, hbx⟩; have ge := (gd).trans (hbx.mono (gd).size); refine ⟨_, rfl, ge, hK _ _ ?_⟩; clear hK K hbx); (repeat ((with_reducible refine wpLex_step (fun K hK => ?_)); go_simp; first | ((with_reducible refine hK _ _ ?_); clear hK K) | ((with_reducible apply Exists.intro); refine ⟨fun w' hw' => ?_, hK _ _ ?_⟩; (· (have hq := bcells hw'; apply valEq; (· (go_simp; first | done | (with_reducible rfl))); (· ((try go_bits); with_reducible rfl)))); clear hK K))); refine wpLex_nil (fun _ => ?_); have hbe := hb0.trans (ge.mono hb0.size); have B1 := B0.below ge (Blk.lt B0); obtain ⟨y0, y1, y2⟩ := B1.facts; clear x0 x1 x2 B0; go_wp2_with (fail); refine (QZ.out we (ZZ.below ge)).mono ?_; rintro e wf ⟨rfl, bf⟩; have hbf := hbe.trans (bf.mono hbe.size); go_wp2_with (fail); exact ⟨⟨k + 1, by omega, by go_num, hbf⟩, by simp [intOf]; omega⟩)
      · have p2' : fy < 0 := by omega
        clear p2
        (go_wp2_with (fail); refine wp_region_lexD [5,12] (fun w' => Below (W0).heap.size (W0) w') (by kernel_rfl) (by kernel_rfl) (Below.refl _ _).drew ?_; (repeat ((with_reducible refine wpLex_step (fun K hK => ?_)); go_simp; first | ((with_reducible refine hK _ _ ?_); clear hK K) | ((with_reducible apply Exists.intro); refine ⟨fun w' hw' => ?_, hK _ _ ?_⟩; (· (have hq := bcells hw'; apply valEq; (· (go_simp; first | done | (with_reducible rfl))); (· ((try go_bits); with_reducible rfl)))); clear hK K))); ((with_reducible refine wpLex_step (fun K hK => ?_)); go_simp; refine (QX.out W0.drew ZX.drew).mono ?_; rintro e wd ⟨rfl, hbx⟩; have gd := ((Below.refl W0.heap.size W0).drew).trans (hbx.mono ((Below.refl W0.heap.size W0).drew).size); refine ⟨_, rfl, gd, hK _ _ ?_⟩; clear hK K hbx); (repeat ((with_reducible refine wpLex_step (fun K hK => ?_)); go_simp; first | ((with_reducible refine hK _ _ ?_); clear hK K) | ((with_reducible apply Exists.intro); refine ⟨fun w' hw' => ?_, hK _ _ ?_⟩; (· (have hq := bcells hw'; apply valEq; (· (go_simp; first | done | (with_reducible rfl))); (· ((try go_bits); with_reducible rfl)))); clear hK K))); ((with_reducible refine wpLex_step (fun K hK => ?_)); go_simp; refine (QY.out wd (ZY.below gd)).mono ?_; rintro e we ⟨rfl, hbx⟩; have ge := (gd).trans (hbx.mono (gd).size); refine ⟨_, rfl, ge, hK _ _ ?_⟩; clear hK K hbx); (repeat ((with_reducible refine wpLex_step (fun K hK => ?_)); go_simp; first | ((with_reducible refine hK _ _ ?_); clear hK K) | ((with_reducible apply Exists.intro); refine ⟨fun w' hw' => ?_, hK _ _ ?_⟩; (· (have hq := bcells hw'; apply valEq; (· (go_simp; first | done | (with_reducible rfl))); (· ((try go_bits); with_reducible rfl)))); clear hK K))); refine wpLex_nil (fun _ => ?_); have hbe := hb0.trans (ge.mono hb0.size); have B1 := B0.below ge (Blk.lt B0); obtain ⟨y0, y1, y2⟩ := B1.facts; clear x0 x1 x2 B0; go_wp2_with (fail); refine (QZ.out we (ZZ.below ge)).mono ?_; rintro e wf ⟨rfl, bf⟩; have hbf := hbe.trans (bf.mono hbe.size); go_wp2_with (fail); exact ⟨⟨k + 1, by omega, by go_num, hbf⟩, by simp [intOf]; omega⟩)
      · have p1' : fx < 0 := by omega
        clear p1
        (go_wp2_with (fail); refine wp_region_lexD [5,12] (fun w' => Below (W0).heap.size (W0) w') (by kernel_rfl) (by kernel_rfl) (Below.refl _ _).drew ?_; (repeat ((with_reducible refine wpLex_step (fun K hK => ?_)); go_simp; first | ((with_reducible refine hK _ _ ?_); clear hK K) | ((with_reducible apply Exists.intro); refine ⟨fun w' hw' => ?_, hK _ _ ?_⟩; (· (have hq := bcells hw'; apply valEq; (· (go_simp; first | done | (with_reducible rfl))); (· ((try go_bits); with_reducible rfl)))); clear hK K))); ((with_reducible refine wpLex_step (fun K hK => ?_)); go_simp; refine (QX.out W0.drew ZX.drew).mono ?_; rintro e wd ⟨rfl, hbx⟩; have gd := ((Below.refl W0.heap.size W0).drew).trans (hbx.mono ((Below.refl W0.heap.size W0).drew).size); refine ⟨_, rfl, gd, hK _ _ ?_⟩; clear hK K hbx); (repeat ((with_reducible refine wpLex_step (fun K hK => ?_)); go_simp; first | ((with_reducible refine hK _ _ ?_); clear hK K) | ((with_reducible apply Exists.intro); refine ⟨fun w' hw' => ?_, hK _ _ ?_⟩; (· (have hq := bcells hw'; apply valEq; (· (go_simp; first | done | (with_reducible rfl))); (· ((try go_bits); with_reducible rfl)))); clear hK K))); ((with_reducible refine wpLex_step (fun K hK => ?_)); go_simp; refine (QY.out wd (ZY.below gd)).mono ?_; rintro e we ⟨rfl, hbx⟩; have ge := (gd).trans (hbx.mono (gd).size); refine ⟨_, rfl, ge, hK _ _ ?_⟩; clear hK K hbx); (repeat ((with_reducible refine wpLex_step (fun K hK => ?_)); go_simp; first | ((with_reducible refine hK _ _ ?_); clear hK K) | ((with_reducible apply Exists.intro); refine ⟨fun w' hw' => ?_, hK _ _ ?_⟩; (· (have hq := bcells hw'; apply valEq; (· (go_simp; first | done | (with_reducible rfl))); (· ((try go_bits); with_reducible rfl)))); clear hK K))); refine wpLex_nil (fun _ => ?_); have hbe := hb0.trans (ge.mono hb0.size); have B1 := B0.below ge (Blk.lt B0); obtain ⟨y0, y1, y2⟩ := B1.facts; clear x0 x1 x2 B0; go_wp2_with (fail); refine (QZ.out we (ZZ.below ge)).mono ?_; rintro e wf ⟨rfl, bf⟩; have hbf := hbe.trans (bf.mono hbe.size); go_wp2_with (fail); exact ⟨⟨k + 1, by omega, by go_num, hbf⟩, by simp [intOf]; omega⟩)
    · have hbf := hbb.trans (hbr.mono hbb.size)
      (go_wp2_with (fail); refine (cawake_ok _).mono ?_; rintro e x ⟨rfl, bx⟩; go_wp2_with (fail); go_ret; exact ⟨rfl, (hbf).trans (bx.mono (hbf).size)⟩)
end Go.Proofs.Ytbbdbgfenidhgaa
