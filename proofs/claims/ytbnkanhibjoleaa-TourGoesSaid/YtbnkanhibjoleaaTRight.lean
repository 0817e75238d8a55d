/-
  tour.Right walked.
-/
import Derived.Test.YtbnkanhibjoleaaSeen
import Derived.Test.YtbnkanhibjoleaaSlcI
import Derived.Test.YtbnkanhibjoleaaTour
namespace Go.Proofs.Ytbnkanhibjoleaa
open Go Go.RowKit
attribute [local go_sem] Heavy heavyUpon
attribute [local go_sem ↓] isl_hi isl_lo

theorem i1_new (w : World) (v : Int) : Sl (w.alloc (.cells #[.int .i64 v] 3)) [] 1 (some ⟨w.heap.size, 0, none⟩) 1 1 (ints .i64 [v]) :=
  Sl.of_blk (Blk.new w 3 #[.int .i64 v]) rfl (fun x hx => by match x, hx with | 0, _ => rfl) (by simp) (by unfold maxLen; omega)
theorem own_one (w : World) (v : Int) : (w.alloc (.cells #[.int .i64 v] 3)).ownsRow w.heap.size 3 1 (.slice (some ⟨w.heap.size, 0, none⟩) 1 1) 1 (ints .i64 [v]) :=
  ⟨rfl, .inr ⟨w.heap.size, 1, #[.int .i64 v], rfl, Nat.le_refl _, heap_alloc_new w _, Nat.le_refl _, by unfold maxLen; omega, rfl, rfl⟩⟩
theorem own_base {w : World} {b b' : Nat} {e : TypeId} {size : Nat} {v : Value} {n : Nat} {xs : List Value} (h : w.ownsRow b e size v n xs) (hb : b' ≤ b) : w.ownsRow b' e size v n xs := by
  obtain ⟨h1, h2⟩ := h
  refine ⟨h1, ?_⟩
  rcases h2 with h2 | ⟨g, cap, cur, a, h3, r⟩
  · exact .inl h2
  · exact .inr ⟨g, cap, cur, a, Nat.le_trans hb h3, r⟩
theorem own_cut {w : World} {b : Nat} {e : TypeId} {A : Option Addr} {n c k : Nat} {xs : List Value} (h : w.ownsRow b e 1 (.slice A n c) n xs) (hk : k ≤ n) : w.ownsRow b e 1 (.slice A k c) k (xs.take k) := by
  obtain ⟨h1, h2⟩ := h
  refine ⟨by rw [List.length_take]; omega, ?_⟩
  rcases h2 with ⟨hv, hn⟩ | ⟨g, cap, cur, a, h3, h4, h5, h6, h7, h8⟩
  · injection hv with a1 a2 a3
    exact .inl ⟨by subst a1 a3; rw [show k = 0 by omega], by omega⟩
  · injection a with a1 a2 a3
    subst a1 a3
    refine .inr ⟨g, c, cur, rfl, h3, h4, by omega, h6, h7, ?_⟩
    rw [← h8, List.take_take]
    congr 1
    omega
theorem own_ne {w : World} {b : Nat} {e : TypeId} {size : Nat} {v : Value} {n : Nat} {xs : List Value} (h : w.ownsRow (b + 1) e size v n xs) : some b ≠ v.ownBlock := fun he => by have := (h.lt b he.symm).1; omega
theorem Seen.mono {w : World} {b n n' : Nat} {S : List Int} (h : Seen w b n S) (hn : n ≤ n') : Seen w b n' S := by
  obtain ⟨D, h1, h2, h3⟩ := h
  exact ⟨D, h1, h2.mono hn, h3⟩

set_option maxRecDepth 100000 in
set_option maxHeartbeats 3200000 in
theorem isT_any (l : List Int) (hwf : ∀ x ∈ l, (Lit.int .i64 x).wf = true) (A : Option Addr) (m c : Nat) (w : World) (hS : Sl w [] 1 A m c (ints .i64 l)) (hm : m ≤ 4096) :
    Calls Try.prog 15 #[.slice A m c] w (Ret (.bool (isT l)) w) := by
  have HL := hide (show l.length = m by have := hS.len; simpa using this)
  obtain ⟨ie, hie, hze, he1, he2⟩ := info_parts int_info
  have hmk := @run_makeMap Try.prog
  match l, hwf, hS, HL with
  | [], hwf, hS, HL =>
    obtain rfl : m = 0 := HL.out.symm
    go_enter Try.func15, Try.ntmps15
    go_wp2_with (fail)
    go_ret
    exact ⟨rfl, Below.refl _ _⟩
  | r :: s, hwf, hS, HL =>
    have hlen : s.length + 1 = m := HL.out
    have hm0 : 0 < m := by omega
    have hm1 : ((m : Int) == 0) = false := by simp; omega
    have hm2 : (1 : Int) ≤ (m : Int) := by omega
    obtain ⟨ad, rfl, had, _, hc⟩ := hS.at_ hm0
    have c0 := hc 0 (.int .i64 r) rfl
    have hwr := hwf r List.mem_cons_self
    have HWF := hide (fun x (hx : x ∈ s) => hwf x (List.mem_cons_of_mem _ hx))
    have HC := hide hc
    clear hc
    have b0 := (Below.refl w.heap.size w).alloc (Nat.le_refl _) (.map #[] 0)
    have cc0 : (w.alloc (.map #[] 0)).cell? (ad.add 0) = some (.int .i64 r) := (World.cell?_of_block (Below.heap_alloc w _ _ (by rw [block_of_add]; exact had))).trans c0
    rw [add_zero_] at cc0 c0
    go_enter Try.func15, Try.ntmps15
    (go_wp2_with (with_reducible refine stopInsert ?_); refine stopGo ?_)
    refine wpList_seen_insert rfl (.tmp 10) (.tmp 13) _ rfl w.heap.size 0 [] rfl (Seen.made w) (by unfold maxLen; omega) r rfl rfl hwr ?_
    intro w1 seen1 g1
    have b1 : Below w.heap.size w w1 := b0.grown g1 b0.size (fun k hk => by cases hk; exact Nat.le_refl _)
    have cc1 := (bcells b1 ad (by exact had)).trans c0
    clear g1 b0
    have b2 := b1.alloc b1.size (.cells #[.int .i64 r] 3)
    have own2 := own_base (own_one w1 r) (show w.heap.size + 1 ≤ w1.heap.size from Seen.lt seen1)
    have seen2 := seen1.alloc (.cells #[.int .i64 r] 3)
    have HT := hide (isT_cons r s)
    have hcut : Sl w [] 1 (cutA (some ad) c 1 1) (m - 1) (c - 1) (ints .i64 s) := by have := q_tail (k := 1) hS (by omega); simpa using this
    go_wp2_with (fail)
    clear cc0 cc1 c0 seen1
    go_loopw [4, 22] (fun a i wr => ∃ (k : Nat) (Ao : Option Addr) (co : Nat) (st : List Int), k ≤ m - 1 ∧ i = .int .i64 k ∧ a = .slice Ao st.length co ∧ Below w.heap.size w wr ∧ Seen wr w.heap.size (k + 1) ((s.take k).reverse ++ [r]) ∧
        wr.ownsRow (w.heap.size + 1) 3 1 (.slice Ao st.length co) st.length (ints .i64 st.reverse) ∧ st.length ≤ k + 1 ∧ Hid (st ≠ [] ∧ run ((s.take k).reverse ++ [r]) st (s.drop k) = run [r] [r] s)) (fun _ i _ => m - 1 - (intOf i).toNat)
    case atStart => exact ⟨0, some ⟨w1.heap.size, 0, none⟩, 1, [r], Nat.zero_le _, rfl, rfl, b2, seen2, own2, Nat.le_refl _, hide ⟨by simp, rfl⟩⟩
    case round =>
      obtain ⟨k, Ao, co, st, hk, rfl, rfl, hbr, hseen, hown, hstl, HR⟩ := hrel
      by_cases hlt : k < m - 1
      · have hx : k < s.length := by omega
        obtain ⟨sd, hA, hsd, _, hc⟩ := (hcut.below hbr).at_ (by omega)
        have c0 := hc k (.int .i64 s[k]) (ints_get hx)
        have hwv := HWF.out _ (List.getElem_mem hx)
        have HP := hide (show (s.take (k + 1)).reverse ++ [r] = s[k] :: ((s.take k).reverse ++ [r]) by rw [List.take_succ_eq_append_getElem hx, List.reverse_append]; rfl)
        have HD := hide (show s.drop k = s[k] :: s.drop (k + 1) from List.drop_eq_getElem_cons hx)
        have HK := hide (Seen.lt hseen)
        clear hc
        generalize s[k] = v at *
        rw [hA]
        have HOW := hide hown
        have HSE := hide hseen
        clear hown hseen hA
        (go_wp2_with (with_reducible refine stopLook ?_); refine stopGo ?_)
        refine wpList_seen_look rfl (.tmp 26) (.tmp 27) rfl w.heap.size _ _ rfl HSE.out v rfl hwv ?_
        by_cases hv : v ∈ (s.take k).reverse ++ [r]
        · rw [if_pos hv]
          have HSE2 := hide (show Seen wr w.heap.size (k + 1 + 1) ((s.take (k + 1)).reverse ++ [r]) from (HSE.out.mono (by omega)).congr (fun x => by rw [HP.out, List.mem_cons]; constructor; exact .inr; rintro (h | h); exact h ▸ hv; exact h))
          have HV := hide hv
          clear hv HSE
          have hsh : (∃ x, st = [x]) ∨ ∃ a b q, st = a :: b :: q := by
            match st, HR.out.1 with
            | [], h => exact absurd rfl h
            | [x], _ => exact .inl ⟨x, rfl⟩
            | a :: b :: q, _ => exact .inr ⟨a, b, q, rfl⟩
          obtain ⟨n, hn⟩ : ∃ n, st.length = n := ⟨_, rfl⟩
          rw [hn] at HOW hstl ⊢
          rcases hsh with ⟨x, rfl⟩ | ⟨a, b, q, rfl⟩
          · have HF := hide (show endOne (run [r] [r] s) = false by
              rw [← HR.out.2, HD.out, run_cons, step1, if_pos HV.out]; rfl)
            have hn1 : n < 2 := by simp at hn; omega
            clear hn
            go_wp2_with (fail)
            go_ret
            exact ⟨congrArg (fun x => Ending.returned (.bool x)) (HT.out.trans HF.out).symm, hbr⟩
          · have hn2 : n = q.length + 2 := by simp at hn; omega
            have HN := hide hn2
            have hn3 : 2 ≤ n := by omega
            obtain ⟨pd, hpA, hpd, _, hpc⟩ := (own_sl HOW.out [] (by simp)).at_ (by omega)
            subst hpA
            have p0 := hpc (n - 2) (.int .i64 b) (by
              have e : (a :: b :: q).reverse = q.reverse ++ [b, a] := by simp
              have h2 : n - 2 < ((a :: b :: q).reverse).length := by rw [List.length_reverse, hn]; omega
              rw [ints_get h2]
              congr 2
              simp only [e]
              rw [List.getElem_append_right (by rw [List.length_reverse]; omega)]
              simp [hn2])
            clear hpc hn hn2
            have i0 : (0 : Int) ≤ (n : Int) - 2 := by omega
            have i1 : (n : Int) - 2 < (n : Int) := by omega
            have i2 : ((n : Int) - 2).toNat = n - 2 := by omega
            have i3 : (2 : Int) ≤ (n : Int) := by omega
            have i4 : ((n : Int) - 1).toNat = n - 1 := by omega
            have i5 : (0 : Int) ≤ (n : Int) - 1 := by omega
            have i6 : (1 : Int) ≤ (n : Int) := by omega
            have hnc : n ≤ co := (own_sl HOW.out [] (by simp)).le
            have i7 : (n : Int) - 1 ≤ (co : Int) := by omega
            by_cases hbv : b = v
            · have HF := hide (show run ((s.take (k + 1)).reverse ++ [r]) (b :: q) (s.drop (k + 1)) = run [r] [r] s by
                subst hbv
                rw [← HR.out.2, HD.out, run_back HV.out, HP.out])
              have OW2 := hide (show wr.ownsRow (w.heap.size + 1) 3 1 (.slice (some pd) (b :: q).length co) (b :: q).length (ints .i64 (b :: q).reverse) by
                have h := own_cut HOW.out (k := n - 1) (by omega)
                have e1 : (b :: q).length = n - 1 := by have := HN.out; simp; omega
                have e2 : (ints .i64 (a :: b :: q).reverse).take (n - 1) = ints .i64 (b :: q).reverse := by
                  rw [show (a :: b :: q).reverse = (b :: q).reverse ++ [a] by simp, ints_append, List.take_append_of_le_length (by rw [length_ints, List.length_reverse, e1]; omega), List.take_of_length_le (by rw [length_ints, List.length_reverse, e1]; omega)]
                rw [e1]; rw [e2] at h; exact h)
              have HSL := hide (show n - 1 = (b :: q).length by have := HN.out; simp; omega)
              have d1 : (b != v) = false := by simp [hbv]
              have d2 : (b == v) = true := by simp [hbv]
              clear hbv HOW
              go_wp2_with (fail)
              exact ⟨⟨k + 1, some pd, co, b :: q, by omega, by go_num, by rw [HSL.out], hbr, HSE2.out, OW2.out, by rw [← HSL.out]; omega, hide ⟨by simp, HF.out⟩⟩, by simp [intOf]; omega⟩
            · have HF := hide (show endOne (run [r] [r] s) = false by
                rw [← HR.out.2, HD.out, run_cons, step1, if_pos HV.out]
                simp [popTo, hbv, endOne])
              have d1 : (b != v) = true := by simp [hbv]
              have d2 : (b == v) = false := by simp [hbv]
              clear hbv
              go_wp2_with (fail)
              go_ret
              exact ⟨congrArg (fun x => Ending.returned (.bool x)) (HT.out.trans HF.out).symm, hbr⟩
        · rw [if_neg hv]
          have HV := hide hv
          have HF := hide (show run ((s.take (k + 1)).reverse ++ [r]) (v :: st) (s.drop (k + 1)) = run [r] [r] s by
            rw [← HR.out.2, HD.out, run_new HV.out, HP.out])
          clear hv
          have HNE := hide (own_ne HOW.out)
          have HRV := hide (show ∃ A c, (Value.slice Ao st.length co) = .slice A st.length c from ⟨_, _, rfl⟩)
          have hwz := hbr.size
          generalize Value.slice Ao st.length co = RV at *
          (go_wp2_with (with_reducible refine stopPut ?_); refine stopGo ?_)
          refine wpList_seen_put rfl (.tmp 30) (.tmp 31) _ rfl w.heap.size _ _ rfl HSE.out (by unfold maxLen; omega) v rfl rfl hwv ?_
          intro w3 seen3 g3
          have hb3 : Below w.heap.size w w3 := hbr.grown g3 hbr.size (fun k hk => by cases hk; exact Nat.le_refl _)
          have own3 := World.ownsRow.kept HOW.out g3 (.inr (fun e => HNE.out e.symm))
          rw [← HP.out] at seen3
          have SE3 := hide seen3
          have OW3 := hide own3
          have hk3 := Seen.lt seen3
          clear seen3 own3 g3 HOW HSE c0
          ((go_wp2_with (at_builtin; refine stopAt ?_); refine stopGo ?_); have N2 : Sl ((w3).alloc (.cells #[.int .i64 v] 3)) [] 1 (some ⟨(w3).heap.size, 0, none⟩) 1 1 (ints .i64 [v]) := i1_new (w3) v; have O2 := (OW3.out).alloc (.cells #[.int .i64 v] 3); have hb2 := (hb3).alloc (hb3).size (.cells #[.int .i64 v] 3); have szl := hb2.size; (try rw [heap_alloc_size] at N2); refine wpList_append_sl _ rfl (.tmp 32) (.tmp 34) _ rfl (w.heap.size + 1) 3 ie _ 1 8 Try.underlying22 hie hze he1 he2 rfl (by omega) RV _ _ rfl O2 [] _ 1 1 (ints .i64 [v]) rfl N2 ints_one (by simp only [maxLen]; omega) (by omega) (by first | omega | (simp; done) | (simp; omega)) ?_; intro A5 c5 w5 own5 g5 _; rw [← ints_append] at own5)
          have SE5 := hide ((SE3.out.alloc (.cells #[.int .i64 v] 3)).grown g5 HNE.out)
          have hg5 := below_grown O2 g5 (Nat.le_succ w.heap.size) (by first | omega | (simp; omega))
          have hb5 := hb2.trans hg5
          have e1 : ints .i64 (st.reverse ++ [v]) = ints .i64 (v :: st).reverse := by rw [List.reverse_cons]
          rw [e1] at own5
          have OW5 := hide own5
          clear own5 g5 hg5 O2 N2 e1
          go_wp2_with (fail)
          exact ⟨⟨k + 1, A5, c5, v :: st, by omega, by go_num, rfl, hb5, SE5.out, OW5.out, by simp; omega, hide ⟨by simp, HF.out⟩⟩, by simp [intOf]; omega⟩
      · have HF := hide (show run [r] [r] s = some st by
          have := HR.out.2
          rw [List.drop_eq_nil_of_le (by omega), run_nil] at this
          exact this.symm)
        clear hown hseen
        go_wp2_with (fail)
        go_ret
        exact ⟨congrArg (fun x => Ending.returned (.bool x)) (show ((st.length : Int) == 1) = isT (r :: s) by rw [HT.out, HF.out]; show ((st.length : Int) == 1) = (st.length == 1); rw [Bool.eq_iff_iff, beq_iff_eq, beq_iff_eq]; omega), hbr⟩
end Go.Proofs.Ytbnkanhibjoleaa
