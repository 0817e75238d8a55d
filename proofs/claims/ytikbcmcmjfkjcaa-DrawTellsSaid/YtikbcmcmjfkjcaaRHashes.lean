/-
  raftsmanref02.Hashes walked.
-/
import Derived.Test.YtikbcmcmjfkjcaaHashes
import Derived.Test.YtikbcmcmjfkjcaaApp
namespace Go.Proofs.Ytikbcmcmjfkjcaa
open Go Go.RowKit
attribute [local go_sem] Heavy heavyUpon

theorem u64_info2 : (Try.prog.info? 27).map (fun i => (i.zero, i.size, i.bytes)) = some (some (.int .u64 0), 1, 8) := by kernel_rfl
theorem hcells_one2 {l : List (Int × Int)} : ∀ u ∈ hcells l, u.oneCell' = true := by
  intro u hu
  simp only [hcells, List.mem_flatMap, hcell, List.mem_cons, List.not_mem_nil, or_false] at hu
  obtain ⟨x, _, rfl | rfl⟩ := hu <;> rfl

set_option maxHeartbeats 1600000 in
theorem rhashes_ok (xs : List Int) (M : List Nat) (A : Option Addr) (n c : Nat) (at_ m : Nat) (w : World) (h : at_ ≤ n) (hm : m ≤ 128) (hS : Sl w M 1 A n c (ints .u64 xs)) (hW : ∀ x ∈ xs, 0 ≤ x ∧ x < 18446744073709551616) (hM : ∀ b ∈ M, b < w.heap.size) :
    Calls Try.prog 12 #[.agg #[.slice A n c, .int .i64 at_], .int .i64 m] w fun e w' => Below w.heap.size w w' ∧
      (∀ hs k, drawH xs m at_ = some (hs, k) → ∃ B d, e = .returned (.tuple #[.slice B m d, .agg #[.slice A n c, .int .i64 k], .int .i64 0]) ∧ Sl w' M 2 B m d (hcells hs)) ∧
      (drawH xs m at_ = none → e = .returned (.tuple #[.slice none 0 0, .agg #[.slice A n c, .int .i64 at_], .int .i64 5])) := by
  obtain ⟨iu, hiu, hzu, hu1, hu2⟩ := info_parts u64_info2
  obtain ⟨ih, hih, hzh, hh1, hh2⟩ := info_parts hash_info
  have HD := hide (show decide (0 ≤ (at_ : Int) ∧ (at_ : Int) ≤ n) = true by simp; omega)
  have HM := hide hM
  have HW := hide hW
  clear hM hW
  go_enter Try.func12, Try.ntmps12
  go_wp2_with (go_at_call 16; refine (refright_any A n c at_ _).mono ?_; rw [HD.out]; rintro e w1 ⟨rfl, hb⟩; obtain ⟨B0, B1, hz, hbb⟩ := two_new hb; clear hb; obtain ⟨b0, f0, l0⟩ := B0.facts; obtain ⟨b1, f1, l1⟩ := B1.facts)
  have G := hide (And.intro B0 B1)
  clear B0 B1
  go_loopw [7] (fun v wr => ∃ (acc : List Int) (k : Nat) (Av : Option Addr) (cv : Nat), acc.length ≤ 2 * m ∧ k ≤ n ∧ v = .slice Av acc.length cv ∧ Below w.heap.size w wr ∧ Blk wr w.heap.size 26 #[.slice A n c, .int .i64 at_] ∧ Blk wr (w.heap.size + 1) 26 #[.slice none 0 0, .int .i64 0]
      ∧ Blk wr w1.heap.size 26 #[.slice A n c, .int .i64 k] ∧ wr.ownsRow (w1.heap.size + 1) 27 1 (.slice Av acc.length cv) acc.length (ints .u64 acc) ∧ Hid (joinN acc (drawN xs (2 * m - acc.length) k) = drawN xs (2 * m) at_)) (fun v _ => 2 * m - (match v with | .slice _ l _ => l | _ => 0))
  case atStart =>
    refine ⟨[], at_, none, 0, Nat.zero_le _, h, rfl, by (repeat (first | (with_reducible exact hbb) | (with_reducible refine Below.drew ?_) | ((with_reducible refine Below.setCell ?_ ?hside _); (case hside => first | omega | (simp; done) | (simp; omega))) | ((with_reducible refine Below.alloc ?_ ?hside _); (case hside => first | omega | (simp; done) | (simp; omega))))), by (repeat (first | (with_reducible exact G.out.1) | (with_reducible refine Blk.drew ?_) | (with_reducible refine Blk.alloc ?_ _) | (with_reducible apply Blk.set2) | (with_reducible apply Blk.set3) | ((with_reducible refine Blk.far ?_ ?hside _); (case hside => first | omega | (simp; done) | (simp; omega))) | (with_reducible refine Blk.set_ ?_ _ _))), by (repeat (first | (with_reducible exact G.out.2) | (with_reducible refine Blk.drew ?_) | (with_reducible refine Blk.alloc ?_ _) | (with_reducible apply Blk.set2) | (with_reducible apply Blk.set3) | ((with_reducible refine Blk.far ?_ ?hside _); (case hside => first | omega | (simp; done) | (simp; omega))) | (with_reducible refine Blk.set_ ?_ _ _))), Blk.new _ _ _, World.ownsRow_nil _ _ _ _, hide (joinN_nil _)⟩
  case round =>
    obtain ⟨acc, k, Av, cv, hacc, hk, rfl, hbr, R0, R1, R2, hown, HR⟩ := hrel
    obtain ⟨r0, e0, s0⟩ := R0.facts
    obtain ⟨r1, e1, s1⟩ := R1.facts
    obtain ⟨r2, e2, s2⟩ := R2.facts
    have hSr := hS.below hbr
    have hOwn := hide hown
    clear hown
    by_cases hlt : acc.length < 2 * m
    · cases hq : scan (xs.drop k) k
      case none =>
        have HF := hide (drawB_none hq)
        have HN := hide (show drawN xs (2 * m) at_ = none by rw [← HR.out, show 2 * m - acc.length = (2 * m - acc.length - 1) + 1 by omega, drawN_dry hq]; rfl)
        clear hq
        go_wp2_with (fail)
        refine (refbelow_ok xs M A n c k _ hk hSr HW.out).mono ?_
        rw [HF.out]; rintro e w2 ⟨rfl, hb2⟩; have Q0 := R0.below hb2 s0; have Q1 := R1.below hb2 s1; obtain ⟨q0, p0, t0⟩ := Q0.facts; obtain ⟨q1, p1, t1⟩ := Q1.facts; have hb2' := hbr.trans (hb2.mono hbr.size)
        go_wp2_with (fail)
        refine wp_region_lex [3] (fun w' => ∀ o, w'.cell? ⟨w.heap.size, o, none⟩ = (w2).cell? ⟨w.heap.size, o, none⟩) (by kernel_rfl) (by kernel_rfl) (by intro o; first | rfl | go_simp) ?_
        ((repeat (refine wpLex_step (fun K hK => ?_); go_simp; apply Exists.intro; refine ⟨fun w' hw' => ?_, hK _ _ ?_⟩; (· (apply valEq; (· (go_simp; first | done | rfl)); (· ((try go_bits); rfl)))); clear hK K)); (refine wpLex_step (fun K hK => ?_); go_simp; first | (refine hK _ _ ?_; clear hK K) | (refine ⟨?_, hK _ _ ?_⟩; (· (intro o; go_simp)); clear hK K)); (repeat (refine wpLex_step (fun K hK => ?_); go_simp; apply Exists.intro; refine ⟨fun w' hw' => ?_, hK _ _ ?_⟩; (· (apply valEq; (· (go_simp; first | done | rfl)); (· ((try go_bits); rfl)))); clear hK K)); refine wpLex_nil (fun hw => ?_); go_wp2)
        refine bodyPost_ret (v := .tuple #[.slice none 0 0, .agg #[.slice A n c, .int .i64 at_], .int .i64 5]) (by simp [results, Try.results12, go_sem, q1, t1]) rfl ⟨?_, ?_, fun _ => rfl⟩
        · (repeat (first | (with_reducible exact hb2') | (with_reducible refine Below.drew ?_) | ((with_reducible refine Below.setCell ?_ ?hside _); (case hside => first | omega | (simp; done) | (simp; omega))) | ((with_reducible refine Below.alloc ?_ ?hside _); (case hside => first | omega | (simp; done) | (simp; omega)))))
        · intro hs k' h'; rw [drawH_pairs, HN.out] at h'; cases h'
      case some p =>
        obtain ⟨a, k1⟩ := p
        have hk1 := scan_drop_le (by have := hS.len; simp at this; omega) hq
        have hkn : k1 ≤ n := by have := hS.len; simp at this; omega
        have HF := hide (drawB_some hq)
        have HJ := hide (show joinN (acc ++ [a]) (drawN xs (2 * m - (acc.length + 1)) k1) = drawN xs (2 * m) at_ by
          rw [← HR.out, show 2 * m - acc.length = (2 * m - (acc.length + 1)) + 1 by omega, drawN_step hq])
        clear hq hk1
        go_wp2_with (fail)
        refine (refbelow_ok xs M A n c k _ hk hSr HW.out).mono ?_
        rw [HF.out]; rintro e w2 ⟨rfl, hb2⟩
        have Q0 := (R0.below hb2 s0).alloc (.cells #[.slice A n c, .int .i64 k1] 26)
        have Q1 := (R1.below hb2 s1).alloc (.cells #[.slice A n c, .int .i64 k1] 26)
        have Q2 := (R2.below hb2 s2).alloc (.cells #[.slice A n c, .int .i64 k1] 26)
        have Q3 := Blk.new w2 26 #[.slice A n c, .int .i64 k1]
        have hb2' := hbr.trans (hb2.mono hbr.size)
        have hb3 := hb2'.alloc hb2'.size (.cells #[.slice A n c, .int .i64 k1] 26)
        have O2 := (hOwn.out.kept (w' := w2) (row := none) ⟨hb2.os, hb2.tape, hb2.output, hb2.size, fun k hk _ => hb2.block k hk⟩ (by cases (Value.slice Av acc.length cv).ownBlock <;> simp)).alloc (.cells #[.slice A n c, .int .i64 k1] 26)
        have s2' := hb2.size
        clear hb2 hb2'
        (go_wp2_with (at_builtin; refine stopAt ?_); refine stopGo ?_)
        have hz2 := heap_alloc_size w2 (.cells #[.slice A n c, .int .i64 k1] 26)
        generalize w2.alloc (.cells #[.slice A n c, .int .i64 k1] 26) = W2 at *
        have HZ := hide hz2
        have N2 : Sl (W2.alloc (.cells #[.int .u64 a] 27)) [] 1 (some ⟨w2.heap.size + 1, 0, none⟩) 1 1 (ints .u64 [a]) := by
          rw [← hz2]
          exact Sl.of_blk (Blk.new W2 27 #[.int .u64 a]) rfl (fun x hx => by match x, hx with | 0, _ => rfl) (by simp) (by unfold maxLen; omega)
        clear hz2
        refine wpList_append_sl _ rfl (.tmp 42) (.tmp 44) _ rfl (w1.heap.size + 1) 27 iu _ 1 8 Try.underlying22 hiu hzu hu1 hu2 rfl (by omega) (.slice Av acc.length cv) acc.length _ rfl (O2.alloc _) [] _ 1 1 (ints .u64 [a]) rfl N2 ints_one (by simp only [maxLen]; omega) (by omega) (by rw [heap_alloc_size, HZ.out]; omega) ?_
        intro A4 c4 w4 own4 g4 _
        rw [← ints_append] at own4
        have hg4 := below_grown (O2.alloc (.cells #[.int .u64 a] 27)) g4 (Nat.le_refl _) (by rw [heap_alloc_size, HZ.out]; omega)
        have P0 := (Q0.alloc (.cells #[.int .u64 a] 27)).below hg4 (by omega)
        have P1 := (Q1.alloc (.cells #[.int .u64 a] 27)).below hg4 (by omega)
        have P2 := (Q2.alloc (.cells #[.int .u64 a] 27)).below hg4 (by omega)
        have P3 := (Q3.alloc (.cells #[.int .u64 a] 27)).grown g4 (fun e => by have := (hOwn.out.lt _ e.symm).2; omega)
        have hb4 := (hb3.alloc hb3.size (.cells #[.int .u64 a] 27)).trans (hg4.mono (by omega))
        obtain ⟨y0, z0, t0⟩ := P0.facts
        obtain ⟨y2, z2, t2⟩ := P2.facts
        obtain ⟨y3, z3, t3⟩ := P3.facts
        have hne : w1.heap.size ≠ w2.heap.size := by omega
        have OW := hide own4
        clear g4 N2 hg4 own4 O2
        go_wp2_with (fail)
        refine ⟨⟨acc ++ [a], k1, A4, c4, by simp; omega, hkn, by simp, by (repeat (first | (with_reducible exact hb4) | (with_reducible refine Below.drew ?_) | ((with_reducible refine Below.setCell ?_ ?hside _); (case hside => first | omega | (simp; done) | (simp; omega))) | ((with_reducible refine Below.alloc ?_ ?hside _); (case hside => first | omega | (simp; done) | (simp; omega))))), by (repeat (first | (with_reducible exact P0) | (with_reducible refine Blk.drew ?_) | (with_reducible refine Blk.alloc ?_ _) | (with_reducible apply Blk.set2) | (with_reducible apply Blk.set3) | ((with_reducible refine Blk.far ?_ ?hside _); (case hside => first | omega | (simp; done) | (simp; omega))) | (with_reducible refine Blk.set_ ?_ _ _))), by (repeat (first | (with_reducible exact P1) | (with_reducible refine Blk.drew ?_) | (with_reducible refine Blk.alloc ?_ _) | (with_reducible apply Blk.set2) | (with_reducible apply Blk.set3) | ((with_reducible refine Blk.far ?_ ?hside _); (case hside => first | omega | (simp; done) | (simp; omega))) | (with_reducible refine Blk.set_ ?_ _ _))), by (repeat (first | (with_reducible exact P2) | (with_reducible refine Blk.drew ?_) | (with_reducible refine Blk.alloc ?_ _) | (with_reducible apply Blk.set2) | (with_reducible apply Blk.set3) | ((with_reducible refine Blk.far ?_ ?hside _); (case hside => first | omega | (simp; done) | (simp; omega))) | (with_reducible refine Blk.set_ ?_ _ _))), ?_, hide (by rw [List.length_append]; exact HJ.out)⟩, by simp only []; omega⟩
        exact ownsRow_setCell_below (ownsRow_setCell_below (by simpa using OW.out) (by simp) _) (by simp) _
    · have HN := hide (show drawN xs (2 * m) at_ = some (acc, k) by
        rw [← HR.out, show 2 * m - acc.length = 0 by omega]; simp [drawN, joinN])
      have hac := hide (show acc.length = 2 * m by omega)
      have S7 := own_sl hOwn.out [] (by simp)
      go_wp2_with (fail)
      obtain ⟨WL, rfl⟩ : ∃ W : World, W = wr := ⟨_, rfl⟩
      go_loopw [12, 13] (fun v i wr => ∃ (j : Nat) (Ao : Option Addr) (co : Nat), j ≤ m ∧ i = .int .i64 j ∧ v = .slice Ao j co ∧ Below WL.heap.size WL wr ∧ wr.ownsRow WL.heap.size 46 2 (.slice Ao j co) j (hcells ((pairUp acc).take j))) (fun _ i _ => m - (intOf i).toNat)
      case atStart => exact ⟨0, none, 0, Nat.zero_le _, rfl, rfl, Below.refl _ _, World.ownsRow_nil _ _ _ _⟩
      case round =>
        obtain ⟨j, Ao, co, hj, rfl, rfl, hbl, hown2⟩ := hrel
        have S8 := S7.below hbl
        by_cases hlt2 : j < m
        · have hx0 : 2 * j < acc.length := by have := hac.out; omega
          have hx1 : 2 * j + 1 < acc.length := by have := hac.out; omega
          obtain ⟨ad, rfl, had, _, hc⟩ := S8.at_ (by omega)
          have d0 := hc _ _ (ints_get hx0)
          have d1 : wr.cell? ⟨ad.block, ad.off + (2 * j + 1), none⟩ = _ := cell_off (i := 0) (by rw [Nat.zero_add]; exact hc _ _ (ints_get hx1)) (by omega)
          have HG := hide (show (pairUp acc).take (j + 1) = (pairUp acc).take j ++ [(acc[2 * j], acc[2 * j + 1])] by
            rw [List.take_add_one, pairUp_get hx1]; rfl)
          clear hc
          generalize acc[2 * j] = x0 at *
          generalize acc[2 * j + 1] = x1 at *
          have hadk : (ad.add (2 * j)).block < wr.heap.size := by rw [block_of_add]; exact had
          have i0 : (0 : Int) ≤ 2 * (j : Int) := by omega
          have i1 : 2 * (j : Int) < (acc.length : Int) := by omega
          have i2 : (2 * (j : Int)).toNat = 2 * j := by omega
          have i3 : (0 : Int) ≤ 2 * (j : Int) + 1 := by omega
          have i4 : 2 * (j : Int) + 1 < (acc.length : Int) := by omega
          have i5 : (2 * (j : Int) + 1).toNat = 2 * j + 1 := by omega
          have HOW2 := hide hown2
          clear hown2
          go_wp2_with (fail)
          refine wp_region_lex [13, 14] (fun w' => w'.cell? (ad.add (2 * j)) = some (.int .u64 x0) ∧ w'.cell? ⟨ad.block, ad.off + (2 * j + 1), none⟩ = some (.int .u64 x1)) (by kernel_rfl) (by kernel_rfl) ⟨d0, d1⟩ ?_
          (repeat (refine wpLex_step (fun K hK => ?_); go_simp; apply Exists.intro; refine ⟨fun w' hw' => ?_, hK _ _ ?_⟩; (· (apply valEq; (· (go_simp; first | done | rfl)); (· ((try go_bits); rfl)))); clear hK K))
          have f0 : (wr.alloc (.cells #[.int .u64 x0, .int .u64 x1] 46)).drew.cell? (ad.add (2 * j)) = some (.int .u64 x0) :=
            (World.cell?_of_block (Below.heap_alloc wr _ _ hadk)).trans d0
          have f1 : (wr.alloc (.cells #[.int .u64 x0, .int .u64 x1] 46)).drew.cell? ⟨ad.block, ad.off + (2 * j + 1), none⟩ = some (.int .u64 x1) :=
            (World.cell?_of_block (a := ⟨ad.block, ad.off + (2 * j + 1), none⟩) (Below.heap_alloc wr _ _ had)).trans d1
          (refine wpLex_step (fun K hK => ?_); go_simp; first | (refine hK _ _ ?_; clear hK K) | (refine ⟨?_, hK _ _ ?_⟩; (· (exact ⟨f0, f1⟩)); clear hK K))
          have N2 : Sl (wr.alloc (.cells #[.int .u64 x0, .int .u64 x1] 46)).drew [] 2 (some ⟨wr.heap.size, 0, none⟩) 1 1 (hcells [(x0, x1)]) :=
            (Sl.of_blk (Blk.new wr 46 #[.int .u64 x0, .int .u64 x1]) rfl (fun x hx => by match x, hx with | 0, _ | 1, _ => rfl) (by simp) (by unfold maxLen; omega)).drew
          have O2 := HOW2.out.alloc (.cells #[.int .u64 x0, .int .u64 x1] 46)
          have szl := hbl.size
          refine wpLex_append_sl _ rfl (by rfl) (.tmp 52) (.tmp 65) _ rfl WL.heap.size 46 ih _ 2 16 Try.underlying33 hih hzh hh1 hh2 rfl (by omega) (.slice Ao j co) j _ rfl O2 [] _ 1 1 (hcells [(x0, x1)]) rfl N2 hcells_one2 (by simp only [maxLen]; omega) (by omega) (by simp; omega) ?_
          intro A5 c5 w5 own5 g5 _
          rw [← hcells_append, ← HG.out] at own5
          have hg5 := below_grown (w := (wr.alloc (.cells #[.int .u64 x0, .int .u64 x1] 46)).drew) O2 g5 (Nat.le_refl _) (by simp; omega)
          have hadL : ad.block < WL.heap.size := by
            obtain ⟨ad', e1, h1, _⟩ := S7.at_ (by omega)
            injection e1 with e1
            rw [e1]; exact h1
          have hadL2 : (ad.add (2 * j)).block < WL.heap.size := by rw [block_of_add]; exact hadL
          refine ⟨⟨(hg5.cell hadL2).trans f0, (hg5.cell (p := ⟨ad.block, ad.off + (2 * j + 1), none⟩) hadL).trans f1⟩, ?_⟩
          have hb5 : Below WL.heap.size WL w5 := ((hbl.alloc hbl.size _).drew).trans hg5
          have OW5 := hide own5
          clear own5 g5 hg5 O2 N2 i2 i5 i0 i1 i3 i4 f0 f1 d0 d1
          (repeat (refine wpLex_step (fun K hK => ?_); go_simp; apply Exists.intro; refine ⟨fun w' hw' => ?_, hK _ _ ?_⟩; (· (apply valEq; (· (go_simp; first | done | rfl)); (· ((try go_bits); rfl)))); clear hK K))
          refine wpLex_nil (fun _ => ?_)
          go_wp2_with (fail)
          exact ⟨⟨j + 1, A5, c5, by omega, by go_num, rfl, hb5, OW5.out⟩, by simp [intOf]; omega⟩
        · have hjm := hide (show j = m by omega)
          have S9 := own_sl hown2 ((w.heap.size + 1) :: M) (fun b hb => by
            rcases List.mem_cons.1 hb with h' | h'
            · omega
            · have := HM.out b h'; have := hbr.size; omega)
          have T0 := R0.below hbl s0
          have T1 := R1.below hbl s1
          have T2 := R2.below hbl s2
          obtain ⟨x1, y1, z1⟩ := T1.facts
          obtain ⟨x2, y2, z2⟩ := T2.facts
          have hbw := hbr.trans (hbl.mono hbr.size)
          have S10 := hide S9
          clear S9 hown2
          go_wp2_with (fail)
          refine wp_region_lex [3] (fun w' => ∀ o, w'.cell? ⟨w1.heap.size, o, none⟩ = (wr).cell? ⟨w1.heap.size, o, none⟩) (by kernel_rfl) (by kernel_rfl) (by intro o; first | rfl | go_simp) ?_
          ((repeat (refine wpLex_step (fun K hK => ?_); go_simp; apply Exists.intro; refine ⟨fun w' hw' => ?_, hK _ _ ?_⟩; (· (apply valEq; (· (go_simp; first | done | rfl)); (· ((try go_bits); rfl)))); clear hK K)); (refine wpLex_step (fun K hK => ?_); go_simp; first | (refine hK _ _ ?_; clear hK K) | (refine ⟨?_, hK _ _ ?_⟩; (· (intro o; go_simp)); clear hK K)); (repeat (refine wpLex_step (fun K hK => ?_); go_simp; apply Exists.intro; refine ⟨fun w' hw' => ?_, hK _ _ ?_⟩; (· (apply valEq; (· (go_simp; first | done | rfl)); (· ((try go_bits); rfl)))); clear hK K)); refine wpLex_nil (fun hw => ?_); go_wp2)
          refine bodyPost_ret (v := .tuple #[.slice Ao j co, .agg #[.slice A n c, .int .i64 k], .int .i64 0]) (by simp [results, Try.results12, go_sem, x1]) rfl ⟨?_, ?_, ?_⟩
          · (repeat (first | (with_reducible exact hbw) | (with_reducible refine Below.drew ?_) | ((with_reducible refine Below.setCell ?_ ?hside _); (case hside => first | omega | (simp; done) | (simp; omega))) | ((with_reducible refine Below.alloc ?_ ?hside _); (case hside => first | omega | (simp; done) | (simp; omega)))))
          · intro hs k' h'
            rw [drawH_pairs, HN.out] at h'
            injection h' with h'
            injection h' with h1 h2
            subst h1; subst h2
            have e1 := hjm.out
            subst e1
            refine ⟨Ao, co, rfl, ?_⟩
            have S11 := S10.out
            rw [List.take_of_length_le (by rw [pairUp_len hac.out]; exact Nat.le_refl _)] at S11
            exact (((S11.setCell (by simp) _).setCell (by simp) _).drew).less (fun b hb => List.mem_cons_of_mem _ hb)
          · intro h'; rw [drawH_pairs, HN.out] at h'; cases h'
theorem rhashes_bad (A : Option Addr) (n c : Nat) (at_ m : Int) (w : World) (h : ¬ (0 ≤ at_ ∧ at_ ≤ n) ∨ (0 ≤ at_ ∧ at_ ≤ n) ∧ (m < 0 ∨ 128 < m)) :
    Calls Try.prog 12 #[.agg #[.slice A n c, .int .i64 at_], .int .i64 m] w fun e w' => e = .returned (.tuple #[.slice none 0 0, .agg #[.slice A n c, .int .i64 at_], .int .i64 1]) ∧ Below w.heap.size w w' := by
  rcases h with h | ⟨h, hm | hm⟩
  · have HD := hide (show decide (0 ≤ at_ ∧ at_ ≤ n) = false by simpa using h)
    clear h
    go_enter Try.func12, Try.ntmps12
    go_wp2_with (go_at_call 16; refine (refright_any A n c at_ _).mono ?_; rw [HD.out]; rintro e w1 ⟨rfl, hb⟩; obtain ⟨B0, B1, hz, hbb⟩ := two_new hb; clear hb; obtain ⟨b0, f0, l0⟩ := B0.facts; obtain ⟨b1, f1, l1⟩ := B1.facts)
    refine wp_region_lex [2] (fun w' => ∀ o, w'.cell? ⟨w.heap.size, o, none⟩ = (w1).cell? ⟨w.heap.size, o, none⟩) (by kernel_rfl) (by kernel_rfl) (by intro o; first | rfl | go_simp) ?_
    ((repeat (refine wpLex_step (fun K hK => ?_); go_simp; apply Exists.intro; refine ⟨fun w' hw' => ?_, hK _ _ ?_⟩; (· (apply valEq; (· (go_simp; first | done | rfl)); (· ((try go_bits); rfl)))); clear hK K)); (refine wpLex_step (fun K hK => ?_); go_simp; first | (refine hK _ _ ?_; clear hK K) | (refine ⟨?_, hK _ _ ?_⟩; (· (intro o; go_simp)); clear hK K)); (repeat (refine wpLex_step (fun K hK => ?_); go_simp; apply Exists.intro; refine ⟨fun w' hw' => ?_, hK _ _ ?_⟩; (· (apply valEq; (· (go_simp; first | done | rfl)); (· ((try go_bits); rfl)))); clear hK K)); refine wpLex_nil (fun hw => ?_); go_wp2)
    refine bodyPost_ret (v := .tuple #[.slice none 0 0, .agg #[.slice A n c, .int .i64 at_], .int .i64 1]) (by simp [results, Try.results12, go_sem, b1]) rfl ⟨rfl, ?_⟩
    (repeat (first | (with_reducible exact hbb) | (with_reducible refine Below.drew ?_) | ((with_reducible refine Below.setCell ?_ ?hside _); (case hside => first | omega | (simp; done) | (simp; omega))) | ((with_reducible refine Below.alloc ?_ ?hside _); (case hside => first | omega | (simp; done) | (simp; omega)))))
  · have HD := hide (show decide (0 ≤ at_ ∧ at_ ≤ n) = true by simpa using h)
    clear h
    go_enter Try.func12, Try.ntmps12
    go_wp2_with (go_at_call 16; refine (refright_any A n c at_ _).mono ?_; rw [HD.out]; rintro e w1 ⟨rfl, hb⟩; obtain ⟨B0, B1, hz, hbb⟩ := two_new hb; clear hb; obtain ⟨b0, f0, l0⟩ := B0.facts; obtain ⟨b1, f1, l1⟩ := B1.facts)
    refine wp_region_lex [2] (fun w' => ∀ o, w'.cell? ⟨w.heap.size, o, none⟩ = (w1).cell? ⟨w.heap.size, o, none⟩) (by kernel_rfl) (by kernel_rfl) (by intro o; first | rfl | go_simp) ?_
    ((repeat (refine wpLex_step (fun K hK => ?_); go_simp; apply Exists.intro; refine ⟨fun w' hw' => ?_, hK _ _ ?_⟩; (· (apply valEq; (· (go_simp; first | done | rfl)); (· ((try go_bits); rfl)))); clear hK K)); (refine wpLex_step (fun K hK => ?_); go_simp; first | (refine hK _ _ ?_; clear hK K) | (refine ⟨?_, hK _ _ ?_⟩; (· (intro o; go_simp)); clear hK K)); (repeat (refine wpLex_step (fun K hK => ?_); go_simp; apply Exists.intro; refine ⟨fun w' hw' => ?_, hK _ _ ?_⟩; (· (apply valEq; (· (go_simp; first | done | rfl)); (· ((try go_bits); rfl)))); clear hK K)); refine wpLex_nil (fun hw => ?_); go_wp2)
    refine bodyPost_ret (v := .tuple #[.slice none 0 0, .agg #[.slice A n c, .int .i64 at_], .int .i64 1]) (by simp [results, Try.results12, go_sem, b1]) rfl ⟨rfl, ?_⟩
    (repeat (first | (with_reducible exact hbb) | (with_reducible refine Below.drew ?_) | ((with_reducible refine Below.setCell ?_ ?hside _); (case hside => first | omega | (simp; done) | (simp; omega))) | ((with_reducible refine Below.alloc ?_ ?hside _); (case hside => first | omega | (simp; done) | (simp; omega)))))
  · have HD := hide (show decide (0 ≤ at_ ∧ at_ ≤ n) = true by simpa using h)
    have hm2 : 0 ≤ m := by omega
    clear h
    go_enter Try.func12, Try.ntmps12
    go_wp2_with (go_at_call 16; refine (refright_any A n c at_ _).mono ?_; rw [HD.out]; rintro e w1 ⟨rfl, hb⟩; obtain ⟨B0, B1, hz, hbb⟩ := two_new hb; clear hb; obtain ⟨b0, f0, l0⟩ := B0.facts; obtain ⟨b1, f1, l1⟩ := B1.facts)
    refine wp_region_lex [2] (fun w' => ∀ o, w'.cell? ⟨w.heap.size, o, none⟩ = (w1).cell? ⟨w.heap.size, o, none⟩) (by kernel_rfl) (by kernel_rfl) (by intro o; first | rfl | go_simp) ?_
    ((repeat (refine wpLex_step (fun K hK => ?_); go_simp; apply Exists.intro; refine ⟨fun w' hw' => ?_, hK _ _ ?_⟩; (· (apply valEq; (· (go_simp; first | done | rfl)); (· ((try go_bits); rfl)))); clear hK K)); (refine wpLex_step (fun K hK => ?_); go_simp; first | (refine hK _ _ ?_; clear hK K) | (refine ⟨?_, hK _ _ ?_⟩; (· (intro o; go_simp)); clear hK K)); (repeat (refine wpLex_step (fun K hK => ?_); go_simp; apply Exists.intro; refine ⟨fun w' hw' => ?_, hK _ _ ?_⟩; (· (apply valEq; (· (go_simp; first | done | rfl)); (· ((try go_bits); rfl)))); clear hK K)); refine wpLex_nil (fun hw => ?_); go_wp2)
    refine bodyPost_ret (v := .tuple #[.slice none 0 0, .agg #[.slice A n c, .int .i64 at_], .int .i64 1]) (by simp [results, Try.results12, go_sem, b1]) rfl ⟨rfl, ?_⟩
    (repeat (first | (with_reducible exact hbb) | (with_reducible refine Below.drew ?_) | ((with_reducible refine Below.setCell ?_ ?hside _); (case hside => first | omega | (simp; done) | (simp; omega))) | ((with_reducible refine Below.alloc ?_ ?hside _); (case hside => first | omega | (simp; done) | (simp; omega)))))
end Go.Proofs.Ytikbcmcmjfkjcaa
