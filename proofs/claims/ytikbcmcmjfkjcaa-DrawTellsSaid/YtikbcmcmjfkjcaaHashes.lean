/-
  draw.Hashes walked.
-/
import Derived.Test.YtikbcmcmjfkjcaaDraw
import Derived.Test.YtikbcmcmjfkjcaaHash
namespace Go.Proofs.Ytikbcmcmjfkjcaa
open Go Go.RowKit
attribute [local go_sem] Heavy heavyUpon

theorem hash_info : (Try.prog.info? 46).map (fun i => (i.zero, i.size, i.bytes)) = some (some (.agg #[.int .u64 0, .int .u64 0]), 2, 16) := by kernel_rfl

set_option maxHeartbeats 400000 in
theorem hashes_ok (xs : List Int) (M : List Nat) (A : Option Addr) (n c : Nat) (at_ m : Nat) (w : World) (h : at_ ≤ n) (hm : m ≤ 128) (hS : Sl w M 1 A n c (ints .u64 xs)) (hM : ∀ b ∈ M, b < w.heap.size) :
    Calls Try.prog 11 #[.agg #[.slice A n c, .int .i64 at_], .int .i64 m] w fun e w' => Below w.heap.size w w' ∧
      (∀ hs k, drawH xs m at_ = some (hs, k) → ∃ B d, e = .returned (.tuple #[.slice B m d, .agg #[.slice A n c, .int .i64 k], .int .i64 0]) ∧ Sl w' M 2 B m d (hcells hs)) ∧
      (drawH xs m at_ = none → e = .returned (.tuple #[.slice none 0 0, .agg #[.slice A n c, .int .i64 at_], .int .i64 5])) := by
  obtain ⟨i0, hi0, hz0, hz1, hz2⟩ := info_parts hash_info
  have hmk := fun W => run_make_rowN (P := Try.prog) 33 46 i0 _ Try.underlying33 hi0 hz0 .i64 .i64 m m (Nat.le_refl _) (by rw [hz2]; omega) (by omega) W
  rw [hz1] at hmk
  have HD := hide (show decide (0 ≤ (at_ : Int) ∧ (at_ : Int) ≤ n) = true by simp; omega)
  have HM := hide hM
  clear hM hi0 hz0 hz1 hz2
  go_enter Try.func11, Try.ntmps11
  go_wp2_with (go_at_call 15; refine (right_any A n c at_ _).mono ?_; rw [HD.out]; rintro e w1 ⟨rfl, hb⟩; obtain ⟨B0, B1, hz, hbb⟩ := two_new hb; clear hb; obtain ⟨b0, f0, l0⟩ := B0.facts; obtain ⟨b1, f1, l1⟩ := B1.facts)
  have G := hide (And.intro B0 B1)
  clear B0 B1
  go_loopw [32] (fun i wr => ∃ (j : Nat) (k : Nat) (cs : Array Value) (dn : List (Int × Int)), j ≤ m ∧ k ≤ n ∧ i = .int .i64 j ∧ Below w.heap.size w wr ∧ Blk wr w.heap.size 25 #[.slice A n c, .int .i64 at_] ∧ Blk wr (w.heap.size + 1) 25 #[.slice none 0 0, .int .i64 0]
      ∧ Blk wr w1.heap.size 46 cs ∧ Blk wr (w1.heap.size + 1) 25 #[.slice A n c, .int .i64 k] ∧ Hid (cs.size = m * 2 ∧ dn.length = j ∧ (∀ x, x < j * 2 → cs[x]? = (hcells dn)[x]?) ∧ joined dn (drawH xs (m - j) k) = drawH xs m at_)) (fun i _ => m - (intOf i).toNat)
  case atStart =>
    exact ⟨0, at_, _, [], Nat.zero_le _, h, rfl, (hbb.alloc (by omega) _).alloc (by simp; omega) _, (G.out.1.alloc _).alloc _, (G.out.2.alloc _).alloc _, (Blk.new w1 _ _).alloc _, by simpa using Blk.new (w1.alloc _) 25 _,
      hide ⟨size_madeCells _ _, rfl, fun x hx => absurd hx (by omega), joined_nil _⟩⟩
  case round =>
    obtain ⟨j, k, cs, dn, hj, hk, rfl, hbr, R0, R1, R2, R3, HR⟩ := hrel
    obtain ⟨r0, e0, s0⟩ := R0.facts
    obtain ⟨r1, e1, s1⟩ := R1.facts
    obtain ⟨r2, e2, s2⟩ := R2.facts
    obtain ⟨r3, e3, s3⟩ := R3.facts
    have hSr := hS.below hbr
    by_cases hlt : j < m
    · cases hq : scan (xs.drop k) k
      case none =>
        have HF := hide (drawB_none hq)
        have HN := hide (show drawH xs m at_ = none by rw [← HR.out.2.2.2, show m - j = (m - j - 1) + 1 by omega, drawH_dry1 hq]; rfl)
        clear hq
        go_wp2_with (go_at_call 9; refine (below_ok xs M A n c k _ hk hSr).mono ?_; rw [HF.out]; rintro e w2 ⟨rfl, hb2⟩; have Q0 := R0.below hb2 s0; have Q1 := R1.below hb2 s1; obtain ⟨q0, p0, t0⟩ := Q0.facts; obtain ⟨q1, p1, t1⟩ := Q1.facts; have hb2' := hbr.trans (hb2.mono hbr.size))
        refine wp_region_lex [3] (fun w' => ∀ o, w'.cell? ⟨w.heap.size, o, none⟩ = (w2).cell? ⟨w.heap.size, o, none⟩) (by kernel_rfl) (by kernel_rfl) (by intro o; first | rfl | go_simp) ?_
        ((repeat (refine wpLex_step (fun K hK => ?_); go_simp; apply Exists.intro; refine ⟨fun w' hw' => ?_, hK _ _ ?_⟩; (· (apply valEq; (· (go_simp; first | done | rfl)); (· ((try go_bits); rfl)))); clear hK K)); (refine wpLex_step (fun K hK => ?_); go_simp; first | (refine hK _ _ ?_; clear hK K) | (refine ⟨?_, hK _ _ ?_⟩; (· (intro o; go_simp)); clear hK K)); (repeat (refine wpLex_step (fun K hK => ?_); go_simp; apply Exists.intro; refine ⟨fun w' hw' => ?_, hK _ _ ?_⟩; (· (apply valEq; (· (go_simp; first | done | rfl)); (· ((try go_bits); rfl)))); clear hK K)); refine wpLex_nil (fun hw => ?_); go_wp2)
        refine bodyPost_ret (v := .tuple #[.slice none 0 0, .agg #[.slice A n c, .int .i64 at_], .int .i64 5]) (by simp [results, Try.results11, go_sem, q1, t1]) rfl ⟨?_, ?_, fun _ => rfl⟩
        · (repeat (first | (with_reducible exact hb2') | (with_reducible refine Below.drew ?_) | ((with_reducible refine Below.setCell ?_ ?hside _); (case hside => first | omega | (simp; done) | (simp; omega))) | ((with_reducible refine Below.alloc ?_ ?hside _); (case hside => first | omega | (simp; done) | (simp; omega)))))
        · intro hs k' h'; rw [HN.out] at h'; cases h'
      case some p =>
        obtain ⟨a, k1⟩ := p
        have hk1 := hide (scan_drop_le (by have := hS.len; simp at this; omega) hq)
        have HF := hide (drawB_some hq)
        cases hq2 : scan (xs.drop k1) k1
        case none =>
          have HF2 := hide (drawB_none hq2)
          have HN := hide (show drawH xs m at_ = none by rw [← HR.out.2.2.2, show m - j = (m - j - 1) + 1 by omega, drawH_dry2 hq hq2]; rfl)
          have hkn : k1 ≤ n := by have := hS.len; simp at this; have := hk1.out; omega
          clear hq hq2
          go_wp2_with (fail)
          refine (below_ok xs M A n c k _ hk hSr).mono ?_
          rw [HF.out]; rintro e w2 ⟨rfl, hb2⟩
          have Q0 := R0.below hb2 s0; have Q1 := R1.below hb2 s1; obtain ⟨q0, p0, t0⟩ := Q0.facts; obtain ⟨q1, p1, t1⟩ := Q1.facts; have hb2' := hbr.trans (hb2.mono hbr.size)
          go_wp2_with (fail)
          refine (below_ok xs M A n c k1 _ hkn ((hSr.below hb2).alloc _)).mono ?_
          rw [HF2.out]; rintro e w3 ⟨rfl, hb3⟩
          obtain ⟨D0, hz3, hb3'⟩ := one_new hb3
          have P0 := (Q0.alloc _).below hb3 (by simp; omega); have P1 := (Q1.alloc _).below hb3 (by simp; omega); obtain ⟨x0, y0, z0⟩ := P0.facts; obtain ⟨x1, y1, z1⟩ := P1.facts
          have hb4 := hb2'.trans (hb3'.mono hb2'.size)
          clear hb3 hb2 hb3'
          go_wp2_with (fail)
          refine wp_region_lex [3] (fun w' => ∀ o, w'.cell? ⟨w.heap.size, o, none⟩ = (w3).cell? ⟨w.heap.size, o, none⟩) (by kernel_rfl) (by kernel_rfl) (by intro o; first | rfl | go_simp) ?_
          ((repeat (refine wpLex_step (fun K hK => ?_); go_simp; apply Exists.intro; refine ⟨fun w' hw' => ?_, hK _ _ ?_⟩; (· (apply valEq; (· (go_simp; first | done | rfl)); (· ((try go_bits); rfl)))); clear hK K)); (refine wpLex_step (fun K hK => ?_); go_simp; first | (refine hK _ _ ?_; clear hK K) | (refine ⟨?_, hK _ _ ?_⟩; (· (intro o; go_simp)); clear hK K)); (repeat (refine wpLex_step (fun K hK => ?_); go_simp; apply Exists.intro; refine ⟨fun w' hw' => ?_, hK _ _ ?_⟩; (· (apply valEq; (· (go_simp; first | done | rfl)); (· ((try go_bits); rfl)))); clear hK K)); refine wpLex_nil (fun hw => ?_); go_wp2)
          refine bodyPost_ret (v := .tuple #[.slice none 0 0, .agg #[.slice A n c, .int .i64 at_], .int .i64 5]) (by simp [results, Try.results11, go_sem, x1, z1]) rfl ⟨?_, ?_, fun _ => rfl⟩
          · (repeat (first | (with_reducible exact hb4) | (with_reducible refine Below.drew ?_) | ((with_reducible refine Below.setCell ?_ ?hside _); (case hside => first | omega | (simp; done) | (simp; omega))) | ((with_reducible refine Below.alloc ?_ ?hside _); (case hside => first | omega | (simp; done) | (simp; omega)))))
          · intro hs k' h'; rw [HN.out] at h'; cases h'
        case some p =>
          obtain ⟨b, k2⟩ := p
          have HF2 := hide (drawB_some hq2)
          have hk2 := hide (scan_drop_le hk1.out.2 hq2)
          have HJ := hide (show joined (dn ++ [(a, b)]) (drawH xs (m - (j + 1)) k2) = drawH xs m at_ by
            rw [← HR.out.2.2.2, show m - j = (m - (j + 1)) + 1 by omega, drawH_step hq hq2])
          have hkn : k1 ≤ n := by have := hS.len; simp at this; have := hk1.out; omega
          have hkn2 : k2 ≤ n := by have := hS.len; simp at this; have := hk2.out; omega
          clear hq hq2
          obtain ⟨v0, hv0⟩ : ∃ v, cs[j * 2]? = some v := ⟨_, Array.getElem?_eq_getElem (by have := HR.out.1; omega)⟩
          obtain ⟨v1, hv1⟩ : ∃ v, cs[j * 2 + 1]? = some v := ⟨_, Array.getElem?_eq_getElem (by have := HR.out.1; omega)⟩
          go_wp2_with (fail)
          refine (below_ok xs M A n c k _ hk hSr).mono ?_
          rw [HF.out]; rintro e w2 ⟨rfl, hb2⟩
          have Q2 := R2.below hb2 s2; have Q3 := R3.below hb2 s3; obtain ⟨q2, p2, t2⟩ := Q2.facts; obtain ⟨q3, p3, t3⟩ := Q3.facts; have hb2' := hbr.trans (hb2.mono hbr.size)
          have Q0 := R0.below hb2 s0; have Q1 := R1.below hb2 s1
          have t0 := Q0.lt; have t1 := Q1.lt
          go_wp2_with (fail)
          refine (below_ok xs M A n c k1 _ hkn ((hSr.below hb2).alloc _)).mono ?_
          rw [HF2.out]; rintro e w3 ⟨rfl, hb3⟩
          obtain ⟨D0, hz3, hb3'⟩ := one_new hb3
          have P2 := (Q2.alloc _).below hb3 (by simp; omega); have P3 := (Q3.alloc _).below hb3 (by simp; omega); obtain ⟨x2, y2, z2⟩ := P2.facts; obtain ⟨x3, y3, z3⟩ := P3.facts
          have P0 := (Q0.alloc _).below hb3 (by simp; omega); have P1 := (Q1.alloc _).below hb3 (by simp; omega)
          have hb4 := hb2'.trans (hb3'.mono hb2'.size)
          have hSn := hb4.size
          clear hb3 hb2 hb3'
          go_wp2_with (fail)
          refine ⟨⟨j + 1, k2, (cs.setIfInBounds (j * 2) (.int .u64 a)).setIfInBounds (j * 2 + 1) (.int .u64 b), dn ++ [(a, b)], by omega, hkn2, by go_num, by (repeat (first | (with_reducible exact hb4) | (with_reducible refine Below.drew ?_) | ((with_reducible refine Below.setCell ?_ ?hside _); (case hside => first | omega | (simp; done) | (simp; omega))) | ((with_reducible refine Below.alloc ?_ ?hside _); (case hside => first | omega | (simp; done) | (simp; omega))))), ?_, ?_, ?_, ?_, hide ⟨by simp [HR.out.1], by simp [HR.out.2.1], ?_, HJ.out⟩⟩, by simp [intOf]; omega⟩
          · (repeat (first | (with_reducible exact P0) | (with_reducible refine Blk.drew ?_) | (with_reducible refine Blk.alloc ?_ _) | (with_reducible apply Blk.set2) | (with_reducible apply Blk.set3) | ((with_reducible refine Blk.far ?_ ?hside _); (case hside => first | omega | (simp; done) | (simp; omega))) | (with_reducible refine Blk.set_ ?_ _ _)))
          · (repeat (first | (with_reducible exact P1) | (with_reducible refine Blk.drew ?_) | (with_reducible refine Blk.alloc ?_ _) | (with_reducible apply Blk.set2) | (with_reducible apply Blk.set3) | ((with_reducible refine Blk.far ?_ ?hside _); (case hside => first | omega | (simp; done) | (simp; omega))) | (with_reducible refine Blk.set_ ?_ _ _)))
          · (repeat (first | (with_reducible exact P2) | (with_reducible refine Blk.drew ?_) | (with_reducible refine Blk.alloc ?_ _) | (with_reducible apply Blk.set2) | (with_reducible apply Blk.set3) | ((with_reducible refine Blk.far ?_ ?hside _); (case hside => first | omega | (simp; done) | (simp; omega))) | (with_reducible refine Blk.set_ ?_ _ _)))
          · (repeat (first | (with_reducible exact P3) | (with_reducible refine Blk.drew ?_) | (with_reducible refine Blk.alloc ?_ _) | (with_reducible apply Blk.set2) | (with_reducible apply Blk.set3) | ((with_reducible refine Blk.far ?_ ?hside _); (case hside => first | omega | (simp; done) | (simp; omega))) | (with_reducible refine Blk.set_ ?_ _ _)))
          · have hdn := HR.out.2.1
            subst hdn
            exact hcells_set (by have := HR.out.1; omega) HR.out.2.2.1
    · have hjm : j = m := by omega
      have HN := hide (show drawH xs m at_ = some (dn, k) by rw [← HR.out.2.2.2, hjm, Nat.sub_self]; simp [drawH, joined])
      go_wp2
      refine wp_region_lex [3] (fun w' => ∀ o, w'.cell? ⟨w1.heap.size + 1, o, none⟩ = (wr).cell? ⟨w1.heap.size + 1, o, none⟩) (by kernel_rfl) (by kernel_rfl) (by intro o; first | rfl | go_simp) ?_
      ((repeat (refine wpLex_step (fun K hK => ?_); go_simp; apply Exists.intro; refine ⟨fun w' hw' => ?_, hK _ _ ?_⟩; (· (apply valEq; (· (go_simp; first | done | rfl)); (· ((try go_bits); rfl)))); clear hK K)); (refine wpLex_step (fun K hK => ?_); go_simp; first | (refine hK _ _ ?_; clear hK K) | (refine ⟨?_, hK _ _ ?_⟩; (· (intro o; go_simp)); clear hK K)); (repeat (refine wpLex_step (fun K hK => ?_); go_simp; apply Exists.intro; refine ⟨fun w' hw' => ?_, hK _ _ ?_⟩; (· (apply valEq; (· (go_simp; first | done | rfl)); (· ((try go_bits); rfl)))); clear hK K)); refine wpLex_nil (fun hw => ?_); go_wp2)
      refine bodyPost_ret (v := .tuple #[.slice (some ⟨w1.heap.size, 0, none⟩) m m, .agg #[.slice A n c, .int .i64 k], .int .i64 0]) (by simp [results, Try.results11, go_sem, r1]) rfl ⟨?_, ?_, ?_⟩
      · exact ((hbr.setCell (by simp) _).setCell (by simp) _).drew
      · intro hs k' h'
        rw [HN.out] at h'
        injection h' with h'
        injection h' with h1 h2
        subst h1; subst h2
        have R2' := ((R2.far (p := ⟨w.heap.size + 1, 0, none⟩) (by simp; omega) (.slice A n c)).far (p := ⟨w.heap.size + 1, 1, none⟩) (by simp; omega) (.int .i64 k)).drew
        refine ⟨_, _, rfl, Sl.of_blk R2' (by rw [hcells_len, HR.out.2.1, hjm]) (by rw [← hjm]; exact HR.out.2.2.1) (fun hm' => ?_) (by unfold maxLen; omega)⟩
        have := HM.out _ hm'
        omega
      · intro h'; rw [HN.out] at h'; cases h'

theorem hashes_some {xs : List Int} {M : List Nat} {A : Option Addr} {n c at_ m k : Nat} {hs : List (Int × Int)} {w : World} (hq : drawH xs m at_ = some (hs, k)) (h : at_ ≤ n) (hm : m ≤ 128) (hS : Sl w M 1 A n c (ints .u64 xs)) (hM : ∀ b ∈ M, b < w.heap.size) :
    Calls Try.prog 11 #[.agg #[.slice A n c, .int .i64 at_], .int .i64 m] w fun e w' => ∃ B d, e = .returned (.tuple #[.slice B m d, .agg #[.slice A n c, .int .i64 k], .int .i64 0]) ∧ Sl w' M 2 B m d (hcells hs) ∧ Below w.heap.size w w' :=
  (hashes_ok xs M A n c at_ m w h hm hS hM).mono fun _ _ ⟨hb, h1, _⟩ => let ⟨B, d, he, hs⟩ := h1 _ _ hq; ⟨B, d, he, hs, hb⟩
theorem hashes_none {xs : List Int} {M : List Nat} {A : Option Addr} {n c at_ m : Nat} {w : World} (hq : drawH xs m at_ = none) (h : at_ ≤ n) (hm : m ≤ 128) (hS : Sl w M 1 A n c (ints .u64 xs)) (hM : ∀ b ∈ M, b < w.heap.size) :
    Calls Try.prog 11 #[.agg #[.slice A n c, .int .i64 at_], .int .i64 m] w fun e w' => e = .returned (.tuple #[.slice none 0 0, .agg #[.slice A n c, .int .i64 at_], .int .i64 5]) ∧ Below w.heap.size w w' :=
  (hashes_ok xs M A n c at_ m w h hm hS hM).mono fun _ _ ⟨hb, _, h2⟩ => ⟨h2 hq, hb⟩

theorem hashes_any {xs : List Int} {M : List Nat} {A : Option Addr} {n c at_ m : Nat} {w : World} (h : at_ ≤ n) (hm : m ≤ 128) (hS : Sl w M 1 A n c (ints .u64 xs)) (hM : ∀ b ∈ M, b < w.heap.size) :
    Calls Try.prog 11 #[.agg #[.slice A n c, .int .i64 at_], .int .i64 m] w fun e w' => ∃ (B : Option Addr) (r d : Nat) (k' e' : Int), e = .returned (.tuple #[.slice B r d, .agg #[.slice A n c, .int .i64 k'], .int .i64 e']) ∧ Below w.heap.size w w' := by
  cases hq : drawH xs m at_ with
  | none => exact (hashes_none hq h hm hS hM).mono fun _ _ ⟨he, hb⟩ => ⟨_, _, _, _, _, he, hb⟩
  | some r => exact (hashes_some (hs := r.1) (k := r.2) (by rw [hq]) h hm hS hM).mono fun _ _ ⟨B, d, he, _, hb⟩ => ⟨_, _, _, _, _, he, hb⟩

theorem hashes_bad (A : Option Addr) (n c : Nat) (at_ m : Int) (w : World) (h : ¬ (0 ≤ at_ ∧ at_ ≤ n) ∨ (0 ≤ at_ ∧ at_ ≤ n) ∧ (m < 0 ∨ 128 < m)) :
    Calls Try.prog 11 #[.agg #[.slice A n c, .int .i64 at_], .int .i64 m] w fun e w' => e = .returned (.tuple #[.slice none 0 0, .agg #[.slice A n c, .int .i64 at_], .int .i64 1]) ∧ Below w.heap.size w w' := by
  rcases h with h | ⟨h, hm | hm⟩
  · have HD := hide (show decide (0 ≤ at_ ∧ at_ ≤ n) = false by simpa using h)
    clear h
    go_enter Try.func11, Try.ntmps11
    go_wp2_with (go_at_call 15; refine (right_any A n c at_ _).mono ?_; rw [HD.out]; rintro e w1 ⟨rfl, hb⟩; obtain ⟨B0, B1, hz, hbb⟩ := two_new hb; clear hb; obtain ⟨b0, f0, l0⟩ := B0.facts; obtain ⟨b1, f1, l1⟩ := B1.facts)
    refine wp_region_lex [2] (fun w' => ∀ o, w'.cell? ⟨w.heap.size, o, none⟩ = (w1).cell? ⟨w.heap.size, o, none⟩) (by kernel_rfl) (by kernel_rfl) (by intro o; first | rfl | go_simp) ?_
    ((repeat (refine wpLex_step (fun K hK => ?_); go_simp; apply Exists.intro; refine ⟨fun w' hw' => ?_, hK _ _ ?_⟩; (· (apply valEq; (· (go_simp; first | done | rfl)); (· ((try go_bits); rfl)))); clear hK K)); (refine wpLex_step (fun K hK => ?_); go_simp; first | (refine hK _ _ ?_; clear hK K) | (refine ⟨?_, hK _ _ ?_⟩; (· (intro o; go_simp)); clear hK K)); (repeat (refine wpLex_step (fun K hK => ?_); go_simp; apply Exists.intro; refine ⟨fun w' hw' => ?_, hK _ _ ?_⟩; (· (apply valEq; (· (go_simp; first | done | rfl)); (· ((try go_bits); rfl)))); clear hK K)); refine wpLex_nil (fun hw => ?_); go_wp2)
    refine bodyPost_ret (v := .tuple #[.slice none 0 0, .agg #[.slice A n c, .int .i64 at_], .int .i64 1]) (by simp [results, Try.results11, go_sem, b1]) rfl ⟨rfl, ?_⟩
    (repeat (first | (with_reducible exact hbb) | (with_reducible refine Below.drew ?_) | ((with_reducible refine Below.setCell ?_ ?hside _); (case hside => first | omega | (simp; done) | (simp; omega))) | ((with_reducible refine Below.alloc ?_ ?hside _); (case hside => first | omega | (simp; done) | (simp; omega)))))
  · have HD := hide (show decide (0 ≤ at_ ∧ at_ ≤ n) = true by simpa using h)
    clear h
    go_enter Try.func11, Try.ntmps11
    go_wp2_with (go_at_call 15; refine (right_any A n c at_ _).mono ?_; rw [HD.out]; rintro e w1 ⟨rfl, hb⟩; obtain ⟨B0, B1, hz, hbb⟩ := two_new hb; clear hb; obtain ⟨b0, f0, l0⟩ := B0.facts; obtain ⟨b1, f1, l1⟩ := B1.facts)
    refine wp_region_lex [2] (fun w' => ∀ o, w'.cell? ⟨w.heap.size, o, none⟩ = (w1).cell? ⟨w.heap.size, o, none⟩) (by kernel_rfl) (by kernel_rfl) (by intro o; first | rfl | go_simp) ?_
    ((repeat (refine wpLex_step (fun K hK => ?_); go_simp; apply Exists.intro; refine ⟨fun w' hw' => ?_, hK _ _ ?_⟩; (· (apply valEq; (· (go_simp; first | done | rfl)); (· ((try go_bits); rfl)))); clear hK K)); (refine wpLex_step (fun K hK => ?_); go_simp; first | (refine hK _ _ ?_; clear hK K) | (refine ⟨?_, hK _ _ ?_⟩; (· (intro o; go_simp)); clear hK K)); (repeat (refine wpLex_step (fun K hK => ?_); go_simp; apply Exists.intro; refine ⟨fun w' hw' => ?_, hK _ _ ?_⟩; (· (apply valEq; (· (go_simp; first | done | rfl)); (· ((try go_bits); rfl)))); clear hK K)); refine wpLex_nil (fun hw => ?_); go_wp2)
    refine bodyPost_ret (v := .tuple #[.slice none 0 0, .agg #[.slice A n c, .int .i64 at_], .int .i64 1]) (by simp [results, Try.results11, go_sem, b1]) rfl ⟨rfl, ?_⟩
    (repeat (first | (with_reducible exact hbb) | (with_reducible refine Below.drew ?_) | ((with_reducible refine Below.setCell ?_ ?hside _); (case hside => first | omega | (simp; done) | (simp; omega))) | ((with_reducible refine Below.alloc ?_ ?hside _); (case hside => first | omega | (simp; done) | (simp; omega)))))
  · have HD := hide (show decide (0 ≤ at_ ∧ at_ ≤ n) = true by simpa using h)
    have hm2 : 0 ≤ m := by omega
    clear h
    go_enter Try.func11, Try.ntmps11
    go_wp2_with (go_at_call 15; refine (right_any A n c at_ _).mono ?_; rw [HD.out]; rintro e w1 ⟨rfl, hb⟩; obtain ⟨B0, B1, hz, hbb⟩ := two_new hb; clear hb; obtain ⟨b0, f0, l0⟩ := B0.facts; obtain ⟨b1, f1, l1⟩ := B1.facts)
    refine wp_region_lex [2] (fun w' => ∀ o, w'.cell? ⟨w.heap.size, o, none⟩ = (w1).cell? ⟨w.heap.size, o, none⟩) (by kernel_rfl) (by kernel_rfl) (by intro o; first | rfl | go_simp) ?_
    ((repeat (refine wpLex_step (fun K hK => ?_); go_simp; apply Exists.intro; refine ⟨fun w' hw' => ?_, hK _ _ ?_⟩; (· (apply valEq; (· (go_simp; first | done | rfl)); (· ((try go_bits); rfl)))); clear hK K)); (refine wpLex_step (fun K hK => ?_); go_simp; first | (refine hK _ _ ?_; clear hK K) | (refine ⟨?_, hK _ _ ?_⟩; (· (intro o; go_simp)); clear hK K)); (repeat (refine wpLex_step (fun K hK => ?_); go_simp; apply Exists.intro; refine ⟨fun w' hw' => ?_, hK _ _ ?_⟩; (· (apply valEq; (· (go_simp; first | done | rfl)); (· ((try go_bits); rfl)))); clear hK K)); refine wpLex_nil (fun hw => ?_); go_wp2)
    refine bodyPost_ret (v := .tuple #[.slice none 0 0, .agg #[.slice A n c, .int .i64 at_], .int .i64 1]) (by simp [results, Try.results11, go_sem, b1]) rfl ⟨rfl, ?_⟩
    (repeat (first | (with_reducible exact hbb) | (with_reducible refine Below.drew ?_) | ((with_reducible refine Below.setCell ?_ ?hside _); (case hside => first | omega | (simp; done) | (simp; omega))) | ((with_reducible refine Below.alloc ?_ ?hside _); (case hside => first | omega | (simp; done) | (simp; omega)))))
end Go.Proofs.Ytikbcmcmjfkjcaa
