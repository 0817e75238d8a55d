/-
  The walk of the law DrawTells.
-/
import Derived.Test.YtikbcmcmjfkjcaaAwake
import Derived.Test.YtikbcmcmjfkjcaaRHashes
namespace Go.Proofs.Ytikbcmcmjfkjcaa
open Go Go.RowKit
attribute [local go_sem] Heavy heavyUpon

/-- What Below answers, at any place. -/
def drawBI (xs : List Int) (at_ : Int) : Int × Int × Int := if 0 ≤ at_ ∧ at_ ≤ xs.length then drawB xs at_.toNat else (0, at_, 1)
/-- What Hashes answers, at any place, of any many. -/
def drawHI (xs : List Int) (at_ m : Int) : List (Int × Int) × Int × Int :=
  if (0 ≤ at_ ∧ at_ ≤ xs.length) ∧ 0 ≤ m ∧ m ≤ 128 then
    match drawH xs m.toNat at_.toNat with
    | some (l, k) => (l, (k : Int), 0)
    | none => ([], at_, 5)
  else ([], at_, 1)
def leftI (n : Nat) (at_ : Int) : Int := if 0 ≤ at_ ∧ at_ ≤ n then n - at_ else 0

section
variable {xs : List Int} {M : List Nat} {A : Option Addr} {n c : Nat} {w : World}
theorem below_all (at_ : Int) (hS : Sl w M 1 A n c (ints .u64 xs)) : Calls Try.prog 9 #[.agg #[.slice A n c, .int .i64 at_]] w fun e w' =>
    e = .returned (.tuple #[.int .u64 (drawBI xs at_).1, .agg #[.slice A n c, .int .i64 (drawBI xs at_).2.1], .int .i64 (drawBI xs at_).2.2]) ∧ Below w.heap.size w w' := by
  have hl : xs.length = n := by have := hS.len; simpa using this
  by_cases h : 0 ≤ at_ ∧ at_ ≤ n
  · obtain ⟨k, rfl⟩ := Int.eq_ofNat_of_zero_le h.1
    have e : drawBI xs (k : Int) = drawB xs k := by unfold drawBI; rw [hl, if_pos h, Int.toNat_natCast]
    rw [e]
    exact below_ok xs M A n c k w (by omega) hS
  · have e : drawBI xs at_ = (0, at_, 1) := by unfold drawBI; rw [hl, if_neg h]
    rw [e]
    exact below_bad A n c at_ w h
theorem rbelow_all (at_ : Int) (hS : Sl w M 1 A n c (ints .u64 xs)) (hW : ∀ x ∈ xs, 0 ≤ x ∧ x < 18446744073709551616) : Calls Try.prog 10 #[.agg #[.slice A n c, .int .i64 at_]] w fun e w' =>
    e = .returned (.tuple #[.int .u64 (drawBI xs at_).1, .agg #[.slice A n c, .int .i64 (drawBI xs at_).2.1], .int .i64 (drawBI xs at_).2.2]) ∧ Below w.heap.size w w' := by
  have hl : xs.length = n := by have := hS.len; simpa using this
  by_cases h : 0 ≤ at_ ∧ at_ ≤ n
  · obtain ⟨k, rfl⟩ := Int.eq_ofNat_of_zero_le h.1
    have e : drawBI xs (k : Int) = drawB xs k := by unfold drawBI; rw [hl, if_pos h, Int.toNat_natCast]
    rw [e]
    exact refbelow_ok xs M A n c k w (by omega) hS hW
  · have e : drawBI xs at_ = (0, at_, 1) := by unfold drawBI; rw [hl, if_neg h]
    rw [e]
    exact refbelow_bad A n c at_ w h
theorem left_all (at_ : Int) (hn : n ≤ maxLen) : Calls Try.prog 14 #[.agg #[.slice A n c, .int .i64 at_]] w fun e w' => e = .returned (.int .i64 (leftI n at_)) ∧ Below w.heap.size w w' := by
  by_cases h : 0 ≤ at_ ∧ at_ ≤ n
  · obtain ⟨k, rfl⟩ := Int.eq_ofNat_of_zero_le h.1
    have e : leftI n (k : Int) = n - k := by unfold leftI; rw [if_pos h]
    rw [e]
    exact left_ok A n c k w (by omega) hn
  · have e : leftI n at_ = 0 := by unfold leftI; rw [if_neg h]
    rw [e]
    exact left_bad A n c at_ w h
theorem hashes_all (at_ m : Int) (hS : Sl w M 1 A n c (ints .u64 xs)) (hM : ∀ b ∈ M, b < w.heap.size) : Calls Try.prog 11 #[.agg #[.slice A n c, .int .i64 at_], .int .i64 m] w fun e w' =>
    ∃ B d, e = .returned (.tuple #[.slice B (drawHI xs at_ m).1.length d, .agg #[.slice A n c, .int .i64 (drawHI xs at_ m).2.1], .int .i64 (drawHI xs at_ m).2.2]) ∧ Sl w' M 2 B (drawHI xs at_ m).1.length d (hcells (drawHI xs at_ m).1) ∧ Below w.heap.size w w' := by
  have hl : xs.length = n := by have := hS.len; simpa using this
  by_cases h : 0 ≤ at_ ∧ at_ ≤ n
  · by_cases h2 : 0 ≤ m ∧ m ≤ 128
    · obtain ⟨k, rfl⟩ := Int.eq_ofNat_of_zero_le h.1
      obtain ⟨j, rfl⟩ := Int.eq_ofNat_of_zero_le h2.1
      cases hq : drawH xs j k with
      | none =>
        have e : drawHI xs (k : Int) (j : Int) = ([], (k : Int), 5) := by unfold drawHI; rw [hl, if_pos ⟨h, h2⟩, Int.toNat_natCast, Int.toNat_natCast, hq]
        rw [e]
        exact (hashes_none hq (by omega) (by omega) hS hM).mono fun _ w' ⟨he, hb⟩ => ⟨none, 0, he, Sl.nil_ w' M 2, hb⟩
      | some r =>
        obtain ⟨l, k'⟩ := r
        have e : drawHI xs (k : Int) (j : Int) = (l, (k' : Int), 0) := by unfold drawHI; rw [hl, if_pos ⟨h, h2⟩, Int.toNat_natCast, Int.toNat_natCast, hq]
        have hj := (drawH_le (by omega) hq).2.2
        rw [e, hj]
        exact (hashes_some hq (by omega) (by omega) hS hM).mono fun _ _ ⟨B, d, he, hs, hb⟩ => ⟨B, d, he, hs, hb⟩
    · have e : drawHI xs at_ m = ([], at_, 1) := by unfold drawHI; rw [if_neg (fun x => h2 x.2)]
      rw [e]
      exact (hashes_bad A n c at_ m w (.inr ⟨h, by omega⟩)).mono fun _ w' ⟨he, hb⟩ => ⟨none, 0, he, Sl.nil_ w' M 2, hb⟩
  · have e : drawHI xs at_ m = ([], at_, 1) := by unfold drawHI; rw [hl, if_neg (fun x => h x.1)]
    rw [e]
    exact (hashes_bad A n c at_ m w (.inl h)).mono fun _ w' ⟨he, hb⟩ => ⟨none, 0, he, Sl.nil_ w' M 2, hb⟩
theorem rhashes_all (at_ m : Int) (hS : Sl w M 1 A n c (ints .u64 xs)) (hW : ∀ x ∈ xs, 0 ≤ x ∧ x < 18446744073709551616) (hM : ∀ b ∈ M, b < w.heap.size) : Calls Try.prog 12 #[.agg #[.slice A n c, .int .i64 at_], .int .i64 m] w fun e w' =>
    ∃ B d, e = .returned (.tuple #[.slice B (drawHI xs at_ m).1.length d, .agg #[.slice A n c, .int .i64 (drawHI xs at_ m).2.1], .int .i64 (drawHI xs at_ m).2.2]) ∧ Sl w' M 2 B (drawHI xs at_ m).1.length d (hcells (drawHI xs at_ m).1) ∧ Below w.heap.size w w' := by
  have hl : xs.length = n := by have := hS.len; simpa using this
  by_cases h : 0 ≤ at_ ∧ at_ ≤ n
  · by_cases h2 : 0 ≤ m ∧ m ≤ 128
    · obtain ⟨k, rfl⟩ := Int.eq_ofNat_of_zero_le h.1
      obtain ⟨j, rfl⟩ := Int.eq_ofNat_of_zero_le h2.1
      cases hq : drawH xs j k with
      | none =>
        have e : drawHI xs (k : Int) (j : Int) = ([], (k : Int), 5) := by unfold drawHI; rw [hl, if_pos ⟨h, h2⟩, Int.toNat_natCast, Int.toNat_natCast, hq]
        rw [e]
        exact (rhashes_ok xs M A n c k j w (by omega) (by omega) hS hW hM).mono fun _ w' ⟨hb, _, h3⟩ => ⟨none, 0, h3 hq, Sl.nil_ w' M 2, hb⟩
      | some r =>
        obtain ⟨l, k'⟩ := r
        have e : drawHI xs (k : Int) (j : Int) = (l, (k' : Int), 0) := by unfold drawHI; rw [hl, if_pos ⟨h, h2⟩, Int.toNat_natCast, Int.toNat_natCast, hq]
        have hj := (drawH_le (by omega) hq).2.2
        rw [e, hj]
        exact (rhashes_ok xs M A n c k j w (by omega) (by omega) hS hW hM).mono fun _ _ ⟨hb, h3, _⟩ => let ⟨B, d, he, hs⟩ := h3 _ _ hq; ⟨B, d, he, hs, hb⟩
    · have e : drawHI xs at_ m = ([], at_, 1) := by unfold drawHI; rw [if_neg (fun x => h2 x.2)]
      rw [e]
      exact (rhashes_bad A n c at_ m w (.inr ⟨h, by omega⟩)).mono fun _ w' ⟨he, hb⟩ => ⟨none, 0, he, Sl.nil_ w' M 2, hb⟩
  · have e : drawHI xs at_ m = ([], at_, 1) := by unfold drawHI; rw [hl, if_neg (fun x => h x.1)]
    rw [e]
    exact (rhashes_bad A n c at_ m w (.inl h)).mono fun _ w' ⟨he, hb⟩ => ⟨none, 0, he, Sl.nil_ w' M 2, hb⟩
end

set_option maxHeartbeats 1600000 in
theorem drawTells_walk (xs : List Int) (A : Option Addr) (n c : Nat) (at_ m : Int) (w : World) (hS : Sl w [] 1 A n c (ints .u64 xs)) (hW : ∀ x ∈ xs, 0 ≤ x ∧ x < 18446744073709551616)
    (h1 : -9223372036854775808 ≤ at_) (h2 : at_ ≤ 9223372036854775807) :
    Calls Try.prog 3 #[.slice A n c, .int .i64 at_, .int .i64 m] w fun e w' => e = .returned (.bool true) ∧ Below w.heap.size w w' := by
  have HW := hide hW
  have hcap : n ≤ maxLen := Nat.le_trans hS.le hS.cap
  clear hW
  have hLv : (0 ≤ at_ ∧ at_ ≤ n ∧ Hid (leftI n at_ = n - at_)) ∨ (0 ≤ at_ ∧ ¬ at_ ≤ n ∧ Hid (leftI n at_ = 0)) ∨ (¬ 0 ≤ at_ ∧ Hid (leftI n at_ = 0)) := by
    unfold leftI
    by_cases a : 0 ≤ at_
    · by_cases b : at_ ≤ n
      · exact .inl ⟨a, b, hide (by rw [if_pos ⟨a, b⟩])⟩
      · exact .inr (.inl ⟨a, b, hide (by rw [if_neg (fun x => b x.2)])⟩)
    · exact .inr (.inr ⟨a, hide (by rw [if_neg (fun x => a x.1)])⟩)
  by_cases hn : n ≤ 600
  · rcases hLv with ⟨a, b, HL⟩ | ⟨a, b, HL⟩ | ⟨a, HL⟩
    all_goals
      go_enter Try.func3, Try.ntmps3
      go_wp2_with (fail)
      have V := (Blk.new w 25 #[.slice A n c, .int .i64 at_]).alloc (.cells #[.slice A n c, .int .i64 at_] 26)
      have X : Blk ((w.alloc (.cells #[.slice A n c, .int .i64 at_] 25)).alloc (.cells #[.slice A n c, .int .i64 at_] 26)) (w.heap.size + 1) 26 #[.slice A n c, .int .i64 at_] := by have := Blk.new (w.alloc (.cells #[.slice A n c, .int .i64 at_] 25)) 26 #[.slice A n c, .int .i64 at_]; rwa [heap_alloc_size] at this
      have hb0 : Below w.heap.size w ((w.alloc (.cells #[.slice A n c, .int .i64 at_] 25)).alloc (.cells #[.slice A n c, .int .i64 at_] 26)) := by (repeat (first | (with_reducible exact Below.refl _ _) | (with_reducible refine Below.drew ?_) | ((with_reducible refine Below.setCell ?_ ?hside _); (case hside => first | omega | (simp; done) | (simp; omega))) | ((with_reducible refine Below.alloc ?_ ?hside _); (case hside => first | omega | (simp; done) | (simp; omega)))))
      have hS0 := (hS.alloc (.cells #[.slice A n c, .int .i64 at_] 25)).alloc (.cells #[.slice A n c, .int .i64 at_] 26)
      generalize (w.alloc (.cells #[.slice A n c, .int .i64 at_] 25)).alloc (.cells #[.slice A n c, .int .i64 at_] 26) = W0 at *
      have c1 := below_all at_ hS0
      have c2 := fun W (hb : Below W0.heap.size W0 W) => rbelow_all at_ (hS0.below hb) HW.out
      generalize drawBI xs at_ = t at *
      obtain ⟨t1, t2, t3⟩ := t
      simp only [] at c1 c2
      have C2 := hide c2
      clear c2
      refine c1.mono ?_
      rintro e w1 ⟨rfl, b1⟩
      clear c1
      have x1 : Below W0.heap.size W0 (w1.alloc (.cells #[.slice A n c, .int .i64 t2] 25)) := (b1.alloc b1.size _)
      obtain ⟨u1, v1, z1⟩ := (X.below b1 X.lt).facts
      have Y1 := Blk.new w1 25 #[.slice A n c, .int .i64 t2]
      clear b1
      go_wp2_with (fail)
      clear u1 v1 z1
      generalize w1.alloc (.cells #[.slice A n c, .int .i64 t2] 25) = W1 at *
      refine (C2.out W1 x1).mono ?_
      rintro e w2 ⟨rfl, b2⟩
      have x2' := x1.trans (b2.mono x1.size)
      have x2 : Below W0.heap.size W0 (w2.alloc (.cells #[.slice A n c, .int .i64 t2] 26)) := (x2'.alloc x2'.size _)
      have Y2 := (Y1.below b2 Y1.lt).alloc (.cells #[.slice A n c, .int .i64 t2] 26)
      have V2 := (V.below x2 V.lt)
      have X2 := (X.below x2 X.lt)
      have hb2 := hb0.trans (x2.mono hb0.size)
      obtain ⟨u2, v2, z2⟩ := V2.facts
      obtain ⟨u3, v3, z3⟩ := (Y1.below b2 Y1.lt).facts
      have z4 := (V.below x2' V.lt).lt
      clear b2 x2'
      go_wp2_with (fail)
      clear u2 v2 z2 u3 v3 z3 z4
      generalize w2.alloc (.cells #[.slice A n c, .int .i64 t2] 26) = W2 at *
      have d1 := hashes_all at_ m (hS0.below x2) (by simp)
      have d2 := fun W (hb : Below W0.heap.size W0 W) => rhashes_all at_ m (hS0.below hb) HW.out (by simp)
      generalize drawHI xs at_ m = q at *
      obtain ⟨hs, k, r⟩ := q
      simp only [] at d1 d2
      have D2 := hide d2
      clear d2
      refine d1.mono ?_
      rintro e w3 ⟨B3, d3, rfl, H3, b3⟩
      clear d1
      have x3' := x2.trans (b3.mono x2.size)
      have x3 : Below W0.heap.size W0 (w3.alloc (.cells #[.slice A n c, .int .i64 k] 25)) := x3'.alloc x3'.size _
      have Y3 := Blk.new w3 25 #[.slice A n c, .int .i64 k]
      have H4 := H3.alloc (.cells #[.slice A n c, .int .i64 k] 25)
      obtain ⟨u2, v2, z2⟩ := (X2.below b3 X2.lt).facts
      clear b3 H3
      go_wp2_with (fail)
      clear u2 v2 z2
      generalize w3.alloc (.cells #[.slice A n c, .int .i64 k] 25) = W3 at *
      refine (D2.out W3 x3).mono ?_
      rintro e w4 ⟨B4, d4, rfl, H5, b4⟩
      have x4' := x3.trans (b4.mono x3.size)
      have x4 : Below W0.heap.size W0 (w4.alloc (.cells #[.slice A n c, .int .i64 k] 26)) := x4'.alloc x4'.size _
      have Y4 := (Y3.below b4 Y3.lt).alloc (.cells #[.slice A n c, .int .i64 k] 26)
      have Z4 := Blk.new w4 26 #[.slice A n c, .int .i64 k]
      have H6 := (H4.below b4).alloc (.cells #[.slice A n c, .int .i64 k] 26)
      have H7 := H5.alloc (.cells #[.slice A n c, .int .i64 k] 26)
      clear b4 H5 H4 x4'
      go_wp2_with (fail)
      generalize w4.alloc (.cells #[.slice A n c, .int .i64 k] 26) = W4 at *
      have q1 := hsame_any _ _ _ _ _ _ _ _ _ _ _ H6 H7
      rw [decide_eq_true rfl] at q1
      refine q1.mono ?_
      rintro e w5 ⟨rfl, b5⟩
      clear q1
      have x5 := x4.trans (b5.mono x4.size)
      obtain ⟨u2, v2, z2⟩ := (V.below x5 V.lt).facts
      obtain ⟨u3, v3, z3⟩ := (Y4.below b5 Y4.lt).facts
      obtain ⟨u4, v4, z4⟩ := (Z4.below b5 Z4.lt).facts
      clear b5
      go_wp2_with (fail)
      have q2 := left_all (A := A) (c := c) (w := w5) at_ hcap
      rw [HL.out] at q2
      refine q2.mono ?_
      rintro e w6 ⟨rfl, b6⟩
      clear q2
      have x6 := x5.trans (b6.mono x5.size)
      go_wp2_with (fail)
      refine (awake_true _).mono ?_
      rintro e w7 ⟨rfl, b7⟩
      have x7 := x6.trans (b7.mono x6.size)
      go_wp2_with (fail)
      go_ret
      exact ⟨rfl, hb0.trans (x7.mono hb0.size)⟩
  · go_enter Try.func3, Try.ntmps3
    go_wp2_with (go_at_call 8; refine (awake_true _).mono ?_; rintro e w1 ⟨rfl, hb⟩)
    go_ret
    exact ⟨rfl, hb⟩
end Go.Proofs.Ytikbcmcmjfkjcaa
