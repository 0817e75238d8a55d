/-
  tour.Reroot walked.
-/
import Derived.Test.YtbnkanhibjoleaaTRight
import Derived.Test.YtbnkanhibjoleaaTIdx
import Derived.Test.YtbnkanhibjoleaaLexD
namespace Go.Proofs.Ytbnkanhibjoleaa
open Go Go.RowKit
attribute [local go_sem] Heavy heavyUpon
attribute [local go_sem ↓] isl_hi isl_lo isl_both

theorem first_spec (l : List Int) (v k : Int) (hk : 0 ≤ k) (h : 0 ≤ firstI l v k) : ∃ f : Nat, firstI l v k = k + f ∧ ∃ hf : f < l.length, l[f] = v ∧ v ∉ l.take f := by
  induction l generalizing k with
  | nil => simp [firstI] at h
  | cons x l ih =>
    unfold firstI at h ⊢
    by_cases hx : x = v
    · rw [if_pos hx]
      exact ⟨0, by simp, by simp, by simpa using hx, by simp⟩
    · rw [if_neg hx] at h ⊢
      obtain ⟨f, e, hf, h1, h2⟩ := ih (k + 1) (by omega) h
      exact ⟨f + 1, by rw [e]; omega, by simpa using hf, by simpa using h1, by simp [Ne.symm hx, h2]⟩
/-- A list from a place on, round to it. -/
def rotT (l : List Int) (f : Nat) : List Int := l.drop f ++ (l.take (f + 1)).drop 1
def outR (l : List Int) (v : Int) : List Int × Int := if isT l = true then (if 0 ≤ firstI l v 0 then (rotT l (firstI l v 0).toNat, 0) else ([], 3)) else ([], 1)
theorem rotT_zero (l : List Int) : rotT l 0 = l := by
  cases l <;> simp [rotT]
theorem rotT_len {l : List Int} {f : Nat} (h : f < l.length) : (rotT l f).length = l.length := by
  unfold rotT
  rw [List.length_append, List.length_drop, List.length_drop, List.length_take]; omega

theorem rot_call (W : World) (l : List Int) (A : Option Addr) (m c f : Nat) (hS : Sl W [] 1 A m c (ints .i64 l)) (hf : f < m) (hm : m ≤ 4096) :
    Calls Try.prog 20 #[.slice (some ⟨W.heap.size, 0, none⟩) 2 2] (W.alloc (.cells #[.slice (cutA A c f 1) (m - f) (c - f), .slice (cutA A c 1 1) f (c - 1)] 22))
      fun e w' => ∃ R d, e = .returned (.slice R m d) ∧ Sl w' [] 1 R m d (ints .i64 (rotT l f)) ∧ Below (W.alloc (.cells #[.slice (cutA A c f 1) (m - f) (c - f), .slice (cutA A c 1 1) f (c - 1)] 22)).heap.size (W.alloc (.cells #[.slice (cutA A c f 1) (m - f) (c - f), .slice (cutA A c 1 1) f (c - 1)] 22)) w' := by
  have hb := Blk.new W 22 #[.slice (cutA A c f 1) (m - f) (c - f), .slice (cutA A c 1 1) f (c - 1)]
  have S0 := hS.alloc (.cells #[.slice (cutA A c f 1) (m - f) (c - f), .slice (cutA A c 1 1) f (c - 1)] 22)
  generalize (W.alloc (.cells #[.slice (cutA A c f 1) (m - f) (c - f), .slice (cutA A c 1 1) f (c - 1)] 22)) = W2 at *
  have hmid := q_mid (k := f + 1) (j := 1) S0 (by omega) (by omega)
  rw [Nat.add_sub_cancel] at hmid
  have hP := concatI_ok [(cutA A c f 1, m - f, c - f, ints .i64 (l.drop f)), (cutA A c 1 1, f, c - 1, ints .i64 ((l.take (f + 1)).drop 1))] [] (some ⟨W.heap.size, 0, none⟩) 2 2 W2
    (Sl.of_blk hb rfl (fun x hx => by match x, hx with | 0, _ | 1, _ => rfl) (by simp) (by unfold maxLen; omega))
    (by
      intro x hx
      simp only [List.mem_cons, List.not_mem_nil, or_false] at hx
      rcases hx with rfl | rfl
      · exact ⟨q_tail (k := f) S0 (by omega), ints_one⟩
      · exact ⟨hmid, ints_one⟩)
    (by decide) (by simp [ptot]; omega)
  have e1 : ptot [(cutA A c f 1, m - f, c - f, ints .i64 (l.drop f)), (cutA A c 1 1, f, c - 1, ints .i64 ((l.take (f + 1)).drop 1))] = m := by simp [ptot]; omega
  have e2 : pcat [(cutA A c f 1, m - f, c - f, ints .i64 (l.drop f)), (cutA A c 1 1, f, c - 1, ints .i64 ((l.take (f + 1)).drop 1))] = ints .i64 (rotT l f) := by
    unfold rotT
    rw [ints_append]
    simp [pcat]
  rw [e1, e2] at hP
  exact hP

set_option maxHeartbeats 3200000 in
theorem reroot_any (l : List Int) (hwf : ∀ x ∈ l, (Lit.int .i64 x).wf = true) (v : Int) (A : Option Addr) (m c : Nat) (w : World) (hS : Sl w [] 1 A m c (ints .i64 l)) (hm : m ≤ 4096) :
    Calls Try.prog 13 #[.slice A m c, .int .i64 v] w fun e w' => ∃ R d, e = .returned (.tuple #[.slice R (outR l v).1.length d, .int .i64 (outR l v).2]) ∧ Sl w' [] 1 R (outR l v).1.length d (ints .i64 (outR l v).1) ∧ Below w.heap.size w w' := by
  have HL := hide (show l.length = m by have := hS.len; simpa using this)
  have qr := fun W h => isT_any l hwf A m c W h hm
  have qi := fun W h => idx_any l v [] A m c W h
  clear hwf
  unfold outR
  cases hr : isT l
  case false =>
    rw [hr] at qr
    have QR := hide qr
    clear qr hr qi
    rw [if_neg (by decide)]
    go_enter Try.func13, Try.ntmps13
    go_wp2_with (fail)
    refine (QR.out w hS).mono ?_
    rintro e w1 ⟨rfl, b1⟩
    go_wp2_with (fail)
    refine bodyPost_ret (v := .tuple #[.slice none 0 0, .int .i64 1]) (by simp [results, Try.results13, go_sem]) rfl ⟨none, 0, rfl, Sl.nil_ _ _ _, b1⟩
  rw [hr] at qr
  have QR := hide qr
  clear qr hr
  rw [if_pos rfl]
  by_cases hf : 0 ≤ firstI l v 0
  · rw [if_pos hf]
    obtain ⟨f, ef, hfl, _, _⟩ := first_spec l v 0 (Int.le_refl _) hf
    rw [Int.zero_add] at ef
    rw [ef, Int.toNat_natCast]
    rw [ef] at qi
    have QI := hide qi
    clear qi hf ef
    have hfm : f < m := by have := HL.out; omega
    by_cases h0 : f = 0
    · subst h0
      rw [rotT_zero]
      go_enter Try.func13, Try.ntmps13
      go_wp2_with (fail)
      refine (QR.out w hS).mono ?_
      rintro e w1 ⟨rfl, b1⟩
      go_wp2_with (fail)
      refine (QI.out w1 (hS.below b1)).mono ?_
      rintro e w2 ⟨rfl, b2⟩
      have hb2 := b1.trans (b2.mono b1.size)
      go_wp2_with (fail)
      refine bodyPost_ret (v := .tuple #[.slice A m c, .int .i64 0]) (by simp [results, Try.results13, go_sem]) rfl ⟨A, c, by rw [HL.out], by rw [HL.out]; exact hS.below hb2, hb2⟩
    · have hd : ((f : Int) == 0) = false := by simpa using h0
      have hd2 : (f == 0) = false := by simpa using h0
      have HRL := hide (show (rotT l f).length = m by rw [rotT_len hfl, HL.out])
      have hmc := hS.le
      have hcap := hS.cap
      unfold maxLen at hcap
      have i0 : (f : Int) ≤ (m : Int) := by omega
      have i1 : (1 : Int) ≤ (f : Int) + 1 := by omega
      have i2 : (f : Int) + 1 ≤ (c : Int) := by omega
      have i3 : ((f : Int) + 1).toNat = f + 1 := by omega
      have i4 : (0 : Int) ≤ (f : Int) := by omega
      clear h0
      go_enter Try.func13, Try.ntmps13
      go_wp2_with (fail)
      refine (QR.out w hS).mono ?_
      rintro e w1 ⟨rfl, b1⟩
      go_wp2_with (fail)
      refine (QI.out w1 (hS.below b1)).mono ?_
      rintro e w2 ⟨rfl, b2⟩
      have hb2 := b1.trans (b2.mono b1.size)
      have g6 := (Below.refl w2.heap.size w2).drew.alloc (Nat.le_refl _) (.cells #[.slice (cutA A c f 1) (m - f) (c - f), .slice (cutA A c 1 1) f (c - 1)] 22)
      go_wp2_with (fail)
      refine wp_region_lexD [7,8] (fun w' => Below (w2).heap.size (w2) w') (by kernel_rfl) (by kernel_rfl) (Below.refl _ _).drew ?_
      (repeat ((with_reducible refine wpLex_step (fun K hK => ?_)); go_simp; first | ((with_reducible refine hK _ _ ?_); clear hK K) | ((with_reducible apply Exists.intro); refine ⟨fun w' hw' => ?_, hK _ _ ?_⟩; (· (have hq := bcells hw'; apply valEq; (· (go_simp; first | done | (with_reducible rfl))); (· ((try go_bits); with_reducible rfl)))); clear hK K)))
      ((with_reducible refine wpLex_step (fun K hK => ?_)); go_simp; first | (refine hK _ _ ?_; clear hK K) | (refine ⟨?_, hK _ _ ?_⟩; (· (exact g6)); clear hK K))
      ((with_reducible refine wpLex_step (fun K hK => ?_)); go_simp; refine (rot_call w2.drew l A m c f (hS.below hb2).drew hfm hm).mono ?_; rintro e w7 ⟨R5, d5, rfl, N5, hbx⟩; have g7 := (g6).trans (hbx.mono (g6).size); skip; refine ⟨_, rfl, g7, hK _ _ ?_⟩; clear hK K hbx)
      (repeat ((with_reducible refine wpLex_step (fun K hK => ?_)); go_simp; first | ((with_reducible refine hK _ _ ?_); clear hK K) | ((with_reducible apply Exists.intro); refine ⟨fun w' hw' => ?_, hK _ _ ?_⟩; (· (have hq := bcells hw'; apply valEq; (· (go_simp; first | done | (with_reducible rfl))); (· ((try go_bits); with_reducible rfl)))); clear hK K)))
      refine wpLex_nil (fun _ => ?_)
      have hb7 := hb2.trans (g7.mono hb2.size)
      go_wp2_with (fail)
      refine bodyPost_ret (v := .tuple #[.slice R5 m d5, .int .i64 0]) (by simp [results, Try.results13, go_sem]) rfl ⟨R5, d5, by rw [HRL.out], by rw [HRL.out]; exact N5, hb7⟩
  · rw [if_neg hf]
    have hf2 : firstI l v 0 < 0 := by omega
    clear hf
    generalize firstI l v 0 = f at *
    have QI := hide qi
    clear qi
    go_enter Try.func13, Try.ntmps13
    go_wp2_with (fail)
    refine (QR.out w hS).mono ?_
    rintro e w1 ⟨rfl, b1⟩
    go_wp2_with (fail)
    refine (QI.out w1 (hS.below b1)).mono ?_
    rintro e w2 ⟨rfl, b2⟩
    have hb2 := b1.trans (b2.mono b1.size)
    go_wp2_with (fail)
    refine bodyPost_ret (v := .tuple #[.slice none 0 0, .int .i64 3]) (by simp [results, Try.results13, go_sem]) rfl ⟨none, 0, rfl, Sl.nil_ _ _ _, hb2⟩
end Go.Proofs.Ytbnkanhibjoleaa
