/-
  slices.Index and slices.Contains of ints and of edges walked.
-/
import Derived.Test.YtbnkanhibjoleaaFirst0
namespace Go.Proofs.Ytbnkanhibjoleaa
open Go Go.RowKit
attribute [local go_sem] Heavy heavyUpon
attribute [local go_sem ↓] edge_eql

theorem idx_any (l : List Int) (v : Int) (M : List Nat) (A : Option Addr) (m c : Nat) (w : World) (hS : Sl w M 1 A m c (ints .i64 l)) :
    Calls Try.prog 26 #[.slice A m c, .int .i64 v] w (Ret (.int .i64 (firstI l v 0)) w) := by
  have HL := hide (show l.length = m by have := hS.len; simpa using this)
  have hcap : m ≤ maxLen := Nat.le_trans hS.le hS.cap
  unfold maxLen at hcap
  go_enter Try.func26, Try.ntmps26
  go_wp2_with (fail)
  go_loopw [8] (fun i wr => ∃ k : Nat, k ≤ m ∧ i = .int .i64 k ∧ Below w.heap.size w wr ∧ Hid (firstI (l.drop k) v k = firstI l v 0)) (fun i _ => m - (intOf i).toNat)
  case atStart => exact ⟨0, Nat.zero_le _, rfl, Below.refl _ _, hide rfl⟩
  case round =>
    obtain ⟨k, hk, rfl, hbr, HR⟩ := hrel
    have hSr := hS.below hbr
    by_cases hlt : k < m
    · obtain ⟨ad, rfl, had, _, hc⟩ := hSr.at_ (by omega)
      have hx : k < l.length := by have := HL.out; omega
      have c0 := hc _ _ (ints_get hx)
      have HS := hide ((firstI_step l v hx).symm.trans HR.out)
      clear hc
      generalize l[k] = x at *
      by_cases hxv : x = v
      · have HF := hide (show (k : Int) = firstI l v 0 by rw [← HS.out, if_pos hxv])
        have hd : (v == x) = true := by simp [hxv]
        clear hxv
        go_wp2_with (fail)
        go_ret
        exact ⟨congrArg (fun x => Ending.returned (.int .i64 x)) HF.out, hbr⟩
      · have HF := hide (show firstI (l.drop (k + 1)) v ((k + 1 : Nat) : Int) = firstI l v 0 by rw [← HS.out, if_neg hxv])
        have hd : (v == x) = false := by simp; exact fun h => hxv h.symm
        clear hxv
        go_wp2_with (fail)
        exact ⟨⟨k + 1, by omega, by go_num, hbr, HF⟩, by simp [intOf]; omega⟩
    · have HF := hide (show (-1 : Int) = firstI l v 0 by
        rw [← HR.out, List.drop_eq_nil_of_le (by have := HL.out; omega)]; rfl)
      go_wp2_with (fail)
      go_ret
      exact ⟨congrArg (fun x => Ending.returned (.int .i64 x)) HF.out, hbr⟩
theorem firstI_dec (l : List Int) (v : Int) : decide (0 ≤ firstI l v 0) = decide (v ∈ l) := by
  rw [Bool.eq_iff_iff, decide_eq_true_eq, decide_eq_true_eq]; exact firstI_mem l v 0 (Int.le_refl _)
theorem has_any (l : List Int) (v : Int) (M : List Nat) (A : Option Addr) (m c : Nat) (w : World) (hS : Sl w M 1 A m c (ints .i64 l)) :
    Calls Try.prog 19 #[.slice A m c, .int .i64 v] w (Ret (.bool (decide (v ∈ l))) w) := by
  have q := fun W h => idx_any l v M A m c W h
  have HD := hide (firstI_dec l v)
  generalize firstI l v 0 = f at *
  have Q := hide q
  clear q
  go_enter Try.func19, Try.ntmps19
  go_wp2_with (fail)
  refine (Q.out w hS).mono ?_
  rintro e w1 ⟨rfl, b1⟩
  go_wp2_with (fail)
  go_ret
  exact ⟨congrArg (fun x => Ending.returned (.bool x)) HD.out, b1⟩

/-- The first place of an edge, counted from k; -1: there is none. -/
def firstE : List E3 → E3 → Int → Int
  | [], _, _ => -1
  | x :: l, v, k => if x = v then k else firstE l v (k + 1)
theorem firstE_mem (l : List E3) (v : E3) (k : Int) (h : 0 ≤ k) : 0 ≤ firstE l v k ↔ v ∈ l := by
  induction l generalizing k with
  | nil => simp [firstE]
  | cons x l ih =>
    unfold firstE
    by_cases hx : x = v
    · simp [hx, h]
    · rw [if_neg hx, ih _ (by omega)]
      simp [Ne.symm hx]
theorem firstE_step (l : List E3) (v : E3) {k : Nat} (h : k < l.length) : firstE (l.drop k) v k = if l[k] = v then (k : Int) else firstE (l.drop (k + 1)) v ((k + 1 : Nat) : Int) := by
  rw [List.drop_eq_getElem_cons h, firstE]; rfl
theorem eidx_any (l : List E3) (p q t : Int) (M : List Nat) (A : Option Addr) (m c : Nat) (w : World) (hS : ESl w M A m c l) :
    Calls Try.prog 34 #[.slice A m c, .agg #[.int .i64 p, .int .i64 q, .int .i64 t]] w (Ret (.int .i64 (firstE l (p, q, t) 0)) w) := by
  have HL := hide hS.length
  have hcap : m ≤ maxLen := Nat.le_trans hS.le hS.cap
  unfold maxLen at hcap
  have hb0 := (Below.refl w.heap.size w).alloc (Nat.le_refl _) (.cells #[.int .i64 p, .int .i64 q, .int .i64 t] 38)
  go_enter Try.func34, Try.ntmps34
  go_wp2_with (fail)
  go_loopw [8] (fun i wr => ∃ k : Nat, k ≤ m ∧ i = .int .i64 k ∧ Below w.heap.size w wr ∧ Blk wr w.heap.size 38 #[.int .i64 p, .int .i64 q, .int .i64 t] ∧ Hid (firstE (l.drop k) (p, q, t) k = firstE l (p, q, t) 0)) (fun i _ => m - (intOf i).toNat)
  case atStart => exact ⟨0, Nat.zero_le _, rfl, hb0, Blk.new w 38 #[.int .i64 p, .int .i64 q, .int .i64 t], hide rfl⟩
  case round =>
    obtain ⟨k, hk, rfl, hbr, B0, HR⟩ := hrel
    have Sr : ESl wr M A m c l := hS.below hbr
    by_cases hlt : k < m
    · have hx : k < l.length := by have := HL.out; omega
      obtain ⟨ad, rfl, had, _, c0, c1, c2⟩ := Sr.get hx
      have HS := hide ((firstE_step l (p, q, t) hx).symm.trans HR.out)
      obtain ⟨x0, x1, x2⟩ := B0.facts
      by_cases hxv : l[k] = (p, q, t)
      · have HF := hide (show (k : Int) = firstE l (p, q, t) 0 by rw [← HS.out, if_pos hxv])
        have hn := ene_eq (x := (p, q, t)) (y := l[k]) hxv.symm
        clear hxv HS
        generalize l[k] = x at *
        obtain ⟨a, b, d⟩ := x
        simp only [] at c0 c1 c2 hn
        go_wp2_with (fail)
        refine wp_region_lex [] (fun w' => ∀ p, w'.cell? p = wr.cell? p) (by kernel_rfl) (by kernel_rfl) (fun _ => rfl) ?_
        (repeat ((with_reducible refine wpLex_step (fun K hK => ?_)); go_simp; first | ((with_reducible refine hK _ _ ?_); clear hK K) | ((with_reducible apply Exists.intro); refine ⟨fun w' hw' => ?_, hK _ _ ?_⟩; (· (apply valEq; (· (go_simp; first | done | (with_reducible rfl))); (· ((try go_bits); with_reducible rfl)))); clear hK K)))
        refine wpLex_nil (fun hw => ?_)
        go_wp2_with (fail)
        go_ret
        exact ⟨congrArg (fun x => Ending.returned (.int .i64 x)) HF.out, hbr.drew⟩
      · have HF := hide (show firstE (l.drop (k + 1)) (p, q, t) ((k + 1 : Nat) : Int) = firstE l (p, q, t) 0 by rw [← HS.out, if_neg hxv])
        have hn := ene_ne (x := (p, q, t)) (y := l[k]) (fun h => hxv h.symm)
        clear hxv HS
        generalize l[k] = x at *
        obtain ⟨a, b, d⟩ := x
        simp only [] at c0 c1 c2 hn
        go_wp2_with (fail)
        refine wp_region_lex [] (fun w' => ∀ p, w'.cell? p = wr.cell? p) (by kernel_rfl) (by kernel_rfl) (fun _ => rfl) ?_
        (repeat ((with_reducible refine wpLex_step (fun K hK => ?_)); go_simp; first | ((with_reducible refine hK _ _ ?_); clear hK K) | ((with_reducible apply Exists.intro); refine ⟨fun w' hw' => ?_, hK _ _ ?_⟩; (· (apply valEq; (· (go_simp; first | done | (with_reducible rfl))); (· ((try go_bits); with_reducible rfl)))); clear hK K)))
        refine wpLex_nil (fun hw => ?_)
        go_wp2_with (fail)
        exact ⟨⟨k + 1, by omega, by go_num, hbr.drew, B0.drew, HF⟩, by simp [intOf]; omega⟩
    · have HF := hide (show (-1 : Int) = firstE l (p, q, t) 0 by
        rw [← HR.out, List.drop_eq_nil_of_le (by have := HL.out; omega)]; rfl)
      go_wp2_with (fail)
      go_ret
      exact ⟨congrArg (fun x => Ending.returned (.int .i64 x)) HF.out, hbr⟩
theorem firstE_dec (l : List E3) (v : E3) : decide (0 ≤ firstE l v 0) = decide (v ∈ l) := by
  rw [Bool.eq_iff_iff, decide_eq_true_eq, decide_eq_true_eq]; exact firstE_mem l v 0 (Int.le_refl _)
theorem ehas_any (l : List E3) (p q t : Int) (M : List Nat) (A : Option Addr) (m c : Nat) (w : World) (hS : ESl w M A m c l) :
    Calls Try.prog 27 #[.slice A m c, .agg #[.int .i64 p, .int .i64 q, .int .i64 t]] w (Ret (.bool (decide ((p, q, t) ∈ l))) w) := by
  have qq := fun W h => eidx_any l p q t M A m c W h
  have HD := hide (firstE_dec l (p, q, t))
  generalize firstE l (p, q, t) 0 = f at *
  have Q := hide qq
  clear qq
  have hb0 := (Below.refl w.heap.size w).alloc (Nat.le_refl _) (.cells #[.int .i64 p, .int .i64 q, .int .i64 t] 38)
  go_enter Try.func27, Try.ntmps27
  go_wp2_with (fail)
  refine (Q.out _ (hS.alloc _)).mono ?_
  rintro e w1 ⟨rfl, b1⟩
  have hb1 := hb0.trans (b1.mono hb0.size)
  go_wp2_with (fail)
  go_ret
  exact ⟨congrArg (fun x => Ending.returned (.bool x)) HD.out, hb1⟩
end Go.Proofs.Ytbnkanhibjoleaa
