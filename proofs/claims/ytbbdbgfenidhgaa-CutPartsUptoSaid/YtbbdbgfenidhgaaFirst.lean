/-
  raftsmanref08.First and raftsmanref13.May walked.
-/
import Derived.Test.YtbbdbgfenidhgaaFits
import Derived.Test.YtbbdbgfenidhgaaRRight
namespace Go.Proofs.Ytbbdbgfenidhgaa
open Go Go.RowKit
attribute [local go_sem] Heavy heavyUpon

/-- The first place of a vertex, counted from k; -1: there is none. -/
def firstI : List Int → Int → Int → Int
  | [], _, _ => -1
  | x :: l, v, k => if x = v then k else firstI l v (k + 1)
theorem firstI_mem (l : List Int) (v k : Int) (h : 0 ≤ k) : 0 ≤ firstI l v k ↔ v ∈ l := by
  induction l generalizing k with
  | nil => simp [firstI]
  | cons x l ih =>
    unfold firstI
    by_cases hx : x = v
    · simp [hx, h]
    · rw [if_neg hx, ih _ (by omega)]
      simp [Ne.symm hx]
theorem firstI_step (l : List Int) (v : Int) {k : Nat} (h : k < l.length) : firstI (l.drop k) v k = if l[k] = v then (k : Int) else firstI (l.drop (k + 1)) v ((k + 1 : Nat) : Int) := by
  rw [List.drop_eq_getElem_cons h, firstI]; rfl

theorem first_any (l : List Int) (v : Int) (M : List Nat) (A : Option Addr) (m c : Nat) (w : World) (hS : Sl w M 1 A m c (ints .i64 l)) :
    Calls Try.prog 27 #[.slice A m c, .int .i64 v] w (Ret (.int .i64 (firstI l v 0)) w) := by
  have HL := hide (show l.length = m by have := hS.len; simpa using this)
  have hcap : m ≤ maxLen := Nat.le_trans hS.le hS.cap
  unfold maxLen at hcap
  go_enter Try.func27, Try.ntmps27
  go_wp2_with (fail)
  go_loopw [5] (fun i wr => ∃ k : Nat, k ≤ m ∧ i = .int .i64 k ∧ Below w.heap.size w wr ∧ Hid (firstI (l.drop k) v k = firstI l v 0)) (fun i _ => m - (intOf i).toNat)
  case atStart => exact ⟨0, Nat.zero_le _, rfl, Below.refl _ _, hide rfl⟩
  case round =>
    obtain ⟨k, hk, rfl, hbr, HR⟩ := hrel
    have hSr := hS.below hbr
    by_cases hlt : k < m
    · obtain ⟨ad, rfl, had, _, hc⟩ := hSr.at_ (by omega)
      have hx : k < l.length := by have := HL.out; omega
      have c0 := hc _ _ (ints_get hx)
      have HS := hide ((firstI_step l v hx).symm.trans HR.out)
      clear hc
      generalize l[k] = x at *
      by_cases hxv : x = v
      · have HF := hide (show (k : Int) = firstI l v 0 by rw [← HS.out, if_pos hxv])
        have hd : (x == v) = true := by simp [hxv]
        clear hxv
        go_wp2_with (fail)
        go_ret
        exact ⟨congrArg (fun x => Ending.returned (.int .i64 x)) HF.out, hbr⟩
      · have HF := hide (show firstI (l.drop (k + 1)) v ((k + 1 : Nat) : Int) = firstI l v 0 by rw [← HS.out, if_neg hxv])
        have hd : (x == v) = false := by simp [hxv]
        clear hxv
        go_wp2_with (fail)
        exact ⟨⟨k + 1, by omega, by go_num, hbr, HF⟩, by simp [intOf]; omega⟩
    · have HF := hide (show (-1 : Int) = firstI l v 0 by
        rw [← HR.out, List.drop_eq_nil_of_le (by have := HL.out; omega)]; rfl)
      go_wp2_with (fail)
      go_ret
      exact ⟨congrArg (fun x => Ending.returned (.int .i64 x)) HF.out, hbr⟩

set_option maxHeartbeats 800000 in
theorem may_any (l : List E3) (set : List Int) (M N : List Nat) (A B : Option Addr) (n : Int) (m c ms cs : Nat) (w : World) (hS : ESl w M A m c l) (hT : Sl w N 1 B ms cs (ints .i64 set)) :
    Calls Try.prog 15 #[.int .i64 n, .slice A m c, .slice B ms cs] w (Ret (.bool (fitsE n l set)) w) := by
  have HL := hide (show set.length = ms by have := hT.len; simpa using this)
  have hcap : ms ≤ maxLen := Nat.le_trans hT.le hT.cap
  unfold maxLen at hcap
  unfold fitsE
  have q : ∀ W, ESl W M A m c l → Calls Try.prog 19 #[.int .i64 n, .slice A m c] W (Ret (.bool (rightE n l)) W) := fun W h => rright_any l M A n m c W h
  generalize rightE n l = rt at *
  have Q := hide q
  clear q
  go_enter Try.func15, Try.ntmps15
  go_wp2_with (fail)
  refine (Q.out w hS).mono ?_
  rintro e w1 ⟨rfl, b1⟩
  go_wp2_with (fail)
  go_loopw [8] (fun i wr => ∃ k : Nat, k ≤ ms ∧ i = .int .i64 k ∧ Below w.heap.size w wr ∧ Hid ((set.take k).all (inN n) = true)) (fun i _ => ms - (intOf i).toNat)
  case atStart => exact ⟨0, Nat.zero_le _, rfl, b1, hide (by simp)⟩
  case round =>
    obtain ⟨k, hk, rfl, hbr, HR⟩ := hrel
    have hTr := hT.below hbr
    by_cases hlt : k < ms
    · obtain ⟨ad, rfl, had, _, hc⟩ := hTr.at_ (by omega)
      have hx : k < set.length := by have := HL.out; omega
      have c0 := hc _ _ (ints_get hx)
      have HT1 := hide (show (set.take (k + 1)).all (inN n) = inN n set[k] by
        rw [List.take_succ_eq_append_getElem hx, List.all_append, HR.out]; simp)
      have HT2 := hide (show inN n set[k] = false → set.all (inN n) = false by
        intro h
        cases h2 : set.all (inN n)
        · rfl
        · rw [List.all_eq_true.1 h2 _ (List.getElem_mem hx)] at h; cases h)
      clear hc
      generalize set[k] = v at *
      by_cases hv : 0 ≤ v ∧ v < n
      · have HF := hide (show (set.take (k + 1)).all (inN n) = true by rw [HT1.out, inN_yes hv])
        obtain ⟨hv0, hv1⟩ := hv
        go_wp2_with (fail)
        exact ⟨⟨k + 1, by omega, by go_num, hbr, HF⟩, by simp [intOf]; omega⟩
      · have HF := hide (show false = (rt && set.all (inN n)) by rw [HT2.out (inN_no hv), Bool.and_false])
        by_cases hv0 : v < 0
        · clear hv
          go_wp2_with (fail)
          go_ret
          exact ⟨congrArg (fun x => Ending.returned (.bool x)) HF.out, hbr⟩
        · have hv1 : n ≤ v := by omega
          clear hv
          go_wp2_with (fail)
          go_ret
          exact ⟨congrArg (fun x => Ending.returned (.bool x)) HF.out, hbr⟩
    · have HF := hide (show rt = (rt && set.all (inN n)) by
        have := HR.out
        rw [List.take_of_length_le (by have := HL.out; omega)] at this
        rw [this, Bool.and_true])
      go_wp2_with (fail)
      go_ret
      exact ⟨congrArg (fun x => Ending.returned (.bool x)) HF.out, hbr⟩
end Go.Proofs.Ytbbdbgfenidhgaa
