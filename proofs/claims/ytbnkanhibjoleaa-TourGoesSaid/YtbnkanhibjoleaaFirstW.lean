/-
  raftsmanref08.First walked.
-/
import Derived.Test.YtbnkanhibjoleaaFirst0
namespace Go.Proofs.Ytbnkanhibjoleaa
open Go Go.RowKit
attribute [local go_sem] Heavy heavyUpon

theorem first_any (l : List Int) (v : Int) (M : List Nat) (A : Option Addr) (m c : Nat) (w : World) (hS : Sl w M 1 A m c (ints .i64 l)) :
    Calls Try.prog 25 #[.slice A m c, .int .i64 v] w (Ret (.int .i64 (firstI l v 0)) w) := by
  have HL := hide (show l.length = m by have := hS.len; simpa using this)
  have hcap : m ≤ maxLen := Nat.le_trans hS.le hS.cap
  unfold maxLen at hcap
  go_enter Try.func25, Try.ntmps25
  go_wp2_with (fail)
  go_loopw [5] (fun i wr => ∃ k : Nat, k ≤ m ∧ i = .int .i64 k ∧ Below w.heap.size w wr ∧ Hid (firstI (l.drop k) v k = firstI l v 0)) (fun i _ => m - (intOf i).toNat)
  case atStart => exact ⟨0, Nat.zero_le _, rfl, Below.refl _ _, hide rfl⟩
  case round =>
    obtain ⟨k, hk, rfl, hbr, HR⟩ := hrel
    have hSr := hS.below hbr
    by_cases hlt : k < m
    · obtain ⟨ad, rfl, had, _, hc⟩ := hSr.at_ (by omega)
      have hx : k < l.length := by have := HL.out; omega
      have c0 := hc _ _ (ints_get hx)
      have HS := hide ((firstI_step l v hx).symm.trans HR.out)
      clear hc
      generalize l[k] = x at *
      by_cases hxv : x = v
      · have HF := hide (show (k : Int) = firstI l v 0 by rw [← HS.out, if_pos hxv])
        have hd : (x == v) = true := by simp [hxv]
        clear hxv
        go_wp2_with (fail)
        go_ret
        exact ⟨congrArg (fun x => Ending.returned (.int .i64 x)) HF.out, hbr⟩
      · have HF := hide (show firstI (l.drop (k + 1)) v ((k + 1 : Nat) : Int) = firstI l v 0 by rw [← HS.out, if_neg hxv])
        have hd : (x == v) = false := by simp [hxv]
        clear hxv
        go_wp2_with (fail)
        exact ⟨⟨k + 1, by omega, by go_num, hbr, HF⟩, by simp [intOf]; omega⟩
    · have HF := hide (show (-1 : Int) = firstI l v 0 by
        rw [← HR.out, List.drop_eq_nil_of_le (by have := HL.out; omega)]; rfl)
      go_wp2_with (fail)
      go_ret
      exact ⟨congrArg (fun x => Ending.returned (.int .i64 x)) HF.out, hbr⟩

end Go.Proofs.Ytbnkanhibjoleaa
