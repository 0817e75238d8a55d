/-
  raftsmanlaw13.distinct walked.
-/
import Derived.Test.YtbbdbgfenidhgaaProg
import Derived.Test.YtbbdbgfenidhgaaMem
import Derived.BigQuiet
namespace Go.Proofs.Ytbbdbgfenidhgaa
open Go Go.RowKit
attribute [local go_sem] Heavy heavyUpon

theorem nodup_step {l : List Int} {k : Nat} (h : k < l.length) (h0 : (l.take k).Nodup) (h1 : l[k] ∉ l.take k) : (l.take (k + 1)).Nodup := by
  rw [List.take_succ_eq_append_getElem h, List.nodup_append]
  refine ⟨h0, by simp, fun a ha b hb => ?_⟩
  simp only [List.mem_singleton] at hb
  subst hb
  intro e
  exact h1 (e ▸ ha)
theorem nodup_not {l : List Int} {j k : Nat} (h : k < l.length) (hj : j < k) (e : l[j]'(by omega) = l[k]) : ¬ l.Nodup := fun hn => by
  have := (List.nodup_iff_pairwise_ne.1 hn)
  have h2 := List.pairwise_iff_getElem.1 this j k (by omega) h hj
  exact h2 e

set_option maxHeartbeats 1600000 in
theorem distinct_any (l : List Int) (M : List Nat) (A : Option Addr) (m c : Nat) (w : World) (hS : Sl w M 1 A m c (ints .i64 l)) :
    Calls Try.prog 20 #[.slice A m c] w (Ret (.bool (decide l.Nodup)) w) := by
  have HL := hide (show l.length = m by have := hS.len; simpa using this)
  have hcap : m ≤ maxLen := Nat.le_trans hS.le hS.cap
  have hmc : m ≤ c := hS.le
  unfold maxLen at hcap
  go_enter Try.func20, Try.ntmps20
  go_wp2_with (fail)
  go_loopw [9] (fun i wr => ∃ k : Nat, k ≤ m ∧ i = .int .i64 k ∧ Below w.heap.size w wr ∧ Hid ((l.take k).Nodup)) (fun i _ => m - (intOf i).toNat)
  case atStart => exact ⟨0, Nat.zero_le _, rfl, Below.refl _ _, hide (by simp)⟩
  case round =>
    obtain ⟨k, hk, rfl, hbr, HR⟩ := hrel
    have hSr := hS.below hbr
    by_cases hlt : k < m
    · obtain ⟨ad, rfl, had, _, hc⟩ := hSr.at_ (by omega)
      have hx : k < l.length := by have := HL.out; omega
      have c0 := hc _ _ (ints_get hx)
      have HC := hide hc
      clear hc
      have HV := hide (show ∀ j (hj : j < k), (l[j]'(by omega)) = l[k] → ¬ l.Nodup from fun j hj e => nodup_not hx hj e)
      have HN := hide (show l[k] ∉ l.take k → (l.take (k + 1)).Nodup from fun h => nodup_step hx HR.out h)
      generalize l[k] = v at *
      have hkc : k ≤ c := by omega
      obtain ⟨WL, rfl⟩ : ∃ W : World, W = wr := ⟨_, rfl⟩
      go_wp2_with (fail)
      go_loopw [18] (fun i wr => ∃ j : Nat, j ≤ k ∧ i = .int .i64 j ∧ wr = WL ∧ Hid (v ∉ l.take j)) (fun i _ => k - (intOf i).toNat)
      case atStart => exact ⟨0, Nat.zero_le _, rfl, rfl, hide (by simp)⟩
      case round =>
        obtain ⟨j, hj, rfl, rfl, HJ⟩ := hrel
        by_cases hjl : j < k
        · have hy : j < l.length := by omega
          have d0 := HC.out _ _ (ints_get hy)
          have HV2 := hide (HV.out j hjl)
          have HJ2 := hide (show v ≠ l[j] → v ∉ l.take (j + 1) by
            intro hne
            rw [List.take_succ_eq_append_getElem hy, List.mem_append]
            rintro (h | h)
            · exact HJ.out h
            · exact hne (by simpa using h))
          generalize l[j] = s at *
          by_cases hvs : v = s
          · have hd : (v == s) = true := by simp [hvs]
            have HF := hide (decide_eq_false (HV2.out hvs.symm))
            clear hvs
            go_wp2_with (fail)
            go_ret
            exact ⟨congrArg (fun x => Ending.returned (.bool x)) HF.out.symm, hbr⟩
          · have hd : (v == s) = false := by simp [hvs]
            have HF := hide (HJ2.out hvs)
            clear hvs
            go_wp2_with (fail)
            exact ⟨⟨j + 1, by omega, by go_num, by trivial, HF⟩, by simp [intOf]; omega⟩
        · have hjk : j = k := by omega
          subst hjk
          have HF := hide (HN.out HJ.out)
          go_wp2_with (fail)
          exact ⟨⟨j + 1, by omega, by go_num, hbr, HF⟩, by simp [intOf]; omega⟩
    · have HF := hide (decide_eq_true (show l.Nodup by
        have := HR.out
        rwa [List.take_of_length_le (by have := HL.out; omega)] at this))
      go_wp2_with (fail)
      go_ret
      exact ⟨congrArg (fun x => Ending.returned (.bool x)) HF.out.symm, hbr⟩
end Go.Proofs.Ytbbdbgfenidhgaa
