/-
  raftsmanref12.Find walked: the first place of an edge with two ends.
-/
import Derived.Test.YtbbdbgfenidhgaaFind0
namespace Go.Proofs.Ytbbdbgfenidhgaa
open Go Go.RowKit
attribute [local go_sem] Heavy heavyUpon

set_option maxHeartbeats 1600000 in
theorem find_any (l : List E3) (u v : Int) (M : List Nat) (A : Option Addr) (m c : Nat) (w : World) (hS : ESl w M A m c l) :
    Calls Try.prog 21 #[.slice A m c, .int .i64 u, .int .i64 v] w (Ret (.int .i64 (findI l u v 0)) w) := by
  have HL := hide hS.length
  have hcap : m ≤ maxLen := Nat.le_trans hS.le hS.cap
  unfold maxLen at hcap
  go_enter Try.func21, Try.ntmps21
  go_wp2_with (fail)
  go_loop [7] (fun i => ∃ k : Nat, k ≤ m ∧ i = .int .i64 k ∧ Hid (findI (l.drop k) u v k = findI l u v 0)) (fun i => m - (intOf i).toNat)
  case atStart => exact ⟨0, Nat.zero_le _, rfl, hide rfl⟩
  case round =>
    obtain ⟨k, hk, rfl, HR⟩ := hrel
    by_cases hlt : k < m
    · have hx : k < l.length := by have := HL.out; omega
      obtain ⟨ad, rfl, had, _, c0, c1, c2⟩ := hS.get hx
      have HS := hide ((findI_step l u v hx).symm.trans HR.out)
      generalize l[k] = x at *
      obtain ⟨x, y, t⟩ := x
      simp only [] at c0 c1 c2
      have YES := hide (show hitE u v (x, y, t) = true → (k : Int) = findI l u v 0 from fun h => by rw [← HS.out, if_pos h])
      have NO := hide (show hitE u v (x, y, t) = false → findI (l.drop (k + 1)) u v ((k + 1 : Nat) : Int) = findI l u v 0 from fun h => by rw [← HS.out, if_neg (by rw [h]; decide)])
      cases p1 : x == u
      · cases p3 : x == v
        · (have HF := hide (NO.out (by simp [hitE, p1, p3])); clear YES NO HS HR; go_wp2_with (fail); exact ⟨⟨k + 1, by omega, by go_num, HF⟩, by simp [intOf]; omega⟩)
        · cases p4 : y == u
          · (have HF := hide (NO.out (by simp [hitE, p1, p3, p4])); clear YES NO HS HR; go_wp2_with (fail); exact ⟨⟨k + 1, by omega, by go_num, HF⟩, by simp [intOf]; omega⟩)
          · (have HF := hide (YES.out (by simp [hitE, p1, p3, p4])); clear YES NO HS HR; go_wp2_with (fail); go_ret; exact ⟨congrArg (fun x => Ending.returned (.int .i64 x)) HF.out, Below.refl _ _⟩)
      · cases p2 : y == v
        · cases p3 : x == v
          · (have HF := hide (NO.out (by simp [hitE, p1, p2, p3])); clear YES NO HS HR; go_wp2_with (fail); exact ⟨⟨k + 1, by omega, by go_num, HF⟩, by simp [intOf]; omega⟩)
          · cases p4 : y == u
            · (have HF := hide (NO.out (by simp [hitE, p1, p2, p3, p4])); clear YES NO HS HR; go_wp2_with (fail); exact ⟨⟨k + 1, by omega, by go_num, HF⟩, by simp [intOf]; omega⟩)
            · (have HF := hide (YES.out (by simp [hitE, p1, p2, p3, p4])); clear YES NO HS HR; go_wp2_with (fail); go_ret; exact ⟨congrArg (fun x => Ending.returned (.int .i64 x)) HF.out, Below.refl _ _⟩)
        · (have HF := hide (YES.out (by simp [hitE, p1, p2])); clear YES NO HS HR; go_wp2_with (fail); go_ret; exact ⟨congrArg (fun x => Ending.returned (.int .i64 x)) HF.out, Below.refl _ _⟩)
    · have HF := hide (show (-1 : Int) = findI l u v 0 by
        rw [← HR.out, List.drop_eq_nil_of_le (by have := HL.out; omega)]; rfl)
      go_wp2_with (fail)
      go_ret
      exact ⟨congrArg (fun x => Ending.returned (.int .i64 x)) HF.out, Below.refl _ _⟩
end Go.Proofs.Ytbbdbgfenidhgaa
