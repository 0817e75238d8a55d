/-
  name.Find walked.
-/
import Derived.Test.YtnfogcnlkchdmaaEdge
import Derived.Test.YtnfogcnlkchdmaaFind0
namespace Go.Proofs.Ytnfogcnlkchdmaa
open Go Go.RowKit
attribute [local go_sem] Heavy heavyUpon

/-- What name.Find answers. -/
def placeT (l : List E3) (u v : Int) : Int := if 0 ≤ findI l u v 0 then findI l u v 0 else 0
def thereT (l : List E3) (u v : Int) : Bool := decide (0 ≤ findI l u v 0)

set_option maxHeartbeats 1600000 in
theorem nfind_any (l : List E3) (u v : Int) (M : List Nat) (A : Option Addr) (m c : Nat) (w : World) (hS : ESl w M A m c l) :
    Calls Try.prog 17 #[.slice A m c, .int .i64 u, .int .i64 v] w (Ret (.tuple #[.int .i64 (placeT l u v), .bool (thereT l u v)]) w) := by
  have HY := hide (show ∀ k : Nat, findI l u v 0 = (k : Int) → placeT l u v = (k : Int) ∧ thereT l u v = true from fun k h => by
    unfold placeT thereT; rw [h, if_pos (by omega)]; exact ⟨rfl, decide_eq_true (by omega)⟩)
  have HN := hide (show findI l u v 0 = -1 → placeT l u v = 0 ∧ thereT l u v = false from fun h => by
    unfold placeT thereT; rw [h]; exact ⟨rfl, rfl⟩)
  generalize placeT l u v = PT at *
  generalize thereT l u v = TT at *
  have HL := hide hS.length
  have hcap : m ≤ maxLen := Nat.le_trans hS.le hS.cap
  unfold maxLen at hcap
  go_enter Try.func17, Try.ntmps17
  go_wp2_with (fail)
  go_loopw [12] (fun i wr => ∃ k : Nat, k ≤ m ∧ i = .int .i64 k ∧ Below w.heap.size w wr ∧ Hid (findI (l.drop k) u v k = findI l u v 0)) (fun i _ => m - (intOf i).toNat)
  case atStart => exact ⟨0, Nat.zero_le _, rfl, Below.refl _ _, hide rfl⟩
  case round =>
    obtain ⟨k, hk, rfl, hbr, HR⟩ := hrel
    have Sr : ESl wr M A m c l := hS.below hbr
    by_cases hlt : k < m
    · have hx : k < l.length := by have := HL.out; omega
      obtain ⟨ad, rfl, had, _, c0, c1, c2⟩ := Sr.get hx
      have HS := hide ((findI_step l u v hx).symm.trans HR.out)
      generalize l[k] = x at *
      obtain ⟨x, y, t⟩ := x
      simp only [] at c0 c1 c2
      have hb1 := hbr.alloc hbr.size (.cells #[.int .i64 x, .int .i64 y, .int .i64 t] 24)
      have YES := hide (show hitE u v (x, y, t) = true → PT = (k : Int) ∧ TT = true from fun h => HY.out k (by rw [← HS.out, if_pos h]))
      have NO := hide (show hitE u v (x, y, t) = false → findI (l.drop (k + 1)) u v ((k + 1 : Nat) : Int) = findI l u v 0 from fun h => by rw [← HS.out, if_neg (by rw [h]; decide)])
      cases p1 : x == u
      · cases p3 : x == v
        · (have HF := hide (NO.out (by simp [hitE, p1, p3])); clear YES NO HS HR; go_wp2_with (fail); exact ⟨⟨k + 1, by omega, by go_num, hb1, HF⟩, by simp [intOf]; omega⟩)
        · cases p4 : y == u
          · (have HF := hide (NO.out (by simp [hitE, p1, p3, p4])); clear YES NO HS HR; go_wp2_with (fail); exact ⟨⟨k + 1, by omega, by go_num, hb1, HF⟩, by simp [intOf]; omega⟩)
          · (have HF := hide (YES.out (by simp [hitE, p1, p3, p4])); clear YES NO HS HR; go_wp2_with (fail); go_ret2; exact ⟨by rw [HF.out.1, HF.out.2]; rfl, hb1⟩)
      · cases p2 : y == v
        · cases p3 : x == v
          · (have HF := hide (NO.out (by simp [hitE, p1, p2, p3])); clear YES NO HS HR; go_wp2_with (fail); exact ⟨⟨k + 1, by omega, by go_num, hb1, HF⟩, by simp [intOf]; omega⟩)
          · cases p4 : y == u
            · (have HF := hide (NO.out (by simp [hitE, p1, p2, p3, p4])); clear YES NO HS HR; go_wp2_with (fail); exact ⟨⟨k + 1, by omega, by go_num, hb1, HF⟩, by simp [intOf]; omega⟩)
            · (have HF := hide (YES.out (by simp [hitE, p1, p2, p3, p4])); clear YES NO HS HR; go_wp2_with (fail); go_ret2; exact ⟨by rw [HF.out.1, HF.out.2]; rfl, hb1⟩)
        · (have HF := hide (YES.out (by simp [hitE, p1, p2])); clear YES NO HS HR; go_wp2_with (fail); go_ret2; exact ⟨by rw [HF.out.1, HF.out.2]; rfl, hb1⟩)
    · have HF := hide (HN.out (by
        rw [← HR.out, List.drop_eq_nil_of_le (by have := HL.out; omega)]; rfl))
      go_wp2_with (fail)
      go_ret2
      exact ⟨by rw [HF.out.1, HF.out.2]; rfl, hbr⟩

end Go.Proofs.Ytnfogcnlkchdmaa
