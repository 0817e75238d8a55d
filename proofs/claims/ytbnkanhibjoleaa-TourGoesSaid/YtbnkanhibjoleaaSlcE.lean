/-
  Cuts of slices of edges, as the walk meets them.
-/
import Derived.Test.YtbnkanhibjoleaaSlcI
import Derived.Test.YtbnkanhibjoleaaEdge
namespace Go.Proofs.Ytbnkanhibjoleaa
open Go Go.RowKit

theorem esl_size (w : World) : (sizeOf (Try.prog.elem 33)).run Try.prog w = .ok 3 w := by kernel_rfl
theorem esl_hi (A : Option Addr) (n c : Nat) (i : Int) (h0 : 0 ≤ i) (h1 : i ≤ c) (w : World) :
    (Instr.slice 33 (.slice A n c) none (some (.int .i64 i)) none).run Try.prog w = .ok (.slice A i.toNat c) w := by
  rw [run_slice_h (P := Try.prog) (t := 33) (a := A) (len := n) (cap := c) w Try.underlying33 .i64 i h0 h1, esl_size]
  simp [Result.andThen, sliced, map_zero_]
theorem esl_lo (A : Option Addr) (n c : Nat) (i : Int) (h0 : 0 ≤ i) (h1 : i ≤ n) (w : World) :
    (Instr.slice 33 (.slice A n c) (some (.int .i64 i)) none none).run Try.prog w = .ok (.slice (cutA A c i.toNat 3) (n - i.toNat) (c - i.toNat)) w := by
  rw [run_slice_l (P := Try.prog) (t := 33) (a := A) (len := n) (cap := c) w Try.underlying33 .i64 i h0 h1, esl_size]
  simp [Result.andThen, sliced, cutA]
theorem p_head {W : World} {M : List Nat} {A : Option Addr} {m c k : Nat} {l : List E3} (hS : ESl W M A m c l) (hk : k ≤ m) : Sl W [] 3 A k c (ecells (l.take k)) := by
  have := Sl.take hS hk
  rw [ecells_take] at this
  exact this.less (by simp)
theorem p_tail {W : World} {M : List Nat} {A : Option Addr} {m c k : Nat} {l : List E3} (hS : ESl W M A m c l) (hk : k ≤ m) : Sl W [] 3 (cutA A c k 3) (m - k) (c - k) (ecells (l.drop k)) := by
  have := Sl.cut hS hk
  rw [ecells_drop] at this
  exact this.less (by simp)
end Go.Proofs.Ytbnkanhibjoleaa
