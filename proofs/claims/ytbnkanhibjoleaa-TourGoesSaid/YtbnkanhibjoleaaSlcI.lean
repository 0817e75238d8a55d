/-
  Cuts of slices, as the walk meets them.
-/
import Derived.Test.YtbnkanhibjoleaaConcatI
namespace Go.Proofs.Ytbnkanhibjoleaa
open Go Go.RowKit

def cutA (A : Option Addr) (c k s : Nat) : Option Addr := if c = k then A else A.map (·.add (k * s))
theorem add_zero_ (a : Addr) : a.add 0 = a := by unfold Addr.add; simp
theorem map_zero_ (A : Option Addr) : A.map (·.add 0) = A := by cases A <;> simp [add_zero_]
theorem isl_size (w : World) : (sizeOf (Try.prog.elem 22)).run Try.prog w = .ok 1 w := by kernel_rfl
theorem isl_hi (A : Option Addr) (n c : Nat) (i : Int) (h0 : 0 ≤ i) (h1 : i ≤ c) (w : World) :
    (Instr.slice 22 (.slice A n c) none (some (.int .i64 i)) none).run Try.prog w = .ok (.slice A i.toNat c) w := by
  rw [run_slice_h (P := Try.prog) (t := 22) (a := A) (len := n) (cap := c) w Try.underlying22 .i64 i h0 h1, isl_size]
  simp [Result.andThen, sliced, map_zero_]
theorem isl_lo (A : Option Addr) (n c : Nat) (i : Int) (h0 : 0 ≤ i) (h1 : i ≤ n) (w : World) :
    (Instr.slice 22 (.slice A n c) (some (.int .i64 i)) none none).run Try.prog w = .ok (.slice (cutA A c i.toNat 1) (n - i.toNat) (c - i.toNat)) w := by
  rw [run_slice_l (P := Try.prog) (t := 22) (a := A) (len := n) (cap := c) w Try.underlying22 .i64 i h0 h1, isl_size]
  simp [Result.andThen, sliced, cutA]
theorem isl_both (A : Option Addr) (n c : Nat) (i j : Int) (h0 : 0 ≤ i) (h1 : i ≤ j) (h2 : j ≤ c) (w : World) :
    (Instr.slice 22 (.slice A n c) (some (.int .i64 i)) (some (.int .i64 j)) none).run Try.prog w = .ok (.slice (cutA A c i.toNat 1) (j.toNat - i.toNat) (c - i.toNat)) w := by
  rw [run_slice_lh (P := Try.prog) (t := 22) (a := A) (len := n) (cap := c) w Try.underlying22 .i64 .i64 i j h0 h1 h2, isl_size]
  simp [Result.andThen, sliced, cutA]
theorem ints_take (l : List Int) (k : Nat) : (ints .i64 l).take k = ints .i64 (l.take k) := by simp [ints, List.map_take]
theorem ints_drop (l : List Int) (k : Nat) : (ints .i64 l).drop k = ints .i64 (l.drop k) := by simp [ints, List.map_drop]
theorem q_head {W : World} {M : List Nat} {A : Option Addr} {m c k : Nat} {l : List Int} (hS : Sl W M 1 A m c (ints .i64 l)) (hk : k ≤ m) : Sl W [] 1 A k c (ints .i64 (l.take k)) := by
  have := Sl.take hS hk
  rw [Nat.mul_one, ints_take] at this
  exact this.less (by simp)
theorem q_tail {W : World} {M : List Nat} {A : Option Addr} {m c k : Nat} {l : List Int} (hS : Sl W M 1 A m c (ints .i64 l)) (hk : k ≤ m) : Sl W [] 1 (cutA A c k 1) (m - k) (c - k) (ints .i64 (l.drop k)) := by
  have := Sl.cut hS hk
  rw [Nat.mul_one, ints_drop] at this
  have := this.less (M' := []) (by simp)
  unfold cutA
  rw [Nat.mul_one]
  exact this
theorem q_mid {W : World} {M : List Nat} {A : Option Addr} {m c j k : Nat} {l : List Int} (hS : Sl W M 1 A m c (ints .i64 l)) (hk : k ≤ m) (hj : j ≤ k) : Sl W [] 1 (cutA A c j 1) (k - j) (c - j) (ints .i64 ((l.take k).drop j)) :=
  q_tail (q_head hS hk) hj
end Go.Proofs.Ytbnkanhibjoleaa
