/-
  One edge in a block of its own.
-/
import Derived.Test.YtbnkanhibjoleaaEdge
namespace Go.Proofs.Ytbnkanhibjoleaa
open Go Go.RowKit

theorem e1_new (w : World) (p q t : Int) : Sl (w.alloc (.cells #[.int .i64 p, .int .i64 q, .int .i64 t] 38)) [] 3 (some ⟨w.heap.size, 0, none⟩) 1 1 (ecells [(p, q, t)]) :=
  Sl.of_blk (Blk.new w 38 #[.int .i64 p, .int .i64 q, .int .i64 t]) rfl (fun x hx => by match x, hx with | 0, _ | 1, _ | 2, _ => rfl) (by simp) (by unfold maxLen; omega)
end Go.Proofs.Ytbnkanhibjoleaa
