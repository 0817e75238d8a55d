/-
  No cell of these rows narrows 'for every input' (looked for: loops, veiled, ifaces, maps, wideKeys, modest, calm, conditions, laid).
  DERIVED. THE GIVEN ROWS OF THIS SEAT. 5 by the template 'for every input the law returns true; each argument reads behind the call as it read before'; 0 by the template 'total and deterministic' (their statements: YtbnkanhibjoleaaTotals.lean).
  GIVEN WITH THE SEED: the statements are not yours to turn. If you find one false, say at which input.
  Laid BY PROGRAM, IN A SANDBOX (cutbox-rows.mjs): the forced cells as the released guide's own fill.sh prints them over the translation 3e2477c9426f4e12… (all of the seat's roots in one cut). By AI agents, Wed Nov 11 2026. No macro, syntax, notation, axiom, sorry.
-/
import Derived.Test.YtbnkanhibjoleaaChecked
import GoSem.Claim
import GoSem.ClaimJoined
import GoSem.ClaimMapViews
import Derived.JoinedTies
import Derived.KernelRfl
namespace Go.Proofs.Ytbnkanhibjoleaa
/- THE CELL 'sum', in the pinned program and in every row, IS THE sha256 OF THE DUMP (.gsa) THAT YtbnkanhibjoleaaProg.lean LOADS. Nothing in Lean hashes anything: it is a label: what it is worth is what the hold of that sum in a sandbox is worth. -/
noncomputable def Try.pinned : Pinned := { name := "ytbnkanhibjoleaa", sum := "3e2477c9426f4e128603c086abd8b945668dccb46f4384cd820afb7ec3616d25", checked := Try.checked }
namespace Rows
def none {H : Type} : Left H := { results := [], args := [] }

/-- 'raftsmanlaw08.TourLinks': WHATEVER THE INPUT: true; the input reads as it did. -/
def tourLinksSpec : ChangeSpec := { name := "tourLinks", fn := fun _ => fun
  | [d1, d2, d3, d4] => { results := [.lit (.bool true)], args := [d1, d2, d3, d4] }
  | _ => none }
def tourLinksRow : OpenClaim := { program := "ytbnkanhibjoleaa", sum := "3e2477c9426f4e128603c086abd8b945668dccb46f4384cd820afb7ec3616d25", func := "raftsman/raftsmanlaw08.TourLinks", spec := "tourLinks", apart := false }
def TourLinksSaid : Prop := tourLinksRow.holds Try.pinned (OpenSpec.ofChange tourLinksSpec)

/-- ITS FALSE NEIGHBOUR: 'it returns false'. Refute it at one input. -/
def tourLinksWrong : ChangeSpec := { name := "tourLinks", fn := fun _ => fun
  | [d1, d2, d3, d4] => { results := [.lit (.bool false)], args := [d1, d2, d3, d4] }
  | _ => none }
def TourLinksWrongFalsely : Prop := tourLinksRow.holds Try.pinned (OpenSpec.ofChange tourLinksWrong)

/-- 'raftsmanlaw08.TourGoes': WHATEVER THE INPUT: true; the input reads as it did. -/
def tourGoesSpec : ChangeSpec := { name := "tourGoes", fn := fun _ => fun
  | [d] => { results := [.lit (.bool true)], args := [d] }
  | _ => none }
def tourGoesRow : OpenClaim := { program := "ytbnkanhibjoleaa", sum := "3e2477c9426f4e128603c086abd8b945668dccb46f4384cd820afb7ec3616d25", func := "raftsman/raftsmanlaw08.TourGoes", spec := "tourGoes", apart := false }
def TourGoesSaid : Prop := tourGoesRow.holds Try.pinned (OpenSpec.ofChange tourGoesSpec)

/-- ITS FALSE NEIGHBOUR: 'it returns false'. Refute it at one input. -/
def tourGoesWrong : ChangeSpec := { name := "tourGoes", fn := fun _ => fun
  | [d] => { results := [.lit (.bool false)], args := [d] }
  | _ => none }
def TourGoesWrongFalsely : Prop := tourGoesRow.holds Try.pinned (OpenSpec.ofChange tourGoesWrong)

/-- 'raftsmanlaw08.TourTurns': WHATEVER THE INPUT: true; the input reads as it did. -/
def tourTurnsSpec : ChangeSpec := { name := "tourTurns", fn := fun _ => fun
  | [d1, d2] => { results := [.lit (.bool true)], args := [d1, d2] }
  | _ => none }
def tourTurnsRow : OpenClaim := { program := "ytbnkanhibjoleaa", sum := "3e2477c9426f4e128603c086abd8b945668dccb46f4384cd820afb7ec3616d25", func := "raftsman/raftsmanlaw08.TourTurns", spec := "tourTurns", apart := false }
def TourTurnsSaid : Prop := tourTurnsRow.holds Try.pinned (OpenSpec.ofChange tourTurnsSpec)

/-- ITS FALSE NEIGHBOUR: 'it returns false'. Refute it at one input. -/
def tourTurnsWrong : ChangeSpec := { name := "tourTurns", fn := fun _ => fun
  | [d1, d2] => { results := [.lit (.bool false)], args := [d1, d2] }
  | _ => none }
def TourTurnsWrongFalsely : Prop := tourTurnsRow.holds Try.pinned (OpenSpec.ofChange tourTurnsWrong)

/-- 'raftsmanlaw08.TourSplits': WHATEVER THE INPUT: true; the input reads as it did. -/
def tourSplitsSpec : ChangeSpec := { name := "tourSplits", fn := fun _ => fun
  | [d1, d2, d3, d4] => { results := [.lit (.bool true)], args := [d1, d2, d3, d4] }
  | _ => none }
def tourSplitsRow : OpenClaim := { program := "ytbnkanhibjoleaa", sum := "3e2477c9426f4e128603c086abd8b945668dccb46f4384cd820afb7ec3616d25", func := "raftsman/raftsmanlaw08.TourSplits", spec := "tourSplits", apart := false }
def TourSplitsSaid : Prop := tourSplitsRow.holds Try.pinned (OpenSpec.ofChange tourSplitsSpec)

/-- ITS FALSE NEIGHBOUR: 'it returns false'. Refute it at one input. -/
def tourSplitsWrong : ChangeSpec := { name := "tourSplits", fn := fun _ => fun
  | [d1, d2, d3, d4] => { results := [.lit (.bool false)], args := [d1, d2, d3, d4] }
  | _ => none }
def TourSplitsWrongFalsely : Prop := tourSplitsRow.holds Try.pinned (OpenSpec.ofChange tourSplitsWrong)

/-- 'raftsmanlaw08.TourLeaf': WHATEVER THE INPUT: true; the input reads as it did. -/
def tourLeafSpec : ChangeSpec := { name := "tourLeaf", fn := fun _ => fun
  | [d] => { results := [.lit (.bool true)], args := [d] }
  | _ => none }
def tourLeafRow : OpenClaim := { program := "ytbnkanhibjoleaa", sum := "3e2477c9426f4e128603c086abd8b945668dccb46f4384cd820afb7ec3616d25", func := "raftsman/raftsmanlaw08.TourLeaf", spec := "tourLeaf", apart := false }
def TourLeafSaid : Prop := tourLeafRow.holds Try.pinned (OpenSpec.ofChange tourLeafSpec)

/-- ITS FALSE NEIGHBOUR: 'it returns false'. Refute it at one input. -/
def tourLeafWrong : ChangeSpec := { name := "tourLeaf", fn := fun _ => fun
  | [d] => { results := [.lit (.bool false)], args := [d] }
  | _ => none }
def TourLeafWrongFalsely : Prop := tourLeafRow.holds Try.pinned (OpenSpec.ofChange tourLeafWrong)

/- THE SECOND FORM. 'bulk': how many values and letters a reading holds, each counted each time it is reached (what is shared counts as often as it is met; a slice's spare places count too). A statement '..UptoSaid' is the law's where the arguments, and the package variables that the reading takes, are together of bulk at most 1048576: NARROWER than '..Said'. Prove '..Said' where nothing that the law and all that it calls make is longer than what came in: it says more and counts as full. Else prove '..UptoSaid'. A law counts once. -/
mutual
def uptoBulk {H : Type} : DataW H → Nat
  | .lit (.string bytes) => bytes.length + 1
  | .lit _ => 1
  | .nil => 1
  | .ptr d => uptoBulk d + 1
  | .slice elems spare => uptoBulkAll elems + uptoBulkAll spare + 1
  | .agg parts => uptoBulkAll parts + 1
  | .iface _ d => uptoBulk d + 1
  | .map entries => uptoBulkEntries entries + 1
  | .held _ => 1
def uptoBulkAll {H : Type} : List (DataW H) → Nat
  | [] => 0
  | d :: r => uptoBulk d + uptoBulkAll r
def uptoBulkEntries {H : Type} : List (Lit × DataW H) → Nat
  | [] => 0
  | x :: r => uptoBulkEntry x + uptoBulkEntries r
def uptoBulkEntry {H : Type} : Lit × DataW H → Nat
  | (.string bytes, d) => bytes.length + uptoBulk d + 1
  | (_, d) => uptoBulk d + 1
 end
def uptoSmall : (H : Type) → List (DataW H) → Bool := fun _ ds => decide (uptoBulkAll ds ≤ 1048576)
def OpenSpec.upto (s : _root_.Go.ChangeSpec) : _root_.Go.OpenSpec := { _root_.Go.OpenSpec.ofChange s with cond := some uptoSmall }

/-- 'raftsmanlaw08.TourLinks', WHERE WHAT IT READS IS OF BULK AT MOST 1048576: true; the input reads as it did. -/
def tourLinksUptoRow : OpenClaim := { program := "ytbnkanhibjoleaa", sum := "3e2477c9426f4e128603c086abd8b945668dccb46f4384cd820afb7ec3616d25", func := "raftsman/raftsmanlaw08.TourLinks", spec := "tourLinks", apart := false, narrowed := true }
def TourLinksUptoSaid : Prop := tourLinksUptoRow.holds Try.pinned (OpenSpec.upto tourLinksSpec)

/-- 'raftsmanlaw08.TourGoes', WHERE WHAT IT READS IS OF BULK AT MOST 1048576: true; the input reads as it did. -/
def tourGoesUptoRow : OpenClaim := { program := "ytbnkanhibjoleaa", sum := "3e2477c9426f4e128603c086abd8b945668dccb46f4384cd820afb7ec3616d25", func := "raftsman/raftsmanlaw08.TourGoes", spec := "tourGoes", apart := false, narrowed := true }
def TourGoesUptoSaid : Prop := tourGoesUptoRow.holds Try.pinned (OpenSpec.upto tourGoesSpec)

/-- 'raftsmanlaw08.TourTurns', WHERE WHAT IT READS IS OF BULK AT MOST 1048576: true; the input reads as it did. -/
def tourTurnsUptoRow : OpenClaim := { program := "ytbnkanhibjoleaa", sum := "3e2477c9426f4e128603c086abd8b945668dccb46f4384cd820afb7ec3616d25", func := "raftsman/raftsmanlaw08.TourTurns", spec := "tourTurns", apart := false, narrowed := true }
def TourTurnsUptoSaid : Prop := tourTurnsUptoRow.holds Try.pinned (OpenSpec.upto tourTurnsSpec)

/-- 'raftsmanlaw08.TourSplits', WHERE WHAT IT READS IS OF BULK AT MOST 1048576: true; the input reads as it did. -/
def tourSplitsUptoRow : OpenClaim := { program := "ytbnkanhibjoleaa", sum := "3e2477c9426f4e128603c086abd8b945668dccb46f4384cd820afb7ec3616d25", func := "raftsman/raftsmanlaw08.TourSplits", spec := "tourSplits", apart := false, narrowed := true }
def TourSplitsUptoSaid : Prop := tourSplitsUptoRow.holds Try.pinned (OpenSpec.upto tourSplitsSpec)

/-- 'raftsmanlaw08.TourLeaf', WHERE WHAT IT READS IS OF BULK AT MOST 1048576: true; the input reads as it did. -/
def tourLeafUptoRow : OpenClaim := { program := "ytbnkanhibjoleaa", sum := "3e2477c9426f4e128603c086abd8b945668dccb46f4384cd820afb7ec3616d25", func := "raftsman/raftsmanlaw08.TourLeaf", spec := "tourLeaf", apart := false, narrowed := true }
def TourLeafUptoSaid : Prop := tourLeafUptoRow.holds Try.pinned (OpenSpec.upto tourLeafSpec)

end Rows
end Go.Proofs.Ytbnkanhibjoleaa
