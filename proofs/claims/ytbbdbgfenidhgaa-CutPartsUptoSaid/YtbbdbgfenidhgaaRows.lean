/-
  No cell of these rows narrows 'for every input' (looked for: loops, veiled, ifaces, maps, wideKeys, modest, calm, conditions, laid).
  DERIVED. THE GIVEN ROWS OF THIS SEAT. 5 by the template 'for every input the law returns true; each argument reads behind the call as it read before'; 0 by the template 'total and deterministic' (their statements: YtbbdbgfenidhgaaTotals.lean).
  GIVEN WITH THE SEED: the statements are not yours to turn. If you find one false, say at which input.
  Laid BY PROGRAM, IN A SANDBOX (cutbox-rows.mjs): the forced cells as the released guide's own fill.sh prints them over the translation 08bd818c3a095cfa… (all of the seat's roots in one cut). By AI agents, Wed Nov 11 2026. No macro, syntax, notation, axiom, sorry.
-/
import Derived.Test.YtbbdbgfenidhgaaChecked
import GoSem.Claim
import GoSem.ClaimJoined
import GoSem.ClaimMapViews
import Derived.JoinedTies
import Derived.KernelRfl
namespace Go.Proofs.Ytbbdbgfenidhgaa
/- THE CELL 'sum', in the pinned program and in every row, IS THE sha256 OF THE DUMP (.gsa) THAT YtbbdbgfenidhgaaProg.lean LOADS. Nothing in Lean hashes anything: it is a label: what it is worth is what the hold of that sum in a sandbox is worth. -/
noncomputable def Try.pinned : Pinned := { name := "ytbbdbgfenidhgaa", sum := "08bd818c3a095cfa9cd625b9cfe8c7a687d1dedff0ddb7547de227b5fc2ac13f", checked := Try.checked }
namespace Rows
def none {H : Type} : Left H := { results := [], args := [] }

/-- 'raftsmanlaw13.CutTells': WHATEVER THE INPUT: true; the input reads as it did. -/
def cutTellsSpec : ChangeSpec := { name := "cutTells", fn := fun _ => fun
  | [d1, d2, d3, d4] => { results := [.lit (.bool true)], args := [d1, d2, d3, d4] }
  | _ => none }
def cutTellsRow : OpenClaim := { program := "ytbbdbgfenidhgaa", sum := "08bd818c3a095cfa9cd625b9cfe8c7a687d1dedff0ddb7547de227b5fc2ac13f", func := "raftsman/raftsmanlaw13.CutTells", spec := "cutTells", apart := false }
def CutTellsSaid : Prop := cutTellsRow.holds Try.pinned (OpenSpec.ofChange cutTellsSpec)

/-- ITS FALSE NEIGHBOUR: 'it returns false'. Refute it at one input. -/
def cutTellsWrong : ChangeSpec := { name := "cutTells", fn := fun _ => fun
  | [d1, d2, d3, d4] => { results := [.lit (.bool false)], args := [d1, d2, d3, d4] }
  | _ => none }
def CutTellsWrongFalsely : Prop := cutTellsRow.holds Try.pinned (OpenSpec.ofChange cutTellsWrong)

/-- 'raftsmanlaw13.CutMixed': WHATEVER THE INPUT: true; the input reads as it did. -/
def cutMixedSpec : ChangeSpec := { name := "cutMixed", fn := fun _ => fun
  | [d1, d2, d3] => { results := [.lit (.bool true)], args := [d1, d2, d3] }
  | _ => none }
def cutMixedRow : OpenClaim := { program := "ytbbdbgfenidhgaa", sum := "08bd818c3a095cfa9cd625b9cfe8c7a687d1dedff0ddb7547de227b5fc2ac13f", func := "raftsman/raftsmanlaw13.CutMixed", spec := "cutMixed", apart := false }
def CutMixedSaid : Prop := cutMixedRow.holds Try.pinned (OpenSpec.ofChange cutMixedSpec)

/-- ITS FALSE NEIGHBOUR: 'it returns false'. Refute it at one input. -/
def cutMixedWrong : ChangeSpec := { name := "cutMixed", fn := fun _ => fun
  | [d1, d2, d3] => { results := [.lit (.bool false)], args := [d1, d2, d3] }
  | _ => none }
def CutMixedWrongFalsely : Prop := cutMixedRow.holds Try.pinned (OpenSpec.ofChange cutMixedWrong)

/-- 'raftsmanlaw13.CutParts': WHATEVER THE INPUT: true; the input reads as it did. -/
def cutPartsSpec : ChangeSpec := { name := "cutParts", fn := fun _ => fun
  | [d1, d2, d3, d4] => { results := [.lit (.bool true)], args := [d1, d2, d3, d4] }
  | _ => none }
def cutPartsRow : OpenClaim := { program := "ytbbdbgfenidhgaa", sum := "08bd818c3a095cfa9cd625b9cfe8c7a687d1dedff0ddb7547de227b5fc2ac13f", func := "raftsman/raftsmanlaw13.CutParts", spec := "cutParts", apart := false }
def CutPartsSaid : Prop := cutPartsRow.holds Try.pinned (OpenSpec.ofChange cutPartsSpec)

/-- ITS FALSE NEIGHBOUR: 'it returns false'. Refute it at one input. -/
def cutPartsWrong : ChangeSpec := { name := "cutParts", fn := fun _ => fun
  | [d1, d2, d3, d4] => { results := [.lit (.bool false)], args := [d1, d2, d3, d4] }
  | _ => none }
def CutPartsWrongFalsely : Prop := cutPartsRow.holds Try.pinned (OpenSpec.ofChange cutPartsWrong)

/-- 'raftsmanlaw13.CutStars': WHATEVER THE INPUT: true; the input reads as it did. -/
def cutStarsSpec : ChangeSpec := { name := "cutStars", fn := fun _ => fun
  | [d1, d2] => { results := [.lit (.bool true)], args := [d1, d2] }
  | _ => none }
def cutStarsRow : OpenClaim := { program := "ytbbdbgfenidhgaa", sum := "08bd818c3a095cfa9cd625b9cfe8c7a687d1dedff0ddb7547de227b5fc2ac13f", func := "raftsman/raftsmanlaw13.CutStars", spec := "cutStars", apart := false }
def CutStarsSaid : Prop := cutStarsRow.holds Try.pinned (OpenSpec.ofChange cutStarsSpec)

/-- ITS FALSE NEIGHBOUR: 'it returns false'. Refute it at one input. -/
def cutStarsWrong : ChangeSpec := { name := "cutStars", fn := fun _ => fun
  | [d1, d2] => { results := [.lit (.bool false)], args := [d1, d2] }
  | _ => none }
def CutStarsWrongFalsely : Prop := cutStarsRow.holds Try.pinned (OpenSpec.ofChange cutStarsWrong)

/-- 'raftsmanlaw13.CutNames': WHATEVER THE INPUT: true; the input reads as it did. -/
def cutNamesSpec : ChangeSpec := { name := "cutNames", fn := fun _ => fun
  | [d1, d2, d3] => { results := [.lit (.bool true)], args := [d1, d2, d3] }
  | _ => none }
def cutNamesRow : OpenClaim := { program := "ytbbdbgfenidhgaa", sum := "08bd818c3a095cfa9cd625b9cfe8c7a687d1dedff0ddb7547de227b5fc2ac13f", func := "raftsman/raftsmanlaw13.CutNames", spec := "cutNames", apart := false }
def CutNamesSaid : Prop := cutNamesRow.holds Try.pinned (OpenSpec.ofChange cutNamesSpec)

/-- ITS FALSE NEIGHBOUR: 'it returns false'. Refute it at one input. -/
def cutNamesWrong : ChangeSpec := { name := "cutNames", fn := fun _ => fun
  | [d1, d2, d3] => { results := [.lit (.bool false)], args := [d1, d2, d3] }
  | _ => none }
def CutNamesWrongFalsely : Prop := cutNamesRow.holds Try.pinned (OpenSpec.ofChange cutNamesWrong)

/- THE SECOND FORM. 'bulk': how many values and letters a reading holds, each counted each time it is reached (what is shared counts as often as it is met; a slice's spare places count too). A statement '..UptoSaid' is the law's where the arguments, and the package variables that the reading takes, are together of bulk at most 1048576: NARROWER than '..Said'. Prove '..Said' where nothing that the law and all that it calls make is longer than what came in: it says more and counts as full. Else prove '..UptoSaid'. A law counts once. -/
mutual
def uptoBulk {H : Type} : DataW H → Nat
  | .lit (.string bytes) => bytes.length + 1
  | .lit _ => 1
  | .nil => 1
  | .ptr d => uptoBulk d + 1
  | .slice elems spare => uptoBulkAll elems + uptoBulkAll spare + 1
  | .agg parts => uptoBulkAll parts + 1
  | .iface _ d => uptoBulk d + 1
  | .map entries => uptoBulkEntries entries + 1
  | .held _ => 1
def uptoBulkAll {H : Type} : List (DataW H) → Nat
  | [] => 0
  | d :: r => uptoBulk d + uptoBulkAll r
def uptoBulkEntries {H : Type} : List (Lit × DataW H) → Nat
  | [] => 0
  | x :: r => uptoBulkEntry x + uptoBulkEntries r
def uptoBulkEntry {H : Type} : Lit × DataW H → Nat
  | (.string bytes, d) => bytes.length + uptoBulk d + 1
  | (_, d) => uptoBulk d + 1
 end
def uptoSmall : (H : Type) → List (DataW H) → Bool := fun _ ds => decide (uptoBulkAll ds ≤ 1048576)
def OpenSpec.upto (s : _root_.Go.ChangeSpec) : _root_.Go.OpenSpec := { _root_.Go.OpenSpec.ofChange s with cond := some uptoSmall }

/-- 'raftsmanlaw13.CutTells', WHERE WHAT IT READS IS OF BULK AT MOST 1048576: true; the input reads as it did. -/
def cutTellsUptoRow : OpenClaim := { program := "ytbbdbgfenidhgaa", sum := "08bd818c3a095cfa9cd625b9cfe8c7a687d1dedff0ddb7547de227b5fc2ac13f", func := "raftsman/raftsmanlaw13.CutTells", spec := "cutTells", apart := false, narrowed := true }
def CutTellsUptoSaid : Prop := cutTellsUptoRow.holds Try.pinned (OpenSpec.upto cutTellsSpec)

/-- 'raftsmanlaw13.CutMixed', WHERE WHAT IT READS IS OF BULK AT MOST 1048576: true; the input reads as it did. -/
def cutMixedUptoRow : OpenClaim := { program := "ytbbdbgfenidhgaa", sum := "08bd818c3a095cfa9cd625b9cfe8c7a687d1dedff0ddb7547de227b5fc2ac13f", func := "raftsman/raftsmanlaw13.CutMixed", spec := "cutMixed", apart := false, narrowed := true }
def CutMixedUptoSaid : Prop := cutMixedUptoRow.holds Try.pinned (OpenSpec.upto cutMixedSpec)

/-- 'raftsmanlaw13.CutParts', WHERE WHAT IT READS IS OF BULK AT MOST 1048576: true; the input reads as it did. -/
def cutPartsUptoRow : OpenClaim := { program := "ytbbdbgfenidhgaa", sum := "08bd818c3a095cfa9cd625b9cfe8c7a687d1dedff0ddb7547de227b5fc2ac13f", func := "raftsman/raftsmanlaw13.CutParts", spec := "cutParts", apart := false, narrowed := true }
def CutPartsUptoSaid : Prop := cutPartsUptoRow.holds Try.pinned (OpenSpec.upto cutPartsSpec)

/-- 'raftsmanlaw13.CutStars', WHERE WHAT IT READS IS OF BULK AT MOST 1048576: true; the input reads as it did. -/
def cutStarsUptoRow : OpenClaim := { program := "ytbbdbgfenidhgaa", sum := "08bd818c3a095cfa9cd625b9cfe8c7a687d1dedff0ddb7547de227b5fc2ac13f", func := "raftsman/raftsmanlaw13.CutStars", spec := "cutStars", apart := false, narrowed := true }
def CutStarsUptoSaid : Prop := cutStarsUptoRow.holds Try.pinned (OpenSpec.upto cutStarsSpec)

/-- 'raftsmanlaw13.CutNames', WHERE WHAT IT READS IS OF BULK AT MOST 1048576: true; the input reads as it did. -/
def cutNamesUptoRow : OpenClaim := { program := "ytbbdbgfenidhgaa", sum := "08bd818c3a095cfa9cd625b9cfe8c7a687d1dedff0ddb7547de227b5fc2ac13f", func := "raftsman/raftsmanlaw13.CutNames", spec := "cutNames", apart := false, narrowed := true }
def CutNamesUptoSaid : Prop := cutNamesUptoRow.holds Try.pinned (OpenSpec.upto cutNamesSpec)

end Rows
end Go.Proofs.Ytbbdbgfenidhgaa
