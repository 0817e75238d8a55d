/-
  No cell of these rows narrows 'for every input' (looked for: loops, veiled, ifaces, maps, wideKeys, modest, calm, conditions, laid).
  DERIVED. THE GIVEN ROWS OF THIS SEAT. 4 by the template 'for every input the law returns true; each argument reads behind the call as it read before'; 0 by the template 'total and deterministic' (their statements: YthhmlcckeipolaaTotals.lean).
  GIVEN WITH THE SEED: the statements are not yours to turn. If you find one false, say at which input.
  Laid BY PROGRAM, IN A SANDBOX (cutbox-rows.mjs): the forced cells as the released guide's own fill.sh prints them over the translation b0ab155e326082cf… (all of the seat's roots in one cut). By AI agents, Wed Nov 11 2026. No macro, syntax, notation, axiom, sorry.
-/
import Derived.Test.YthhmlcckeipolaaChecked
import GoSem.Claim
import GoSem.ClaimJoined
import GoSem.ClaimMapViews
import Derived.JoinedTies
import Derived.KernelRfl
namespace Go.Proofs.Ythhmlcckeipolaa
/- THE CELL 'sum', in the pinned program and in every row, IS THE sha256 OF THE DUMP (.gsa) THAT YthhmlcckeipolaaProg.lean LOADS. Nothing in Lean hashes anything: it is a label: what it is worth is what the hold of that sum in a sandbox is worth. -/
noncomputable def Try.pinned : Pinned := { name := "ythhmlcckeipolaa", sum := "b0ab155e326082cfb9fdeba1b40d2ffb04965fbcd856be647584b04ec0e425cd", checked := Try.checked }
namespace Rows
def none {H : Type} : Left H := { results := [], args := [] }

/-- 'raftsmanlaw12.TableBack': WHATEVER THE INPUT: true; the input reads as it did. -/
def tableBackSpec : ChangeSpec := { name := "tableBack", fn := fun _ => fun
  | [d1, d2, d3, d4, d5] => { results := [.lit (.bool true)], args := [d1, d2, d3, d4, d5] }
  | _ => none }
def tableBackRow : OpenClaim := { program := "ythhmlcckeipolaa", sum := "b0ab155e326082cfb9fdeba1b40d2ffb04965fbcd856be647584b04ec0e425cd", func := "raftsman/raftsmanlaw12.TableBack", spec := "tableBack", apart := false }
def TableBackSaid : Prop := tableBackRow.holds Try.pinned (OpenSpec.ofChange tableBackSpec)

/-- ITS FALSE NEIGHBOUR: 'it returns false'. Refute it at one input. -/
def tableBackWrong : ChangeSpec := { name := "tableBack", fn := fun _ => fun
  | [d1, d2, d3, d4, d5] => { results := [.lit (.bool false)], args := [d1, d2, d3, d4, d5] }
  | _ => none }
def TableBackWrongFalsely : Prop := tableBackRow.holds Try.pinned (OpenSpec.ofChange tableBackWrong)

/-- 'raftsmanlaw12.TableNear': WHATEVER THE INPUT: true; the input reads as it did. -/
def tableNearSpec : ChangeSpec := { name := "tableNear", fn := fun _ => fun
  | [d1, d2, d3] => { results := [.lit (.bool true)], args := [d1, d2, d3] }
  | _ => none }
def tableNearRow : OpenClaim := { program := "ythhmlcckeipolaa", sum := "b0ab155e326082cfb9fdeba1b40d2ffb04965fbcd856be647584b04ec0e425cd", func := "raftsman/raftsmanlaw12.TableNear", spec := "tableNear", apart := false }
def TableNearSaid : Prop := tableNearRow.holds Try.pinned (OpenSpec.ofChange tableNearSpec)

/-- ITS FALSE NEIGHBOUR: 'it returns false'. Refute it at one input. -/
def tableNearWrong : ChangeSpec := { name := "tableNear", fn := fun _ => fun
  | [d1, d2, d3] => { results := [.lit (.bool false)], args := [d1, d2, d3] }
  | _ => none }
def TableNearWrongFalsely : Prop := tableNearRow.holds Try.pinned (OpenSpec.ofChange tableNearWrong)

/-- 'raftsmanlaw12.TableOrder': WHATEVER THE INPUT: true; the input reads as it did. -/
def tableOrderSpec : ChangeSpec := { name := "tableOrder", fn := fun _ => fun
  | [d1, d2, d3] => { results := [.lit (.bool true)], args := [d1, d2, d3] }
  | _ => none }
def tableOrderRow : OpenClaim := { program := "ythhmlcckeipolaa", sum := "b0ab155e326082cfb9fdeba1b40d2ffb04965fbcd856be647584b04ec0e425cd", func := "raftsman/raftsmanlaw12.TableOrder", spec := "tableOrder", apart := false }
def TableOrderSaid : Prop := tableOrderRow.holds Try.pinned (OpenSpec.ofChange tableOrderSpec)

/-- ITS FALSE NEIGHBOUR: 'it returns false'. Refute it at one input. -/
def tableOrderWrong : ChangeSpec := { name := "tableOrder", fn := fun _ => fun
  | [d1, d2, d3] => { results := [.lit (.bool false)], args := [d1, d2, d3] }
  | _ => none }
def TableOrderWrongFalsely : Prop := tableOrderRow.holds Try.pinned (OpenSpec.ofChange tableOrderWrong)

/-- 'raftsmanlaw12.TableSets': WHATEVER THE INPUT: true; the input reads as it did. -/
def tableSetsSpec : ChangeSpec := { name := "tableSets", fn := fun _ => fun
  | [d1, d2, d3, d4] => { results := [.lit (.bool true)], args := [d1, d2, d3, d4] }
  | _ => none }
def tableSetsRow : OpenClaim := { program := "ythhmlcckeipolaa", sum := "b0ab155e326082cfb9fdeba1b40d2ffb04965fbcd856be647584b04ec0e425cd", func := "raftsman/raftsmanlaw12.TableSets", spec := "tableSets", apart := false }
def TableSetsSaid : Prop := tableSetsRow.holds Try.pinned (OpenSpec.ofChange tableSetsSpec)

/-- ITS FALSE NEIGHBOUR: 'it returns false'. Refute it at one input. -/
def tableSetsWrong : ChangeSpec := { name := "tableSets", fn := fun _ => fun
  | [d1, d2, d3, d4] => { results := [.lit (.bool false)], args := [d1, d2, d3, d4] }
  | _ => none }
def TableSetsWrongFalsely : Prop := tableSetsRow.holds Try.pinned (OpenSpec.ofChange tableSetsWrong)

/- THE SECOND FORM. 'bulk': how many values and letters a reading holds, each counted each time it is reached (what is shared counts as often as it is met; a slice's spare places count too). A statement '..UptoSaid' is the law's where the arguments, and the package variables that the reading takes, are together of bulk at most 1048576: NARROWER than '..Said'. Prove '..Said' where nothing that the law and all that it calls make is longer than what came in: it says more and counts as full. Else prove '..UptoSaid'. A law counts once. -/
mutual
def uptoBulk {H : Type} : DataW H → Nat
  | .lit (.string bytes) => bytes.length + 1
  | .lit _ => 1
  | .nil => 1
  | .ptr d => uptoBulk d + 1
  | .slice elems spare => uptoBulkAll elems + uptoBulkAll spare + 1
  | .agg parts => uptoBulkAll parts + 1
  | .iface _ d => uptoBulk d + 1
  | .map entries => uptoBulkEntries entries + 1
  | .held _ => 1
def uptoBulkAll {H : Type} : List (DataW H) → Nat
  | [] => 0
  | d :: r => uptoBulk d + uptoBulkAll r
def uptoBulkEntries {H : Type} : List (Lit × DataW H) → Nat
  | [] => 0
  | x :: r => uptoBulkEntry x + uptoBulkEntries r
def uptoBulkEntry {H : Type} : Lit × DataW H → Nat
  | (.string bytes, d) => bytes.length + uptoBulk d + 1
  | (_, d) => uptoBulk d + 1
 end
def uptoSmall : (H : Type) → List (DataW H) → Bool := fun _ ds => decide (uptoBulkAll ds ≤ 1048576)
def OpenSpec.upto (s : _root_.Go.ChangeSpec) : _root_.Go.OpenSpec := { _root_.Go.OpenSpec.ofChange s with cond := some uptoSmall }

/-- 'raftsmanlaw12.TableBack', WHERE WHAT IT READS IS OF BULK AT MOST 1048576: true; the input reads as it did. -/
def tableBackUptoRow : OpenClaim := { program := "ythhmlcckeipolaa", sum := "b0ab155e326082cfb9fdeba1b40d2ffb04965fbcd856be647584b04ec0e425cd", func := "raftsman/raftsmanlaw12.TableBack", spec := "tableBack", apart := false, narrowed := true }
def TableBackUptoSaid : Prop := tableBackUptoRow.holds Try.pinned (OpenSpec.upto tableBackSpec)

/-- 'raftsmanlaw12.TableNear', WHERE WHAT IT READS IS OF BULK AT MOST 1048576: true; the input reads as it did. -/
def tableNearUptoRow : OpenClaim := { program := "ythhmlcckeipolaa", sum := "b0ab155e326082cfb9fdeba1b40d2ffb04965fbcd856be647584b04ec0e425cd", func := "raftsman/raftsmanlaw12.TableNear", spec := "tableNear", apart := false, narrowed := true }
def TableNearUptoSaid : Prop := tableNearUptoRow.holds Try.pinned (OpenSpec.upto tableNearSpec)

/-- 'raftsmanlaw12.TableOrder', WHERE WHAT IT READS IS OF BULK AT MOST 1048576: true; the input reads as it did. -/
def tableOrderUptoRow : OpenClaim := { program := "ythhmlcckeipolaa", sum := "b0ab155e326082cfb9fdeba1b40d2ffb04965fbcd856be647584b04ec0e425cd", func := "raftsman/raftsmanlaw12.TableOrder", spec := "tableOrder", apart := false, narrowed := true }
def TableOrderUptoSaid : Prop := tableOrderUptoRow.holds Try.pinned (OpenSpec.upto tableOrderSpec)

/-- 'raftsmanlaw12.TableSets', WHERE WHAT IT READS IS OF BULK AT MOST 1048576: true; the input reads as it did. -/
def tableSetsUptoRow : OpenClaim := { program := "ythhmlcckeipolaa", sum := "b0ab155e326082cfb9fdeba1b40d2ffb04965fbcd856be647584b04ec0e425cd", func := "raftsman/raftsmanlaw12.TableSets", spec := "tableSets", apart := false, narrowed := true }
def TableSetsUptoSaid : Prop := tableSetsUptoRow.holds Try.pinned (OpenSpec.upto tableSetsSpec)

end Rows
end Go.Proofs.Ythhmlcckeipolaa
