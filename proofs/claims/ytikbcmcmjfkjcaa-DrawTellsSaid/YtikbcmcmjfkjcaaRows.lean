/-
  No cell of these rows narrows 'for every input' (looked for: loops, veiled, ifaces, maps, wideKeys, modest, calm, conditions, laid).
  DERIVED. THE GIVEN ROWS OF THIS SEAT. 5 by the template 'for every input the law returns true; each argument reads behind the call as it read before'; 0 by the template 'total and deterministic' (their statements: YtikbcmcmjfkjcaaTotals.lean).
  GIVEN WITH THE SEED: the statements are not yours to turn. If you find one false, say at which input.
  Laid BY PROGRAM, IN A SANDBOX (cutbox-rows.mjs): the forced cells as the released guide's own fill.sh prints them over the translation ed798959431a9e36… (all of the seat's roots in one cut). By AI agents, Wed Nov 11 2026. No macro, syntax, notation, axiom, sorry.
-/
import Derived.Test.YtikbcmcmjfkjcaaChecked
import GoSem.Claim
import GoSem.ClaimJoined
import GoSem.ClaimMapViews
import Derived.JoinedTies
import Derived.KernelRfl
namespace Go.Proofs.Ytikbcmcmjfkjcaa
/- THE CELL 'sum', in the pinned program and in every row, IS THE sha256 OF THE DUMP (.gsa) THAT YtikbcmcmjfkjcaaProg.lean LOADS. Nothing in Lean hashes anything: it is a label: what it is worth is what the hold of that sum in a sandbox is worth. -/
noncomputable def Try.pinned : Pinned := { name := "ytikbcmcmjfkjcaa", sum := "ed798959431a9e36047c4eee2e7ac2bd660d4a27b9b8387e36fe61484af21ed6", checked := Try.checked }
namespace Rows
def none {H : Type} : Left H := { results := [], args := [] }

/-- 'raftsmanlaw02.DrawTells': WHATEVER THE INPUT: true; the input reads as it did. -/
def drawTellsSpec : ChangeSpec := { name := "drawTells", fn := fun _ => fun
  | [d1, d2, d3] => { results := [.lit (.bool true)], args := [d1, d2, d3] }
  | _ => none }
def drawTellsRow : OpenClaim := { program := "ytikbcmcmjfkjcaa", sum := "ed798959431a9e36047c4eee2e7ac2bd660d4a27b9b8387e36fe61484af21ed6", func := "raftsman/raftsmanlaw02.DrawTells", spec := "drawTells", apart := false }
def DrawTellsSaid : Prop := drawTellsRow.holds Try.pinned (OpenSpec.ofChange drawTellsSpec)

/-- ITS FALSE NEIGHBOUR: 'it returns false'. Refute it at one input. -/
def drawTellsWrong : ChangeSpec := { name := "drawTells", fn := fun _ => fun
  | [d1, d2, d3] => { results := [.lit (.bool false)], args := [d1, d2, d3] }
  | _ => none }
def DrawTellsWrongFalsely : Prop := drawTellsRow.holds Try.pinned (OpenSpec.ofChange drawTellsWrong)

/-- 'raftsmanlaw02.DrawEight': WHATEVER THE INPUT: true; the input reads as it did. -/
def drawEightSpec : ChangeSpec := { name := "drawEight", fn := fun _ => fun
  | [d1, d2] => { results := [.lit (.bool true)], args := [d1, d2] }
  | _ => none }
def drawEightRow : OpenClaim := { program := "ytikbcmcmjfkjcaa", sum := "ed798959431a9e36047c4eee2e7ac2bd660d4a27b9b8387e36fe61484af21ed6", func := "raftsman/raftsmanlaw02.DrawEight", spec := "drawEight", apart := false }
def DrawEightSaid : Prop := drawEightRow.holds Try.pinned (OpenSpec.ofChange drawEightSpec)

/-- ITS FALSE NEIGHBOUR: 'it returns false'. Refute it at one input. -/
def drawEightWrong : ChangeSpec := { name := "drawEight", fn := fun _ => fun
  | [d1, d2] => { results := [.lit (.bool false)], args := [d1, d2] }
  | _ => none }
def DrawEightWrongFalsely : Prop := drawEightRow.holds Try.pinned (OpenSpec.ofChange drawEightWrong)

/-- 'raftsmanlaw02.DrawOn': WHATEVER THE INPUT: true; the input reads as it did. -/
def drawOnSpec : ChangeSpec := { name := "drawOn", fn := fun _ => fun
  | [d1, d2, d3, d4] => { results := [.lit (.bool true)], args := [d1, d2, d3, d4] }
  | _ => none }
def drawOnRow : OpenClaim := { program := "ytikbcmcmjfkjcaa", sum := "ed798959431a9e36047c4eee2e7ac2bd660d4a27b9b8387e36fe61484af21ed6", func := "raftsman/raftsmanlaw02.DrawOn", spec := "drawOn", apart := false }
def DrawOnSaid : Prop := drawOnRow.holds Try.pinned (OpenSpec.ofChange drawOnSpec)

/-- ITS FALSE NEIGHBOUR: 'it returns false'. Refute it at one input. -/
def drawOnWrong : ChangeSpec := { name := "drawOn", fn := fun _ => fun
  | [d1, d2, d3, d4] => { results := [.lit (.bool false)], args := [d1, d2, d3, d4] }
  | _ => none }
def DrawOnWrongFalsely : Prop := drawOnRow.holds Try.pinned (OpenSpec.ofChange drawOnWrong)

/-- 'raftsmanlaw02.DrawLeft': WHATEVER THE INPUT: true; the input reads as it did. -/
def drawLeftSpec : ChangeSpec := { name := "drawLeft", fn := fun _ => fun
  | [d] => { results := [.lit (.bool true)], args := [d] }
  | _ => none }
def drawLeftRow : OpenClaim := { program := "ytikbcmcmjfkjcaa", sum := "ed798959431a9e36047c4eee2e7ac2bd660d4a27b9b8387e36fe61484af21ed6", func := "raftsman/raftsmanlaw02.DrawLeft", spec := "drawLeft", apart := false }
def DrawLeftSaid : Prop := drawLeftRow.holds Try.pinned (OpenSpec.ofChange drawLeftSpec)

/-- ITS FALSE NEIGHBOUR: 'it returns false'. Refute it at one input. -/
def drawLeftWrong : ChangeSpec := { name := "drawLeft", fn := fun _ => fun
  | [d] => { results := [.lit (.bool false)], args := [d] }
  | _ => none }
def DrawLeftWrongFalsely : Prop := drawLeftRow.holds Try.pinned (OpenSpec.ofChange drawLeftWrong)

/-- 'raftsmanlaw02.DrawGood': WHATEVER THE INPUT: true; the input reads as it did. -/
def drawGoodSpec : ChangeSpec := { name := "drawGood", fn := fun _ => fun
  | [d] => { results := [.lit (.bool true)], args := [d] }
  | _ => none }
def drawGoodRow : OpenClaim := { program := "ytikbcmcmjfkjcaa", sum := "ed798959431a9e36047c4eee2e7ac2bd660d4a27b9b8387e36fe61484af21ed6", func := "raftsman/raftsmanlaw02.DrawGood", spec := "drawGood", apart := false }
def DrawGoodSaid : Prop := drawGoodRow.holds Try.pinned (OpenSpec.ofChange drawGoodSpec)

/-- ITS FALSE NEIGHBOUR: 'it returns false'. Refute it at one input. -/
def drawGoodWrong : ChangeSpec := { name := "drawGood", fn := fun _ => fun
  | [d] => { results := [.lit (.bool false)], args := [d] }
  | _ => none }
def DrawGoodWrongFalsely : Prop := drawGoodRow.holds Try.pinned (OpenSpec.ofChange drawGoodWrong)

/- THE SECOND FORM. 'bulk': how many values and letters a reading holds, each counted each time it is reached (what is shared counts as often as it is met; a slice's spare places count too). A statement '..UptoSaid' is the law's where the arguments, and the package variables that the reading takes, are together of bulk at most 1048576: NARROWER than '..Said'. Prove '..Said' where nothing that the law and all that it calls make is longer than what came in: it says more and counts as full. Else prove '..UptoSaid'. A law counts once. -/
mutual
def uptoBulk {H : Type} : DataW H → Nat
  | .lit (.string bytes) => bytes.length + 1
  | .lit _ => 1
  | .nil => 1
  | .ptr d => uptoBulk d + 1
  | .slice elems spare => uptoBulkAll elems + uptoBulkAll spare + 1
  | .agg parts => uptoBulkAll parts + 1
  | .iface _ d => uptoBulk d + 1
  | .map entries => uptoBulkEntries entries + 1
  | .held _ => 1
def uptoBulkAll {H : Type} : List (DataW H) → Nat
  | [] => 0
  | d :: r => uptoBulk d + uptoBulkAll r
def uptoBulkEntries {H : Type} : List (Lit × DataW H) → Nat
  | [] => 0
  | x :: r => uptoBulkEntry x + uptoBulkEntries r
def uptoBulkEntry {H : Type} : Lit × DataW H → Nat
  | (.string bytes, d) => bytes.length + uptoBulk d + 1
  | (_, d) => uptoBulk d + 1
 end
def uptoSmall : (H : Type) → List (DataW H) → Bool := fun _ ds => decide (uptoBulkAll ds ≤ 1048576)
def OpenSpec.upto (s : _root_.Go.ChangeSpec) : _root_.Go.OpenSpec := { _root_.Go.OpenSpec.ofChange s with cond := some uptoSmall }

/-- 'raftsmanlaw02.DrawTells', WHERE WHAT IT READS IS OF BULK AT MOST 1048576: true; the input reads as it did. -/
def drawTellsUptoRow : OpenClaim := { program := "ytikbcmcmjfkjcaa", sum := "ed798959431a9e36047c4eee2e7ac2bd660d4a27b9b8387e36fe61484af21ed6", func := "raftsman/raftsmanlaw02.DrawTells", spec := "drawTells", apart := false, narrowed := true }
def DrawTellsUptoSaid : Prop := drawTellsUptoRow.holds Try.pinned (OpenSpec.upto drawTellsSpec)

/-- 'raftsmanlaw02.DrawEight', WHERE WHAT IT READS IS OF BULK AT MOST 1048576: true; the input reads as it did. -/
def drawEightUptoRow : OpenClaim := { program := "ytikbcmcmjfkjcaa", sum := "ed798959431a9e36047c4eee2e7ac2bd660d4a27b9b8387e36fe61484af21ed6", func := "raftsman/raftsmanlaw02.DrawEight", spec := "drawEight", apart := false, narrowed := true }
def DrawEightUptoSaid : Prop := drawEightUptoRow.holds Try.pinned (OpenSpec.upto drawEightSpec)

/-- 'raftsmanlaw02.DrawOn', WHERE WHAT IT READS IS OF BULK AT MOST 1048576: true; the input reads as it did. -/
def drawOnUptoRow : OpenClaim := { program := "ytikbcmcmjfkjcaa", sum := "ed798959431a9e36047c4eee2e7ac2bd660d4a27b9b8387e36fe61484af21ed6", func := "raftsman/raftsmanlaw02.DrawOn", spec := "drawOn", apart := false, narrowed := true }
def DrawOnUptoSaid : Prop := drawOnUptoRow.holds Try.pinned (OpenSpec.upto drawOnSpec)

/-- 'raftsmanlaw02.DrawLeft', WHERE WHAT IT READS IS OF BULK AT MOST 1048576: true; the input reads as it did. -/
def drawLeftUptoRow : OpenClaim := { program := "ytikbcmcmjfkjcaa", sum := "ed798959431a9e36047c4eee2e7ac2bd660d4a27b9b8387e36fe61484af21ed6", func := "raftsman/raftsmanlaw02.DrawLeft", spec := "drawLeft", apart := false, narrowed := true }
def DrawLeftUptoSaid : Prop := drawLeftUptoRow.holds Try.pinned (OpenSpec.upto drawLeftSpec)

/-- 'raftsmanlaw02.DrawGood', WHERE WHAT IT READS IS OF BULK AT MOST 1048576: true; the input reads as it did. -/
def drawGoodUptoRow : OpenClaim := { program := "ytikbcmcmjfkjcaa", sum := "ed798959431a9e36047c4eee2e7ac2bd660d4a27b9b8387e36fe61484af21ed6", func := "raftsman/raftsmanlaw02.DrawGood", spec := "drawGood", apart := false, narrowed := true }
def DrawGoodUptoSaid : Prop := drawGoodUptoRow.holds Try.pinned (OpenSpec.upto drawGoodSpec)

end Rows
end Go.Proofs.Ytikbcmcmjfkjcaa
