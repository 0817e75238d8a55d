/-
  The card of the law TopForest holds: for every input the call returns true and leaves its arguments as they were; the package-level variables that the row lists are tied to the program's text.
-/
import Derived.Test.YtppblcbgkadldaaGreatDoorCards
import Derived.Test.YtppblcbgkadldaaGreatDoorTie
import Derived.Test.YtppblcbgkadldaaGreatDoorZ50
import Derived.SevenTiedAt
set_option linter.all false
namespace Go.Proofs.YtppblcbgkadldaaGreatDoor.topForest
open Go
set_option maxRecDepth 100000
theorem card:Rows.TopForestCardSaid:=
  Claim7.holds_tied_plain_at .later [] [.data, .data, .data] true (true, "af764896e6e4864726f46ffe69cf68f3a953dd60cfe2c5c3415154eaa8971889") true
    proved (fun _ h=>by cases h) (by kernel_rfl) (fun _ h=>by cases h) topForest_row_tie rfl ⟨rfl,rfl⟩ (by kernel_rfl) rfl
    (fun f fn hf hfn=>by
      obtain rfl : f = 3 := Option.some.inj ((show Tryz.prog.funcNamed "raftsman/raftsmantop.TopForest" = some 3 by kernel_rfl).symm.trans hf) |>.symm
      obtain rfl:fn=Tryz.f3:=(Option.some.inj (Tryz.func3.symm.trans hfn)).symm
      exact ⟨by kernel_rfl,fun j t ht=>by
        rw [Tryz.params3] at ht
        have hm:t ∈ [23,24,25]:=by simpa using Array.mem_of_getElem? ht
        have hall:([23,24,25].all fun u=>!Tryz.prog.wantsStandIn u)=true:=by kernel_rfl
        exact (show Tryz.prog.wantsStandIn t=false by simpa using List.all_eq_true.1 hall t hm)⟩)
    (by kernel_rfl)
#print axioms card
end Go.Proofs.YtppblcbgkadldaaGreatDoor.topForest
