/-
  A part of the proof that the law TopForest returns true for every input and leaves its arguments as they were: EOpen, SOpen.
-/
import Derived.Test.YtppblcbgkadldaaGreatDoorZ06
import Derived.Test.YtppblcbgkadldaaGreatDoorZ20
import Derived.ChangeSame
import Derived.Deep.Fields
import Derived.Deep.Slices
set_option linter.all false
namespace Go.Proofs.YtppblcbgkadldaaGreatDoor
open Go Go.RowKit Go.ChangeShapes Go.WideShapes Go.Deep
set_option maxRecDepth 100000
def wfE (e:E3):Prop:=(Lit.int .i64 e.1).wf=true ∧ (Lit.int .i64 e.2.1).wf=true ∧ (Lit.int .i64 e.2.2).wf=true
end Go.Proofs.YtppblcbgkadldaaGreatDoor
namespace Go.Proofs.YtppblcbgkadldaaGreatDoor
open Go Go.RowKit Go.ChangeShapes Go.WideShapes Go.Deep
set_option maxRecDepth 100000
section
variable {H:Type} {enc:TypeId × Value → H} {P:Program} {w:World} {base:Nat} {spare:Nat → Bool} {held:Bool}
theorem open_edge {r:Reach} {b0:Nat} {e:TypeId} {f0 f1 f2:Field} {v:Value} {d:DataW H} {p:List MemPlace} (he:P.underlying e=some (.struct #[f0,f1,f2])) (hC:P.cellsOf e=3)
    (o0:f0.offset=0 ∧ P.cellsOf f0.type=1) (o1:f1.offset=1 ∧ P.cellsOf f1.type=1) (o2:f2.offset=2 ∧ P.cellsOf f2.type=1)
    (t0:P.underlying f0.type=some (.int .i64)) (t1:P.underlying f1.type=some (.int .i64)) (t2:P.underlying f2.type=some (.int .i64))
    (hval:Value.okWide P w r b0 e v) (h:DataW.Trod enc P w base spare held e v d p):∃ a b c,v=.agg #[.int .i64 a,.int .i64 b,.int .i64 c] ∧ wfE (a,b,c):=by
  unfold Value.okWide at hval
  rw [he] at hval
  obtain ⟨cs,rfl,hs,_⟩:=hval
  obtain ⟨fuel,hf⟩:=h
  obtain ⟨ys,n',_,_,_,hyl,hg⟩:=DataW.trod_struct he hf
  have hl:cs.toList.length=3:=by rw [Array.length_toList,hs,hC]
  have key:∀ (j:Nat) (f:Field) (hj:j < 3),#[f0,f1,f2][j]? = some f → f.offset=j ∧ P.cellsOf f.type=1 → P.underlying f.type=some (.int .i64) →
      ∃ k,cs.toList[j]? = some (.int .i64 k) ∧ (Lit.int .i64 k).wf=true:=by
    intro j f hj hfj ho hty
    have h1:=hg j f hfj
    simp only [Value.cells] at h1
    rw [ho.1,ho.2] at h1
    have hjc:j < cs.toList.length:=by omega
    rw [List.drop_eq_getElem_cons hjc,List.take_succ_cons,List.take_zero] at h1
    have hjy:j < ys.length:=by rw [hyl];exact hj
    rw [List.getElem?_eq_getElem hjy] at h1
    obtain ⟨k,hk,_,hw⟩:=DataW.trod_int hty h1
    refine ⟨k,?_,hw⟩
    injection hk with hk
    rw [List.getElem?_eq_getElem hjc,hk]
  obtain ⟨k0,a0,b0⟩:=key 0 f0 (by decide) rfl o0 t0
  obtain ⟨k1,a1,b1⟩:=key 1 f1 (by decide) rfl o1 t1
  obtain ⟨k2,a2,b2⟩:=key 2 f2 (by decide) rfl o2 t2
  refine ⟨k0,k1,k2,?_,b0,b1,b2⟩
  congr 1
  have e:cs.toList=[.int .i64 k0,.int .i64 k1,.int .i64 k2]:=by
    match hq:cs.toList,hl with
    | [x,y,z],_ =>
      rw [hq] at a0 a1 a2
      simp only [List.getElem?_cons_zero,List.getElem?_cons_succ,Option.some.injEq] at a0 a1 a2
      rw [a0,a1,a2]
  exact Array.toList_inj.1 e
end
end Go.Proofs.YtppblcbgkadldaaGreatDoor
