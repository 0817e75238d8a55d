/-
  A part of the proof that the law TopForest returns true for every input and leaves its arguments as they were: Open.
-/
import Derived.Test.YtppblcbgkadldaaGreatDoorZ03
import Derived.OpenShut
import Derived.ProofKit
set_option linter.all false
namespace Go.Proofs.YtppblcbgkadldaaGreatDoor
open Go Go.RowKit Go.ChangeShapes Go.WideShapes
set_option maxRecDepth 100000
def IRow (k:IntKind) (w:World) (a:Option Addr) (len cap:Nat) (zs:List Int):Prop:=Sl w [] 1 a len cap (ints k zs) ∧ ∀ n ∈ zs,(Lit.int k n).wf=true
theorem wf_bd {k:IntKind} {n:Int} (h:(Lit.int k n).wf=true):k.min ≤ n ∧ n ≤ k.max:=by
  unfold Lit.wf at h
  simpa using h
theorem wf_u64 {n:Int} (h:(Lit.int .u64 n).wf=true):0 ≤ n ∧ n < 18446744073709551616:=by
  have h1:=wf_bd h
  have e1:IntKind.u64.min=0:=by rfl
  have e2:IntKind.u64.max=18446744073709551615:=by rfl
  omega
theorem IRow.u64 {w:World} {a:Option Addr} {len cap:Nat} {zs:List Int} (h:IRow .u64 w a len cap zs):∀ n ∈ zs,0 ≤ n ∧ n < 18446744073709551616:=
  fun n hn=>wf_u64 (h.2 n hn)
theorem row_nil (k:IntKind) (w:World):IRow k w none 0 0 []:=⟨Sl.nil_ w [] 1,fun n hn=>by simp at hn⟩
theorem row_some {k:IntKind} {w:World} {x:Addr} {len cap:Nat} {zs:List Int} (hl:len ≤ cap) (hc:cap ≤ maxLen) (hz:len ≤ zs.length)
    (hcell:∀ i,i < zs.length → w.cell? (x.add i)=some (.int k (zs.getD i 0))) (hwf:∀ n ∈ zs,(Lit.int k n).wf=true):IRow k w (some x) len cap (zs.take len):=by
  refine ⟨⟨by rw [length_ints,List.length_take];omega,hl,hc,fun hn=>?_⟩,fun n hn=>hwf n (List.mem_of_mem_take hn)⟩
  refine ⟨x,rfl,?_,by simp,fun j u hu=>?_⟩
  · have h0:=hcell 0 (by omega)
    have:=World.block_lt_of_cell? w _ h0
    rwa [block_of_add] at this
  · have hj:j < (zs.take len).length:=by
      rcases Nat.lt_or_ge j (zs.take len).length with h | h
      · exact h
      · rw [List.getElem?_eq_none (by rw [length_ints];exact h)] at hu;cases hu
    have hj2:j < zs.length:=by rw [List.length_take] at hj;omega
    rw [ints_get hj] at hu
    rw [hcell j hj2]
    rw [← hu,List.getElem_take]
    simp [List.getD,List.getElem?_eq_getElem hj2]
section
variable {H:Type} {enc:TypeId × Value → H} {P:Program} {w:World} {base:Nat} {spare:Nat → Bool} {held:Bool}
theorem open_irow {t e:TypeId} {k:IntKind} {a:Option Addr} {len cap:Nat} {d:DataW H} {p:List MemPlace} (ht:P.underlying t=some (.slice e)) (he:P.underlying e=some (.int k)) (hc:P.cellsOf e=1)
    (h:DataW.Trod enc P w base spare held t (.slice a len cap) d p):∃ zs,IRow k w a len cap zs:=by
  obtain ⟨fuel,hf⟩:=h
  rcases open_ints ht he hc hf with ⟨hcs,_⟩ | ⟨x,l,c,zs,hcs,_,hl,hm,hz,_,hcell,hwz⟩
  · simp [Value.cells] at hcs
    obtain ⟨rfl,rfl,rfl⟩:=hcs
    exact ⟨_,row_nil k w⟩
  · simp [Value.cells] at hcs
    obtain ⟨rfl,rfl,rfl⟩:=hcs
    exact ⟨_,row_some hl hm (by rw [hz];split <;> omega) hcell hwz⟩
end
end Go.Proofs.YtppblcbgkadldaaGreatDoor
