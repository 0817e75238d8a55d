/-
  A part of the proof that the law TopForest returns true for every input and leaves its arguments as they were: COpen, LawD.
-/
import Derived.Test.YtppblcbgkadldaaGreatDoorZ20
import Derived.Test.YtppblcbgkadldaaGreatDoorZ39
import Derived.Test.YtppblcbgkadldaaGreatDoorZ40
import Derived.ChangeSame
import Derived.Deep.Fields
import Derived.Deep.Slices
set_option linter.all false
namespace Go.Proofs.YtppblcbgkadldaaGreatDoor
open Go Go.RowKit Go.ChangeShapes Go.WideShapes Go.Deep
set_option maxRecDepth 100000
def wfC (x:Cmd):Prop:=(Lit.int .i64 x.1).wf=true ∧ (Lit.int .u64 x.2.1).wf=true ∧ (Lit.int .u64 x.2.2.1).wf=true
def CRow (w:World) (a:Option Addr) (len cap:Nat) (z:List Cmd):Prop:=CSl w a len cap z ∧ ∀ x ∈ z,wfC x
theorem crow_some {w:World} {x:Addr} {len cap:Nat} (hl:len ≤ cap) (hc:cap ≤ maxLen) (f:Nat → Cmd)
    (h:∀ i,i < len → w.cell? (x.add (i * 4))=some (.int .i64 (f i).1) ∧ w.cell? (x.add (i * 4 + 1))=some (.int .u64 (f i).2.1) ∧ w.cell? (x.add (i * 4 + 2))=some (.int .u64 (f i).2.2.1) ∧ w.cell? (x.add (i * 4 + 3))=some (.string (f i).2.2.2) ∧ wfC (f i)) :
    CRow w (some x) len cap ((List.range len).map f):=by
  have hlen:((List.range len).map f).length=len:=by simp
  refine ⟨⟨by rw [ccells_len,hlen],hl,hc,fun hn=>⟨x,rfl,?_,by simp,fun j u hu=>?_⟩⟩,fun e he=>?_⟩
  · have:=World.block_lt_of_cell? w _ (h 0 hn).1
    rwa [block_of_add] at this
  · have hj:j < len * 4:=by
      rcases Nat.lt_or_ge j (len * 4) with h' | h'
      · exact h'
      · rw [List.getElem?_eq_none (by rw [ccells_len,hlen];exact h')] at hu;cases hu
    have hi:j / 4 < len:=by omega
    have hi':j / 4 < ((List.range len).map f).length:=by rw [hlen];exact hi
    obtain ⟨c0,c1,c2,c3,_⟩:=h _ hi
    have hg:((List.range len).map f)[j / 4]=f (j / 4):=by simp
    have hr:j % 4=0 ∨ j % 4=1 ∨ j % 4=2 ∨ j % 4=3:=by omega
    rcases hr with hr | hr | hr | hr
    · have e:j=j / 4 * 4:=by omega
      rw [e,ccells_get0 _ _ hi',hg] at hu
      rw [e,← hu];exact c0
    · have e:j=j / 4 * 4 + 1:=by omega
      rw [e,ccells_get1 _ _ hi',hg] at hu
      rw [e,← hu];exact c1
    · have e:j=j / 4 * 4 + 2:=by omega
      rw [e,ccells_get2 _ _ hi',hg] at hu
      rw [e,← hu];exact c2
    · have e:j=j / 4 * 4 + 3:=by omega
      rw [e,ccells_get3 _ _ hi',hg] at hu
      rw [e,← hu];exact c3
  · simp only [List.mem_map,List.mem_range] at he
    obtain ⟨i,hi,rfl⟩:=he
    exact (h i hi).2.2.2.2
section
variable {H:Type} {enc:TypeId × Value → H} {P:Program} {w:World} {base:Nat} {spare:Nat → Bool} {held:Bool}
theorem open_crow {t e:TypeId} {f0 f1 f2 f3:Field} {a:Option Addr} {len cap:Nat} {d:DataW H} {p:List MemPlace} (ht:P.underlying t=some (.slice e)) (he:P.underlying e=some (.struct #[f0,f1,f2,f3])) (hC:P.cellsOf e=4)
    (o0:f0.offset=0 ∧ P.cellsOf f0.type=1) (o1:f1.offset=1 ∧ P.cellsOf f1.type=1) (o2:f2.offset=2 ∧ P.cellsOf f2.type=1) (o3:f3.offset=3 ∧ P.cellsOf f3.type=1)
    (t0:P.underlying f0.type=some (.int .i64)) (t1:P.underlying f1.type=some (.int .u64)) (t2:P.underlying f2.type=some (.int .u64)) (t3:P.underlying f3.type=some .string)
    (h:DataW.Trod enc P w base spare held t (.slice a len cap) d p):∃ z,CRow w a len cap z:=by
  obtain ⟨fuel,hf⟩:=h
  rcases open_slice ht hf with ⟨hcs,_⟩ | ⟨x,l,c,m,n,D,Pl,hcs,_,hl,hm,hmm,_,hi⟩
  · simp [Value.cells] at hcs
    obtain ⟨rfl,rfl,rfl⟩:=hcs
    exact ⟨[],Sl.nil_ _ _ _,fun x hx=>by cases hx⟩
  · simp [Value.cells] at hcs
    obtain ⟨rfl,rfl,rfl⟩:=hcs
    have hex:∀ i,∃ q:Cmd,i < len → w.cell? (x.add (i * 4))=some (.int .i64 q.1) ∧ w.cell? (x.add (i * 4 + 1))=some (.int .u64 q.2.1) ∧ w.cell? (x.add (i * 4 + 2))=some (.int .u64 q.2.2.1) ∧ w.cell? (x.add (i * 4 + 3))=some (.string q.2.2.2) ∧ wfC q:=by
      intro i
      by_cases hlt:i < len
      · obtain ⟨cs',hc,ht'⟩:=hi i (by rw [hmm];split <;> omega)
        rw [hC] at hc
        obtain ⟨ys,n',_,_,_,hyl,hf⟩:=DataW.trod_struct he ht'
        obtain ⟨_,hcl,hat⟩:=World.cells?_some hc
        have hpre:∀ (j:Nat) (f:Field) (hj:j < 4),#[f0,f1,f2,f3][j]? = some f → f.offset=j ∧ P.cellsOf f.type=1 →
            ∃ (hjc:j < cs'.length) (y:_),DataW.trod enc P w base spare held n' f.type [cs'[j]]=some y:=by
          intro j f hj hfj ho
          have h1:=hf j f hfj
          rw [ho.1,ho.2] at h1
          have hjc:j < cs'.length:=by omega
          rw [List.drop_eq_getElem_cons hjc,List.take_succ_cons,List.take_zero] at h1
          have hjy:j < ys.length:=by rw [hyl];exact hj
          rw [List.getElem?_eq_getElem hjy] at h1
          exact ⟨hjc,_,h1⟩
        have hb:∀ (j:Nat) (f:Field) (hj:j < 4),#[f0,f1,f2,f3][j]? = some f → f.offset=j ∧ P.cellsOf f.type=1 → P.underlying f.type=some .string →
            ∃ k,w.cell? (x.add (i * 4 + j))=some (.string k):=by
          intro j f hj hfj ho hty
          obtain ⟨hjc,y,h1⟩:=hpre j f hj hfj ho
          obtain ⟨k,hk,_⟩:=DataW.trod_string hty h1
          have h2:=hat j hj
          rw [List.getElem?_eq_getElem hjc] at h2
          injection hk with hk
          rw [hk] at h2
          exact ⟨k,by rw [← add_of_add];exact h2⟩
        have hg:∀ (kd:IntKind) (j:Nat) (f:Field) (hj:j < 4),#[f0,f1,f2,f3][j]? = some f → f.offset=j ∧ P.cellsOf f.type=1 → P.underlying f.type=some (.int kd) →
            ∃ k,w.cell? (x.add (i * 4 + j))=some (.int kd k) ∧ (Lit.int kd k).wf=true:=by
          intro kd j f hj hfj ho hty
          obtain ⟨hjc,y,h1⟩:=hpre j f hj hfj ho
          obtain ⟨k,hk,_,hw⟩:=DataW.trod_int hty h1
          have h2:=hat j hj
          rw [List.getElem?_eq_getElem hjc] at h2
          injection hk with hk
          rw [hk] at h2
          exact ⟨k,by rw [← add_of_add];exact h2,hw⟩
        obtain ⟨k0,a0,b0⟩:=hg _ 0 f0 (by decide) rfl o0 t0
        obtain ⟨k1,a1,b1⟩:=hg _ 1 f1 (by decide) rfl o1 t1
        obtain ⟨k2,a2,b2⟩:=hg _ 2 f2 (by decide) rfl o2 t2
        obtain ⟨k3,a3⟩:=hb 3 f3 (by decide) rfl o3 t3
        exact ⟨(k0,k1,k2,k3),fun _=>⟨a0,a1,a2,a3,b0,b1,b2⟩⟩
      · exact ⟨(0,0,0,ByteArray.empty),fun h=>absurd h hlt⟩
    obtain ⟨f,hf⟩:=Classical.axiomOfChoice hex
    exact ⟨_,crow_some hl hm f hf⟩
end
end Go.Proofs.YtppblcbgkadldaaGreatDoor
namespace Go.Proofs.YtppblcbgkadldaaGreatDoor
open Go Go.RowKit
set_option maxRecDepth 100000
theorem top_walk (QA:AwakeIs) (n l r:Int) (A:Option Addr) (k c:Nat) (xs:List Int) (B:Option Addr) (m d:Nat) (cs:List Cmd) (w:World) (h1:IRow .u64 w A k c xs) (h2:CRow w B m d cs) :
    Calls Tryz.prog 3 #[.agg #[.int .i64 n,.int .i64 l,.int .i64 r],.slice A k c,.slice B m d] w (Ret (.bool true) w):=by
  by_cases hg:(1 ≤ n ∧ n ≤ 1024) ∧ (1 ≤ l ∧ l ≤ 16) ∧ (1 ≤ r ∧ r ≤ 8)
  · obtain ⟨⟨n1,n2⟩,⟨l1,l2⟩,r1,r2⟩:=hg
    obtain ⟨N,rfl⟩:=Int.eq_ofNat_of_zero_le (show 0 ≤ n by omega)
    obtain ⟨L,rfl⟩:=Int.eq_ofNat_of_zero_le (show 0 ≤ l by omega)
    obtain ⟨R,rfl⟩:=Int.eq_ofNat_of_zero_le (show 0 ≤ r by omega)
    cases hq:drawH xs (L * R) 0 with
    | none=>exact law_dry QA N L R xs A k c cs B m d w h2.1 h1.1 ⟨by omega,by omega⟩ ⟨by omega,by omega⟩ ⟨by omega,by omega⟩ hq
    | some p=>exact law_ok QA N L R xs p.1 p.2 A k c cs (fun x hx=>⟨wf_u64 (h2.2 x hx).2.1,wf_u64 (h2.2 x hx).2.2⟩) B m d w h2.1 h1.1 h1.u64 ⟨by omega,by omega⟩ ⟨by omega,by omega⟩ ⟨by omega,by omega⟩ hq
  · exact law_bad QA n l r A k c cs B m d w h2.1 hg
end Go.Proofs.YtppblcbgkadldaaGreatDoor
