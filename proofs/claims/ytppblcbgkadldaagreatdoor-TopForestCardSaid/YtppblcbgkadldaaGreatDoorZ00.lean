/-
  A part of the proof that the law TopForest returns true for every input and leaves its arguments as they were: Lex, LexD, LexT.
-/
import Derived.Deep.Quiet
set_option linter.all false
namespace Go.Proofs.YtppblcbgkadldaaGreatDoor
open Go
set_option maxRecDepth 100000
section
variable {P:Program} {ops:Array Oper} {md:Region.Mode} {C:World → Prop} {hs:List Nat}
def Light (P:Program) (C:World → Prop) (o:Oper) (a:Act) (v:Value):Prop:=
  ∀ w,C w → (execOp a.eval o).run P w=.ok (.value v) w
def heavyUpon (P:Program) (K:Value → World → Prop):Result Next → Prop
  | .ok (.value v) w'=>K v w'
  | .ok .skip w'=>K undef w'
  | .ok (.enter f args) w'=>Calls P f args w' fun e w''=>∃ v,e=.returned v ∧ K v w''
  | _=>False
def Heavy (P:Program) (o:Oper) (a:Act) (w:World) (K:Value → World → Prop):Prop:=heavyUpon P K ((execOp a.eval o).run P w)
theorem heavyUpon_mono {K K':Value → World → Prop} (h:∀ v w,K v w → K' v w):∀ {r:Result Next},heavyUpon P K r → heavyUpon P K' r:=by
  intro r hh
  cases r with
  | ok n w' =>
    cases n <;> simp only [heavyUpon] at hh ⊢
    case value u=>exact h _ _ hh
    case skip=>exact h _ _ hh
    case enter f args=>exact Calls.mono hh fun e w'' ⟨v,he,hk⟩=>⟨v,he,h _ _ hk⟩
  | halt x w'=>simp only [heavyUpon] at hh
theorem heavyUpon_some {K:Value → World → Prop}:∀ {r:Result Next},heavyUpon P K r → ∃ v w,K v w:=by
  intro r hh
  cases r with
  | ok n w' =>
    cases n <;> simp only [heavyUpon] at hh
    case value u=>exact ⟨_,_,hh⟩
    case skip=>exact ⟨_,_,hh⟩
    case enter f args =>
      obtain ⟨e,w'',_,⟨v,_,hk⟩,_⟩:=hh []
      exact ⟨v,w'',hk⟩
  | halt x w'=>simp only [heavyUpon] at hh
def lxOp (P:Program) (ops:Array Oper) (C:World → Prop) (hs:List Nat) (i:Nat) (K:Act → World → Prop) (a:Act) (w:World):Prop:=
  match ops[i]? with
  | none=>K a w
  | some o =>
    if Region.wanted o (yielded ops a.tmps) then
      if hs.contains i then Heavy P o a w fun v w'=>C w' ∧ K (a.put o.dst v) w'
      else ∃ v,Light P C o a v ∧ K (a.put o.dst v) w
    else K (a.put o.dst undef) w
theorem lxOp_mono {i:Nat} {a:Act} {w:World} {K K':Act → World → Prop} (hC:C w) (h:∀ a w,C w → K a w → K' a w) (hh:lxOp P ops C hs i K a w):lxOp P ops C hs i K' a w:=by
  unfold lxOp at *
  split
  · rename_i ho;simp only [ho] at hh;exact h _ _ hC hh
  · rename_i o ho
    simp only [ho] at hh
    split
    · rename_i hw
      simp only [hw,if_true] at hh
      split
      · rename_i hv;simp only [hv,if_true] at hh;exact heavyUpon_mono (fun v w' ⟨h1,h2⟩=>⟨h1,h _ _ h1 h2⟩) hh
      · rename_i hv;simp only [hv] at hh;obtain ⟨v,h1,h2⟩:=hh;exact ⟨v,h1,h _ _ hC h2⟩
    · rename_i hw;simp only [hw] at hh;exact h _ _ hC hh
def lxAny (P:Program) (md:Region.Mode) (ops:Array Oper) (C:World → Prop) (hs:List Nat) (Q:Act → World → Prop):Nat → Array Bool → Act → World → Prop
  | 0,listed,a,w=>Region.ready md ops listed=[] ∧ Q a w
  | fuel + 1,listed,a,w =>
    (Region.ready md ops listed=[] → Q a w) ∧
    ∀ i ∈ Region.ready md ops listed,lxOp P ops C hs i (lxAny P md ops C hs Q fuel (listed.setIfInBounds i true)) a w
theorem wpOp_of_lxOp {i:Nat} {a:Act} {w:World} {K K':Act → World → Prop} {Q':Exit → Act → World → Prop} (hC:C w) (h:∀ a w,C w → K a w → K' a w) (hh:lxOp P ops C hs i K a w):wpOp P ops Q' i K' a w:=by
  unfold lxOp at hh
  unfold wpOp
  split
  · rename_i ho;simp only [ho] at hh;exact h _ _ hC hh
  · rename_i o ho
    simp only [ho] at hh
    split
    · rename_i hw
      simp only [hw,if_true] at hh
      refine .inl ?_
      by_cases hv:hs.contains i=true
      · simp only [hv,if_true] at hh
        unfold Heavy at hh
        unfold Oper.wp
        generalize (execOp a.eval o).run P w=r at *
        cases r with
        | ok n w' =>
          cases n <;> simp only [heavyUpon] at hh <;> simp only [Oper.upon]
          case value u=>exact h _ _ hh.1 hh.2
          case skip=>exact h _ _ hh.1 hh.2
          case enter f args=>exact hh.mono fun e w'' ⟨v,he,h1,h2⟩=>by subst he;exact h _ _ h1 h2
        | halt x w'=>simp only [heavyUpon] at hh
      · simp only [hv] at hh
        obtain ⟨v,h1,h2⟩:=hh
        unfold Oper.wp
        rw [h1 w hC]
        exact h _ _ hC h2
    · rename_i hw;simp only [hw] at hh;exact h _ _ hC hh
theorem wpAny_of_lxAny {Q:Act → World → Prop} {Q':Exit → Act → World → Prop} (hQ:∀ a w,C w → Q a w → Q' .normal a w):∀ (fuel:Nat) (listed:Array Bool) (a:Act) (w:World),C w →
    lxAny P md ops C hs Q fuel listed a w → wpAny P md ops Q' fuel listed a w
  | 0,_,_,_,hw,h=>⟨h.1,hQ _ _ hw h.2⟩
  | fuel + 1,_,_,_,hw,h=>⟨fun h0=>hQ _ _ hw (h.1 h0),fun i hi=>wpOp_of_lxOp hw (fun a' w' hw'=>wpAny_of_lxAny hQ fuel _ a' w' hw') (h.2 i hi)⟩
theorem Light.same {o:Oper} {v:Value} {a a':Act} (h:Light P C o a v) (he:execOp a'.eval o=execOp a.eval o):Light P C o a' v:=by
  intro w hw
  rw [he]
  exact h w hw
theorem lxOp_swap {i j:Nat} {oi oj:Oper} (hi:ops[i]? = some oi) (hj:ops[j]? = some oj) (hap:oi.apart ops oj=true) (hv:¬ (hs.contains i=true ∧ hs.contains j=true))
    (hsi:∀ cs b,oi.op ≠ .select cs b) (hsj:∀ cs b,oj.op ≠ .select cs b) {K:Act → World → Prop} {a:Act} {w:World} (hC:C w)
    (h:lxOp P ops C hs i (lxOp P ops C hs j K) a w):lxOp P ops C hs j (lxOp P ops C hs i K) a w:=by
  obtain ⟨h1,h2,h3⟩:=Oper.apart_spec hap
  have ej:∀ v,execOp (a.put oi.dst v).eval oj=execOp a.eval oj:=fun v=>execOp_put oj hsj a oi.dst v h1
  have ei:∀ v,execOp (a.put oj.dst v).eval oi=execOp a.eval oi:=fun v=>execOp_put oi hsi a oj.dst v h3
  have wj:∀ v,Region.wanted oj (yielded ops (a.put oi.dst v).tmps)=Region.wanted oj (yielded ops a.tmps):=fun v=>wanted_put oj a oi.dst v h1
  have wi:∀ v,Region.wanted oi (yielded ops (a.put oj.dst v).tmps)=Region.wanted oi (yielded ops a.tmps):=fun v=>wanted_put oi a oj.dst v h3
  have cm:∀ v u,(a.put oi.dst v).put oj.dst u=(a.put oj.dst u).put oi.dst v:=fun v u=>Act.put_comm a v u h2
  unfold lxOp at *
  simp only [hi,hj,wi,wj,cm] at *
  by_cases di:Region.wanted oi (yielded ops a.tmps)=true <;> by_cases dj:Region.wanted oj (yielded ops a.tmps)=true
  · simp only [di,dj,if_true] at *
    by_cases vi:hs.contains i=true <;> by_cases vj:hs.contains j=true
    · exact absurd ⟨vi,vj⟩ hv
    · simp only [vi,vj,if_true] at *
      obtain ⟨v0,w0,hc0,u,hu,_⟩:=heavyUpon_some h
      have hu':Light P C oj a u:=hu.same (ej v0).symm
      refine ⟨u,hu',?_⟩
      unfold Heavy at *
      rw [ei]
      refine heavyUpon_mono ?_ h
      rintro v w' ⟨hc',u',hl,hk⟩
      refine ⟨hc',?_⟩
      have e1:=hu' w hC
      have e2:=(hl.same (ej v).symm) w hC
      rw [e1] at e2
      injection e2 with e2
      injection e2 with e2
      subst e2
      exact hk
    · simp only [vi,vj,if_true] at *
      obtain ⟨v,hl,hk⟩:=h
      unfold Heavy at *
      rw [ej] at hk
      refine heavyUpon_mono ?_ hk
      rintro u w' ⟨hc',hk'⟩
      exact ⟨hc',v,hl.same (ei u),hk'⟩
    · simp only [vi,vj] at *
      obtain ⟨v,hl,u,hu,hk⟩:=h
      exact ⟨u,hu.same (ej v).symm,v,hl.same (ei u),hk⟩
  · simp only [di,dj,if_true] at *
    by_cases vi:hs.contains i=true
    · simp only [vi,if_true] at *
      unfold Heavy at *
      rw [ei]
      exact h
    · simp only [vi] at *
      obtain ⟨v,hl,hk⟩:=h
      exact ⟨v,hl.same (ei undef),hk⟩
  · simp only [di,dj,if_true] at *
    by_cases vj:hs.contains j=true
    · simp only [vj,if_true] at *
      unfold Heavy at *
      rw [ej] at h
      exact h
    · simp only [vj] at *
      obtain ⟨u,hl,hk⟩:=h
      exact ⟨u,hl.same (ej undef).symm,hk⟩
  · simp only [di,dj] at *
    exact h
theorem lxAny_first {Q:Act → World → Prop} {i:Nat} {oi:Oper} (hi:ops[i]? = some oi) (hsel:∀ (j:Nat) (o:Oper) cs b,ops[j]? = some o → o.op ≠ .select cs b) :
    ∀ (fuel:Nat) (listed:Array Bool) (a:Act) (w:World),C w →
      (∀ j oj,ops[j]? = some oj → j ≠ i → listed.getD j true=false → (∀ e ∈ oj.after,Region.binds md e=true → e.on ≠ i) → oi.apart ops oj=true ∧ ¬ (hs.contains i=true ∧ hs.contains j=true)) →
      i ∈ Region.ready md ops listed → lxOp P ops C hs i (lxAny P md ops C hs Q fuel (listed.setIfInBounds i true)) a w → lxAny P md ops C hs Q (fuel + 1) listed a w:=by
  intro fuel
  induction fuel with
  | zero =>
    intro listed a w hC hfree hr H
    refine ⟨fun h=>(by rw [h] at hr;cases hr),fun j hj=>?_⟩
    by_cases hji:j=i
    · subst hji;exact H
    · exfalso
      have hm:=ready_mono hj hji
      have:∃ a w,lxAny P md ops C hs Q 0 (listed.setIfInBounds i true) a w:=by
        unfold lxOp at H
        simp only [hi] at H
        split at H
        · split at H
          · obtain ⟨v,w',_,h⟩:=heavyUpon_some H;exact ⟨_,_,h⟩
          · obtain ⟨v,_,h⟩:=H;exact ⟨_,_,h⟩
        · exact ⟨_,_,H⟩
      obtain ⟨_,_,h0,_⟩:=this
      rw [h0] at hm
      cases hm
  | succ fuel ih =>
    intro listed a w hC hfree hr H
    refine ⟨fun h=>(by rw [h] at hr;cases hr),fun j hj=>?_⟩
    by_cases hji:j=i
    · subst hji;exact H
    · obtain ⟨hjun,oj,hoj,hall⟩:=mem_ready.1 hj
      have hnot:∀ e ∈ oj.after,Region.binds md e=true → e.on ≠ i:=fun e he hb heq=>by
        have h1:=hall e he hb
        have h0:=(mem_ready.1 hr).1
        rw [heq] at h1
        rcases Nat.lt_or_ge i listed.size with h' | h'
        · simp [h'] at h0 h1;rw [h0] at h1;cases h1
        · simp [Array.getElem?_eq_none h'] at h1
      obtain ⟨hap,hv⟩:=hfree j oj hoj hji hjun hnot
      have H1:lxOp P ops C hs i (lxOp P ops C hs j (lxAny P md ops C hs Q fuel ((listed.setIfInBounds i true).setIfInBounds j true))) a w:=
        lxOp_mono hC (fun a' w' _ h=>h.2 j (ready_mono hj hji)) H
      have H2:=lxOp_swap hi hoj hap hv (fun cs b=>hsel i oi cs b hi) (fun cs b=>hsel j oj cs b hoj) hC H1
      have hfree':∀ k ok,ops[k]? = some ok → k ≠ i → (listed.setIfInBounds j true).getD k true=false →
          (∀ e ∈ ok.after,Region.binds md e=true → e.on ≠ i) → oi.apart ops ok=true ∧ ¬ (hs.contains i=true ∧ hs.contains k=true):=fun k ok hk hki hun hno=>by
        refine hfree k ok hk hki ?_ hno
        by_cases hjk:j=k
        · subst hjk;exact hjun
        · rw [getD_set_ne true hjk] at hun;exact hun
      refine lxOp_mono hC (fun a' w' hC' h=>ih (listed.setIfInBounds j true) a' w' hC' hfree' (ready_mono hr (Ne.symm hji)) ?_) H2
      rw [Array.setIfInBounds_comm _ _ hji]
      exact h
def lone (md:Region.Mode) (ops:Array Oper) (hs:List Nat) (listed:Array Bool) (i:Nat):Bool:=
  !hs.contains i || (List.range ops.size).all fun j=>j == i || listed.getD j true || ((ops[j]?).map (·.after.any fun e=>Region.binds md e && e.on == i)).getD false || !hs.contains j
theorem lone_spec {i:Nat} {listed:Array Bool} (h:lone md ops hs listed i=true) (j:Nat) (oj:Oper) (hj:ops[j]? = some oj) (hji:j ≠ i) (hun:listed.getD j true=false)
    (hno:∀ e ∈ oj.after,Region.binds md e=true → e.on ≠ i):¬ (hs.contains i=true ∧ hs.contains j=true):=by
  rintro ⟨h1,h2⟩
  unfold lone at h
  simp only [h1,Bool.not_true,Bool.false_or,List.all_eq_true,List.mem_range] at h
  have hlt:j < ops.size:=(Array.getElem?_eq_some_iff.1 hj).1
  have h3:=h j hlt
  simp only [hun,h2,Bool.not_true,Bool.or_false,hj,Option.map_some,Option.getD_some,Bool.or_eq_true,beq_iff_eq] at h3
  rcases h3 with h3 | h3
  · exact hji h3
  · rw [Array.any_eq_true'] at h3
    obtain ⟨e,he,h4⟩:=h3
    simp only [Bool.and_eq_true,beq_iff_eq] at h4
    exact hno e he h4.1 h4.2
def lexFrom (md:Region.Mode) (ops:Array Oper) (hs:List Nat):Nat → Nat → Array Bool → Bool
  | 0,_,listed=>(Region.ready md ops listed).isEmpty
  | fuel + 1,k,listed=>(Region.ready md ops listed).contains k && Region.free md ops listed k && lone md ops hs listed k && lexFrom md ops hs fuel (k + 1) (listed.setIfInBounds k true)
def lexOk (md:Region.Mode) (ops:Array Oper) (hs:List Nat):Bool:=Region.noSelect ops && lexFrom md ops hs ops.size 0 (Array.replicate ops.size false)
def wpLex (P:Program) (ops:Array Oper) (C:World → Prop) (hs:List Nat) (Q:Act → World → Prop):Nat → List Oper → Act → World → Prop
  | _,[],a,w=>Q a w
  | k,o :: rest,a,w =>
    if Region.wanted o (yielded ops a.tmps) then
      if hs.contains k then Heavy P o a w fun v w'=>C w' ∧ wpLex P ops C hs Q (k + 1) rest (a.put o.dst v) w'
      else ∃ v,Light P C o a v ∧ wpLex P ops C hs Q (k + 1) rest (a.put o.dst v) w
    else wpLex P ops C hs Q (k + 1) rest (a.put o.dst undef) w
theorem lxAny_lex {Q:Act → World → Prop} (hsel:Region.noSelect ops=true):∀ (l:List Oper) (k:Nat) (listed:Array Bool) (a:Act) (w:World),C w → (∀ j,l[j]? = ops[k + j]?) →
    lexFrom md ops hs l.length k listed=true → wpLex P ops C hs Q k l a w → lxAny P md ops C hs Q l.length listed a w
  | [],_,_,_,_,_,_,hB,h=>⟨by simpa [lexFrom] using hB,h⟩
  | o :: l,k,listed,a,w,hC,hl,hB,h=>by
    have h0:ops[k]? = some o:=by simpa using (hl 0).symm
    simp only [List.length_cons,lexFrom,Bool.and_eq_true] at hB
    obtain ⟨⟨⟨hr,hf⟩,ho⟩,hB'⟩:=hB
    have hst:lxOp P ops C hs k (wpLex P ops C hs Q (k + 1) l) a w:=by unfold lxOp;simp only [h0];exact h
    refine lxAny_first h0 (Region.noSelect_spec hsel) l.length listed a w hC (fun j oj hj hji hun hno=>⟨Region.free_spec h0 hf j oj hj hji hun hno,lone_spec ho j oj hj hji hun hno⟩) (by simpa using hr) ?_
    exact lxOp_mono hC (fun a' w' hC' h'=>lxAny_lex hsel l (k + 1) _ a' w' hC' (fun j=>by have:=hl (j + 1);simpa [Nat.add_assoc,Nat.add_comm 1 j] using this) hB' h') hst
theorem wp_region_lex (hs:List Nat) (C:World → Prop) {id:Nat} {Q:Exit → Act → World → Prop} {a:Act} {w:World} {l:List Oper} (hm:P.follows .mixedOrders=true) (hB:lexOk .any l.toArray hs=true)
    (hC:C w.drew) (h:wpLex P l.toArray C hs (fun a' w'=>C w' → Q .normal a' w') 0 l a w.drew):(Code.region id l.toArray true).wp P Q a w:=by
  simp only [lexOk,Bool.and_eq_true] at hB
  refine wp_region_any hm (wpAny_of_lxAny (C:=C) (hs:=hs) (Q:=fun a' w'=>C w' → Q .normal a' w') (fun _ _ hw h=>h hw) _ _ _ _ hC ?_)
  have:=lxAny_lex (P:=P) (C:=C) (md:=.any) hB.1 l 0 (Array.replicate l.length false) a w.drew hC (by simp) (by simpa using hB.2) h
  simpa using this
theorem wpLex_nil {Q:Act → World → Prop} {k:Nat} {a:Act} {w:World} (h:Q a w):wpLex P ops C hs Q k [] a w:=h
theorem wpLex_step {Q:Act → World → Prop} {k:Nat} {o:Oper} {rest:List Oper} {a:Act} {w:World}
    (h:∀ K:Act → World → Prop,(∀ a w,wpLex P ops C hs Q (k + 1) rest a w → K a w) →
      if Region.wanted o (yielded ops a.tmps) then (if hs.contains k then Heavy P o a w fun v w'=>C w' ∧ K (a.put o.dst v) w' else ∃ v,Light P C o a v ∧ K (a.put o.dst v) w) else K (a.put o.dst undef) w) :
    wpLex P ops C hs Q k (o :: rest) a w:=h _ (fun _ _ h=>h)
theorem valEq {r:Result Next} {u v:Value} {w:World} (h:r=.ok (.value u) w) (h2:u=v):r=.ok (.value v) w:=by rw [h,h2]
theorem wpLex_heavy {Q:Act → World → Prop} {k:Nat} {o:Oper} {rest:List Oper} {a:Act} {w:World} (hg:o.guard=none) (hk:hs.contains k=true)
    (h:Heavy P o a w fun v w'=>C w' ∧ wpLex P ops C hs Q (k + 1) rest (a.put o.dst v) w'):wpLex P ops C hs Q k (o :: rest) a w:=by
  unfold wpLex
  rw [if_pos (by simp [Region.wanted,hg]),if_pos hk]
  exact h
end
end Go.Proofs.YtppblcbgkadldaaGreatDoor
namespace Go.Proofs.YtppblcbgkadldaaGreatDoor
open Go
set_option maxRecDepth 100000
section
variable {P:Program} {ops:Array Oper} {md:Region.Mode} {C:World → Prop} {hs:List Nat}
theorem lxAny_firstD {Q:Act → World → Prop} {i:Nat} {oi:Oper} (D:List Nat) (hi:ops[i]? = some oi) (hsel:∀ (j:Nat) (o:Oper) cs b,ops[j]? = some o → o.op ≠ .select cs b)
    (hcl:∀ j ∈ D,∃ oj,ops[j]? = some oj ∧ ∃ e ∈ oj.after,Region.binds md e=true ∧ (e.on=i ∨ e.on ∈ D)) :
    ∀ (fuel:Nat) (listed:Array Bool) (a:Act) (w:World),C w →
      (∀ j oj,ops[j]? = some oj → j ≠ i → j ∉ D → listed.getD j true=false → (∀ e ∈ oj.after,Region.binds md e=true → e.on ≠ i) → oi.apart ops oj=true ∧ ¬ (hs.contains i=true ∧ hs.contains j=true)) →
      (∀ j ∈ D,listed.getD j true=false) →
      i ∈ Region.ready md ops listed → lxOp P ops C hs i (lxAny P md ops C hs Q fuel (listed.setIfInBounds i true)) a w → lxAny P md ops C hs Q (fuel + 1) listed a w:=by
  intro fuel
  induction fuel with
  | zero =>
    intro listed a w hC hfree _ hr H
    refine ⟨fun h=>(by rw [h] at hr;cases hr),fun j hj=>?_⟩
    by_cases hji:j=i
    · subst hji;exact H
    · exfalso
      have hm:=ready_mono hj hji
      have:∃ a w,lxAny P md ops C hs Q 0 (listed.setIfInBounds i true) a w:=by
        unfold lxOp at H
        simp only [hi] at H
        split at H
        · split at H
          · obtain ⟨v,w',_,h⟩:=heavyUpon_some H;exact ⟨_,_,h⟩
          · obtain ⟨v,_,h⟩:=H;exact ⟨_,_,h⟩
        · exact ⟨_,_,H⟩
      obtain ⟨_,_,h0,_⟩:=this
      rw [h0] at hm
      cases hm
  | succ fuel ih =>
    intro listed a w hC hfree hun hr H
    refine ⟨fun h=>(by rw [h] at hr;cases hr),fun j hj=>?_⟩
    by_cases hji:j=i
    · subst hji;exact H
    · obtain ⟨hjun,oj,hoj,hall⟩:=mem_ready.1 hj
      have hlist:∀ e ∈ oj.after,Region.binds md e=true → ∀ d,listed.getD d true=false → d < listed.size → e.on ≠ d:=fun e he hb d hd hds heq=>by
        have h1:=hall e he hb
        rw [heq] at h1
        simp [hds] at hd h1
        rw [hd] at h1;cases h1
      have hsz:∀ d,listed.getD d true=false → d < listed.size:=fun d hd=>by
        rcases Nat.lt_or_ge d listed.size with h' | h'
        · exact h'
        · simp [Array.getElem?_eq_none h'] at hd
      have hiun:=(mem_ready.1 hr).1
      have hnot:∀ e ∈ oj.after,Region.binds md e=true → e.on ≠ i:=fun e he hb=>hlist e he hb i hiun (hsz i hiun)
      have hjD:j ∉ D:=fun hjd=>by
        obtain ⟨oj',hoj',e,he,hb,h2⟩:=hcl j hjd
        rw [hoj] at hoj';injection hoj' with hoj';subst hoj'
        rcases h2 with h2 | h2
        · exact hnot e he hb h2
        · exact hlist e he hb _ (hun _ h2) (hsz _ (hun _ h2)) rfl
      obtain ⟨hap,hv⟩:=hfree j oj hoj hji hjD hjun hnot
      have H1:lxOp P ops C hs i (lxOp P ops C hs j (lxAny P md ops C hs Q fuel ((listed.setIfInBounds i true).setIfInBounds j true))) a w:=
        lxOp_mono hC (fun a' w' _ h=>h.2 j (ready_mono hj hji)) H
      have H2:=lxOp_swap hi hoj hap hv (fun cs b=>hsel i oi cs b hi) (fun cs b=>hsel j oj cs b hoj) hC H1
      have hfree':∀ k ok,ops[k]? = some ok → k ≠ i → k ∉ D → (listed.setIfInBounds j true).getD k true=false →
          (∀ e ∈ ok.after,Region.binds md e=true → e.on ≠ i) → oi.apart ops ok=true ∧ ¬ (hs.contains i=true ∧ hs.contains k=true):=fun k ok hk hki hkD hun' hno=>by
        refine hfree k ok hk hki hkD ?_ hno
        by_cases hjk:j=k
        · subst hjk;exact hjun
        · rw [getD_set_ne true hjk] at hun';exact hun'
      have hunD:∀ d ∈ D,(listed.setIfInBounds j true).getD d true=false:=fun d hd=>by
        have hne:j ≠ d:=fun e=>hjD (e ▸ hd)
        rw [getD_set_ne true hne];exact hun d hd
      refine lxOp_mono hC (fun a' w' hC' h=>ih (listed.setIfInBounds j true) a' w' hC' hfree' hunD (ready_mono hr (Ne.symm hji)) ?_) H2
      rw [Array.setIfInBounds_comm _ _ hji]
      exact h
def hangOn (md:Region.Mode) (ops:Array Oper) (i:Nat):List Nat:=
  (List.range ops.size).foldl (fun D j=>if ((ops[j]?).map (·.after.any fun e=>Region.binds md e && (e.on == i || D.contains e.on))).getD false then j :: D else D) []
def closedB (md:Region.Mode) (ops:Array Oper) (listed:Array Bool) (i:Nat) (D:List Nat):Bool:=
  D.all fun j=>!listed.getD j true && ((ops[j]?).map (·.after.any fun e=>Region.binds md e && (e.on == i || D.contains e.on))).getD false
def loneD (ops:Array Oper) (hs:List Nat) (listed:Array Bool) (i:Nat) (D:List Nat):Bool:=
  !hs.contains i || (List.range ops.size).all fun j=>j == i || listed.getD j true || D.contains j || !hs.contains j
theorem closedB_spec {listed:Array Bool} {i:Nat} {D:List Nat} (h:closedB md ops listed i D=true) :
    (∀ j ∈ D,∃ oj,ops[j]? = some oj ∧ ∃ e ∈ oj.after,Region.binds md e=true ∧ (e.on=i ∨ e.on ∈ D)) ∧ (∀ j ∈ D,listed.getD j true=false):=by
  unfold closedB at h
  rw [List.all_eq_true] at h
  refine ⟨fun j hj=>?_,fun j hj=>?_⟩
  · have h1:=h j hj
    rw [Bool.and_eq_true] at h1
    cases ho:ops[j]? with
    | none=>rw [ho] at h1;simp at h1
    | some oj =>
      rw [ho] at h1
      have h2:=h1.2
      simp only [Option.map_some,Option.getD_some] at h2
      rw [Array.any_eq_true'] at h2
      obtain ⟨e,he,h3⟩:=h2
      simp only [Bool.and_eq_true,Bool.or_eq_true,beq_iff_eq,List.contains_iff_mem] at h3
      exact ⟨oj,rfl,e,he,h3.1,h3.2⟩
  · have h1:=h j hj
    rw [Bool.and_eq_true] at h1
    simpa using h1.1
theorem loneD_spec {i:Nat} {listed:Array Bool} {D:List Nat} (h:loneD ops hs listed i D=true) (j:Nat) (oj:Oper) (hj:ops[j]? = some oj) (hji:j ≠ i) (hjD:j ∉ D) (hun:listed.getD j true=false):¬ (hs.contains i=true ∧ hs.contains j=true):=by
  rintro ⟨h1,h2⟩
  unfold loneD at h
  simp only [h1,Bool.not_true,Bool.false_or,List.all_eq_true,List.mem_range] at h
  have hlt:j < ops.size:=(Array.getElem?_eq_some_iff.1 hj).1
  have h3:=h j hlt
  simp only [hun,h2,Bool.not_true,Bool.or_false,Bool.or_eq_true,beq_iff_eq,List.contains_iff_mem] at h3
  rcases h3 with h3 | h3
  · exact hji h3
  · exact hjD h3
def lexFromD (md:Region.Mode) (ops:Array Oper) (hs:List Nat):Nat → Nat → Array Bool → Bool
  | 0,_,listed=>(Region.ready md ops listed).isEmpty
  | fuel + 1,k,listed=>(Region.ready md ops listed).contains k && Region.free md ops listed k && (closedB md ops listed k (hangOn md ops k) && loneD ops hs listed k (hangOn md ops k)) && lexFromD md ops hs fuel (k + 1) (listed.setIfInBounds k true)
def lexOkD (md:Region.Mode) (ops:Array Oper) (hs:List Nat):Bool:=Region.noSelect ops && lexFromD md ops hs ops.size 0 (Array.replicate ops.size false)
theorem lxAny_lexD {Q:Act → World → Prop} (hsel:Region.noSelect ops=true):∀ (l:List Oper) (k:Nat) (listed:Array Bool) (a:Act) (w:World),C w → (∀ j,l[j]? = ops[k + j]?) →
    lexFromD md ops hs l.length k listed=true → wpLex P ops C hs Q k l a w → lxAny P md ops C hs Q l.length listed a w
  | [],_,_,_,_,_,_,hB,h=>⟨by simpa [lexFromD] using hB,h⟩
  | o :: l,k,listed,a,w,hC,hl,hB,h=>by
    have h0:ops[k]? = some o:=by simpa using (hl 0).symm
    simp only [List.length_cons,lexFromD,Bool.and_eq_true] at hB
    obtain ⟨⟨⟨hr,hf⟩,hcl,ho⟩,hB'⟩:=hB
    have hst:lxOp P ops C hs k (wpLex P ops C hs Q (k + 1) l) a w:=by unfold lxOp;simp only [h0];exact h
    obtain ⟨hc1,hc2⟩:=closedB_spec hcl
    refine lxAny_firstD (hangOn md ops k) h0 (Region.noSelect_spec hsel) hc1 l.length listed a w hC (fun j oj hj hji hjD hun hno=>⟨Region.free_spec h0 hf j oj hj hji hun hno,loneD_spec ho j oj hj hji hjD hun⟩) hc2 (by simpa using hr) ?_
    exact lxOp_mono hC (fun a' w' hC' h'=>lxAny_lexD hsel l (k + 1) _ a' w' hC' (fun j=>by have:=hl (j + 1);simpa [Nat.add_assoc,Nat.add_comm 1 j] using this) hB' h') hst
theorem wp_region_lexD (hs:List Nat) (C:World → Prop) {id:Nat} {Q:Exit → Act → World → Prop} {a:Act} {w:World} {l:List Oper} (hm:P.follows .mixedOrders=true) (hB:lexOkD .any l.toArray hs=true)
    (hC:C w.drew) (h:wpLex P l.toArray C hs (fun a' w'=>C w' → Q .normal a' w') 0 l a w.drew):(Code.region id l.toArray true).wp P Q a w:=by
  simp only [lexOkD,Bool.and_eq_true] at hB
  refine wp_region_any hm (wpAny_of_lxAny (C:=C) (hs:=hs) (Q:=fun a' w'=>C w' → Q .normal a' w') (fun _ _ hw h=>h hw) _ _ _ _ hC ?_)
  have:=lxAny_lexD (P:=P) (C:=C) (md:=.any) hB.1 l 0 (Array.replicate l.length false) a w.drew hC (by simp) (by simpa using hB.2) h
  simpa using this
end
end Go.Proofs.YtppblcbgkadldaaGreatDoor
namespace Go.Proofs.YtppblcbgkadldaaGreatDoor
open Go
set_option maxRecDepth 100000
inductive Plan
  | nil
  | op (i:Nat) (p:Plan)
  | two (i:Nat) (p:Plan) (j:Nat) (q:Plan)
def Plan.count:Plan → Nat
  | .nil=>0
  | .op _ p=>p.count + 1
  | .two _ p _ _=>p.count + 1
def Plan.ops (l:List Nat) (p:Plan):Plan:=l.foldr .op p
section
variable {P:Program} {ops:Array Oper} {md:Region.Mode} {C:World → Prop} {hs:List Nat} {Q:Act → World → Prop}
def wpPlan (P:Program) (ops:Array Oper) (C:World → Prop) (hs:List Nat) (Q:Act → World → Prop):Plan → Act → World → Prop
  | .nil,a,w=>Q a w
  | .op i p,a,w=>lxOp P ops C hs i (wpPlan P ops C hs Q p) a w
  | .two i p j q,a,w=>lxOp P ops C hs i (wpPlan P ops C hs Q p) a w ∧ lxOp P ops C hs j (wpPlan P ops C hs Q q) a w
def planOk (md:Region.Mode) (ops:Array Oper) (hs:List Nat):Plan → Array Bool → Bool
  | .nil,listed=>(Region.ready md ops listed).isEmpty
  | .op i p,listed=>(Region.ready md ops listed).contains i && Region.free md ops listed i && (closedB md ops listed i (hangOn md ops i) && loneD ops hs listed i (hangOn md ops i)) && planOk md ops hs p (listed.setIfInBounds i true)
  | .two i p j q,listed=>(Region.ready md ops listed).contains i && (Region.ready md ops listed).all (fun k=>k == i || k == j) && p.count == q.count && planOk md ops hs p (listed.setIfInBounds i true) && planOk md ops hs q (listed.setIfInBounds j true)
theorem lxAny_plan (hsel:Region.noSelect ops=true):∀ (p:Plan) (listed:Array Bool) (a:Act) (w:World),C w → planOk md ops hs p listed=true → wpPlan P ops C hs Q p a w → lxAny P md ops C hs Q p.count listed a w
  | .nil,_,_,_,_,hB,h=>⟨by simpa [planOk] using hB,h⟩
  | .op i p,listed,a,w,hC,hB,h=>by
    simp only [planOk,Bool.and_eq_true] at hB
    obtain ⟨⟨⟨hr,hf⟩,hcl,ho⟩,hB'⟩:=hB
    have hr':i ∈ Region.ready md ops listed:=by simpa using hr
    obtain ⟨_,oi,h0,_⟩:=mem_ready.1 hr'
    obtain ⟨hc1,hc2⟩:=closedB_spec hcl
    refine lxAny_firstD (hangOn md ops i) h0 (Region.noSelect_spec hsel) hc1 p.count listed a w hC (fun j oj hj hji hjD hun hno=>⟨Region.free_spec h0 hf j oj hj hji hun hno,loneD_spec ho j oj hj hji hjD hun⟩) hc2 hr' ?_
    exact lxOp_mono hC (fun a' w' hC' h'=>lxAny_plan hsel p _ a' w' hC' hB' h') h
  | .two i p j q,listed,a,w,hC,hB,h=>by
    simp only [planOk,Bool.and_eq_true,beq_iff_eq] at hB
    obtain ⟨⟨⟨⟨hr,hall⟩,hcnt⟩,hp⟩,hq⟩:=hB
    have hr':i ∈ Region.ready md ops listed:=by simpa using hr
    refine ⟨fun h0=>(by rw [h0] at hr';cases hr'),fun k hk=>?_⟩
    have hk2:=List.all_eq_true.1 hall k hk
    simp only [Bool.or_eq_true,beq_iff_eq] at hk2
    rcases hk2 with rfl | rfl
    · exact lxOp_mono hC (fun a' w' hC' h'=>lxAny_plan hsel p _ a' w' hC' hp h') h.1
    · rw [hcnt]
      exact lxOp_mono hC (fun a' w' hC' h'=>lxAny_plan hsel q _ a' w' hC' hq h') h.2
def planAll (ops:Array Oper) (hs:List Nat) (p:Plan):Bool:=Region.noSelect ops && p.count == ops.size && planOk .any ops hs p (Array.replicate ops.size false)
theorem wp_region_plan (p:Plan) (hs:List Nat) (C:World → Prop) {id:Nat} {Q:Exit → Act → World → Prop} {a:Act} {w:World} {l:List Oper} (hm:P.follows .mixedOrders=true) (hB:planAll l.toArray hs p=true)
    (hC:C w.drew) (h:wpPlan P l.toArray C hs (fun a' w'=>C w' → Q .normal a' w') p a w.drew):(Code.region id l.toArray true).wp P Q a w:=by
  simp only [planAll,Bool.and_eq_true,beq_iff_eq] at hB
  obtain ⟨⟨h1,h2⟩,h3⟩:=hB
  refine wp_region_any hm (wpAny_of_lxAny (C:=C) (hs:=hs) (Q:=fun a' w'=>C w' → Q .normal a' w') (fun _ _ hw h=>h hw) _ _ _ _ hC ?_)
  have:=lxAny_plan (P:=P) (C:=C) (md:=.any) h1 p (Array.replicate l.length false) a w.drew hC (by simpa using h3) h
  rw [h2] at this
  simpa using this
theorem wpPlan_nil {a:Act} {w:World} (h:Q a w):wpPlan P ops C hs Q .nil a w:=h
theorem lxOp_step {K:Act → World → Prop} {i:Nat} {o:Oper} {a:Act} {w:World} (ho:ops[i]? = some o)
    (h:if Region.wanted o (yielded ops a.tmps) then (if hs.contains i then Heavy P o a w fun v w'=>C w' ∧ K (a.put o.dst v) w' else ∃ v,Light P C o a v ∧ K (a.put o.dst v) w) else K (a.put o.dst undef) w):lxOp P ops C hs i K a w:=by
  unfold lxOp
  simp only [ho]
  exact h
theorem wpPlan_step {i:Nat} {p:Plan} {o:Oper} {a:Act} {w:World} (ho:ops[i]? = some o)
    (h:∀ K:Act → World → Prop,(∀ a w,wpPlan P ops C hs Q p a w → K a w) →
      if Region.wanted o (yielded ops a.tmps) then (if hs.contains i then Heavy P o a w fun v w'=>C w' ∧ K (a.put o.dst v) w' else ∃ v,Light P C o a v ∧ K (a.put o.dst v) w) else K (a.put o.dst undef) w) :
    wpPlan P ops C hs Q (.op i p) a w:=lxOp_step ho (h _ (fun _ _ h=>h))
theorem wpPlan_two {i j:Nat} {p q:Plan} {a:Act} {w:World} (h1:wpPlan P ops C hs Q (.op i p) a w) (h2:wpPlan P ops C hs Q (.op j q) a w):wpPlan P ops C hs Q (.two i p j q) a w:=⟨h1,h2⟩
end
end Go.Proofs.YtppblcbgkadldaaGreatDoor
