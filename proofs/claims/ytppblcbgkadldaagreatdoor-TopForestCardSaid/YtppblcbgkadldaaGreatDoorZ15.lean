/-
  A part of the proof that the law TopForest returns true for every input and leaves its arguments as they were: Concat, Slc, SlcJ, SRow, Great.
-/
import Derived.Test.YtppblcbgkadldaaGreatDoorZ00
import Derived.Test.YtppblcbgkadldaaGreatDoorZ03
import Derived.Test.YtppblcbgkadldaaGreatDoorZ06
import Derived.Test.YtppblcbgkadldaaGreatDoorZ07
import Derived.Test.YtppblcbgkadldaaGreatDoorZ09
import Derived.ArgAppend
import Derived.Lib.AppendZerosOnto
import Derived.Lib.SliceRun
set_option linter.all false
namespace Go.Proofs.YtppblcbgkadldaaGreatDoor
open Go Go.RowKit
set_option maxRecDepth 100000
attribute [local go_sem] Heavy heavyUpon
theorem zeros_sz (z:Array Value) (n:Nat):(Builtin.zeroCells z n).size=n * z.size:=by simp [Builtin.zeroCells]
set_option maxHeartbeats 1600000 in
theorem growE_ok (n:Nat) (hn:n ≤ 100000) (w:World) :
    Calls Tryz.prog 157 #[.slice none 0 0,.int .i64 n] w fun e w'=>∃ A c,e=.returned (.slice A 0 c) ∧ w'.ownsRow w.heap.size 104 3 (.slice A 0 c) 0 [] ∧ Below w.heap.size w w':=by
  obtain ⟨ie,hie,hze,he1,he2⟩:=info_parts edge_info
  by_cases h0:n=0
  · subst h0
    go_enter Tryz.func157,Tryz.ntmps157
    go_wp2_with (fail)
    go_ret
    exact ⟨none,0,rfl,World.ownsRow_nil _ _ _ _,Below.refl _ _⟩
  · have hp:0 < n:=by omega
    clear h0
    have hrz:∀ ty,(Builtin.append_ #[28,3] ty #[.slice none 0 0,.int .i64 (n:Int)]).run Tryz.prog w =
        .ok (.slice (some ⟨w.heap.size,0,none⟩) n (grownCap w n 0 104)) (w.drew.alloc (.cells (([]:List Value).toArray ++ Builtin.zeroCells (Value.agg #[.int .i64 0,.int .i64 0,.int .i64 0]).cells n ++ Builtin.zeroCells (Value.agg #[.int .i64 0,.int .i64 0,.int .i64 0]).cells (grownCap w n 0 104 - n)) 104)):=fun ty=>by
      have h:=Lib.run_append_grow_zeros (P:=Tryz.prog) w 28 3 ty 104 ie _ .i64 .i64 Tryz.underlying28 Tryz.underlying3 hie hze none 0 0 []
        (run_firstCells_none w.drew ie.size 0 0 0) n hp (by omega) (by omega) (by omega) (by rw [he2];omega)
        (by rw [he2,Nat.zero_add];exact growslice_fits hp (by omega))
      simpa only [Nat.zero_add] using h
    have hG:=grownCap_ge w n 0 104
    have hG63:=grownCap_le_maxLen w n 0 104 (by unfold maxLen;omega)
    generalize grownCap w n 0 104=G at *
    have HOW:((w.drew.alloc (.cells (([]:List Value).toArray ++ Builtin.zeroCells (Value.agg #[.int .i64 0,.int .i64 0,.int .i64 0]).cells n ++ Builtin.zeroCells (Value.agg #[.int .i64 0,.int .i64 0,.int .i64 0]).cells (G - n)) 104)).ownsRow w.heap.size 104 3 (.slice (some ⟨w.heap.size,0,none⟩) 0 G) 0 []):=by
      have hc:(Value.agg #[.int .i64 0,.int .i64 0,.int .i64 0]).cells.size=3:=rfl
      have:=World.ownsRow_made (base:=w.heap.size) (e:=104) (size:=3) w.drew (([]:List Value).toArray ++ Builtin.zeroCells (Value.agg #[.int .i64 0,.int .i64 0,.int .i64 0]).cells n ++ Builtin.zeroCells (Value.agg #[.int .i64 0,.int .i64 0,.int .i64 0]).cells (G - n)) G (Nat.le_refl _) hG63
        (by rw [Array.size_append,Array.size_append,zeros_sz,zeros_sz,hc];simp;omega)
      exact this
    have HO:=hide HOW
    have HB:=hide ((Below.refl w.heap.size w).drew.alloc (Nat.le_refl _) (.cells (([]:List Value).toArray ++ Builtin.zeroCells (Value.agg #[.int .i64 0,.int .i64 0,.int .i64 0]).cells n ++ Builtin.zeroCells (Value.agg #[.int .i64 0,.int .i64 0,.int .i64 0]).cells (G - n)) 104))
    clear HOW hie hze he1 he2
    generalize (World.alloc w.drew (.cells (([]:List Value).toArray ++ Builtin.zeroCells (Value.agg #[.int .i64 0,.int .i64 0,.int .i64 0]).cells n ++ Builtin.zeroCells (Value.agg #[.int .i64 0,.int .i64 0,.int .i64 0]).cells (G - n)) 104))=W at *
    unfold maxLen at hG63
    have HZ:=hide hrz
    clear hrz
    go_enter Tryz.func157,Tryz.ntmps157
    go_wp2_with (at_builtin;refine Lib.wpList_append_run _ rfl _ _ _ _ rfl _ _ rfl rfl _ _ (HZ.out _) ?_)
    go_ret
    exact ⟨_,G,rfl,HO.out,HB.out⟩
abbrev Part:Type:=Option Addr × Nat × Nat × List Value
def pcell (p:Part):Value:=.slice p.1 p.2.1 p.2.2.1
def ptot (ps:List Part):Nat:=(ps.map fun p=>p.2.1).sum
def pcat (ps:List Part):List Value:=ps.flatMap fun p=>p.2.2.2
theorem ptot_step (ps:List Part) {k:Nat} (h:k < ps.length):ptot (ps.take (k + 1))=ptot (ps.take k) + ps[k].2.1:=by
  unfold ptot
  rw [List.take_succ_eq_append_getElem h,List.map_append,List.sum_append];simp
theorem pcat_step (ps:List Part) {k:Nat} (h:k < ps.length):pcat (ps.take (k + 1))=pcat (ps.take k) ++ ps[k].2.2.2:=by
  unfold pcat
  rw [List.take_succ_eq_append_getElem h,List.flatMap_append];simp
theorem ptot_le (ps:List Part) (k:Nat):ptot (ps.take k) ≤ ptot ps:=by
  induction ps generalizing k with
  | nil=>simp
  | cons p ps ih =>
    cases k with
    | zero=>simp [ptot]
    | succ k=>have:=ih k;simp only [ptot,List.take_succ_cons,List.map_cons,List.sum_cons] at *;omega
def pcells (ps:List Part):List Value:=ps.map pcell
set_option maxRecDepth 100000 in
set_option maxHeartbeats 1600000 in
theorem concatE_ok (ps:List Part) (M:List Nat) (A:Option Addr) (m c:Nat) (w:World) (hS:Sl w M 1 A m c (pcells ps)) (hx:∀ p ∈ ps,Sl w [] 3 p.1 p.2.1 p.2.2.1 p.2.2.2 ∧ ∀ u ∈ p.2.2.2,u.oneCell'=true) (hm:m ≤ 16) (ht:ptot ps ≤ 10000) :
    Calls Tryz.prog 120 #[.slice A m c] w fun e w'=>∃ R d,e=.returned (.slice R (ptot ps) d) ∧ Sl w' [] 3 R (ptot ps) d (pcat ps) ∧ Below w.heap.size w w':=by
  obtain ⟨ie,hie,hze,he1,he2⟩:=info_parts edge_info
  have HL:=hide (show ps.length=m by have:=hS.len;simpa [pcells] using this)
  have HX:=hide hx
  have HT:=hide (fun k=>ptot_le ps k)
  clear hx
  go_enter Tryz.func120,Tryz.ntmps120
  go_wp2_with (fail)
  go_loop [3,11] (fun s i=>∃ k:Nat,k ≤ m ∧ i=.int .i64 k ∧ s=.int .i64 (ptot (ps.take k):Nat)) (fun _ i=>m - (intOf i).toNat)
  case atStart=>exact ⟨0,Nat.zero_le _,rfl,rfl⟩
  case round =>
    obtain ⟨k,hk,rfl,rfl⟩:=hrel
    have htk:=HT.out k
    by_cases hlt:k < m
    · obtain ⟨ad,rfl,had,_,hc⟩:=hS.at_ (by omega)
      have hp:k < ps.length:=by have:=HL.out;omega
      have c0:=hc k (pcell ps[k]) (by simp [pcells,hp])
      have HST:=hide (ptot_step ps hp)
      have htk2:=HT.out (k + 1)
      rw [HST.out] at htk2
      clear hc
      generalize ps[k]=p at *
      obtain ⟨pa,pn,pc,px⟩:=p
      simp only [pcell] at c0 htk2 HST
      generalize ptot (ps.take k)=tk at *
      go_wp2_with (fail)
      exact ⟨⟨k + 1,by omega,by go_num,by rw [HST.out];go_num⟩,by simp [intOf];omega⟩
    · have HF:=hide (show ps.take k=ps from List.take_of_length_le (by have:=HL.out;omega))
      rw [HF.out]
      clear htk
      generalize hq:ptot ps=tt at *
      have HQ:=hide hq
      clear hq
      go_wp2_with (fail)
      refine (growE_ok tt (by omega) w).mono ?_
      rintro e w1 ⟨A1,c1,rfl,own1,b1⟩
      go_wp2_with (fail)
      go_loopw [6,27] (fun a i wr=>∃ (k:Nat) (Ao:Option Addr) (co:Nat),k ≤ m ∧ i=.int .i64 k ∧ a=.slice Ao (ptot (ps.take k)) co ∧ Below w.heap.size w wr ∧
        wr.ownsRow w.heap.size 104 3 (.slice Ao (ptot (ps.take k)) co) (ptot (ps.take k)) (pcat (ps.take k))) (fun _ i _=>m - (intOf i).toNat)
      case atStart=>exact ⟨0,A1,c1,Nat.zero_le _,rfl,rfl,b1,own1⟩
      case round =>
        obtain ⟨k,Ao,co,hk,rfl,rfl,hbr,hown⟩:=hrel
        have hSr:=hS.below hbr
        by_cases hlt:k < m
        · obtain ⟨ad,rfl,had,_,hc⟩:=hSr.at_ (by omega)
          have hp:k < ps.length:=by have:=HL.out;omega
          have c0:=hc k (pcell ps[k]) (by simp [pcells,hp])
          have HST:=hide (ptot_step ps hp)
          have HCT:=hide (pcat_step ps hp)
          have htk2:=HT.out (k + 1)
          rw [HST.out] at htk2
          have HP:=hide (HX.out _ (List.getElem_mem hp))
          clear hc
          generalize ps[k]=p at *
          obtain ⟨pa,pn,pc,px⟩:=p
          simp only [pcell] at c0 htk2 HST HP HCT
          have HOW:=hide hown
          clear hown
          generalize hv:ptot (ps.take k)=tk at *
          clear hv
          generalize Value.slice Ao tk co=RV at *
          (go_wp2_with (at_builtin;refine stopAt ?_);refine stopGo ?_)
          refine wpList_append_sl _ rfl (.tmp 31) (.tmp 32) _ rfl w.heap.size 104 ie _ 3 24 Tryz.underlying28 hie hze he1 he2 rfl (by omega) RV _ _ rfl HOW.out [] _ pn pc px rfl (HP.out.1.below hbr) HP.out.2 (by simp only [maxLen];omega) (by omega) (by have:=hbr.size;omega) ?_
          intro A5 c5 w5 own5 g5 _
          rw [← HCT.out,← HST.out] at own5
          rw [← HST.out]
          have hg5:=below_grown HOW.out g5 (Nat.le_refl _) hbr.size
          have hb5:=hbr.trans hg5
          have OW5:=hide own5
          clear own5 g5 hg5
          go_wp2_with (fail)
          exact ⟨⟨k + 1,A5,c5,by omega,by go_num,rfl,hb5,OW5.out⟩,by simp [intOf];omega⟩
        · have HF:=hide (show ps.take k=ps from List.take_of_length_le (by have:=HL.out;omega))
          rw [HF.out,HQ.out] at hown
          rw [HF.out,HQ.out]
          go_wp2_with (fail)
          go_ret
          refine ⟨Ao,co,?_,?_,hbr⟩
          · rw [HQ.out];rfl
          · rw [HQ.out];exact own_sl hown [] (by simp)
set_option maxHeartbeats 800000 in
theorem cloneE_ok (l:List Value) (M:List Nat) (A:Option Addr) (m c:Nat) (w:World) (hS:Sl w M 3 A m c l) (h1:∀ u ∈ l,u.oneCell'=true) (hm:m ≤ 10000) :
    Calls Tryz.prog 196 #[.slice A m c] w fun e w'=>∃ R d,e=.returned (.slice R m d) ∧ w'.ownsRow w.heap.size 104 3 (.slice R m d) m l ∧ Below w.heap.size w w':=by
  obtain ⟨ie,hie,hze,he1,he2⟩:=info_parts edge_info
  have q22:∀ (w:World) (a:Option Addr) (n c n' c':Nat),(binOp .eql 28 (.slice a n c) (.slice none n' c')).run Tryz.prog w=.ok (.bool a.isNone) w:=fun w a n c n' c'=>Lib.run_eql_slice_nil w _ _ a n c n' c' Tryz.underlying28
  cases A with
  | none =>
    obtain rfl:m=0:=by
      rcases Nat.eq_zero_or_pos m with h0 | h0
      · exact h0
      · obtain ⟨ad,h,_⟩:=hS.at_ h0
        cases h
    obtain rfl:l=[]:=List.eq_nil_of_length_eq_zero (by simpa using hS.len)
    go_enter Tryz.func196,Tryz.ntmps196
    go_wp2_with (fail)
    go_ret
    exact ⟨none,0,rfl,World.ownsRow_nil _ _ _ _,Below.refl _ _⟩
  | some ad =>
    have O2:=own_empty w 104 3
    have S2:=hS.alloc (.cells #[] 104)
    have HO:=hide O2
    have hb2:=(Below.refl w.heap.size w).alloc (Nat.le_refl _) (.cells #[] 104)
    clear O2
    go_enter Tryz.func196,Tryz.ntmps196
    (go_wp2_with (at_builtin;refine stopAt ?_);refine stopGo ?_)
    refine wpList_append_sl _ rfl (.tmp 5) (.tmp 6) _ rfl w.heap.size 104 ie _ 3 24 Tryz.underlying28 hie hze he1 he2 rfl (by omega) _ _ _ rfl HO.out M _ m c l rfl S2 h1 (by simp only [maxLen];omega) (by omega) (by simp) ?_
    intro A5 c5 w5 own5 g5 _
    have hg5:=below_grown HO.out g5 (Nat.le_refl _) hb2.size
    have hb5:=hb2.trans hg5
    simp only [Nat.zero_add,List.nil_append] at own5 ⊢
    have OW5:=hide own5
    clear own5 g5 hg5
    go_wp2_with (fail)
    go_ret
    exact ⟨A5,c5,rfl,OW5.out,hb5⟩
end Go.Proofs.YtppblcbgkadldaaGreatDoor
namespace Go.Proofs.YtppblcbgkadldaaGreatDoor
open Go Go.RowKit
set_option maxRecDepth 100000
def cutA (A:Option Addr) (c k s:Nat):Option Addr:=if c=k then A else A.map (·.add (k * s))
theorem add_zero_ (a:Addr):a.add 0=a:=by unfold Addr.add;simp
theorem map_zero_ (A:Option Addr):A.map (·.add 0)=A:=by cases A <;> simp [add_zero_]
theorem esl_size (w:World):(sizeOf (Tryz.prog.elem 28)).run Tryz.prog w=.ok 3 w:=by kernel_rfl
theorem esl_hi (A:Option Addr) (n c:Nat) (i:Int) (h0:0 ≤ i) (h1:i ≤ c) (w:World) :
    (Instr.slice 28 (.slice A n c) none (some (.int .i64 i)) none).run Tryz.prog w=.ok (.slice A i.toNat c) w:=by
  rw [run_slice_h (P:=Tryz.prog) (t:=28) (a:=A) (len:=n) (cap:=c) w Tryz.underlying28 .i64 i h0 h1,esl_size]
  simp [Result.andThen,sliced,map_zero_]
theorem esl_lo (A:Option Addr) (n c:Nat) (i:Int) (h0:0 ≤ i) (h1:i ≤ n) (w:World) :
    (Instr.slice 28 (.slice A n c) (some (.int .i64 i)) none none).run Tryz.prog w=.ok (.slice (cutA A c i.toNat 3) (n - i.toNat) (c - i.toNat)) w:=by
  rw [run_slice_l (P:=Tryz.prog) (t:=28) (a:=A) (len:=n) (cap:=c) w Tryz.underlying28 .i64 i h0 h1,esl_size]
  simp [Result.andThen,sliced,cutA]
theorem p_head {W:World} {M:List Nat} {A:Option Addr} {m c k:Nat} {l:List E3} (hS:ESl W M A m c l) (hk:k ≤ m):Sl W [] 3 A k c (ecells (l.take k)):=by
  have:=Sl.take hS hk
  rw [ecells_take] at this
  exact this.less (by simp)
theorem p_tail {W:World} {M:List Nat} {A:Option Addr} {m c k:Nat} {l:List E3} (hS:ESl W M A m c l) (hk:k ≤ m):Sl W [] 3 (cutA A c k 3) (m - k) (c - k) (ecells (l.drop k)):=by
  have:=Sl.cut hS hk
  rw [ecells_drop] at this
  exact this.less (by simp)
end Go.Proofs.YtppblcbgkadldaaGreatDoor
namespace Go.Proofs.YtppblcbgkadldaaGreatDoor
open Go Go.RowKit
set_option maxRecDepth 100000
theorem isl_size (w:World):(sizeOf (Tryz.prog.elem 113)).run Tryz.prog w=.ok 1 w:=by kernel_rfl
theorem isl_lo (A:Option Addr) (n c:Nat) (i:Int) (h0:0 ≤ i) (h1:i ≤ n) (w:World) :
    (Instr.slice 113 (.slice A n c) (some (.int .i64 i)) none none).run Tryz.prog w=.ok (.slice (cutA A c i.toNat 1) (n - i.toNat) (c - i.toNat)) w:=by
  rw [run_slice_l (P:=Tryz.prog) (t:=113) (a:=A) (len:=n) (cap:=c) w Tryz.underlying113 .i64 i h0 h1,isl_size]
  simp [Result.andThen,sliced,cutA]
end Go.Proofs.YtppblcbgkadldaaGreatDoor
namespace Go.Proofs.YtppblcbgkadldaaGreatDoor
open Go Go.RowKit
set_option maxRecDepth 100000
attribute [local go_sem] Heavy heavyUpon
section
variable {P:Program} (w:World)
theorem wpPlan_append_sl {ops:Array Oper} {C:World → Prop} {hs:List Nat} {Qf:Act → World → Prop} {k:Nat} {p:Plan} {o:Oper} {a:Act} (ho':ops[k]? = some o) (hgd:o.guard=none) (hk:hs.contains k=true) (s x:Operand) (t:TypeId)
    (ho:o.op=.call { callee:=.builtin .append,args:=#[s,x],argTypes:=#[t,t] })
    (base:Nat) (e:TypeId) (i:TypeInfo) (z:Value) (size bytes:Nat) (ht:P.underlying t=some (.slice e)) (hi:P.info? e=some i) (hz:i.zero=some z)
    (hsize:i.size=size) (hby:i.bytes=bytes) (hzs:z.cells.size=size) (hsz:0 < size)
    (v:Value) (n:Nat) (xs:List Value) (hs':a.eval s=v) (hown:w.ownsRow base e size v n xs)
    (M:List Nat) (A:Option Addr) (m c:Nat) (news:List Value) (hx:a.eval x=.slice A m c) (hr:Sl w M size A m c news) (h1:∀ u ∈ news,u.oneCell'=true)
    (h63:n + m ≤ maxLen) (hbytes:(n + m) * bytes ≤ 140737488355328) (hbase:base ≤ w.heap.size)
    (h:∀ A' c' w',w'.ownsRow base e size (.slice A' (n + m) c') (n + m) (xs ++ news) → w.grownBy w' v.ownBlock → (Value.ownBlock (.slice A' (n + m) c')=v.ownBlock ∨ Value.ownBlock (.slice A' (n + m) c')=some w.heap.size) →
      C w' ∧ wpPlan P ops C hs Qf p (a.put o.dst (.slice A' (n + m) c')) w'):wpPlan P ops C hs Qf (.op k p) a w:=by
  refine lxOp_step ho' ?_
  rw [if_pos (by simp [Region.wanted,hgd]),if_pos hk]
  obtain ⟨A',c',w',hrun,h2,h3,h4⟩:=run_append_sl (P:=P) w base t o.type e i z size bytes ht hi hz hsize hby hzs hsz v n xs hown M A m c news hr h1 h63 hbytes hbase
  unfold Heavy execOp
  simp only [ho,resolve,invoke,builtin,Sem.run_bind,Sem.run_pure,Result.andThen_ok,List.map_toArray,List.map_cons,List.map_nil,hs',hx,hrun,heavyUpon]
  exact h A' c' w' h2 h3 h4
end
theorem own_keep {w w':World} {base:Nat} {e:TypeId} {size:Nat} {v:Value} {n:Nat} {xs:List Value} (h:w.ownsRow base e size v n xs) (hk:∀ g,v.ownBlock=some g → w'.heap[g]? = w.heap[g]?):w'.ownsRow base e size v n xs:=by
  obtain ⟨h1,h2⟩:=h
  refine ⟨h1,?_⟩
  rcases h2 with h2 | ⟨g,cap,cur,a,b,c,d⟩
  · exact .inl h2
  · exact .inr ⟨g,cap,cur,a,b,(hk g (by rw [a];rfl)).trans c,d⟩
structure SRows (w:World) (base S n:Nat) (R:Nat → List Nat) (vs:List Value):Prop where
  len:vs.length=n
  blk:Blk w S 113 vs.toArray
  own:∀ x,x < n → w.ownsRow base 3 1 (vs.getD x undef) (R x).length (ints .i64 (natL (R x)))
  apart:∀ x y,x < n → y < n → x ≠ y → ∀ g,(vs.getD x undef).ownBlock=some g → (vs.getD y undef).ownBlock ≠ some g
  lo:S < base
  hi:base ≤ w.heap.size
section
variable {w w':World} {base S n:Nat} {R:Nat → List Nat} {vs:List Value}
theorem SRows.keep (h:SRows w base S n R vs) (hz:w.heap.size ≤ w'.heap.size) (hk:∀ k,k < w.heap.size → w'.heap[k]? = w.heap[k]?):SRows w' base S n R vs:=
  ⟨h.len,(hk S h.blk.lt).trans h.blk,fun x hx=>own_keep (h.own x hx) fun g hg=>hk g ((h.own x hx).lt g hg).2,h.apart,h.lo,Nat.le_trans h.hi hz⟩
theorem SRows.below (h:SRows w base S n R vs) (hb:Below w.heap.size w w'):SRows w' base S n R vs:=h.keep hb.size hb.block
theorem SRows.alloc (h:SRows w base S n R vs) (o:Obj):SRows (w.alloc o) base S n R vs:=h.keep (by simp) fun k hk=>Below.heap_alloc w o k hk
theorem SRows.drew (h:SRows w base S n R vs):SRows w.drew base S n R vs:=SRows.keep (w:=w) (w':=w.drew) h (Nat.le_refl _) fun _ _=>rfl
theorem getD_set_val (l:List Value) (i j:Nat) (x:Value) (hi:i < l.length):(l.set i x).getD j undef=if i=j then x else l.getD j undef:=by
  simp only [List.getD_eq_getElem?_getD,List.getElem?_set,hi,if_true]
  split <;> simp
theorem SRows.push (h:SRows w base S n R vs) {x:Nat} (hx:x < n) {i:Nat} {v':Value} (hown:w'.ownsRow base 3 1 v' ((R x).length + 1) (ints .i64 (natL (R x)) ++ ints .i64 [(i:Int)]))
    (hg:w.grownBy w' (vs.getD x undef).ownBlock) (hb:v'.ownBlock=(vs.getD x undef).ownBlock ∨ v'.ownBlock=some w.heap.size) :
    SRows (w'.setCell ⟨S,x,none⟩ v') base S n (fun y=>if y=x then R y ++ [i] else R y) (vs.set x v'):=by
  have hS:some S ≠ (vs.getD x undef).ownBlock:=fun e=>by
    have:=((h.own x hx).lt S e.symm).1;have:=h.lo;omega
  have hblk:Blk w' S 113 vs.toArray:=(hg.block S h.blk.lt hS).trans h.blk
  have hlt:∀ y,y < n → y ≠ x → ∀ g,(vs.getD y undef).ownBlock=some g → w'.heap[g]? = w.heap[g]? ∧ base ≤ g ∧ g < w.heap.size:=fun y hy hyx g hgy=>by
    have h1:=(h.own y hy).lt g hgy
    exact ⟨hg.block g h1.2 (fun e=>h.apart x y hx hy (Ne.symm hyx) g e.symm hgy),h1.1,h1.2⟩
  have hv:∀ g,v'.ownBlock=some g → base ≤ g:=fun g e=>by
    rcases hb with hb | hb
    · rw [hb] at e;exact ((h.own x hx).lt g e).1
    · rw [hb] at e;injection e with e;have:=h.hi;omega
  have hne:∀ g,base ≤ g → (w'.setCell ⟨S,x,none⟩ v').heap[g]? = w'.heap[g]?:=fun g hgb=>Below.heap_setCell w' ⟨S,x,none⟩ v' g (by have:=h.lo;simp;omega)
  refine ⟨by rw [List.length_set,h.len],?_,fun y hy=>?_,fun y z hy hz hyz g e1 e2=>?_,h.lo,by have:=hg.size;have:=h.hi;simp;omega⟩
  · have:=hblk.set_ x v'
    rwa [List.setIfInBounds_toArray] at this
  · rw [getD_set_val _ _ _ _ (by rw [h.len];exact hx)]
    by_cases hyx:y=x
    · subst hyx
      simp only [if_true]
      have e1:natL (R y ++ [i])=natL (R y) ++ [(i:Int)]:=by simp [natL]
      rw [e1,ints_append,List.length_append]
      exact own_keep hown fun g e=>hne g (hv g e)
    · rw [if_neg (fun e=>hyx e.symm)]
      simp only [if_neg hyx]
      refine own_keep (h.own y hy) fun g e=>?_
      obtain ⟨h1,h2,_⟩:=hlt y hy hyx g e
      exact (hne g h2).trans h1
  · rw [getD_set_val _ _ _ _ (by rw [h.len];exact hx)] at e1 e2
    by_cases hyx:x=y
    · rw [if_pos hyx] at e1
      rw [if_neg (fun e=>hyz (hyx.symm.trans e))] at e2
      rcases hb with hb | hb
      · rw [hb] at e1
        exact h.apart x z hx hz (by omega) g e1 e2
      · rw [hb] at e1;injection e1 with e1
        have:=((h.own z hz).lt g e2).2;omega
    · rw [if_neg hyx] at e1
      by_cases hzx:x=z
      · rw [if_pos hzx] at e2
        rcases hb with hb | hb
        · rw [hb] at e2
          exact h.apart y x hy hx (by omega) g e1 e2
        · rw [hb] at e2;injection e2 with e2
          have:=((h.own y hy).lt g e1).2;omega
      · rw [if_neg hzx] at e2
        exact h.apart y z hy hz hyz g e1 e2
theorem SRows.pushed (h:SRows w base S n R vs) {x:Nat} (hx:x < n) (hg:w.grownBy w' (vs.getD x undef).ownBlock):Blk w' S 113 vs.toArray:=
  (hg.block S h.blk.lt (fun e=>by have:=((h.own x hx).lt S e.symm).1;have:=h.lo;omega)).trans h.blk
theorem SRows.row (h:SRows w base S n R vs) {x:Nat} (hx:x < n):∃ A c,vs.getD x undef=.slice A (R x).length c ∧ w.cell? ⟨S,x,none⟩=some (.slice A (R x).length c) ∧ Sl w [] 1 A (R x).length c (ints .i64 (natL (R x))):=by
  have ho:=h.own x hx
  obtain ⟨A,c,e⟩:=own_form ho
  refine ⟨A,c,e,?_,own_sl (by rw [e] at ho;exact ho) [] (by simp)⟩
  rw [h.blk.cell]
  have hxl:x < vs.length:=by rw [h.len];exact hx
  rw [← e]
  simp [hxl]
end
structure QSl (w:World) (base:Nat) (A:Option Addr) (m c:Nat) (xs:List Int):Prop where
  at_:∃ g o cur,A=some ⟨g,o,none⟩ ∧ base ≤ g ∧ w.heap[g]? = some (.cells cur 3 (0,0)) ∧ o + c ≤ cur.size ∧ ∀ j u,(ints .i64 xs)[j]? = some u → cur[o + j]? = some u
  len:xs.length=m
  le:m ≤ c
  cap:c ≤ maxLen
section
variable {w w':World} {base:Nat} {A:Option Addr} {m c:Nat} {xs:List Int}
theorem QSl.sl (h:QSl w base A m c xs):Sl w [] 1 A m c (ints .i64 xs):=by
  obtain ⟨g,o,cur,rfl,hb,hg,hc,hr⟩:=h.at_
  refine ⟨by simp [h.len],h.le,h.cap,fun _=>⟨_,rfl,?_,by simp,fun j u hu=>?_⟩⟩
  · exact Blk.lt (t:=3) hg
  · have e:(⟨g,o,none⟩:Addr).add j=⟨g,o + j,none⟩:=by unfold Addr.add;split <;> simp_all
    rw [e,cell_of_row w g (o + j) cur _ (0,0) hg]
    exact hr j u hu
theorem QSl.keep (h:QSl w base A m c xs) (hk:∀ k,base ≤ k → k < w.heap.size → w'.heap[k]? = w.heap[k]?):QSl w' base A m c xs:=by
  obtain ⟨g,o,cur,e,hb,hg,hc,hr⟩:=h.at_
  exact ⟨⟨g,o,cur,e,hb,(hk g hb (Blk.lt (t:=3) hg)).trans hg,hc,hr⟩,h.len,h.le,h.cap⟩
theorem QSl.tail (h:QSl w base A m c xs) (hm:0 < m):QSl w base (cutA A c 1 1) (m - 1) (c - 1) (xs.drop 1):=by
  obtain ⟨g,o,cur,rfl,hb,hg,hc,hr⟩:=h.at_
  have hle:=h.le
  have hcap:=h.cap
  have hl:=h.len
  refine ⟨?_,by rw [List.length_drop,hl],by omega,by omega⟩
  have key:∀ j u,(ints .i64 (xs.drop 1))[j]? = some u → cur[o + 1 + j]? = some u:=fun j u hu=>by
    rw [show o + 1 + j=o + (j + 1) by omega]
    refine hr (j + 1) u ?_
    rw [← hu]
    simp [ints]
  unfold cutA
  by_cases h1:c=1
  · rw [if_pos h1]
    refine ⟨g,o,cur,rfl,hb,hg,by omega,fun j u hu=>?_⟩
    have:xs.drop 1=[]:=List.eq_nil_of_length_eq_zero (by rw [List.length_drop];omega)
    rw [this] at hu
    simp [ints] at hu
  · rw [if_neg h1]
    refine ⟨g,o + 1,cur,?_,hb,hg,by omega,key⟩
    simp [Addr.add]
theorem QSl.new (w:World) (base:Nat) (hb:base ≤ w.heap.size) (x:Int):QSl (w.alloc (.cells #[.int .i64 x] 3)) base (some ⟨w.heap.size,0,none⟩) 1 1 [x]:=
  ⟨⟨_,0,_,rfl,hb,Blk.new w _ _,by simp,fun j u hu=>by match j,hu with | 0,hu=>simpa [ints] using hu⟩,rfl,Nat.le_refl _,by unfold maxLen;omega⟩
theorem wpList_append_q {w:World} {ops:Array Oper} {rest:List Oper} {o:Oper} {a:Act} {Q:Exit → Act → World → Prop} (hgd:o.guard=none) (s x:Operand)
    (ho:o.op=.call { callee:=.builtin .append,args:=#[s,x],argTypes:=#[113,113] })
    (base:Nat) (A:Option Addr) (m c:Nat) (xs:List Int) (hs:a.eval s=.slice A m c) (hq:QSl w base A m c xs) (N:Nat) (y:Int) (hx:a.eval x=.slice (some ⟨N,0,none⟩) 1 1)
    (hN:Blk w N 3 #[.int .i64 y]) (hm:m ≤ 10000) (hbase:base ≤ w.heap.size)
    (h:∀ A' c' w',QSl w' base A' (m + 1) c' (xs ++ [y]) → Below base w w' → w.heap.size ≤ w'.heap.size → wpList Tryz.prog ops Q rest (a.put o.dst (.slice A' (m + 1) c')) w'):wpList Tryz.prog ops Q (o :: rest) a w:=by
  obtain ⟨ie,hie,hze,he1,he2⟩:=info_parts int_info
  have key:∃ A' c' w',(Builtin.append_ #[113,113] o.type #[.slice A m c,.slice (some ⟨N,0,none⟩) 1 1]).run Tryz.prog w=.ok (.slice A' (m + 1) c') w' ∧ QSl w' base A' (m + 1) c' (xs ++ [y]) ∧ Below base w w' ∧ w.heap.size ≤ w'.heap.size:=by
    obtain ⟨g,o',cur,rfl,hb,hg,hc,hr⟩:=hq.at_
    have hle:=hq.le
    have hcap:=hq.cap
    have hl:=hq.len
    have hnews:∀ j u,([Value.int .i64 y])[j]? = some u → w.cell? ((⟨N,0,none⟩:Addr).add j)=some u:=fun j u hu=>by
      match j,hu with
      | 0,hu =>
        have:=hN.cell 0
        simp at hu
        subst hu
        simpa [Addr.add] using this
    have holds:∀ j u,(ints .i64 xs)[j]? = some u → w.cell? ((⟨g,o',none⟩:Addr).add j)=some u:=fun j u hu=>by
      have e:(⟨g,o',none⟩:Addr).add j=⟨g,o' + j,none⟩:=by unfold Addr.add;split <;> simp_all
      rw [e,cell_of_row w g (o' + j) cur _ (0,0) hg]
      exact hr j u hu
    by_cases hroom:m + 1 ≤ c
    · have hr1:=run_append_room_cells (P:=Tryz.prog) w 113 o.type 3 ie Tryz.underlying113 hie g o' m c ⟨N,0,none⟩ 1 1 [.int .i64 y] (by rw [he1];rfl) hnews (by simp [Value.oneCell']) hroom
        (fun j hj=>by
          have:j=0:=by simpa using hj
          subst this
          rw [he1,cell_of_row w g _ cur _ (0,0) hg,Array.getElem?_eq_getElem (by omega)];rfl)
        (fun j hj=>Blk.frozen (t:=3) hg _)
      rw [he1,Nat.mul_one] at hr1
      refine ⟨_,c,_,hr1,?_,?_,?_⟩
      · have hg':Blk (w.setCell ⟨g,o' + m,none⟩ (.int .i64 y)) g 3 (cur.setIfInBounds (o' + m) (.int .i64 y)):=Blk.set_ hg _ _
        refine ⟨⟨g,o',_,rfl,hb,hg',by simpa using hc,fun j u hu=>?_⟩,by simp [hl],hroom,hcap⟩
        rw [Array.getElem?_setIfInBounds]
        have hj:j < m + 1:=by
          have:=getElem?_lt hu
          simpa [ints,hl] using this
        by_cases hjm:j=m
        · subst hjm
          rw [if_pos rfl,if_pos (by omega)]
          rw [ints_append,List.getElem?_append_right (by simp [hl])] at hu
          simpa [ints,hl] using hu
        · rw [if_neg (by omega)]
          rw [ints_append,List.getElem?_append_left (by simp [hl];omega)] at hu
          exact hr j u hu
      · exact (Below.refl _ _).setCell (p:=⟨g,o' + m,none⟩) hb _
      · simp [World.setCells]
    · obtain ⟨v',w',hr2,hown,hgr⟩:=run_append_arg_grows (P:=Tryz.prog) w 113 o.type 3 ie _ 1 8 Tryz.underlying113 hie hze he1 he2 rfl (by omega) ⟨g,o',none⟩ m c (ints .i64 xs) (by simp [hl]) holds ⟨N,0,none⟩ 1 1 [.int .i64 y] rfl hnews (by omega) (by unfold maxLen;omega) (by omega)
      rcases hown.2 with ⟨_,h0⟩ | ⟨g',cap',cur',e,hb',hg',hnc,hcm,hcs,htake⟩
      · omega
      · subst e
        refine ⟨_,cap',w',hr2,⟨⟨g',0,cur',rfl,Nat.le_trans hbase hb',hg',by omega,fun j u hu=>?_⟩,by simp [hl],hnc,hcm⟩,⟨hgr.os,hgr.tape,hgr.output,hgr.size,fun k hk=>hgr.block k (by omega) (by simp)⟩,hgr.size⟩
        have hj:=getElem?_lt hu
        have e2:ints .i64 xs ++ [Value.int .i64 y]=ints .i64 (xs ++ [y]):=by simp [ints]
        rw [e2] at htake
        rw [← htake,List.getElem?_take] at hu
        split at hu
        · simpa using hu
        · cases hu
  obtain ⟨A',c',w',hrun,h2,h3,h4⟩:=key
  refine wpList_plain hgd fun K hK=>?_
  unfold Oper.wp execOp
  simp only [ho,resolve,invoke,builtin,Sem.run_bind,Sem.run_pure,Result.andThen_ok,List.map_toArray,List.map_cons,List.map_nil,hs,hx,hrun]
  exact hK _ _ (h A' c' w' h2 h3 h4)
end
end Go.Proofs.YtppblcbgkadldaaGreatDoor
namespace Go.Proofs.YtppblcbgkadldaaGreatDoor
open Go Go.RowKit
set_option maxRecDepth 100000
attribute [local go_sem] Heavy heavyUpon
def edgeV (e:E3):Value:=.agg #[.int .i64 e.1,.int .i64 e.2.1,.int .i64 e.2.2]
set_option maxHeartbeats 3200000 in
theorem greatest_none (A:Option Addr) (c:Nat) (w:World) :
    Calls Tryz.prog 161 #[.slice A 0 c] w (Ret (.tuple #[edgeV (0,0,0),.bool false]) w):=by
  have hbd:∀ W,(Instr.build 104 #[]).run Tryz.prog W=.ok (.agg #[.int .i64 0,.int .i64 0,.int .i64 0]) W:=fun _=>by kernel_rfl
  go_enter Tryz.func161,Tryz.ntmps161
  go_wp2_with (fail)
  refine bodyPost_ret (v:=.tuple #[.agg #[.int .i64 0,.int .i64 0,.int .i64 0],.bool false]) (by simp [results,Tryz.results161,go_sem]) rfl ⟨rfl,(Below.refl _ _).alloc (Nat.le_refl _) _⟩
set_option maxHeartbeats 3200000 in
theorem greatest_ok (l:List E3) (A:Option Addr) (m c:Nat) (w:World) (hS:ESl w [] A m c l) (h0:0 < m) (hm:m ≤ 4096) :
    Calls Tryz.prog 161 #[.slice A m c] w fun e w'=>∃ x,e=.returned (.tuple #[edgeV x,.bool true]) ∧ x ∈ l ∧ Below w.heap.size w w':=by
  obtain ⟨m,rfl⟩:∃ mm,m=mm + 1:=⟨m - 1,by omega⟩
  have HL:=hide hS.length
  have QL:=hide less_any
  have hle:=hS.le
  have hcap:=hS.cap
  unfold maxLen at hcap
  have hsl:=fun W=>esl_lo A (m + 1) c 1 (by omega) (by omega) W
  simp only [Int.toNat_one,Nat.add_sub_cancel] at hsl
  have HT:=hide (p_tail (k:=1) hS (by omega))
  simp only [Nat.add_sub_cancel] at HT
  have hx0:0 < l.length:=by have:=HL.out;omega
  obtain ⟨ad,rfl,had,_,c0,c1,c2⟩:=hS.get (k:=0) hx0
  have HM:=hide (List.getElem_mem (l:=l) (n:=0) hx0)
  simp only [Nat.zero_mul,add_zero_] at c0 c1 c2
  generalize l[0]=x at *
  obtain ⟨a,b,t⟩:=x
  simp only [] at c0 c1 c2
  have hm0:(((m + 1:Nat):Int) == 0)=false:=by rw [beq_eq_false_iff_ne];omega
  have hm1:((m:Int) + 1 == 0)=false:=by rw [beq_eq_false_iff_ne];omega
  have B0:=((Blk.new w 104 #[.int .i64 0,.int .i64 0,.int .i64 0])).alloc (.cells #[.int .i64 a,.int .i64 b,.int .i64 t] 104)
  have B1:Blk ((w.alloc (.cells #[.int .i64 0,.int .i64 0,.int .i64 0] 104)).alloc (.cells #[.int .i64 a,.int .i64 b,.int .i64 t] 104)) (w.heap.size + 1) 104 #[.int .i64 a,.int .i64 b,.int .i64 t]:=by
    have:=Blk.new (w.alloc (.cells #[.int .i64 0,.int .i64 0,.int .i64 0] 104)) 104 #[.int .i64 a,.int .i64 b,.int .i64 t]
    rwa [heap_alloc_size] at this
  have hb0:=((Below.refl w.heap.size w).alloc (Nat.le_refl _) (.cells #[.int .i64 0,.int .i64 0,.int .i64 0] 104)).alloc (by simp) (.cells #[.int .i64 a,.int .i64 b,.int .i64 t] 104)
  have HB0:=hide B0
  have HB1:=hide B1
  have HAT:=hide (show ∀ d ∈ l.drop 1,d ∈ l from fun d hd=>List.mem_of_mem_drop hd)
  have HLD:=hide (show (l.drop 1).length=m by rw [List.length_drop,HL.out];rfl)
  generalize cutA (some ad) c 1 3=A' at *
  generalize l.drop 1=L' at *
  clear B0 B1 hS
  go_enter Tryz.func161,Tryz.ntmps161
  go_wp2_with (fail)
  go_loopw [17] (fun i wr=>∃ (k:Nat) (x:E3),k ≤ m ∧ i=.int .i64 k ∧ Hid (x ∈ l) ∧ Below w.heap.size w wr ∧ Hid (Blk wr w.heap.size 104 #[.int .i64 0,.int .i64 0,.int .i64 0]) ∧ Hid (Blk wr (w.heap.size + 1) 104 #[.int .i64 x.1,.int .i64 x.2.1,.int .i64 x.2.2])) (fun i _=>m - (intOf i).toNat)
  case atStart=>exact ⟨0,(a,b,t),Nat.zero_le _,rfl,HM,hb0,HB0,HB1⟩
  case round =>
    clear HM hb0 HB0 HB1 c0 c1 c2
    obtain ⟨k,x,hk,rfl,HX,hbr,HBr0,HBr1⟩:=hrel
    obtain ⟨p,q,r⟩:=x
    simp only [] at HBr1
    by_cases hlt:k < m
    · have hxl:k < L'.length:=by rw [HLD.out];exact hlt
      obtain ⟨ad',rfl,had',_,c0,c1,c2⟩:=ESl.get (show ESl wr [] A' m (c - 1) L' from HT.out.below hbr) hxl
      have HM:=hide (HAT.out _ (List.getElem_mem hxl))
      generalize L'[k]=y at *
      obtain ⟨u,v,s⟩:=y
      simp only [] at c0 c1 c2
      have hb2:=hbr.alloc hbr.size (.cells #[.int .i64 u,.int .i64 v,.int .i64 s] 104)
      have HB2:=hide (HBr0.out.alloc (.cells #[.int .i64 u,.int .i64 v,.int .i64 s] 104))
      have HB3:=hide (HBr1.out.alloc (.cells #[.int .i64 u,.int .i64 v,.int .i64 s] 104))
      have B4:=hide (Blk.new wr 104 #[.int .i64 u,.int .i64 v,.int .i64 s])
      have szr:=hbr.size
      have s1:=HBr1.out.lt
      obtain ⟨r1,e1,s2⟩:=HBr1.out.facts
      have x0:wr.cell? ⟨w.heap.size + 1,0,none⟩=some (.int .i64 p):=r1 0
      have x1:wr.cell? ⟨w.heap.size + 1,1,none⟩=some (.int .i64 q):=r1 1
      have x2:wr.cell? ⟨w.heap.size + 1,2,none⟩=some (.int .i64 r):=r1 2
      have hne:w.heap.size + 1 ≠ wr.heap.size:=by omega
      have HK0:=HBr0
      have HK1:=HBr1
      clear r1 HBr0 HBr1
      have hbE:=hbr
      by_cases h1:r < s
      · clear HB2 HB3 B4
        go_wp2_with (fail)
        refine ⟨⟨k + 1,(u,v,s),by omega,by go_num,HM,?_,hide ?_,hide ?_⟩,by simp [intOf];omega⟩
        · (repeat (first | (with_reducible exact hbE) | (with_reducible refine Below.drew ?_) | ((with_reducible refine Below.setCell ?_ ?hside _);(case hside=>first | omega | (simp;done) | (simp;omega))) | ((with_reducible refine Below.alloc ?_ ?hside _);(case hside=>first | omega | (simp;done) | (simp;omega)))))
        · (repeat (first | (with_reducible exact HK0.out) | (with_reducible refine Blk.drew ?_) | (with_reducible refine Blk.alloc ?_ _) | (with_reducible apply Blk.set2) | (with_reducible apply Blk.set3) | ((with_reducible refine Blk.far ?_ ?hside _);(case hside=>first | omega | (simp;done) | (simp;omega))) | (with_reducible refine Blk.set_ ?_ _ _)))
        · exact (Blk.set3 HK1.out).alloc _
      · by_cases h2:s=r
        · subst h2
          have QC:=hide (QL.out p q s u v s)
          cases hcmp:ltE (p,q,s) (u,v,s)
          · rw [hcmp] at QC
            clear hcmp HK0 HK1
            go_wp2_with (fail)
            generalize (wr.alloc (.cells #[.int .i64 u,.int .i64 v,.int .i64 s] 104))=W2 at *
            refine (QC.out _).mono ?_
            rintro e w3 ⟨rfl,b3⟩
            have hb3:=hb2.trans (b3.mono hb2.size)
            have HB2':=hide (HB2.out.below b3 HB2.out.lt)
            have HB3':=hide (HB3.out.below b3 HB3.out.lt)
            clear HB2 HB3 B4 b3 hb2
            go_wp2_with (fail)
            exact ⟨⟨k + 1,(p,q,s),by omega,by go_num,HX,hb3,HB2',HB3'⟩,by simp [intOf];omega⟩
          · rw [hcmp] at QC
            clear hcmp HK0 HK1
            go_wp2_with (fail)
            generalize (wr.alloc (.cells #[.int .i64 u,.int .i64 v,.int .i64 s] 104))=W2 at *
            refine (QC.out _).mono ?_
            rintro e w3 ⟨rfl,b3⟩
            have hb3:=hb2.trans (b3.mono hb2.size)
            have HB2':=hide (HB2.out.below b3 HB2.out.lt)
            have HB3':=hide (HB3.out.below b3 HB3.out.lt)
            have B4':=B4.out.below b3 B4.out.lt
            obtain ⟨r4,e4,s4⟩:=B4'.facts
            have y0:w3.cell? ⟨wr.heap.size,0,none⟩=some (.int .i64 u):=r4 0
            have y1:w3.cell? ⟨wr.heap.size,1,none⟩=some (.int .i64 v):=r4 1
            have y2:w3.cell? ⟨wr.heap.size,2,none⟩=some (.int .i64 s):=r4 2
            obtain ⟨r5,e5,s5⟩:=HB3'.out.facts
            have z0:w3.cell? ⟨w.heap.size + 1,0,none⟩=some (.int .i64 p):=r5 0
            have z1:w3.cell? ⟨w.heap.size + 1,1,none⟩=some (.int .i64 q):=r5 1
            have z2:w3.cell? ⟨w.heap.size + 1,2,none⟩=some (.int .i64 s):=r5 2
            clear HB2 HB3 B4 b3 hb2 r4 r5 B4' x0 x1 x2 e1 s1 s2
            go_wp2_with (fail)
            refine ⟨⟨k + 1,(u,v,s),by omega,by go_num,HM,?_,hide ?_,hide ?_⟩,by simp [intOf];omega⟩
            · (repeat (first | (with_reducible exact hb3) | (with_reducible refine Below.drew ?_) | ((with_reducible refine Below.setCell ?_ ?hside _);(case hside=>first | omega | (simp;done) | (simp;omega))) | ((with_reducible refine Below.alloc ?_ ?hside _);(case hside=>first | omega | (simp;done) | (simp;omega)))))
            · (repeat (first | (with_reducible exact HB2'.out) | (with_reducible refine Blk.drew ?_) | (with_reducible refine Blk.alloc ?_ _) | (with_reducible apply Blk.set2) | (with_reducible apply Blk.set3) | ((with_reducible refine Blk.far ?_ ?hside _);(case hside=>first | omega | (simp;done) | (simp;omega))) | (with_reducible refine Blk.set_ ?_ _ _)))
            · exact Blk.set3 HB3'.out
        · have hd:(s == r)=false:=by rw [beq_eq_false_iff_ne];exact h2
          clear HK0 HK1 B4 h2
          go_wp2_with (fail)
          exact ⟨⟨k + 1,(p,q,r),by omega,by go_num,HX,hb2,HB2,HB3⟩,by simp [intOf];omega⟩
    · obtain rfl:k=m:=by omega
      obtain ⟨r1,e1,s1⟩:=HBr1.out.facts
      have x0:wr.cell? ⟨w.heap.size + 1,0,none⟩=some (.int .i64 p):=r1 0
      have x1:wr.cell? ⟨w.heap.size + 1,1,none⟩=some (.int .i64 q):=r1 1
      have x2:wr.cell? ⟨w.heap.size + 1,2,none⟩=some (.int .i64 r):=r1 2
      obtain ⟨r0,e0,s0⟩:=HBr0.out.facts
      have y0:wr.cell? ⟨w.heap.size,0,none⟩=some (.int .i64 0):=r0 0
      have y1:wr.cell? ⟨w.heap.size,1,none⟩=some (.int .i64 0):=r0 1
      have y2:wr.cell? ⟨w.heap.size,2,none⟩=some (.int .i64 0):=r0 2
      have z0:(wr.setCell ⟨w.heap.size,0,none⟩ (.int .i64 p)).cell? ⟨w.heap.size,0,none⟩=some (.int .i64 p):=(HBr0.out.set_ 0 (.int .i64 p)).cell 0
      have z1:((wr.setCell ⟨w.heap.size,0,none⟩ (.int .i64 p)).setCell ⟨w.heap.size,1,none⟩ (.int .i64 q)).cell? ⟨w.heap.size,1,none⟩=some (.int .i64 q):=(HBr0.out.set_ 0 (.int .i64 p)).set_ 1 (.int .i64 q) |>.cell 1
      have z2:(((wr.setCell ⟨w.heap.size,0,none⟩ (.int .i64 p)).setCell ⟨w.heap.size,1,none⟩ (.int .i64 q)).setCell ⟨w.heap.size,2,none⟩ (.int .i64 r)).cell? ⟨w.heap.size,2,none⟩=some (.int .i64 r):=(HBr0.out.set3 (x:=.int .i64 p) (y:=.int .i64 q) (z:=.int .i64 r)).cell 2
      have Z:=hide (And.intro z0 (And.intro z1 z2))
      clear r0 r1 z0 z1 z2 HBr0 HBr1
      go_wp2_with (fail)
      refine bodyPost_ret (v:=.tuple #[.agg #[.int .i64 p,.int .i64 q,.int .i64 r],.bool true]) (by simp [results,Tryz.results161,go_sem,Z.out.1,Z.out.2.1,Z.out.2.2]) rfl ⟨(p,q,r),rfl,HX.out,?_⟩
      (repeat (first | (with_reducible exact hbr) | (with_reducible refine Below.drew ?_) | ((with_reducible refine Below.setCell ?_ ?hside _);(case hside=>first | omega | (simp;done) | (simp;omega))) | ((with_reducible refine Below.alloc ?_ ?hside _);(case hside=>first | omega | (simp;done) | (simp;omega)))))
end Go.Proofs.YtppblcbgkadldaaGreatDoor
