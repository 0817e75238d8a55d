/-
  A part of the proof that the law TopForest returns true for every input and leaves its arguments as they were: Stars.
-/
import Derived.Test.YtppblcbgkadldaaGreatDoorZ10
import Derived.Test.YtppblcbgkadldaaGreatDoorZ15
import Derived.Deep.LoopGhost
set_option linter.all false
namespace Go.Proofs.YtppblcbgkadldaaGreatDoor
open Go Go.RowKit
set_option maxRecDepth 100000
attribute [local go_sem] Heavy heavyUpon
def tch (x:Nat) (e:E3):Bool:=e.1 == (x:Int) || e.2.1 == (x:Int)
def star (l:List E3) (k x:Nat):List Nat:=(List.range k).filter fun i=>tch x (l.getD i (0,0,0))
theorem star_step (l:List E3) {k:Nat} (h:k < l.length) (x:Nat):star l (k + 1) x=star l k x ++ (if tch x l[k]=true then [k] else []):=by
  unfold star
  rw [List.range_succ,List.filter_append]
  simp only [List.filter_cons,List.filter_nil,List.getD_eq_getElem?_getD,List.getElem?_eq_getElem h,Option.getD_some]
theorem star_len (l:List E3) (k x:Nat):(star l k x).length ≤ k:=by
  have:=List.length_filter_le (fun i=>tch x (l.getD i (0,0,0))) (List.range k)
  rwa [List.length_range] at this
theorem star_mem {l:List E3} {k x i:Nat}:i ∈ star l k x ↔ i < k ∧ tch x (l.getD i (0,0,0))=true:=by
  simp [star,List.mem_filter]
theorem star_nodup (l:List E3) (k x:Nat):(star l k x).Nodup:=List.Pairwise.filter _ List.nodup_range
theorem star_two (l:List E3) {k:Nat} (h:k < l.length) {u v:Nat} (hu:l[k].1=u) (hv:l[k].2.1=v) (huv:u ≠ v) :
    (fun y=>if y=v then (fun y=>if y=u then star l k y ++ [k] else star l k y) y ++ [k] else (fun y=>if y=u then star l k y ++ [k] else star l k y) y)=star l (k + 1):=by
  funext y
  rw [star_step l h]
  unfold tch
  rw [hu,hv]
  by_cases h1:y=u
  · subst h1
    rw [if_neg huv]
    simp
  · by_cases h2:y=v
    · subst h2
      simp [h1]
    · simp only [h1,h2,if_false]
      have e1:((u:Int) == (y:Int))=false:=by rw [beq_eq_false_iff_ne];omega
      have e2:((v:Int) == (y:Int))=false:=by rw [beq_eq_false_iff_ne];omega
      rw [e1,e2];simp
theorem rows_info:(Tryz.prog.info? 113).map (fun i=>(i.zero,i.size,i.bytes))=some (some (.slice none 0 0),1,24):=by kernel_rfl
theorem rows_made (n:Nat):madeCells (Value.slice none 0 0).cells n=(List.replicate n (Value.slice none 0 0)).toArray:=by
  apply Array.ext
  · simp [size_madeCells]
  · intro i h1 h2
    have h3:i < n:=by simpa [size_madeCells] using h1
    simp [madeCells,Value.cells,Nat.mod_one]
theorem SRows.start (w:World) (n:Nat):SRows (w.alloc (.cells (List.replicate n (Value.slice none 0 0)).toArray 113)) (w.heap.size + 1) w.heap.size n (star [] 0) (List.replicate n (Value.slice none 0 0)):=by
  refine ⟨by simp,Blk.new w _ _,fun x hx=>?_,fun x y hx hy hxy g e1=>?_,by omega,by simp⟩
  · have:(List.replicate n (Value.slice none 0 0)).getD x undef=.slice none 0 0:=by simp [hx]
    rw [this]
    exact World.ownsRow_nil _ _ _ _
  · have:(List.replicate n (Value.slice none 0 0)).getD x undef=.slice none 0 0:=by simp [hx]
    rw [this] at e1
    cases e1
def lay1 (n j:Nat):List Int:=(List.range n).map fun v=>if v < j then -1 else 0
theorem lay1_len (n j:Nat):(lay1 n j).length=n:=by simp [lay1]
theorem lay1_set {n j:Nat} (h:j < n):(lay1 n j).set j (-1)=lay1 n (j + 1):=by
  apply List.ext_getElem
  · simp [lay1]
  · intro i h1 h2
    rw [List.getElem_set]
    simp only [lay1,List.getElem_map,List.getElem_range]
    by_cases hi:j=i
    · subst hi;simp
    · rw [if_neg hi]
      by_cases hij:i < j
      · rw [if_pos hij,if_pos (by omega)]
      · rw [if_neg hij,if_neg (by omega)]
theorem lay1_all (n:Nat):lay1 n n=List.replicate n (-1):=by
  apply List.ext_getElem
  · simp [lay1]
  · intro i h1 h2
    have:i < n:=by simpa [lay1] using h1
    simp [lay1,this]
theorem lay1_made (n:Nat):madeCells (Value.int .i64 0).cells n=(ints .i64 (lay1 n 0)).toArray:=by
  apply Array.ext'
  apply List.ext_getElem?
  intro j
  by_cases hj:j < n
  · simp [madeCells,Value.cells,ints,lay1,hj,Nat.mod_one]
  · simp [madeCells,Value.cells,ints,lay1,hj]
theorem ints_set (l:List Int) (i:Nat) (x:Int):(ints .i64 l).toArray.setIfInBounds i (.int .i64 x)=(ints .i64 (l.set i x)).toArray:=by
  simp [ints,List.map_set]
theorem ints_getD {p:List Int} {i:Nat} (h:i < p.length):(ints .i64 p)[i]? = some (.int .i64 (p.getD i 0)):=by
  rw [ints_get h];simp [h]
theorem tch_joins {n:Nat} {l:List E3} (hE:Ends_in n l) {i x:Nat} (hi:i < l.length) (ht:tch x (l.getD i (0,0,0))=true):∃ y:Nat,otherE l[i] (x:Int)=(y:Int) ∧ y < n ∧ Joins l i x y:=by
  have hr:=hE _ (List.getElem_mem hi)
  have e:l.getD i (0,0,0)=l[i]:=by simp [hi]
  rw [e] at ht
  unfold tch at ht
  simp only [Bool.or_eq_true,beq_iff_eq] at ht
  unfold otherE Joins
  rw [e]
  by_cases h1:l[i].1=(x:Int)
  · rw [if_pos h1]
    exact ⟨l[i].2.1.toNat,by omega,by omega,hi,.inl ⟨h1,by omega⟩⟩
  · rw [if_neg h1]
    rcases ht with ht | ht
    · exact absurd ht h1
    · exact ⟨l[i].1.toNat,by omega,by omega,hi,.inr ⟨by omega,ht⟩⟩
theorem joins_star {l:List E3} {i x y:Nat} (h:Joins l i x y):i ∈ star l l.length x:=by
  rw [star_mem]
  refine ⟨h.1,?_⟩
  obtain ⟨_,h⟩:=h
  unfold tch
  rw [Bool.or_eq_true,beq_iff_eq,beq_iff_eq]
  rcases h with h | h
  · exact .inl h.1
  · exact .inr h.2
def RetLeads (n:Nat) (l:List E3) (v:Nat) (w:World) (e:Ending) (w':World):Prop:=∃ R lead rk,e=.returned (.slice R n n) ∧ Sl w' [] 1 R n n (ints .i64 lead) ∧ Leads n l v lead rk ∧ Below w.heap.size w w'
set_option maxHeartbeats 6400000 in
theorem leads_ok (l:List E3) (n v:Nat) (hn:n ≤ 1000) (hE:Ends_in n l) (hne:∀ e ∈ l,e.1 ≠ e.2.1) (ha:acyc n (endsE l)) (hv:v < n) (A:Option Addr) (m c:Nat) (w:World) (hS:ESl w [] A m c l) (hm:m ≤ 1000) :
    Calls Tryz.prog 194 #[.int .i64 n,.slice A m c,.int .i64 v] w (RetLeads n l v w):=by
  have HL:=hide hS.length
  have HE:=hide hE
  have HNE:=hide hne
  have HA:=hide ha
  obtain ⟨i0,hi0,hz0,hz1,hz2⟩:=info_parts rows_info
  have hmk:=fun W=>run_make_rowN (P:=Tryz.prog) 283 113 i0 _ Tryz.underlying283 hi0 hz0 .i64 .i64 n n (Nat.le_refl _) (by rw [hz2];omega) (by omega) W
  rw [hz1,Nat.mul_one,rows_made] at hmk
  clear hi0 hz0 hz1 hz2 hE hne ha
  obtain ⟨i0,hi0,hz0,hz1,hz2⟩:=info_parts int_info
  have hmk2:=fun W=>run_make_rowN (P:=Tryz.prog) 113 3 i0 _ Tryz.underlying113 hi0 hz0 .i64 .i64 n n (Nat.le_refl _) (by rw [hz2];omega) (by omega) W
  rw [hz1,Nat.mul_one,lay1_made] at hmk2
  clear hi0 hz0 hz1 hz2
  obtain ⟨ie,hie,hze,he1,he2⟩:=info_parts int_info
  have hcap:=Nat.le_trans hS.le hS.cap
  unfold maxLen at hcap
  have HSR:=hide (SRows.start w n)
  have hb0:=(Below.refl w.heap.size w).alloc (Nat.le_refl _) (.cells (List.replicate n (Value.slice none 0 0)).toArray 113)
  go_enter Tryz.func194,Tryz.ntmps194
  go_wp2_with (fail)
  go_loopw [21] (fun i wr=>∃ (k:Nat) (vs:List Value),k ≤ m ∧ i=.int .i64 k ∧ Below w.heap.size w wr ∧ Hid (SRows wr (w.heap.size + 1) w.heap.size n (star l k) vs)) (fun i _=>m - (intOf i).toNat)
  case atStart=>exact ⟨0,_,Nat.zero_le _,rfl,hb0,HSR⟩
  case round =>
    clear HSR hb0
    obtain ⟨k,vs,hk,rfl,hbr,HR⟩:=hrel
    have hSr:ESl wr [] A m c l:=hS.below hbr
    by_cases hlt:k < m
    · have hx:k < l.length:=by have:=HL.out;omega
      obtain ⟨ad,rfl,had,_,c0,c1,c2⟩:=hSr.get hx
      have hp:=HE.out l[k] (List.getElem_mem hx)
      have hq:=HNE.out l[k] (List.getElem_mem hx)
      have HST:=hide (fun (u v:Nat) (hu:l[k].1=u) (hv:l[k].2.1=v) (huv:u ≠ v)=>star_two l hx hu hv huv)
      have HLN:=hide (star_len l k)
      generalize l[k]=x at *
      obtain ⟨u,z,t⟩:=x
      simp only [] at c0 c1 c2 hp hq HST
      obtain ⟨u0,u1,z0,z1⟩:=hp
      obtain ⟨u,rfl⟩:=Int.eq_ofNat_of_zero_le u0
      obtain ⟨z,rfl⟩:=Int.eq_ofNat_of_zero_le z0
      have hu:u < n:=by omega
      have hz:z < n:=by omega
      have huz:u ≠ z:=by omega
      have HST2:=hide (HST.out u z rfl rfl huz)
      clear HST
      obtain ⟨R0,hR0⟩:∃ R0,R0=star l k:=⟨_,rfl⟩
      rw [← hR0] at HST2 HLN HR
      clear hR0
      have BE:=Blk.new wr 104 #[.int .i64 u,.int .i64 z,.int .i64 t]
      have HR1:=hide (HR.out.alloc (.cells #[.int .i64 u,.int .i64 z,.int .i64 t] 104))
      have hb1:=hbr.alloc hbr.size (.cells #[.int .i64 u,.int .i64 z,.int .i64 t] 104)
      have szr:=hbr.size
      have HR0:=HR
      clear HR
      go_wp2_with (fail)
      clear c0 c1 c2 hSr
      generalize (wr.alloc (.cells #[.int .i64 u,.int .i64 z,.int .i64 t] 104))=W1 at *
      obtain ⟨A1,d1,e1,k1,s1⟩:=HR1.out.row hu
      have HRV:=hide e1
      have hSlt:w.heap.size < W1.heap.size:=HR1.out.blk.lt
      have hEne:wr.heap.size ≠ w.heap.size:=by have:=HR0.out.blk.lt;omega
      have HLT:=hide (fun g (hg:(vs.getD u undef).ownBlock=some g)=>((HR0.out.own u hu).lt g hg).2)
      have HLTZ:=hide (fun g (hg:(vs.getD z undef).ownBlock=some g)=>((HR0.out.own z hz).lt g hg).2)
      have hvl:u < vs.length:=by rw [HR0.out.len];exact hu
      have hlen1:(R0 u).length ≤ 1000:=by have:=HLN.out u;omega
      have hlen2:(R0 z).length ≤ 1000:=by have:=HLN.out z;omega
      clear e1 s1 HR0
      (refine wp_region_plan (.ops [0,1,2,3,4,5,6,8] (.two 7 (.ops [9,10,11,12] .nil) 9 (.ops [7,10,11,12] .nil))) [7,9,10,12] (fun w'=>Blk w' (wr.heap.size) 104 (#[.int .i64 u,.int .i64 z,.int .i64 t])) (by kernel_rfl) (by kernel_rfl) (BE.drew) ?_;simp only [Plan.ops,List.foldr];(repeat ((refine wpPlan_step (by rfl) (fun K hK=>?_));go_simp;first | ((with_reducible refine hK _ _ ?_);clear hK K) | ((with_reducible apply Exists.intro);refine ⟨fun w' hw'=>?_,hK _ _ ?_⟩;(· (have hq:=(Blk.facts hw').1;have hqf:=(Blk.facts hw').2.1;apply valEq;(· (go_simp;first | done | (with_reducible rfl)));(· ((try go_bits);with_reducible rfl))));clear hK K)));refine wpPlan_two ?_ ?_;(rotate_left;(((refine wpPlan_step (by rfl) (fun K hK=>?_));go_simp;first | (refine hK _ _ ?_;clear hK K) | (refine ⟨?_,hK _ _ ?_⟩;(· (exact BE.drew.alloc _));clear hK K));((refine wpPlan_step (by rfl) (fun K hK=>?_));go_simp;first | (refine hK _ _ ?_;clear hK K) | (refine ⟨?_,hK _ _ ?_⟩;(· (exact BE.drew.alloc _));clear hK K));(have HR2:=hide (SRows.drew ((HR1.out).alloc (.cells #[.int .i64 (k:Int)] 3)));have BE2:Blk (W1.alloc (.cells #[.int .i64 (k:Int)] 3)).drew wr.heap.size 104 #[.int .i64 u,.int .i64 z,.int .i64 t]:=(BE.alloc (.cells #[.int .i64 (k:Int)] 3)).drew;have hb2:=(hb1.alloc hb1.size (.cells #[.int .i64 (k:Int)] 3)).drew;have HOW:=hide (show (W1.alloc (.cells #[.int .i64 (k:Int)] 3)).drew.ownsRow (w.heap.size + 1) 3 1 (.slice A1 (R0 u).length d1) (R0 u).length (ints .i64 (natL (R0 u))) by have:=HR2.out.own u hu;rwa [HRV.out] at this);refine wpPlan_append_sl _ (by rfl) rfl (by rfl) (.tmp 33) (.tmp 35) _ rfl (w.heap.size + 1) 3 ie _ 1 8 Tryz.underlying113 hie hze he1 he2 rfl (by omega) (.slice A1 (R0 u).length d1) (R0 u).length _ rfl HOW.out [] _ 1 1 (ints .i64 [(k:Int)]) rfl (i1_new W1 (k:Int)).drew ints_one (by simp only [maxLen];omega) (by omega) (by first | omega | (simp;omega)) ?_;intro A5 c5 w5 own5 g5 hb5;have hb6:=hb2.trans ((below_grown (B:=w.heap.size) HOW.out g5 (by omega) (by simp;omega)).mono (Nat.le_refl _));rw [← HRV.out] at g5 hb5;have BE5:=BE2.grown g5 (fun e=>Nat.lt_irrefl _ (HLT.out _ e.symm));refine ⟨BE5,?_⟩;have HB5:=HR2.out.pushed hu g5;have HP:=hide (HR2.out.push hu own5 g5 hb5);have hb7:=hb6.setCell (p:=⟨w.heap.size,u,none⟩) (Nat.le_refl _) (.slice A5 ((R0 u).length + 1) c5);have BE6:=hide (BE5.far (p:=⟨w.heap.size,u,none⟩) hEne (.slice A5 ((R0 u).length + 1) c5));obtain ⟨A6,d6,e6,k6,s6⟩:=SRows.row HR2.out hu;have k7:w5.cell? ⟨w.heap.size,u,none⟩=some (.slice A6 (R0 u).length d6):=((HB5.cell u).trans (HR2.out.blk.cell u).symm).trans k6;have f7:=HB5.frozen u;clear own5 g5 hb5 hb6 HB5 e6 k6 s6 HR2 HOW BE2 hb2;(repeat ((refine wpPlan_step (by rfl) (fun K hK=>?_));go_simp;first | ((with_reducible refine hK _ _ ?_);clear hK K) | ((with_reducible apply Exists.intro);refine ⟨fun w' hw'=>?_,hK _ _ ?_⟩;(· (have hq:=(Blk.facts hw').1;have hqf:=(Blk.facts hw').2.1;apply valEq;(· (go_simp;first | done | (with_reducible rfl)));(· ((try go_bits);with_reducible rfl))));clear hK K)));((refine wpPlan_step (by rfl) (fun K hK=>?_));go_simp;first | (refine hK _ _ ?_;clear hK K) | (refine ⟨?_,hK _ _ ?_⟩;(· (exact BE6.out));clear hK K));refine wpPlan_nil (fun _=>?_);clear k7 f7));rotate_left;(((refine wpPlan_step (by rfl) (fun K hK=>?_));go_simp;first | (refine hK _ _ ?_;clear hK K) | (refine ⟨?_,hK _ _ ?_⟩;(· (exact BE.drew));clear hK K));((refine wpPlan_step (by rfl) (fun K hK=>?_));go_simp;first | (refine hK _ _ ?_;clear hK K) | (refine ⟨?_,hK _ _ ?_⟩;(· (exact BE.drew.alloc _));clear hK K));(have HR2:=hide (SRows.drew ((HR1.out).alloc (.cells #[.int .i64 (k:Int)] 3)));have BE2:Blk (W1.alloc (.cells #[.int .i64 (k:Int)] 3)).drew wr.heap.size 104 #[.int .i64 u,.int .i64 z,.int .i64 t]:=(BE.alloc (.cells #[.int .i64 (k:Int)] 3)).drew;have hb2:=(hb1.alloc hb1.size (.cells #[.int .i64 (k:Int)] 3)).drew;have HOW:=hide (show (W1.alloc (.cells #[.int .i64 (k:Int)] 3)).drew.ownsRow (w.heap.size + 1) 3 1 (.slice A1 (R0 u).length d1) (R0 u).length (ints .i64 (natL (R0 u))) by have:=HR2.out.own u hu;rwa [HRV.out] at this);refine wpPlan_append_sl _ (by rfl) rfl (by rfl) (.tmp 33) (.tmp 35) _ rfl (w.heap.size + 1) 3 ie _ 1 8 Tryz.underlying113 hie hze he1 he2 rfl (by omega) (.slice A1 (R0 u).length d1) (R0 u).length _ rfl HOW.out [] _ 1 1 (ints .i64 [(k:Int)]) rfl (i1_new W1 (k:Int)).drew ints_one (by simp only [maxLen];omega) (by omega) (by first | omega | (simp;omega)) ?_;intro A5 c5 w5 own5 g5 hb5;have hb6:=hb2.trans ((below_grown (B:=w.heap.size) HOW.out g5 (by omega) (by simp;omega)).mono (Nat.le_refl _));rw [← HRV.out] at g5 hb5;have BE5:=BE2.grown g5 (fun e=>Nat.lt_irrefl _ (HLT.out _ e.symm));refine ⟨BE5,?_⟩;have HB5:=HR2.out.pushed hu g5;have HP:=hide (HR2.out.push hu own5 g5 hb5);have hb7:=hb6.setCell (p:=⟨w.heap.size,u,none⟩) (Nat.le_refl _) (.slice A5 ((R0 u).length + 1) c5);have BE6:=hide (BE5.far (p:=⟨w.heap.size,u,none⟩) hEne (.slice A5 ((R0 u).length + 1) c5));obtain ⟨A6,d6,e6,k6,s6⟩:=SRows.row HR2.out hu;have k7:w5.cell? ⟨w.heap.size,u,none⟩=some (.slice A6 (R0 u).length d6):=((HB5.cell u).trans (HR2.out.blk.cell u).symm).trans k6;have f7:=HB5.frozen u;clear own5 g5 hb5 hb6 HB5 e6 k6 s6 HR2 HOW BE2 hb2;(repeat ((refine wpPlan_step (by rfl) (fun K hK=>?_));go_simp;first | ((with_reducible refine hK _ _ ?_);clear hK K) | ((with_reducible apply Exists.intro);refine ⟨fun w' hw'=>?_,hK _ _ ?_⟩;(· (have hq:=(Blk.facts hw').1;have hqf:=(Blk.facts hw').2.1;apply valEq;(· (go_simp;first | done | (with_reducible rfl)));(· ((try go_bits);with_reducible rfl))));clear hK K)));((refine wpPlan_step (by rfl) (fun K hK=>?_));go_simp;first | (refine hK _ _ ?_;clear hK K) | (refine ⟨?_,hK _ _ ?_⟩;(· (exact BE6.out));clear hK K));refine wpPlan_nil (fun _=>?_);clear k7 f7))))
      all_goals
        clear k1 hSlt hb1 HR1
        have hSlt:w.heap.size < (w5.setCell ⟨w.heap.size,u,none⟩ (.slice A5 ((R0 u).length + 1) c5)).heap.size:=HP.out.blk.lt
        have HLU:=hide (show ∀ g,((vs.set u (.slice A5 ((R0 u).length + 1) c5)).getD z undef).ownBlock=some g → g < wr.heap.size from fun g hg=>HLTZ.out g (by rwa [getD_set_val _ _ _ _ hvl,if_neg huz] at hg))
        obtain ⟨R1,hR1⟩:∃ R1:Nat → List Nat,R1=fun y=>if y=u then R0 y ++ [k] else R0 y:=⟨_,rfl⟩
        have hlen3:(R1 z).length ≤ 1000:=by rw [hR1];simp only [if_neg (fun e=>huz (Eq.symm e))];exact hlen2
        have HR9:=HP
        rw [← hR1] at HR9
        have HRR:=hide hR1
        clear hR1
        have BF:=BE6.out
        have hb9:=hb7
        clear HP hb7 BE6 HLT HRV
        generalize w5.setCell ⟨w.heap.size,u,none⟩ (.slice A5 ((R0 u).length + 1) c5)=W9 at *
        generalize vs.set u (.slice A5 ((R0 u).length + 1) c5)=vs9 at *
        obtain ⟨A9,d9,e9,k9,s9⟩:=HR9.out.row hz
        have HRW:=hide e9
        clear e9 s9
        go_wp2_with (fail)
        (refine wp_region_plan (.ops [0,1,2,3,4,5,6,8] (.two 7 (.ops [9,10,11,12] .nil) 9 (.ops [7,10,11,12] .nil))) [7,9,10,12] (fun w'=>Blk w' (wr.heap.size) 104 (#[.int .i64 u,.int .i64 z,.int .i64 t])) (by kernel_rfl) (by kernel_rfl) (BF.drew) ?_;simp only [Plan.ops,List.foldr];(repeat ((refine wpPlan_step (by rfl) (fun K hK=>?_));go_simp;first | ((with_reducible refine hK _ _ ?_);clear hK K) | ((with_reducible apply Exists.intro);refine ⟨fun w' hw'=>?_,hK _ _ ?_⟩;(· (have hq:=(Blk.facts hw').1;have hqf:=(Blk.facts hw').2.1;apply valEq;(· (go_simp;first | done | (with_reducible rfl)));(· ((try go_bits);with_reducible rfl))));clear hK K)));refine wpPlan_two ?_ ?_;(rotate_left;(((refine wpPlan_step (by rfl) (fun K hK=>?_));go_simp;first | (refine hK _ _ ?_;clear hK K) | (refine ⟨?_,hK _ _ ?_⟩;(· (exact BF.drew.alloc _));clear hK K));((refine wpPlan_step (by rfl) (fun K hK=>?_));go_simp;first | (refine hK _ _ ?_;clear hK K) | (refine ⟨?_,hK _ _ ?_⟩;(· (exact BF.drew.alloc _));clear hK K));(have HR2:=hide (SRows.drew ((HR9.out).alloc (.cells #[.int .i64 (k:Int)] 3)));have BF2:Blk (W9.alloc (.cells #[.int .i64 (k:Int)] 3)).drew wr.heap.size 104 #[.int .i64 u,.int .i64 z,.int .i64 t]:=(BF.alloc (.cells #[.int .i64 (k:Int)] 3)).drew;have hb2:=(hb9.alloc hb9.size (.cells #[.int .i64 (k:Int)] 3)).drew;have HOW:=hide (show (W9.alloc (.cells #[.int .i64 (k:Int)] 3)).drew.ownsRow (w.heap.size + 1) 3 1 (.slice A9 (R1 z).length d9) (R1 z).length (ints .i64 (natL (R1 z))) by have:=HR2.out.own z hz;rwa [HRW.out] at this);refine wpPlan_append_sl _ (by rfl) rfl (by rfl) (.tmp 45) (.tmp 47) _ rfl (w.heap.size + 1) 3 ie _ 1 8 Tryz.underlying113 hie hze he1 he2 rfl (by omega) (.slice A9 (R1 z).length d9) (R1 z).length _ rfl HOW.out [] _ 1 1 (ints .i64 [(k:Int)]) rfl (i1_new W9 (k:Int)).drew ints_one (by simp only [maxLen];omega) (by omega) (by first | omega | (simp;omega)) ?_;intro A8 c8 w8 own5 g5 hb5;have hb6:=hb2.trans ((below_grown (B:=w.heap.size) HOW.out g5 (by omega) (by simp;omega)).mono (Nat.le_refl _));rw [← HRW.out] at g5 hb5;have BF5:=BF2.grown g5 (fun e=>Nat.lt_irrefl _ (HLU.out _ e.symm));refine ⟨BF5,?_⟩;have HB5:=HR2.out.pushed hz g5;have HP9:=hide (HR2.out.push hz own5 g5 hb5);have hb8:=hb6.setCell (p:=⟨w.heap.size,z,none⟩) (Nat.le_refl _) (.slice A8 ((R1 z).length + 1) c8);have BF6:=hide (BF5.far (p:=⟨w.heap.size,z,none⟩) hEne (.slice A8 ((R1 z).length + 1) c8));obtain ⟨A6,d6,e6,k6,s6⟩:=SRows.row HR2.out hz;have k7:w8.cell? ⟨w.heap.size,z,none⟩=some (.slice A6 (R1 z).length d6):=((HB5.cell z).trans (HR2.out.blk.cell z).symm).trans k6;have f7:=HB5.frozen z;clear own5 g5 hb5 hb6 HB5 e6 k6 s6 HR2 HOW BF2 hb2;(repeat ((refine wpPlan_step (by rfl) (fun K hK=>?_));go_simp;first | ((with_reducible refine hK _ _ ?_);clear hK K) | ((with_reducible apply Exists.intro);refine ⟨fun w' hw'=>?_,hK _ _ ?_⟩;(· (have hq:=(Blk.facts hw').1;have hqf:=(Blk.facts hw').2.1;apply valEq;(· (go_simp;first | done | (with_reducible rfl)));(· ((try go_bits);with_reducible rfl))));clear hK K)));((refine wpPlan_step (by rfl) (fun K hK=>?_));go_simp;first | (refine hK _ _ ?_;clear hK K) | (refine ⟨?_,hK _ _ ?_⟩;(· (exact BF6.out));clear hK K));refine wpPlan_nil (fun _=>?_);clear k7 f7));rotate_left;(((refine wpPlan_step (by rfl) (fun K hK=>?_));go_simp;first | (refine hK _ _ ?_;clear hK K) | (refine ⟨?_,hK _ _ ?_⟩;(· (exact BF.drew));clear hK K));((refine wpPlan_step (by rfl) (fun K hK=>?_));go_simp;first | (refine hK _ _ ?_;clear hK K) | (refine ⟨?_,hK _ _ ?_⟩;(· (exact BF.drew.alloc _));clear hK K));(have HR2:=hide (SRows.drew ((HR9.out).alloc (.cells #[.int .i64 (k:Int)] 3)));have BF2:Blk (W9.alloc (.cells #[.int .i64 (k:Int)] 3)).drew wr.heap.size 104 #[.int .i64 u,.int .i64 z,.int .i64 t]:=(BF.alloc (.cells #[.int .i64 (k:Int)] 3)).drew;have hb2:=(hb9.alloc hb9.size (.cells #[.int .i64 (k:Int)] 3)).drew;have HOW:=hide (show (W9.alloc (.cells #[.int .i64 (k:Int)] 3)).drew.ownsRow (w.heap.size + 1) 3 1 (.slice A9 (R1 z).length d9) (R1 z).length (ints .i64 (natL (R1 z))) by have:=HR2.out.own z hz;rwa [HRW.out] at this);refine wpPlan_append_sl _ (by rfl) rfl (by rfl) (.tmp 45) (.tmp 47) _ rfl (w.heap.size + 1) 3 ie _ 1 8 Tryz.underlying113 hie hze he1 he2 rfl (by omega) (.slice A9 (R1 z).length d9) (R1 z).length _ rfl HOW.out [] _ 1 1 (ints .i64 [(k:Int)]) rfl (i1_new W9 (k:Int)).drew ints_one (by simp only [maxLen];omega) (by omega) (by first | omega | (simp;omega)) ?_;intro A8 c8 w8 own5 g5 hb5;have hb6:=hb2.trans ((below_grown (B:=w.heap.size) HOW.out g5 (by omega) (by simp;omega)).mono (Nat.le_refl _));rw [← HRW.out] at g5 hb5;have BF5:=BF2.grown g5 (fun e=>Nat.lt_irrefl _ (HLU.out _ e.symm));refine ⟨BF5,?_⟩;have HB5:=HR2.out.pushed hz g5;have HP9:=hide (HR2.out.push hz own5 g5 hb5);have hb8:=hb6.setCell (p:=⟨w.heap.size,z,none⟩) (Nat.le_refl _) (.slice A8 ((R1 z).length + 1) c8);have BF6:=hide (BF5.far (p:=⟨w.heap.size,z,none⟩) hEne (.slice A8 ((R1 z).length + 1) c8));obtain ⟨A6,d6,e6,k6,s6⟩:=SRows.row HR2.out hz;have k7:w8.cell? ⟨w.heap.size,z,none⟩=some (.slice A6 (R1 z).length d6):=((HB5.cell z).trans (HR2.out.blk.cell z).symm).trans k6;have f7:=HB5.frozen z;clear own5 g5 hb5 hb6 HB5 e6 k6 s6 HR2 HOW BF2 hb2;(repeat ((refine wpPlan_step (by rfl) (fun K hK=>?_));go_simp;first | ((with_reducible refine hK _ _ ?_);clear hK K) | ((with_reducible apply Exists.intro);refine ⟨fun w' hw'=>?_,hK _ _ ?_⟩;(· (have hq:=(Blk.facts hw').1;have hqf:=(Blk.facts hw').2.1;apply valEq;(· (go_simp;first | done | (with_reducible rfl)));(· ((try go_bits);with_reducible rfl))));clear hK K)));((refine wpPlan_step (by rfl) (fun K hK=>?_));go_simp;first | (refine hK _ _ ?_;clear hK K) | (refine ⟨?_,hK _ _ ?_⟩;(· (exact BF6.out));clear hK K));refine wpPlan_nil (fun _=>?_);clear k7 f7))))
        all_goals
          have HF:=hide (show SRows (w8.setCell ⟨w.heap.size,z,none⟩ (.slice A8 ((R1 z).length + 1) c8)) (w.heap.size + 1) w.heap.size n (star l (k + 1)) (vs9.set z (.slice A8 ((R1 z).length + 1) c8)) by
            have:=HP9.out
            rw [HRR.out,HST2.out] at this
            rwa [HRR.out])
          clear HP9
          go_wp2_with (fail)
          exact ⟨⟨k + 1,_,by omega,by go_num,hb8,HF⟩,by simp [intOf];omega⟩
    · have hkm:k=m:=by omega
      have HKL:=hide (show k=l.length by rw [HL.out];exact hkm)
      subst hkm
      obtain ⟨w1,rfl⟩:∃ w1:World,w1=wr:=⟨_,rfl⟩
      have hz1:=hide hbr.size
      go_wp2_with (fail)
      go_loopw [55,11] (fun i _ wq=>∃ j:Nat,j ≤ n ∧ i=.int .i64 j ∧ Below w.heap.size w wq ∧ Hid (Below w1.heap.size w1 wq) ∧ Hid (Blk wq w1.heap.size 3 (ints .i64 (lay1 n j)).toArray)) (fun i _ _=>n - (intOf i).toNat)
      case atStart=>exact ⟨0,Nat.zero_le _,rfl,hbr.alloc hbr.size _,hide ((Below.refl _ _).alloc (Nat.le_refl _) _),hide (Blk.new w1 _ _)⟩
      case round =>
        clear hmk hmk2
        obtain ⟨j,hj,rfl,hbq,HQ1,HB⟩:=hrel
        by_cases hlt2:j < n
        · obtain ⟨r0,e0,s0⟩:=HB.out.facts
          have hjl:j < (lay1 n j).length:=by rw [lay1_len];exact hlt2
          have hcx:wr.cell? ⟨w1.heap.size,j,none⟩=some (.int .i64 ((lay1 n j).getD j 0)):=by rw [r0];simpa using ints_getD hjl
          generalize (lay1 n j).getD j 0=z at *
          have HB1:=hide (show Blk (wr.setCell ⟨w1.heap.size,j,none⟩ (.int .i64 (-1))) w1.heap.size 3 (ints .i64 (lay1 n (j + 1))).toArray by rw [← lay1_set hlt2,← ints_set];exact HB.out.set_ _ _)
          have HQ2:=hide (HQ1.out.setCell (p:=⟨w1.heap.size,j,none⟩) (Nat.le_refl _) (.int .i64 (-1)))
          have hz2:=hz1.out
          clear r0 HB HQ1
          go_wp2_with (fail)
          exact ⟨⟨j + 1,by omega,by go_num,hbq.setCell hz2 _,HQ2,HB1⟩,by simp [intOf];omega⟩
        · obtain rfl:j=n:=by omega
          rw [lay1_all] at HB
          have BI0:=hide (BI.start (l:=l) hv)
          have szq:=hbq.size
          have HQ2:=hide (HQ1.out.alloc HQ1.out.size (.cells #[.int .i64 (v:Int)] 3))
          have hb2:=hbq.alloc hbq.size (.cells #[.int .i64 (v:Int)] 3)
          have HB2:=hide (HB.out.alloc (.cells #[.int .i64 (v:Int)] 3))
          have HQS:=hide (QSl.new wr (w1.heap.size + 1) (by have:=HB.out.lt;omega) (v:Int))
          clear HQ1 HB hbq
          go_wp2_with (fail)
          go_loopg [12] (j + 1) (fun gk q wr=>∃ (seen es:List Nat) (h:Nat) (lead:List Int) (A:Option Addr) (mq cq:Nat),gk + h=j + 1 ∧ q=.slice A mq cq ∧ Hid (mq + h=seen.length) ∧ Below w.heap.size w wr ∧ Hid (Below w1.heap.size w1 wr) ∧
            Hid (Blk wr w1.heap.size 3 (ints .i64 lead).toArray) ∧ Hid (QSl wr (w1.heap.size + 1) A mq cq (natL (seen.drop h))) ∧ Hid (BI j l v seen es h [] lead))
          case atStart=>exact ⟨[v],[],0,_,_,1,1,rfl,rfl,hide rfl,hb2,HQ2,HB2,HQS,BI0⟩
          case round =>
            clear BI0 HQ2 hb2 HB2 HQS
            obtain ⟨seen,es,h,lead,A,mq,cq,hgk,rfl,HMQ,hbq,HQ1,HB,HQS,HBI⟩:=hrel
            by_cases hmq:0 < mq
            · have hseen:=HBI.out.seen_le
              have hmh:=HMQ.out
              have hhl:h < seen.length:=by omega
              obtain ⟨x,HX⟩:∃ x,Hid (seen[h]? = some x):=⟨seen[h],hide (List.getElem?_eq_getElem hhl)⟩
              have hxn:x < j:=HBI.out.lt x (mem_of_get? HX.out)
              obtain ⟨ad2,hA2,had2,_,hcq⟩:=HQS.out.sl.at_ hmq
              have q0:wr.cell? ad2=some (.int .i64 (x:Int)):=by
                have:=hcq 0 (.int .i64 (x:Int)) (by
                  have h0:(seen.drop h)[0]? = some x:=by rw [List.getElem?_drop];exact HX.out
                  have hl0:0 < (seen.drop h).length:=getElem?_lt h0
                  rw [natL_get hl0]
                  rw [List.getElem?_eq_getElem hl0] at h0
                  injection h0 with h0
                  rw [h0])
                rwa [add_zero_] at this
              obtain ⟨A3,d3,e3,k3',s3⟩:=HR.out.row hxn
              have k3:=(bcells HQ1.out ⟨w.heap.size,x,none⟩ HR.out.blk.lt).trans k3'
              clear k3'
              have HS3:=hide (s3.less (M':=[]) (by simp))
              have hstl:=star_len l k x
              have HSN:=hide (star_nodup l k x)
              have HSM:=hide (fun i=>star_mem (l:=l) (k:=k) (x:=x) (i:=i))
              have HJS:=hide (fun i y (h:Joins l i x y)=>show i ∈ star l k x by rw [HKL.out];exact joins_star h)
              generalize star l k x=st at *
              subst hA2
              clear hcq e3 s3
              go_wp2_with (fail)
              have HBI0:=HBI
              obtain ⟨w2,rfl⟩:∃ w2:World,w2=wr:=⟨_,rfl⟩
              go_loopw [12,77] (fun q i wr=>∃ (kk:Nat) (seen es:List Nat) (lead:List Int) (A:Option Addr) (mq cq:Nat),kk ≤ st.length ∧ i=.int .i64 kk ∧ q=.slice A mq cq ∧ 0 < mq ∧ mq ≤ 1000 ∧ Hid (mq + h=seen.length) ∧ Below w.heap.size w wr ∧ Hid (Below w1.heap.size w1 wr) ∧
                Hid (Blk wr w1.heap.size 3 (ints .i64 lead).toArray) ∧ Hid (QSl wr (w1.heap.size + 1) A mq cq (natL (seen.drop h))) ∧ Hid (BI j l v seen es h (st.take kk) lead) ∧ Hid (seen[h]? = some x)) (fun _ i _=>st.length - (intOf i).toNat)
              case atStart=>exact ⟨0,seen,es,lead,_,mq,cq,Nat.zero_le _,rfl,rfl,hmq,by omega,HMQ,hbq,HQ1,HB,HQS,by simpa using HBI,HX⟩
              case round =>
                clear HMQ hbq HQ1 HB HQS HBI HX HBI0 q0 k3 hmh hhl hmq hseen lead seen es
                obtain ⟨kk,seen,es,lead,A,mq,cq,hkk,rfl,rfl,hmq,hmq2,HMQ,hbq,HQ1,HB,HQS,HBI,HX⟩:=hrel
                by_cases hkl:kk < st.length
                · obtain ⟨ad3,rfl,had3,_,hc3⟩:=(HS3.out.below HQ1.out).at_ (by omega)
                  have c3:=hc3 _ _ (natL_get hkl)
                  have HMEM:=hide (List.getElem_mem hkl)
                  have HTK:=hide (show st.take (kk + 1)=st.take kk ++ [st[kk]] from List.take_succ_eq_append_getElem hkl)
                  have HNM:=hide (show st[kk] ∉ st.take kk from fun hm=>by
                    obtain ⟨q,hq,e⟩:=List.getElem_of_mem hm
                    rw [List.length_take] at hq
                    rw [List.getElem_take] at e
                    have:=nd_inj HSN.out (List.getElem?_eq_getElem (show q < st.length by omega)) ((List.getElem?_eq_getElem hkl).trans (by rw [e]))
                    omega)
                  generalize st[kk]=i at *
                  obtain ⟨hik,htc⟩:=(HSM.out i).1 HMEM.out
                  have hil:i < l.length:=by rw [← HKL.out];exact hik
                  obtain ⟨y,hy1,hyj,hJ⟩:=tch_joins HE.out hil htc
                  have HJ:=hide hJ
                  have hll:=HBI.out.len
                  obtain ⟨r0,e0,s0⟩:=HB.out.facts
                  have cx:wr.cell? ⟨w1.heap.size,x,none⟩=some (.int .i64 (lead.getD x 0)):=by rw [r0];simpa using ints_getD (show x < lead.length by omega)
                  have cy:wr.cell? ⟨w1.heap.size,y,none⟩=some (.int .i64 (lead.getD y 0)):=by rw [r0];simpa using ints_getD (show y < lead.length by omega)
                  obtain ⟨z,hz⟩:∃ z,z=lead.getD x 0:=⟨_,rfl⟩
                  rw [← hz] at cx
                  generalize lead.getD y 0=zy at *
                  clear hc3 r0 hJ htc
                  by_cases hzi:z=(i:Int)
                  · have HSK:=hide (HBI.out.skip HX.out (hz.symm.trans hzi))
                    rw [← HTK.out] at HSK
                    subst hzi
                    clear cy hz hy1 HBI
                    go_wp2_with (fail)
                    exact ⟨⟨kk + 1,seen,es,lead,A,mq,cq,by omega,by go_num,rfl,hmq,hmq2,HMQ,hbq,HQ1,HB,HQS,HSK,HX⟩,by simp [intOf];omega⟩
                  · have hd:((i:Int) == z)=false:=by rw [beq_eq_false_iff_ne];exact fun e=>hzi e.symm
                    have HFR:=hide (HBI.out.fresh HE.out HA.out HX.out HJ.out HNM.out (fun e=>hzi (hz.trans e)))
                    have HPU:=hide (HBI.out.push HX.out HJ.out HFR.out.1 HFR.out.2 hyj)
                    rw [← HTK.out] at HPU
                    have HLS:=hide (show (mq + 1) + h=(seen ++ [y]).length by rw [List.length_append];have:=HMQ.out;simp;omega)
                    have hml:=HPU.out.seen_le
                    have hls:=HLS.out
                    have hmq3:mq + 1 ≤ 1000:=by omega
                    have hhl2:h < seen.length:=by have:=HMQ.out;omega
                    have HDR:=hide (show natL ((seen ++ [y]).drop h)=natL (seen.drop h) ++ [(y:Int)] by
                      rw [List.drop_append_of_le_length (by omega)];simp [natL])
                    have HX2:=hide (show (seen ++ [y])[h]? = some x by rw [List.getElem?_append_left hhl2];exact HX.out)
                    obtain ⟨ad4,hA4,had4,_,f0,f1,f2⟩:=ESl.get (hS.below hbq) hil
                    subst hA4
                    generalize l[i]=ed at *
                    obtain ⟨p,q,r⟩:=ed
                    simp only [] at f0 f1 f2 hy1
                    have QOT:=hide (fun W=>gother_ok p q r (x:Int) W)
                    rw [hy1] at QOT
                    have hGlt:=HB.out.lt
                    clear hy1 hz HBI HFR e0 s0
                    go_wp2_with (fail)
                    refine (QOT.out wr).mono ?_
                    rintro e w3 ⟨rfl,b3⟩
                    have hb3:=hbq.trans (b3.mono hbq.size)
                    have HQ3:=hide (HQ1.out.trans (b3.mono HQ1.out.size))
                    have cy3:=(bcells b3 ⟨w1.heap.size,y,none⟩ hGlt).trans cy
                    have HB3:=HB.out.below b3 HB.out.lt
                    have HQS3:=HQS.out.keep (w':=w3) (fun g _ hg=>b3.block g hg)
                    have f3:=HB3.frozen y
                    have HB4:=hide (show Blk ((w3.setCell ⟨w1.heap.size,y,none⟩ (.int .i64 (i:Int))).alloc (.cells #[.int .i64 (y:Int)] 3)) w1.heap.size 3 (ints .i64 (lead.set y (i:Int))).toArray by rw [← ints_set];exact (HB3.set_ _ _).alloc _)
                    have HQS4:=hide (HQS3.keep (w':=(w3.setCell ⟨w1.heap.size,y,none⟩ (.int .i64 (i:Int))).alloc (.cells #[.int .i64 (y:Int)] 3)) (fun g hg1 hg2=>(Below.heap_alloc _ _ g (by simpa using hg2)).trans (Below.heap_setCell w3 ⟨w1.heap.size,y,none⟩ _ g (by simp;omega))))
                    have HQ4:=hide ((HQ3.out.setCell (p:=⟨w1.heap.size,y,none⟩) (Nat.le_refl _) (.int .i64 (i:Int))).alloc (by have:=HQ3.out.size;simpa using this) (.cells #[.int .i64 (y:Int)] 3))
                    have hb4:=(hb3.setCell (p:=⟨w1.heap.size,y,none⟩) hz1.out (.int .i64 (i:Int))).alloc (by have:=hb3.size;simpa using this) (.cells #[.int .i64 (y:Int)] 3)
                    have HN4:=hide (show Blk ((w3.setCell ⟨w1.heap.size,y,none⟩ (.int .i64 (i:Int))).alloc (.cells #[.int .i64 (y:Int)] 3)) w3.heap.size 3 #[.int .i64 (y:Int)] by
                      have h9:=Blk.new (w3.setCell ⟨w1.heap.size,y,none⟩ (.int .i64 (i:Int))) 3 #[.int .i64 (y:Int)]
                      rwa [show (w3.setCell ⟨w1.heap.size,y,none⟩ (.int .i64 (i:Int))).heap.size=w3.heap.size by simp] at h9)
                    have hG4:=HB4.out.lt
                    clear b3 cy HB3 HQS3 hb3 HQ3 HB HQS hbq HQ1 cx c3 f0 f1 f2 QOT
                    (go_wp2_with (at_builtin;refine stopAt ?_);refine stopGo ?_)
                    generalize hW4:(w3.setCell ⟨w1.heap.size,y,none⟩ (.int .i64 (i:Int))).alloc (.cells #[.int .i64 (y:Int)] 3)=W4 at *
                    clear hW4
                    refine wpList_append_q rfl (.tmp 97) (.tmp 99) rfl (w1.heap.size + 1) A mq cq _ rfl HQS4.out _ (y:Int) rfl HN4.out (by omega) (by omega) ?_
                    intro A6 c6 w6 QS6 B6 z6
                    have HB6:=hide (HB4.out.below B6 (Nat.lt_succ_self _))
                    have HQ6:=hide (HQ4.out.trans (B6.mono (Nat.le_succ _)))
                    have hb6:=hb4.trans (B6.mono (Nat.le_trans hz1.out (Nat.le_succ _)))
                    rw [← HDR.out] at QS6
                    have HQS6:=hide QS6
                    clear QS6 B6 z6 HB4 HQ4 hb4 HQS4 HN4 hG4 cy3 f3
                    go_wp2_with (fail)
                    exact ⟨⟨kk + 1,seen ++ [y],es ++ [i],_,A6,mq + 1,c6,by omega,by go_num,rfl,by omega,hmq3,HLS,hb6,HQ6,HB6,HQS6,HPU,HX2⟩,by simp [intOf];omega⟩
                · have HTA:=hide (show st.take kk=st from List.take_of_length_le (by omega))
                  rw [HTA.out] at HBI
                  have HPO:=hide (HBI.out.pop HX.out (fun i y hJ=>HJS.out i y hJ))
                  have hsl:=fun W=>isl_lo A mq cq 1 (by omega) (by omega) W
                  simp only [Int.toNat_one] at hsl
                  have HTL:=hide (HQS.out.tail hmq)
                  have HDD:=hide (show (natL (seen.drop h)).drop 1=natL (seen.drop (h + 1)) by simp [natL])
                  rw [HDD.out] at HTL
                  have HMQ2:=hide (show (mq - 1) + (h + 1)=seen.length by have:=HMQ.out;omega)
                  obtain ⟨m2,hm2⟩:∃ m2,m2=mq - 1:=⟨_,rfl⟩
                  rw [← hm2] at HTL HMQ2 hsl
                  obtain ⟨c2,hc2⟩:∃ c2,c2=cq - 1:=⟨_,rfl⟩
                  rw [← hc2] at HTL hsl
                  generalize cutA A cq 1 1=A2 at *
                  have hgk1:0 < gk:=by
                    have h1:=HBI.out.seen_le
                    have h2:=HMQ.out
                    omega
                  clear HBI HTA hm2 hc2 HQS HMQ
                  go_wp2_with (fail)
                  go_roundg (gk - 1)
                  case measure=>omega
                  case rel=>exact ⟨seen,es,h + 1,lead,A2,m2,c2,by omega,rfl,HMQ2,hbq,HQ1,HB,HTL,HPO⟩
            · have hh:=HMQ.out
              have hle2:=HBI.out.hle
              obtain rfl:h=seen.length:=by omega
              obtain ⟨rk,hLd⟩:=HBI.out.leads HE.out
              have HLd:=hide hLd
              have hll:=HBI.out.len
              have hmq0:mq=0:=by omega
              subst hmq0
              clear hLd HQS HBI hle2 hh HMQ
              go_wp2_with (fail)
              go_ret
              exact ⟨_,lead,rk,rfl,Sl.of_blk HB.out (by simp [hll]) (fun x hx=>by simp) (by simp) (by unfold maxLen;omega),HLd.out,hbq⟩
end Go.Proofs.YtppblcbgkadldaaGreatDoor
