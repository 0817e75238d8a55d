/-
  A part of the proof that the law TopForest returns true for every input and leaves its arguments as they were: Dict, Put.
-/
import Derived.Test.YtppblcbgkadldaaGreatDoorZ00
import Derived.Test.YtppblcbgkadldaaGreatDoorZ11
set_option linter.all false
namespace Go.Proofs.YtppblcbgkadldaaGreatDoor
open Go Go.RowKit
set_option maxRecDepth 100000
attribute [local go_sem] Heavy heavyUpon
def lowK:List (Int × Int) → Int → Nat
  | [],_=>0
  | x :: l,key=>if x.1 < key then lowK l key + 1 else 0
def KSorted (l:List (Int × Int)):Prop:=l.Pairwise fun x y=>x.1 < y.1
theorem lowK_le:∀ (l:List (Int × Int)) (key:Int),lowK l key ≤ l.length
  | [],_=>Nat.le_refl _
  | x :: l,key=>by
    have:=lowK_le l key
    simp only [lowK,List.length_cons]
    split <;> omega
theorem lowK_iff:∀ {l:List (Int × Int)},KSorted l → ∀ (key:Int) {i:Nat} (hi:i < l.length),key ≤ l[i].1 ↔ lowK l key ≤ i
  | [],_,_,_,hi=>by simp at hi
  | x :: l,hs,key,i,hi=>by
    have hs':=List.pairwise_cons.1 hs
    unfold lowK
    by_cases hx:x.1 < key
    · rw [if_pos hx]
      cases i with
      | zero=>simp;omega
      | succ i =>
        simp only [List.getElem_cons_succ]
        have hi':i < l.length:=by simpa using hi
        rw [lowK_iff (l:=l) hs'.2 key hi']
        omega
    · rw [if_neg hx]
      simp only [Nat.zero_le,iff_true]
      cases i with
      | zero=>simp;omega
      | succ i =>
        have hi':i < l.length:=by simpa using hi
        have:=hs'.1 l[i] (List.getElem_mem _)
        simp only [List.getElem_cons_succ]
        omega
theorem lowK_find:∀ {l:List (Int × Int)},KSorted l → ∀ key:Int,l.find? (fun x=>x.1 == key)=if (l.getD (lowK l key) (0,0)).1=key ∧ lowK l key < l.length then some (l.getD (lowK l key) (0,0)) else none
  | [],_,_=>by simp [lowK]
  | x :: l,hs,key=>by
    have hs':=List.pairwise_cons.1 hs
    have ih:=lowK_find (l:=l) hs'.2 key
    rw [List.find?_cons]
    unfold lowK
    by_cases hx:x.1 < key
    · have h1:(x.1 == key)=false:=by rw [beq_eq_false_iff_ne];omega
      rw [if_pos hx,h1]
      simp only [List.length_cons,List.getD_cons_succ,Nat.add_lt_add_iff_right]
      exact ih
    · rw [if_neg hx]
      by_cases h2:x.1=key
      · simp [h2]
      · have h1:(x.1 == key)=false:=by rw [beq_eq_false_iff_ne];exact h2
        rw [h1]
        simp only [List.getD_cons_zero,h2,false_and,if_false]
        rw [List.find?_eq_none]
        intro y hy
        have:=hs'.1 y hy
        simp;omega
def getV (l:List (Int × Int)) (key:Int):Value:=match l.find? (fun x=>x.1 == key) with
  | some x=>.tuple #[.int .i64 x.2,.bool true]
  | none=>.tuple #[.int .i64 0,.bool false]
theorem from1_ok (t:Tr) (p:Option Addr) (key:Int) (i g h:Nat) (w:World) (hR:Rep w p t) (hs:t.sz ≤ 4096) (hi:i < t.toL.length) (hk:KSorted t.toL)
    (hg:Blk w g 109 #[.pointer p]) (hh:Blk w h 43 #[.int .u64 key]) :
    Calls Tryz.prog 110 #[.int .i64 i,.pointer (some ⟨g,0,none⟩),.pointer (some ⟨h,0,none⟩)] w (Ret (.bool (decide (lowK t.toL key ≤ i))) w):=by
  have QA:=hide (fun W (h:Rep W p t)=>seqAt_ok t p i W h hs (by rw [t.sz_len] at hs;omega))
  have e1:atV t.toL i=.tuple #[.agg #[.int .u64 t.toL[i].1,.int .i64 t.toL[i].2],.bool true]:=by
    unfold atV
    rw [List.getD_eq_getElem?_getD,List.getElem?_eq_getElem hi]
    simp [hi]
  have hq:=lowK_iff hk key hi
  rw [e1] at QA
  generalize t.toL[i].1=ki at *
  generalize t.toL[i].2=ni at *
  have HQ:=hide (show decide (key ≤ ki)=decide (lowK t.toL key ≤ i) by rw [decide_eq_decide];exact hq)
  clear hq e1 hk
  obtain ⟨r0,e0,s0⟩:=hg.facts
  have x0:w.cell? ⟨g,0,none⟩=some (.pointer p):=r0 0
  have HH:=hide hh
  have HR:=hide hR
  clear r0 hg hh hR hi
  go_enter Tryz.func110,Tryz.ntmps110
  go_wp2_with (fail)
  refine (QA.out _ HR.out).mono ?_
  rintro e w1 ⟨rfl,b1⟩
  obtain ⟨r1,e1,s1⟩:=(HH.out.below b1 HH.out.lt).facts
  have y0:w1.cell? ⟨h,0,none⟩=some (.int .u64 key):=r1 0
  clear r1 x0 e0
  go_wp2_with (fail)
  go_ret
  exact ⟨congrArg (fun x=>Ending.returned (.bool x)) HQ.out,b1.alloc b1.size _⟩
def fromF (g h:Nat):Value:=.func (.func 110) #[] #[.pointer (some ⟨g,0,none⟩),.pointer (some ⟨h,0,none⟩)]
set_option maxHeartbeats 1600000 in
theorem search_ok (n m g h:Nat) (w:World) (hm:m ≤ n) (hn:n ≤ 4096)
    (hF:∀ (i:Nat) W,Below w.heap.size w W → i < n → Calls Tryz.prog 110 #[.int .i64 i,.pointer (some ⟨g,0,none⟩),.pointer (some ⟨h,0,none⟩)] W (Ret (.bool (decide (m ≤ i))) W)) :
    Calls Tryz.prog 109 #[.int .i64 n,fromF g h] w (Ret (.int .i64 m) w):=by
  have HF:=hide hF
  clear hF
  unfold fromF
  go_enter Tryz.func109,Tryz.ntmps109
  go_wp2_with (fail)
  go_loopw [5,6,7] (fun i j _ wr=>∃ x y:Nat,i=.int .i64 x ∧ j=.int .i64 y ∧ x ≤ m ∧ m ≤ y ∧ y ≤ n ∧ Below w.heap.size w wr) (fun i j _ _=>(intOf j).toNat - (intOf i).toNat)
  case atStart=>exact ⟨0,n,rfl,rfl,by omega,hm,Nat.le_refl _,Below.refl _ _⟩
  case round =>
    obtain ⟨x,y,rfl,rfl,hx,hy,hyn,hbr⟩:=hrel
    by_cases hxy:x < y
    · obtain ⟨z,hz⟩:∃ z,z=(x + y) / 2:=⟨_,rfl⟩
      have HZ:=hide (show ((x:Int) + (y:Int)) / 2=(z:Int) by rw [hz];omega)
      have z1:x ≤ z:=by omega
      have z2:z < y:=by omega
      clear hz
      have hzn:z < n:=by omega
      by_cases hmz:m ≤ z
      · have HD:=hide (show decide (m ≤ z)=true by simpa using hmz)
        have QF:=hide (fun W h=>HF.out z W h hzn)
        rw [HD.out] at QF
        go_wp2_with (fail)
        rw [HZ.out]
        refine (QF.out _ hbr).mono ?_
        rintro e w1 ⟨rfl,b1⟩
        have hb1:=hbr.trans (b1.mono hbr.size)
        clear b1
        go_wp2_with (fail)
        exact ⟨⟨x,z,rfl,rfl,hx,hmz,by omega,hb1⟩,by simp [intOf];omega⟩
      · have HD:=hide (show decide (m ≤ z)=false by simpa using hmz)
        have QF:=hide (fun W h=>HF.out z W h hzn)
        rw [HD.out] at QF
        go_wp2_with (fail)
        rw [HZ.out]
        refine (QF.out _ hbr).mono ?_
        rintro e w1 ⟨rfl,b1⟩
        have hb1:=hbr.trans (b1.mono hbr.size)
        clear b1
        go_wp2_with (fail)
        exact ⟨⟨z + 1,y,by go_num,rfl,by omega,hy,hyn,hb1⟩,by simp [intOf];omega⟩
    · obtain rfl:x=m:=by omega
      obtain rfl:y=x:=by omega
      go_wp2_with (fail)
      go_ret
      exact ⟨rfl,hbr⟩
set_option maxHeartbeats 1600000 in
theorem from_ok (t:Tr) (p:Option Addr) (key:Int) (w:World) (hR:Rep w p t) (hs:t.sz ≤ 4096) (hk:KSorted t.toL) :
    Calls Tryz.prog 73 #[.agg #[.pointer p],.int .u64 key] w (Ret (.int .i64 (lowK t.toL key)) w):=by
  have QL:=hide (fun W (h:Rep W p t)=>seqLen_ok t p W h)
  have hl:=t.sz_len
  have QF:=hide (fun g h W (hR:Rep W p t) (hg:Blk W g 109 #[.pointer p]) (hh:Blk W h 43 #[.int .u64 key])=>search_ok t.sz (lowK t.toL key) g h W (by rw [hl];exact lowK_le _ _) hs
    (fun i W' hb hi=>from1_ok t p key i g h W' (hR.below hb) hs (by rw [← hl];exact hi) hk (hg.below hb hg.lt) (hh.below hb hh.lt)))
  have HR:=hide ((hR.alloc (.cells #[.pointer p] 109)).alloc (.cells #[.int .u64 key] 43))
  have HB:=hide (And.intro ((Blk.new w 109 #[.pointer p]).alloc (.cells #[.int .u64 key] 43)) (Blk.new (w.alloc (.cells #[.pointer p] 109)) 43 #[.int .u64 key]))
  have hb0:=((Below.refl w.heap.size w).alloc (Nat.le_refl _) (.cells #[.pointer p] 109)).alloc (by simp) (.cells #[.int .u64 key] 43)
  generalize t.sz=s at *
  clear hk hR hl
  go_enter Tryz.func73,Tryz.ntmps73
  go_wp2_with (fail)
  refine (QL.out _ HR.out).mono ?_
  rintro e w1 ⟨rfl,b1⟩
  have h1:=HB.out.1.below b1 HB.out.1.lt
  have h2:=HB.out.2.below b1 HB.out.2.lt
  have HR1:=hide (HR.out.below b1)
  have hb1:=hb0.trans (b1.mono hb0.size)
  rw [heap_alloc_size] at h2
  have HB1:=hide (And.intro h1 h2)
  clear h1 h2 b1
  unfold fromF at QF
  go_wp2_with (fail)
  refine (QF.out _ _ _ HR1.out HB1.out.1 HB1.out.2).mono ?_
  rintro e w2 ⟨rfl,b2⟩
  go_wp2_with (fail)
  go_ret
  exact ⟨rfl,hb1.trans (b2.mono hb1.size)⟩
set_option maxHeartbeats 1600000 in
theorem get_ok (t:Tr) (p:Option Addr) (key:Int) (w:World) (hR:Rep w p t) (hs:t.sz ≤ 4096) (hk:KSorted t.toL) :
    Calls Tryz.prog 41 #[.agg #[.pointer p],.int .u64 key] w (Ret (getV t.toL key) w):=by
  have QF:=hide (fun W (h:Rep W p t)=>from_ok t p key W h hs hk)
  have QA:=hide (fun W (h:Rep W p t)=>seqAt_ok t p (lowK t.toL key) W h hs (by have:=lowK_le t.toL key;rw [t.sz_len] at hs;omega))
  have hf:=lowK_find hk key
  have HG:=hide (show getV t.toL key=if (t.toL.getD (lowK t.toL key) (0,0)).1=key ∧ lowK t.toL key < t.toL.length then .tuple #[.int .i64 (t.toL.getD (lowK t.toL key) (0,0)).2,.bool true] else .tuple #[.int .i64 0,.bool false] by
    unfold getV
    rw [hf]
    by_cases hc:(t.toL.getD (lowK t.toL key) (0,0)).1=key ∧ lowK t.toL key < t.toL.length
    · rw [if_pos hc,if_pos hc]
    · rw [if_neg hc,if_neg hc])
  have hA:atV t.toL (lowK t.toL key)=.tuple #[.agg #[.int .u64 (t.toL.getD (lowK t.toL key) (0,0)).1,.int .i64 (t.toL.getD (lowK t.toL key) (0,0)).2],.bool (decide (lowK t.toL key < t.toL.length))]:=rfl
  rw [hA] at QA
  clear hf hA
  generalize (t.toL.getD (lowK t.toL key) (0,0)).1=ki at *
  generalize (t.toL.getD (lowK t.toL key) (0,0)).2=ni at *
  have hll:=lowK_le t.toL key
  have hln:=t.sz_len
  generalize lowK t.toL key=m at *
  generalize t.toL.length=n at *
  have HR:=hide (hR.alloc (.cells #[.pointer p] 109))
  have HB:=Blk.new w 109 #[.pointer p]
  have hb0:=(Below.refl w.heap.size w).alloc (Nat.le_refl _) (.cells #[.pointer p] 109)
  clear hR hk hln hs hll
  by_cases h1:m < n
  · have HD:=hide (show decide (m < n)=true by simpa using h1)
    rw [HD.out] at QA
    by_cases h2:ki=key
    · have HV:=hide (show getV t.toL key=.tuple #[.int .i64 ni,.bool true] by rw [HG.out,if_pos ⟨h2,h1⟩])
      subst h2
      clear HG h1 HD
      (go_enter Tryz.func41,Tryz.ntmps41;go_wp2_with (fail);generalize (w.alloc (.cells #[.pointer p] 109))=W0 at *;obtain ⟨c0,e0,s0⟩:=HB.f1;refine wp_region_plan (.ops [0,1,2,3] (.two 4 (.two 5 (.ops [6,7,8,9,10,11] .nil) 9 (.ops [5,6,7,8,10,11] .nil)) 9 (.ops [4,5,6,7,8,10,11] .nil))) [4,5,9,10] (fun w'=>Below (W0).heap.size (W0) w') (by kernel_rfl) (by kernel_rfl) (Below.refl _ _).drew ?_;simp only [Plan.ops,List.foldr];(repeat ((refine wpPlan_step (by rfl) (fun K hK=>?_));go_simp;first | ((with_reducible refine hK _ _ ?_);clear hK K) | ((with_reducible apply Exists.intro);refine ⟨fun w' hw'=>?_,hK _ _ ?_⟩;(· (have hq:=bcells hw';apply valEq;(· (go_simp;first | done | (with_reducible rfl)));(· ((try go_bits);with_reducible rfl))));clear hK K)));refine wpPlan_two ?_ ?_;(· (((refine wpPlan_step (by rfl) (fun K hK=>?_));go_simp;refine (QF.out _ HR.out.drew).mono ?_;rintro e w1 ⟨rfl,hbx⟩;have g1:=((Below.refl (W0).heap.size W0).drew).trans (hbx.mono ((Below.refl (W0).heap.size W0).drew).size);refine ⟨_,rfl,g1,hK _ _ ?_⟩;clear hK K hbx);refine wpPlan_two ?_ ?_;(· (((refine wpPlan_step (by rfl) (fun K hK=>?_));go_simp;refine (QA.out _ (HR.out.below g1)).mono ?_;rintro e w2 ⟨rfl,hbx⟩;have g2:=(g1).trans (hbx.mono (g1).size);refine ⟨_,rfl,g2,hK _ _ ?_⟩;clear hK K hbx);(repeat ((refine wpPlan_step (by rfl) (fun K hK=>?_));go_simp;first | ((with_reducible refine hK _ _ ?_);clear hK K) | ((with_reducible apply Exists.intro);refine ⟨fun w' hw'=>?_,hK _ _ ?_⟩;(· (have hq:=bcells hw';apply valEq;(· (go_simp;first | done | (with_reducible rfl)));(· ((try go_bits);with_reducible rfl))));clear hK K)));((refine wpPlan_step (by rfl) (fun K hK=>?_));go_simp;first | (refine hK _ _ ?_;clear hK K) | (refine ⟨?_,hK _ _ ?_⟩;(· (exact g2.alloc g2.size _));clear hK K));((refine wpPlan_step (by rfl) (fun K hK=>?_));go_simp;first | (refine hK _ _ ?_;clear hK K) | (refine ⟨?_,hK _ _ ?_⟩;(· (exact g2.alloc g2.size _));clear hK K));(repeat ((refine wpPlan_step (by rfl) (fun K hK=>?_));go_simp;first | ((with_reducible refine hK _ _ ?_);clear hK K) | ((with_reducible apply Exists.intro);refine ⟨fun w' hw'=>?_,hK _ _ ?_⟩;(· (have hq:=bcells hw';apply valEq;(· (go_simp;first | done | (with_reducible rfl)));(· ((try go_bits);with_reducible rfl))));clear hK K)));refine wpPlan_nil (fun g4=>?_);(go_wp2_with (fail);go_ret2;exact ⟨congrArg Ending.returned HV.out.symm,hb0.trans (g4.mono hb0.size)⟩)));(· (have gA:=g1.alloc g1.size (.cells #[.int .u64 0,.int .i64 0] 145);have BA:=Blk.new w1 145 #[.int .u64 0,.int .i64 0];((refine wpPlan_step (by rfl) (fun K hK=>?_));go_simp;first | (refine hK _ _ ?_;clear hK K) | (refine ⟨?_,hK _ _ ?_⟩;(· (exact gA));clear hK K));((refine wpPlan_step (by rfl) (fun K hK=>?_));go_simp;refine (QA.out _ ((HR.out.below g1).alloc _)).mono ?_;rintro e w2 ⟨rfl,hbx⟩;have g2:=(gA).trans (hbx.mono (gA).size);have BP:=BA.below hbx BA.lt;refine ⟨_,rfl,g2,hK _ _ ?_⟩;clear hK K hbx);clear BA;((repeat ((refine wpPlan_step (by rfl) (fun K hK=>?_));go_simp;first | ((with_reducible refine hK _ _ ?_);clear hK K) | ((with_reducible apply Exists.intro);refine ⟨fun w' hw'=>?_,hK _ _ ?_⟩;(· (have hq:=bcells hw';apply valEq;(· (go_simp;first | done | (with_reducible rfl)));(· ((try go_bits);with_reducible rfl))));clear hK K)));have Z:=hide (Blk.set2 (x:=.int .u64 ki) (y:=.int .i64 ni) BP);obtain ⟨r1,e1,s1⟩:=BP.facts;have d0:=r1 0;have d1:=r1 1;clear r1;((refine wpPlan_step (by rfl) (fun K hK=>?_));go_simp;first | (refine hK _ _ ?_;clear hK K) | (refine ⟨?_,hK _ _ ?_⟩;(· (exact (g2.setCell g1.size _).setCell g1.size _));clear hK K));clear d0 d1 e1;(repeat ((refine wpPlan_step (by rfl) (fun K hK=>?_));go_simp;first | ((with_reducible refine hK _ _ ?_);clear hK K) | ((with_reducible apply Exists.intro);refine ⟨fun w' hw'=>?_,hK _ _ ?_⟩;(· (have hq:=bcells hw';apply valEq;(· (go_simp;first | done | (with_reducible rfl)));(· ((try go_bits);with_reducible rfl))));clear hK K)));refine wpPlan_nil (fun g4=>?_);obtain ⟨r2,e2,s2⟩:=Z.out.facts;have d0:=r2 0;have d1:=r2 1;clear r2 s1;(go_wp2_with (fail);go_ret2;exact ⟨congrArg Ending.returned HV.out.symm,hb0.trans (g4.mono hb0.size)⟩))))));(· (have gA:=(Below.refl (W0).heap.size W0).drew.alloc (Nat.le_refl _) (.cells #[.int .u64 0,.int .i64 0] 145);have BA:Blk (W0.drew.alloc (.cells #[.int .u64 0,.int .i64 0] 145)) W0.heap.size 145 #[.int .u64 0,.int .i64 0]:=Blk.new W0.drew _ _;((refine wpPlan_step (by rfl) (fun K hK=>?_));go_simp;first | (refine hK _ _ ?_;clear hK K) | (refine ⟨?_,hK _ _ ?_⟩;(· (exact gA));clear hK K));((refine wpPlan_step (by rfl) (fun K hK=>?_));go_simp;refine (QF.out _ (HR.out.drew.alloc _)).mono ?_;rintro e w1 ⟨rfl,hbx⟩;have g1:=(gA).trans (hbx.mono (gA).size);have BQ:=BA.below hbx BA.lt;refine ⟨_,rfl,g1,hK _ _ ?_⟩;clear hK K hbx);clear BA;((refine wpPlan_step (by rfl) (fun K hK=>?_));go_simp;refine (QA.out _ (HR.out.below g1)).mono ?_;rintro e w2 ⟨rfl,hbx⟩;have g2:=(g1).trans (hbx.mono (g1).size);have BP:=BQ.below hbx BQ.lt;refine ⟨_,rfl,g2,hK _ _ ?_⟩;clear hK K hbx);clear BQ;((repeat ((refine wpPlan_step (by rfl) (fun K hK=>?_));go_simp;first | ((with_reducible refine hK _ _ ?_);clear hK K) | ((with_reducible apply Exists.intro);refine ⟨fun w' hw'=>?_,hK _ _ ?_⟩;(· (have hq:=bcells hw';apply valEq;(· (go_simp;first | done | (with_reducible rfl)));(· ((try go_bits);with_reducible rfl))));clear hK K)));have Z:=hide (Blk.set2 (x:=.int .u64 ki) (y:=.int .i64 ni) BP);obtain ⟨r1,e1,s1⟩:=BP.facts;have d0:=r1 0;have d1:=r1 1;clear r1;((refine wpPlan_step (by rfl) (fun K hK=>?_));go_simp;first | (refine hK _ _ ?_;clear hK K) | (refine ⟨?_,hK _ _ ?_⟩;(· (exact (g2.setCell (Nat.le_refl _) _).setCell (Nat.le_refl _) _));clear hK K));clear d0 d1 e1;(repeat ((refine wpPlan_step (by rfl) (fun K hK=>?_));go_simp;first | ((with_reducible refine hK _ _ ?_);clear hK K) | ((with_reducible apply Exists.intro);refine ⟨fun w' hw'=>?_,hK _ _ ?_⟩;(· (have hq:=bcells hw';apply valEq;(· (go_simp;first | done | (with_reducible rfl)));(· ((try go_bits);with_reducible rfl))));clear hK K)));refine wpPlan_nil (fun g4=>?_);obtain ⟨r2,e2,s2⟩:=Z.out.facts;have d0:=r2 0;have d1:=r2 1;clear r2 s1;(go_wp2_with (fail);go_ret2;exact ⟨congrArg Ending.returned HV.out.symm,hb0.trans (g4.mono hb0.size)⟩)))))
    · have HV:=hide (show getV t.toL key=.tuple #[.int .i64 0,.bool false] by rw [HG.out,if_neg (fun h=>h2 h.1)])
      have hd:(ki == key)=false:=by simpa using h2
      clear HG h1 HD h2
      (go_enter Tryz.func41,Tryz.ntmps41;go_wp2_with (fail);generalize (w.alloc (.cells #[.pointer p] 109))=W0 at *;obtain ⟨c0,e0,s0⟩:=HB.f1;refine wp_region_plan (.ops [0,1,2,3] (.two 4 (.two 5 (.ops [6,7,8,9,10,11] .nil) 9 (.ops [5,6,7,8,10,11] .nil)) 9 (.ops [4,5,6,7,8,10,11] .nil))) [4,5,9,10] (fun w'=>Below (W0).heap.size (W0) w') (by kernel_rfl) (by kernel_rfl) (Below.refl _ _).drew ?_;simp only [Plan.ops,List.foldr];(repeat ((refine wpPlan_step (by rfl) (fun K hK=>?_));go_simp;first | ((with_reducible refine hK _ _ ?_);clear hK K) | ((with_reducible apply Exists.intro);refine ⟨fun w' hw'=>?_,hK _ _ ?_⟩;(· (have hq:=bcells hw';apply valEq;(· (go_simp;first | done | (with_reducible rfl)));(· ((try go_bits);with_reducible rfl))));clear hK K)));refine wpPlan_two ?_ ?_;(· (((refine wpPlan_step (by rfl) (fun K hK=>?_));go_simp;refine (QF.out _ HR.out.drew).mono ?_;rintro e w1 ⟨rfl,hbx⟩;have g1:=((Below.refl (W0).heap.size W0).drew).trans (hbx.mono ((Below.refl (W0).heap.size W0).drew).size);refine ⟨_,rfl,g1,hK _ _ ?_⟩;clear hK K hbx);refine wpPlan_two ?_ ?_;(· (((refine wpPlan_step (by rfl) (fun K hK=>?_));go_simp;refine (QA.out _ (HR.out.below g1)).mono ?_;rintro e w2 ⟨rfl,hbx⟩;have g2:=(g1).trans (hbx.mono (g1).size);refine ⟨_,rfl,g2,hK _ _ ?_⟩;clear hK K hbx);(repeat ((refine wpPlan_step (by rfl) (fun K hK=>?_));go_simp;first | ((with_reducible refine hK _ _ ?_);clear hK K) | ((with_reducible apply Exists.intro);refine ⟨fun w' hw'=>?_,hK _ _ ?_⟩;(· (have hq:=bcells hw';apply valEq;(· (go_simp;first | done | (with_reducible rfl)));(· ((try go_bits);with_reducible rfl))));clear hK K)));((refine wpPlan_step (by rfl) (fun K hK=>?_));go_simp;first | (refine hK _ _ ?_;clear hK K) | (refine ⟨?_,hK _ _ ?_⟩;(· (exact g2.alloc g2.size _));clear hK K));((refine wpPlan_step (by rfl) (fun K hK=>?_));go_simp;first | (refine hK _ _ ?_;clear hK K) | (refine ⟨?_,hK _ _ ?_⟩;(· (exact g2.alloc g2.size _));clear hK K));(repeat ((refine wpPlan_step (by rfl) (fun K hK=>?_));go_simp;first | ((with_reducible refine hK _ _ ?_);clear hK K) | ((with_reducible apply Exists.intro);refine ⟨fun w' hw'=>?_,hK _ _ ?_⟩;(· (have hq:=bcells hw';apply valEq;(· (go_simp;first | done | (with_reducible rfl)));(· ((try go_bits);with_reducible rfl))));clear hK K)));refine wpPlan_nil (fun g4=>?_);(go_wp2_with (fail);go_ret2;exact ⟨congrArg Ending.returned HV.out.symm,hb0.trans (g4.mono hb0.size)⟩)));(· (have gA:=g1.alloc g1.size (.cells #[.int .u64 0,.int .i64 0] 145);have BA:=Blk.new w1 145 #[.int .u64 0,.int .i64 0];((refine wpPlan_step (by rfl) (fun K hK=>?_));go_simp;first | (refine hK _ _ ?_;clear hK K) | (refine ⟨?_,hK _ _ ?_⟩;(· (exact gA));clear hK K));((refine wpPlan_step (by rfl) (fun K hK=>?_));go_simp;refine (QA.out _ ((HR.out.below g1).alloc _)).mono ?_;rintro e w2 ⟨rfl,hbx⟩;have g2:=(gA).trans (hbx.mono (gA).size);have BP:=BA.below hbx BA.lt;refine ⟨_,rfl,g2,hK _ _ ?_⟩;clear hK K hbx);clear BA;((repeat ((refine wpPlan_step (by rfl) (fun K hK=>?_));go_simp;first | ((with_reducible refine hK _ _ ?_);clear hK K) | ((with_reducible apply Exists.intro);refine ⟨fun w' hw'=>?_,hK _ _ ?_⟩;(· (have hq:=bcells hw';apply valEq;(· (go_simp;first | done | (with_reducible rfl)));(· ((try go_bits);with_reducible rfl))));clear hK K)));have Z:=hide (Blk.set2 (x:=.int .u64 ki) (y:=.int .i64 ni) BP);obtain ⟨r1,e1,s1⟩:=BP.facts;have d0:=r1 0;have d1:=r1 1;clear r1;((refine wpPlan_step (by rfl) (fun K hK=>?_));go_simp;first | (refine hK _ _ ?_;clear hK K) | (refine ⟨?_,hK _ _ ?_⟩;(· (exact (g2.setCell g1.size _).setCell g1.size _));clear hK K));clear d0 d1 e1;(repeat ((refine wpPlan_step (by rfl) (fun K hK=>?_));go_simp;first | ((with_reducible refine hK _ _ ?_);clear hK K) | ((with_reducible apply Exists.intro);refine ⟨fun w' hw'=>?_,hK _ _ ?_⟩;(· (have hq:=bcells hw';apply valEq;(· (go_simp;first | done | (with_reducible rfl)));(· ((try go_bits);with_reducible rfl))));clear hK K)));refine wpPlan_nil (fun g4=>?_);obtain ⟨r2,e2,s2⟩:=Z.out.facts;have d0:=r2 0;have d1:=r2 1;clear r2 s1;(go_wp2_with (fail);go_ret2;exact ⟨congrArg Ending.returned HV.out.symm,hb0.trans (g4.mono hb0.size)⟩))))));(· (have gA:=(Below.refl (W0).heap.size W0).drew.alloc (Nat.le_refl _) (.cells #[.int .u64 0,.int .i64 0] 145);have BA:Blk (W0.drew.alloc (.cells #[.int .u64 0,.int .i64 0] 145)) W0.heap.size 145 #[.int .u64 0,.int .i64 0]:=Blk.new W0.drew _ _;((refine wpPlan_step (by rfl) (fun K hK=>?_));go_simp;first | (refine hK _ _ ?_;clear hK K) | (refine ⟨?_,hK _ _ ?_⟩;(· (exact gA));clear hK K));((refine wpPlan_step (by rfl) (fun K hK=>?_));go_simp;refine (QF.out _ (HR.out.drew.alloc _)).mono ?_;rintro e w1 ⟨rfl,hbx⟩;have g1:=(gA).trans (hbx.mono (gA).size);have BQ:=BA.below hbx BA.lt;refine ⟨_,rfl,g1,hK _ _ ?_⟩;clear hK K hbx);clear BA;((refine wpPlan_step (by rfl) (fun K hK=>?_));go_simp;refine (QA.out _ (HR.out.below g1)).mono ?_;rintro e w2 ⟨rfl,hbx⟩;have g2:=(g1).trans (hbx.mono (g1).size);have BP:=BQ.below hbx BQ.lt;refine ⟨_,rfl,g2,hK _ _ ?_⟩;clear hK K hbx);clear BQ;((repeat ((refine wpPlan_step (by rfl) (fun K hK=>?_));go_simp;first | ((with_reducible refine hK _ _ ?_);clear hK K) | ((with_reducible apply Exists.intro);refine ⟨fun w' hw'=>?_,hK _ _ ?_⟩;(· (have hq:=bcells hw';apply valEq;(· (go_simp;first | done | (with_reducible rfl)));(· ((try go_bits);with_reducible rfl))));clear hK K)));have Z:=hide (Blk.set2 (x:=.int .u64 ki) (y:=.int .i64 ni) BP);obtain ⟨r1,e1,s1⟩:=BP.facts;have d0:=r1 0;have d1:=r1 1;clear r1;((refine wpPlan_step (by rfl) (fun K hK=>?_));go_simp;first | (refine hK _ _ ?_;clear hK K) | (refine ⟨?_,hK _ _ ?_⟩;(· (exact (g2.setCell (Nat.le_refl _) _).setCell (Nat.le_refl _) _));clear hK K));clear d0 d1 e1;(repeat ((refine wpPlan_step (by rfl) (fun K hK=>?_));go_simp;first | ((with_reducible refine hK _ _ ?_);clear hK K) | ((with_reducible apply Exists.intro);refine ⟨fun w' hw'=>?_,hK _ _ ?_⟩;(· (have hq:=bcells hw';apply valEq;(· (go_simp;first | done | (with_reducible rfl)));(· ((try go_bits);with_reducible rfl))));clear hK K)));refine wpPlan_nil (fun g4=>?_);obtain ⟨r2,e2,s2⟩:=Z.out.facts;have d0:=r2 0;have d1:=r2 1;clear r2 s1;(go_wp2_with (fail);go_ret2;exact ⟨congrArg Ending.returned HV.out.symm,hb0.trans (g4.mono hb0.size)⟩)))))
  · have HD:=hide (show decide (m < n)=false by simpa using h1)
    rw [HD.out] at QA
    have HV:=hide (show getV t.toL key=.tuple #[.int .i64 0,.bool false] by rw [HG.out,if_neg (fun h=>h1 h.2)])
    clear HG h1 HD
    (go_enter Tryz.func41,Tryz.ntmps41;go_wp2_with (fail);generalize (w.alloc (.cells #[.pointer p] 109))=W0 at *;obtain ⟨c0,e0,s0⟩:=HB.f1;refine wp_region_plan (.ops [0,1,2,3] (.two 4 (.two 5 (.ops [6,7,8,9,10,11] .nil) 9 (.ops [5,6,7,8,10,11] .nil)) 9 (.ops [4,5,6,7,8,10,11] .nil))) [4,5,9,10] (fun w'=>Below (W0).heap.size (W0) w') (by kernel_rfl) (by kernel_rfl) (Below.refl _ _).drew ?_;simp only [Plan.ops,List.foldr];(repeat ((refine wpPlan_step (by rfl) (fun K hK=>?_));go_simp;first | ((with_reducible refine hK _ _ ?_);clear hK K) | ((with_reducible apply Exists.intro);refine ⟨fun w' hw'=>?_,hK _ _ ?_⟩;(· (have hq:=bcells hw';apply valEq;(· (go_simp;first | done | (with_reducible rfl)));(· ((try go_bits);with_reducible rfl))));clear hK K)));refine wpPlan_two ?_ ?_;(· (((refine wpPlan_step (by rfl) (fun K hK=>?_));go_simp;refine (QF.out _ HR.out.drew).mono ?_;rintro e w1 ⟨rfl,hbx⟩;have g1:=((Below.refl (W0).heap.size W0).drew).trans (hbx.mono ((Below.refl (W0).heap.size W0).drew).size);refine ⟨_,rfl,g1,hK _ _ ?_⟩;clear hK K hbx);refine wpPlan_two ?_ ?_;(· (((refine wpPlan_step (by rfl) (fun K hK=>?_));go_simp;refine (QA.out _ (HR.out.below g1)).mono ?_;rintro e w2 ⟨rfl,hbx⟩;have g2:=(g1).trans (hbx.mono (g1).size);refine ⟨_,rfl,g2,hK _ _ ?_⟩;clear hK K hbx);(repeat ((refine wpPlan_step (by rfl) (fun K hK=>?_));go_simp;first | ((with_reducible refine hK _ _ ?_);clear hK K) | ((with_reducible apply Exists.intro);refine ⟨fun w' hw'=>?_,hK _ _ ?_⟩;(· (have hq:=bcells hw';apply valEq;(· (go_simp;first | done | (with_reducible rfl)));(· ((try go_bits);with_reducible rfl))));clear hK K)));((refine wpPlan_step (by rfl) (fun K hK=>?_));go_simp;first | (refine hK _ _ ?_;clear hK K) | (refine ⟨?_,hK _ _ ?_⟩;(· (exact g2.alloc g2.size _));clear hK K));((refine wpPlan_step (by rfl) (fun K hK=>?_));go_simp;first | (refine hK _ _ ?_;clear hK K) | (refine ⟨?_,hK _ _ ?_⟩;(· (exact g2.alloc g2.size _));clear hK K));(repeat ((refine wpPlan_step (by rfl) (fun K hK=>?_));go_simp;first | ((with_reducible refine hK _ _ ?_);clear hK K) | ((with_reducible apply Exists.intro);refine ⟨fun w' hw'=>?_,hK _ _ ?_⟩;(· (have hq:=bcells hw';apply valEq;(· (go_simp;first | done | (with_reducible rfl)));(· ((try go_bits);with_reducible rfl))));clear hK K)));refine wpPlan_nil (fun g4=>?_);(go_wp2_with (fail);go_ret2;exact ⟨congrArg Ending.returned HV.out.symm,hb0.trans (g4.mono hb0.size)⟩)));(· (have gA:=g1.alloc g1.size (.cells #[.int .u64 0,.int .i64 0] 145);have BA:=Blk.new w1 145 #[.int .u64 0,.int .i64 0];((refine wpPlan_step (by rfl) (fun K hK=>?_));go_simp;first | (refine hK _ _ ?_;clear hK K) | (refine ⟨?_,hK _ _ ?_⟩;(· (exact gA));clear hK K));((refine wpPlan_step (by rfl) (fun K hK=>?_));go_simp;refine (QA.out _ ((HR.out.below g1).alloc _)).mono ?_;rintro e w2 ⟨rfl,hbx⟩;have g2:=(gA).trans (hbx.mono (gA).size);have BP:=BA.below hbx BA.lt;refine ⟨_,rfl,g2,hK _ _ ?_⟩;clear hK K hbx);clear BA;((repeat ((refine wpPlan_step (by rfl) (fun K hK=>?_));go_simp;first | ((with_reducible refine hK _ _ ?_);clear hK K) | ((with_reducible apply Exists.intro);refine ⟨fun w' hw'=>?_,hK _ _ ?_⟩;(· (have hq:=bcells hw';apply valEq;(· (go_simp;first | done | (with_reducible rfl)));(· ((try go_bits);with_reducible rfl))));clear hK K)));have Z:=hide (Blk.set2 (x:=.int .u64 ki) (y:=.int .i64 ni) BP);obtain ⟨r1,e1,s1⟩:=BP.facts;have d0:=r1 0;have d1:=r1 1;clear r1;((refine wpPlan_step (by rfl) (fun K hK=>?_));go_simp;first | (refine hK _ _ ?_;clear hK K) | (refine ⟨?_,hK _ _ ?_⟩;(· (exact (g2.setCell g1.size _).setCell g1.size _));clear hK K));clear d0 d1 e1;(repeat ((refine wpPlan_step (by rfl) (fun K hK=>?_));go_simp;first | ((with_reducible refine hK _ _ ?_);clear hK K) | ((with_reducible apply Exists.intro);refine ⟨fun w' hw'=>?_,hK _ _ ?_⟩;(· (have hq:=bcells hw';apply valEq;(· (go_simp;first | done | (with_reducible rfl)));(· ((try go_bits);with_reducible rfl))));clear hK K)));refine wpPlan_nil (fun g4=>?_);obtain ⟨r2,e2,s2⟩:=Z.out.facts;have d0:=r2 0;have d1:=r2 1;clear r2 s1;(go_wp2_with (fail);go_ret2;exact ⟨congrArg Ending.returned HV.out.symm,hb0.trans (g4.mono hb0.size)⟩))))));(· (have gA:=(Below.refl (W0).heap.size W0).drew.alloc (Nat.le_refl _) (.cells #[.int .u64 0,.int .i64 0] 145);have BA:Blk (W0.drew.alloc (.cells #[.int .u64 0,.int .i64 0] 145)) W0.heap.size 145 #[.int .u64 0,.int .i64 0]:=Blk.new W0.drew _ _;((refine wpPlan_step (by rfl) (fun K hK=>?_));go_simp;first | (refine hK _ _ ?_;clear hK K) | (refine ⟨?_,hK _ _ ?_⟩;(· (exact gA));clear hK K));((refine wpPlan_step (by rfl) (fun K hK=>?_));go_simp;refine (QF.out _ (HR.out.drew.alloc _)).mono ?_;rintro e w1 ⟨rfl,hbx⟩;have g1:=(gA).trans (hbx.mono (gA).size);have BQ:=BA.below hbx BA.lt;refine ⟨_,rfl,g1,hK _ _ ?_⟩;clear hK K hbx);clear BA;((refine wpPlan_step (by rfl) (fun K hK=>?_));go_simp;refine (QA.out _ (HR.out.below g1)).mono ?_;rintro e w2 ⟨rfl,hbx⟩;have g2:=(g1).trans (hbx.mono (g1).size);have BP:=BQ.below hbx BQ.lt;refine ⟨_,rfl,g2,hK _ _ ?_⟩;clear hK K hbx);clear BQ;((repeat ((refine wpPlan_step (by rfl) (fun K hK=>?_));go_simp;first | ((with_reducible refine hK _ _ ?_);clear hK K) | ((with_reducible apply Exists.intro);refine ⟨fun w' hw'=>?_,hK _ _ ?_⟩;(· (have hq:=bcells hw';apply valEq;(· (go_simp;first | done | (with_reducible rfl)));(· ((try go_bits);with_reducible rfl))));clear hK K)));have Z:=hide (Blk.set2 (x:=.int .u64 ki) (y:=.int .i64 ni) BP);obtain ⟨r1,e1,s1⟩:=BP.facts;have d0:=r1 0;have d1:=r1 1;clear r1;((refine wpPlan_step (by rfl) (fun K hK=>?_));go_simp;first | (refine hK _ _ ?_;clear hK K) | (refine ⟨?_,hK _ _ ?_⟩;(· (exact (g2.setCell (Nat.le_refl _) _).setCell (Nat.le_refl _) _));clear hK K));clear d0 d1 e1;(repeat ((refine wpPlan_step (by rfl) (fun K hK=>?_));go_simp;first | ((with_reducible refine hK _ _ ?_);clear hK K) | ((with_reducible apply Exists.intro);refine ⟨fun w' hw'=>?_,hK _ _ ?_⟩;(· (have hq:=bcells hw';apply valEq;(· (go_simp;first | done | (with_reducible rfl)));(· ((try go_bits);with_reducible rfl))));clear hK K)));refine wpPlan_nil (fun g4=>?_);obtain ⟨r2,e2,s2⟩:=Z.out.facts;have d0:=r2 0;have d1:=r2 1;clear r2 s1;(go_wp2_with (fail);go_ret2;exact ⟨congrArg Ending.returned HV.out.symm,hb0.trans (g4.mono hb0.size)⟩)))))
end Go.Proofs.YtppblcbgkadldaaGreatDoor
namespace Go.Proofs.YtppblcbgkadldaaGreatDoor
open Go Go.RowKit
set_option maxRecDepth 100000
attribute [local go_sem] Heavy heavyUpon
theorem Rep.far {w:World} {g:Nat} {cs:Array Value} (hB:Blk w g 109 cs) (a:Addr) (ha:a.block=g) (u:Value):∀ {t:Tr} {p:Option Addr},Rep w p t → Rep (w.setCell a u) p t
  | .nil,_,h=>h
  | .node _ _ _ _,_,⟨g',pa,pb,e,hB',h1,h2⟩=>⟨g',pa,pb,e,hB'.far (fun h=>by
      unfold Blk at hB hB'
      rw [h,ha,hB] at hB'
      injection hB' with hB'
      injection hB' with _ hB'
      exact absurd hB' (by decide)) u,Rep.far hB a ha u h1,Rep.far hB a ha u h2⟩
def insK (l:List (Int × Int)) (key n:Int):List (Int × Int):=l.take (lowK l key) ++ (key,n) :: l.drop (lowK l key)
def RetDict (l:List (Int × Int)) (w:World) (e:Ending) (w':World):Prop:=∃ p t,e=.returned (.agg #[.pointer p]) ∧ Rep w' p t ∧ t.toL=l ∧ Below w.heap.size w w'
set_option maxHeartbeats 3200000 in
theorem put_ok (t:Tr) (p:Option Addr) (key n:Int) (w:World) (hR:Rep w p t) (hs:t.sz ≤ 2000) (hk:KSorted t.toL) (hno:∀ x ∈ t.toL,x.1 ≠ key) :
    Calls Tryz.prog 71 #[.agg #[.pointer p],.int .u64 key,.int .i64 n] w (RetDict (insK t.toL key n) w):=by
  have QF:=hide (fun W (h:Rep W p t)=>from_ok t p key W h (by omega) hk)
  have hll:=lowK_le t.toL key
  have hln:=t.sz_len
  have QS:=hide (fun W (h:Rep W p t)=>split_ok t p (lowK t.toL key:Nat) W h (by omega) (by omega))
  have HI:=hide (show insK t.toL key n=t.toL.take (lowK t.toL key) ++ ([(key,n)] ++ t.toL.drop (lowK t.toL key)) from rfl)
  have HL:=hide (show (t.toL.take (lowK t.toL key)).length + (t.toL.drop (lowK t.toL key)).length ≤ 2000 by rw [List.length_take,List.length_drop];omega)
  have hX:∀ x ∈ t.toL.drop (lowK t.toL key),x.1 ≠ key:=fun x hx=>hno x (List.mem_of_mem_drop hx)
  simp only [Int.toNat_natCast] at QS
  generalize t.toL.take (lowK t.toL key)=LA at *
  generalize t.toL.drop (lowK t.toL key)=LB at *
  generalize lowK t.toL key=m at *
  have QO:=hide of_one
  have QJ:=hide join_ok
  have HR:=hide ((hR.alloc (.cells #[.pointer p] 109)).alloc (.cells #[.pointer none] 109))
  have HB:=(Blk.new w 109 #[.pointer p]).alloc (.cells #[.pointer none] 109)
  have HB2:Blk ((w.alloc (.cells #[.pointer p] 109)).alloc (.cells #[.pointer none] 109)) (w.heap.size + 1) 109 #[.pointer none]:=by
    have:=Blk.new (w.alloc (.cells #[.pointer p] 109)) 109 #[.pointer none]
    rwa [heap_alloc_size] at this
  have hb0:=((Below.refl w.heap.size w).alloc (Nat.le_refl _) (.cells #[.pointer p] 109)).alloc (by simp) (.cells #[.pointer none] 109)
  clear hR hk hln hll hno
  go_enter Tryz.func71,Tryz.ntmps71
  go_wp2_with (fail)
  generalize (w.alloc (.cells #[.pointer p] 109)).alloc (.cells #[.pointer none] 109)=W0 at *
  obtain ⟨r0,e0,s0⟩:=HB.facts
  have c0:W0.cell? ⟨w.heap.size,0,none⟩=some (.pointer p):=r0 0
  clear r0 HB
  refine wp_region_lexD [4,5] (fun w'=>Below (W0).heap.size (W0) w') (by kernel_rfl) (by kernel_rfl) (Below.refl _ _).drew ?_
  (repeat ((with_reducible refine wpLex_step (fun K hK=>?_));go_simp;first | ((with_reducible refine hK _ _ ?_);clear hK K) | ((with_reducible apply Exists.intro);refine ⟨fun w' hw'=>?_,hK _ _ ?_⟩;(· (have hq:=bcells hw';apply valEq;(· (go_simp;first | done | (with_reducible rfl)));(· ((try go_bits);with_reducible rfl))));clear hK K)))
  ((with_reducible refine wpLex_step (fun K hK=>?_));go_simp;refine (QF.out _ HR.out.drew).mono ?_;rintro e w1 ⟨rfl,hbx⟩;have g1:=((Below.refl (W0).heap.size W0).drew).trans (hbx.mono ((Below.refl (W0).heap.size W0).drew).size);refine ⟨_,rfl,g1,hK _ _ ?_⟩;clear hK K hbx)
  (repeat ((with_reducible refine wpLex_step (fun K hK=>?_));go_simp;first | ((with_reducible refine hK _ _ ?_);clear hK K) | ((with_reducible apply Exists.intro);refine ⟨fun w' hw'=>?_,hK _ _ ?_⟩;(· (have hq:=bcells hw';apply valEq;(· (go_simp;first | done | (with_reducible rfl)));(· ((try go_bits);with_reducible rfl))));clear hK K)))
  ((with_reducible refine wpLex_step (fun K hK=>?_));go_simp;refine (QS.out _ (HR.out.below g1)).mono ?_;rintro e w2 ⟨q1,q2,t1,t2,rfl,R1,T1,R2,T2,hbx⟩;have g2:=g1.trans (hbx.mono g1.size);refine ⟨_,rfl,g2,hK _ _ ?_⟩;clear hK K hbx)
  have HR1:=hide R1
  have HR2:=hide R2
  have HT1:=hide T1
  have HT2:=hide T2
  clear R1 R2 T1 T2 HR QF QS
  (repeat ((with_reducible refine wpLex_step (fun K hK=>?_));go_simp;first | ((with_reducible refine hK _ _ ?_);clear hK K) | ((with_reducible apply Exists.intro);refine ⟨fun w' hw'=>?_,hK _ _ ?_⟩;(· (have hq:=bcells hw';apply valEq;(· (go_simp;first | done | (with_reducible rfl)));(· ((try go_bits);with_reducible rfl))));clear hK K)))
  refine wpLex_nil (fun _=>?_)
  have hb2:=hb0.trans (g2.mono hb0.size)
  have B2:=hide (HB2.below g2 HB2.lt)
  clear g1 g2 HB2 c0 e0 s0 hb0
  have l1:=t1.sz_len
  have l2:=t2.sz_len
  have QA:=hide (fun W (h:Rep W q2 t2)=>seqAt_ok t2 q2 0 W h (by rw [l2,HT2.out];have:=HL.out;omega) (by omega))
  have HS:=hide (show t1.sz + t2.sz ≤ 2000 by rw [l1,l2,HT1.out,HT2.out];exact HL.out)
  rw [HT2.out] at QA
  clear l1 l2
  cases LB with
  | nil =>
    have e1:atV [] 0=.tuple #[.agg #[.int .u64 0,.int .i64 0],.bool false]:=rfl
    rw [e1] at QA
    clear e1 hX
    (go_wp2_with (fail);refine (QA.out _ HR2.out).mono ?_;rintro e w3 ⟨rfl,b3⟩;have HR13:=hide (((HR1.out.below b3).alloc (.cells #[.int .u64 0,.int .i64 0] 145)).alloc (.cells #[.int .u64 key,.int .i64 n] 145));have HR23:=hide (((HR2.out.below b3).alloc (.cells #[.int .u64 0,.int .i64 0] 145)).alloc (.cells #[.int .u64 key,.int .i64 n] 145));have B3:=hide (((B2.out.below b3 B2.out.lt).alloc (.cells #[.int .u64 0,.int .i64 0] 145)).alloc (.cells #[.int .u64 key,.int .i64 n] 145));have hb3:=((hb2.trans (b3.mono hb2.size)).alloc (Nat.le_trans hb2.size b3.size) (.cells #[.int .u64 0,.int .i64 0] 145)).alloc (Nat.le_trans (Nat.le_trans hb2.size b3.size) (by simp)) (.cells #[.int .u64 key,.int .i64 n] 145);have BN:=Blk.new (w3.alloc (.cells #[.int .u64 0,.int .i64 0] 145)) 145 #[.int .u64 key,.int .i64 n];rw [heap_alloc_size] at BN;clear HR1 HR2 B2 b3 hb2 QA;go_wp2_with (fail);generalize (w3.alloc (.cells #[.int .u64 0,.int .i64 0] 145)).alloc (.cells #[.int .u64 key,.int .i64 n] 145)=W4 at *;have hbn:=BN;refine (QO.out _ _ _ _ hbn).mono ?_;clear hbn BN;rintro e w5 ⟨q5,t5,rfl,R5,T5,b5⟩;have HR5:=hide R5;have HT5:=hide T5;have HR15:=hide (HR13.out.below b5);have HR25:=hide (HR23.out.below b5);have B5:=hide (B3.out.below b5 B3.out.lt);have hb5:=hb3.trans (b5.mono hb3.size);clear R5 T5 HR13 HR23 B3 b5 hb3;go_wp2_with (fail);refine (QJ.out t5 t2 q5 q2 _ HR5.out HR25.out (by have h5:=t5.sz_len;rw [HT5.out] at h5;simp at h5;have:=HS.out;omega)).mono ?_;rintro e w6 ⟨q6,t6,rfl,R6,T6,b6⟩;have HR6:=hide R6;have HT6:=hide T6;have HR16:=hide (HR15.out.below b6);have B6:=hide (B5.out.below b6 B5.out.lt);have hb6:=hb5.trans (b6.mono hb5.size);clear R6 T6 HR15 HR25 B5 b6 hb5 HR5;go_wp2_with (fail);refine (QJ.out t1 t6 q1 q6 _ HR16.out HR6.out (by have h5:=t5.sz_len;have h6:=t6.sz_len;have h2:=t2.sz_len;rw [HT6.out,HT5.out,List.length_append,← h2] at h6;simp at h6;have:=HS.out;omega)).mono ?_;rintro e w7 ⟨q7,t7,rfl,R7,T7,b7⟩;have HR7:=hide R7;have HT7:=hide T7;have B7:=B6.out.below b7 B6.out.lt;have hb7:=hb6.trans (b7.mono hb6.size);clear R7 T7 HR16 HR6 B6 b7 hb6;obtain ⟨x0,e0,s0⟩:=B7.f1;have z0:(w7.setCell ⟨w.heap.size + 1,0,none⟩ (.pointer q7)).cell? ⟨w.heap.size + 1,0,none⟩=some (.pointer q7):=(B7.set_ 0 (.pointer q7)).cell 0;have Z:=hide z0;have HRZ:=hide (show Rep (w7.setCell ⟨w.heap.size + 1,0,none⟩ (.pointer q7)) q7 t7 from Rep.far B7 _ rfl _ HR7.out);clear z0;go_wp2_with (fail);refine bodyPost_ret (v:=.agg #[.pointer q7]) (by simp [results,Tryz.results71,go_sem,Z.out]) rfl ⟨q7,t7,rfl,HRZ.out,by rw [HT7.out,HT6.out,HT5.out,HT1.out,HT2.out,HI.out],hb7.setCell (by simp) _⟩)
  | cons x LB =>
    have e1:atV (x :: LB) 0=.tuple #[.agg #[.int .u64 x.1,.int .i64 x.2],.bool true]:=rfl
    rw [e1] at QA
    have hd:(x.1 == key)=false:=by rw [beq_eq_false_iff_ne];exact hX x List.mem_cons_self
    have HX:=hide (show x=(x.1,x.2) from rfl)
    clear e1 hX
    generalize x.1=xk at *
    generalize x.2=xn at *
    (go_wp2_with (fail);refine (QA.out _ HR2.out).mono ?_;rintro e w3 ⟨rfl,b3⟩;have HR13:=hide (((HR1.out.below b3).alloc (.cells #[.int .u64 xk,.int .i64 xn] 145)).alloc (.cells #[.int .u64 key,.int .i64 n] 145));have HR23:=hide (((HR2.out.below b3).alloc (.cells #[.int .u64 xk,.int .i64 xn] 145)).alloc (.cells #[.int .u64 key,.int .i64 n] 145));have B3:=hide (((B2.out.below b3 B2.out.lt).alloc (.cells #[.int .u64 xk,.int .i64 xn] 145)).alloc (.cells #[.int .u64 key,.int .i64 n] 145));have hb3:=((hb2.trans (b3.mono hb2.size)).alloc (Nat.le_trans hb2.size b3.size) (.cells #[.int .u64 xk,.int .i64 xn] 145)).alloc (Nat.le_trans (Nat.le_trans hb2.size b3.size) (by simp)) (.cells #[.int .u64 key,.int .i64 n] 145);have BN:=Blk.new (w3.alloc (.cells #[.int .u64 xk,.int .i64 xn] 145)) 145 #[.int .u64 key,.int .i64 n];rw [heap_alloc_size] at BN;clear HR1 HR2 B2 b3 hb2 QA;go_wp2_with (fail);generalize (w3.alloc (.cells #[.int .u64 xk,.int .i64 xn] 145)).alloc (.cells #[.int .u64 key,.int .i64 n] 145)=W4 at *;have hbn:=BN;refine (QO.out _ _ _ _ hbn).mono ?_;clear hbn BN;rintro e w5 ⟨q5,t5,rfl,R5,T5,b5⟩;have HR5:=hide R5;have HT5:=hide T5;have HR15:=hide (HR13.out.below b5);have HR25:=hide (HR23.out.below b5);have B5:=hide (B3.out.below b5 B3.out.lt);have hb5:=hb3.trans (b5.mono hb3.size);clear R5 T5 HR13 HR23 B3 b5 hb3;go_wp2_with (fail);refine (QJ.out t5 t2 q5 q2 _ HR5.out HR25.out (by have h5:=t5.sz_len;rw [HT5.out] at h5;simp at h5;have:=HS.out;omega)).mono ?_;rintro e w6 ⟨q6,t6,rfl,R6,T6,b6⟩;have HR6:=hide R6;have HT6:=hide T6;have HR16:=hide (HR15.out.below b6);have B6:=hide (B5.out.below b6 B5.out.lt);have hb6:=hb5.trans (b6.mono hb5.size);clear R6 T6 HR15 HR25 B5 b6 hb5 HR5;go_wp2_with (fail);refine (QJ.out t1 t6 q1 q6 _ HR16.out HR6.out (by have h5:=t5.sz_len;have h6:=t6.sz_len;have h2:=t2.sz_len;rw [HT6.out,HT5.out,List.length_append,← h2] at h6;simp at h6;have:=HS.out;omega)).mono ?_;rintro e w7 ⟨q7,t7,rfl,R7,T7,b7⟩;have HR7:=hide R7;have HT7:=hide T7;have B7:=B6.out.below b7 B6.out.lt;have hb7:=hb6.trans (b7.mono hb6.size);clear R7 T7 HR16 HR6 B6 b7 hb6;obtain ⟨x0,e0,s0⟩:=B7.f1;have z0:(w7.setCell ⟨w.heap.size + 1,0,none⟩ (.pointer q7)).cell? ⟨w.heap.size + 1,0,none⟩=some (.pointer q7):=(B7.set_ 0 (.pointer q7)).cell 0;have Z:=hide z0;have HRZ:=hide (show Rep (w7.setCell ⟨w.heap.size + 1,0,none⟩ (.pointer q7)) q7 t7 from Rep.far B7 _ rfl _ HR7.out);clear z0;go_wp2_with (fail);refine bodyPost_ret (v:=.agg #[.pointer q7]) (by simp [results,Tryz.results71,go_sem,Z.out]) rfl ⟨q7,t7,rfl,HRZ.out,by rw [HT7.out,HT6.out,HT5.out,HT1.out,HT2.out,HI.out],hb7.setCell (by simp) _⟩)
end Go.Proofs.YtppblcbgkadldaaGreatDoor
