/-
  A part of the proof that the law TopForest returns true for every input and leaves its arguments as they were: SeqAt, Split, Join.
-/
import Derived.Test.YtppblcbgkadldaaGreatDoorZ04
import Derived.Test.YtppblcbgkadldaaGreatDoorZ06
import Derived.Deep.LoopGhost
set_option linter.all false
namespace Go.Proofs.YtppblcbgkadldaaGreatDoor
open Go Go.RowKit
set_option maxRecDepth 100000
attribute [local go_sem] Heavy heavyUpon
def atV (l:List (Int × Int)) (i:Nat):Value:=.tuple #[.agg #[.int .u64 (l.getD i (0,0)).1,.int .i64 (l.getD i (0,0)).2],.bool (decide (i < l.length))]
set_option maxHeartbeats 1600000 in
theorem seqAt_ok (t:Tr) (p:Option Addr) (i:Nat) (w:World) (h:Rep w p t) (hs:t.sz ≤ 4096) (hi:i < 100000) :
    Calls Tryz.prog 72 #[.pointer p,.int .i64 i] w (Ret (atV t.toL i) w):=by
  by_cases hlt:i < t.sz
  · have QL:=fun W (hR:Rep W p t)=>hide (seqLen_ok t p W hR)
    generalize hS:t.sz=s at *
    have HS:=hide hS
    clear hS
    have hd:decide (s ≤ i)=false:=by simp;omega
    have hd0:decide ((i:Int) < 0)=false:=by simp
    have HR:=hide (h.alloc (.cells #[.int .u64 0,.int .i64 0] 145))
    have B0:=hide (Blk.new w 145 #[.int .u64 0,.int .i64 0])
    have hb0:=(Below.refl w.heap.size w).alloc (Nat.le_refl _) (.cells #[.int .u64 0,.int .i64 0] 145)
    go_enter Tryz.func72,Tryz.ntmps72
    go_wp2_with (fail)
    refine (QL _ HR.out).out.mono ?_
    rintro e w1 ⟨rfl,b1⟩
    have hz1:=b1.size
    have HR1:=hide (HR.out.below b1)
    have HB1:=hide (B0.out.below b1 (Blk.lt B0.out))
    have hb1:=hb0.trans (b1.mono hb0.size)
    clear HR B0 b1 hb0 hz1
    go_wp2_with (fail)
    go_loopg [0,1,7] t.sz (fun k sv iv _ wr=>∃ (t':Tr) (p':Option Addr) (j:Nat),k=t'.sz ∧ sv=.pointer p' ∧ iv=.int .i64 j ∧ Hid (Rep wr p' t') ∧ j < t'.sz ∧ t'.sz ≤ 4096 ∧ Hid (t'.toL[j]? = t.toL[i]?) ∧ Below w.heap.size w wr ∧ Hid (Blk wr w.heap.size 145 #[.int .u64 0,.int .i64 0]))
    case atStart=>exact ⟨t,p,i,rfl,rfl,rfl,HR1,by rw [HS.out];exact hlt,by rw [HS.out];exact hs,hide rfl,hb1,HB1⟩
    case round =>
      clear HR1 HB1 QL h
      obtain ⟨t',p',j,rfl,rfl,rfl,HR,hj,hs',HT,hbr,HB⟩:=hrel
      cases t' with
      | nil=>simp [Tr.sz] at hj
      | node a k n b =>
        obtain ⟨g,pa,pb,rfl,hBn,ha,hb⟩:=HR.out
        clear HR
        have HA:=hide ha
        have HBb:=hide hb
        have HZ:=hide (show (Tr.node a k n b).sz=a.sz + 1 + b.sz from rfl)
        have hz0:a.sz + 1 + b.sz ≤ 4096:=hs'
        have hz1:j < a.sz + 1 + b.sz:=hj
        have la:=hide a.sz_len
        have QA:=hide (fun W hR=>seqLen_ok a pa W hR)
        generalize (Tr.node a k n b).ht=q at *
        generalize hsz:(Tr.node a k n b).sz=s' at *
        have HW:=hide (show (Tr.node a k n b).toL=a.toL ++ (k,n) :: b.toL from rfl)
        generalize hsa:a.sz=sa at *
        generalize hsb:b.sz=sb at *
        have HSZ:=hide (And.intro hsz (And.intro hsa hsb))
        have LA:=hide la
        clear hsz hsa hsb la
        obtain ⟨r0,e0,s0⟩:=hBn.facts
        have c0:wr.cell? ⟨g,0,none⟩=some (.pointer pa):=r0 0
        have c1:wr.cell? ⟨g,1,none⟩=some (.pointer pb):=r0 1
        have c2:wr.cell? ⟨g,2,none⟩=some (.int .u64 k):=r0 2
        have c3:wr.cell? ⟨g,3,none⟩=some (.int .i64 n):=r0 3
        clear r0 hBn
        go_wp2_with (fail)
        refine (QA.out wr HA.out).mono ?_
        rintro e w2 ⟨rfl,b2⟩
        have hb2:=hbr.trans (b2.mono hbr.size)
        have HA2:=hide (HA.out.below b2)
        have HB2:=hide (HBb.out.below b2)
        have HC2:=hide (HB.out.below b2 (Blk.lt HB.out))
        have d0:=(bcells b2 ⟨g,0,none⟩ s0).trans c0
        have d1:=(bcells b2 ⟨g,1,none⟩ s0).trans c1
        have d2:=(bcells b2 ⟨g,2,none⟩ s0).trans c2
        have d3:=(bcells b2 ⟨g,3,none⟩ s0).trans c3
        clear c0 c1 c2 c3 e0 HA HBb HB b2 hbr QA
        by_cases h1:j < sa
        · have HX:=hide (show a.toL[j]? = t.toL[i]? by
            rw [← HT.out,HW.out,List.getElem?_append_left (by rw [← LA.out];exact h1)])
          clear HT HW
          go_wp2_with (fail)
          go_roundg sa
          case measure=>have:=HZ.out;omega
          case rel=>exact ⟨a,pa,j,HSZ.out.2.1.symm,rfl,rfl,HA2,by rw [HSZ.out.2.1];exact h1,by rw [HSZ.out.2.1];omega,HX,hb2,HC2⟩
        · by_cases h2:sa < j
          · have HX:=hide (show b.toL[j - (sa + 1)]? = t.toL[i]? by
              rw [← HT.out,HW.out,List.getElem?_append_right (by rw [← LA.out];omega),← LA.out]
              obtain ⟨d,rfl⟩:∃ d,j=sa + 1 + d:=⟨j - (sa + 1),by omega⟩
              rw [show sa + 1 + d - sa=d + 1 by omega,show sa + 1 + d - (sa + 1)=d by omega,List.getElem?_cons_succ])
            have HI:=hide (show (j:Int) - ((sa:Int) + 1)=((j - (sa + 1):Nat):Int) by omega)
            clear HT HW
            go_wp2_with (fail)
            go_roundg sb
            case measure=>have:=HZ.out;omega
            case rel=>exact ⟨b,pb,j - (sa + 1),HSZ.out.2.2.symm,rfl,by rw [HI.out],HB2,by rw [HSZ.out.2.2];omega,by rw [HSZ.out.2.2];omega,HX,hb2,HC2⟩
          · obtain rfl:j=sa:=by omega
            have HX:=hide (show atV t.toL i=.tuple #[.agg #[.int .u64 k,.int .i64 n],.bool true] by
              have h3:t.toL[i]? = some (k,n):=by
                rw [← HT.out,HW.out,List.getElem?_append_right (by rw [← LA.out];omega),← LA.out]
                simp
              have h4:i < t.toL.length:=by
                rcases Nat.lt_or_ge i t.toL.length with h | h
                · exact h
                · rw [List.getElem?_eq_none h] at h3;cases h3
              unfold atV
              rw [List.getD_eq_getElem?_getD,h3]
              simp [h4])
            obtain ⟨r0,e0,s1⟩:=HC2.out.facts
            have x0:w2.cell? ⟨w.heap.size,0,none⟩=some (.int .u64 0):=r0 0
            have x1:w2.cell? ⟨w.heap.size,1,none⟩=some (.int .i64 0):=r0 1
            clear r0 HT HW h1 h2
            have z0:(w2.setCell ⟨w.heap.size,0,none⟩ (.int .u64 k)).cell? ⟨w.heap.size,0,none⟩=some (.int .u64 k):=(HC2.out.set_ 0 (.int .u64 k)).cell 0
            have z1:((w2.setCell ⟨w.heap.size,0,none⟩ (.int .u64 k)).setCell ⟨w.heap.size,1,none⟩ (.int .i64 n)).cell? ⟨w.heap.size,1,none⟩=some (.int .i64 n):=(HC2.out.set2 (x:=.int .u64 k) (y:=.int .i64 n)).cell 1
            have Z:=hide (And.intro z0 z1)
            clear z0 z1
            go_wp2_with (fail)
            refine bodyPost_ret (v:=.tuple #[.agg #[.int .u64 k,.int .i64 n],.bool true]) (by simp [results,Tryz.results72,go_sem,Z.out.1,Z.out.2]) rfl ⟨by rw [HX.out],(hb2.setCell (Nat.le_refl _) _).setCell (Nat.le_refl _) _⟩
  · have HX:=hide (show atV t.toL i=.tuple #[.agg #[.int .u64 0,.int .i64 0],.bool false] by
      have h4:¬ i < t.toL.length:=by rw [← t.sz_len];exact hlt
      unfold atV
      rw [List.getD_eq_getElem?_getD,List.getElem?_eq_none (by omega)]
      simp [h4])
    have QL:=fun W (hR:Rep W p t)=>hide (seqLen_ok t p W hR)
    generalize hS:t.sz=s at *
    have HS:=hide hS
    clear hS
    have hd:decide (s ≤ i)=true:=by simp;omega
    have hd0:decide ((i:Int) < 0)=false:=by simp
    have HR:=hide (h.alloc (.cells #[.int .u64 0,.int .i64 0] 145))
    have B0:=hide (Blk.new w 145 #[.int .u64 0,.int .i64 0])
    have hb0:=(Below.refl w.heap.size w).alloc (Nat.le_refl _) (.cells #[.int .u64 0,.int .i64 0] 145)
    go_enter Tryz.func72,Tryz.ntmps72
    go_wp2_with (fail)
    refine (QL _ HR.out).out.mono ?_
    rintro e w1 ⟨rfl,b1⟩
    have hz1:=b1.size
    have HB1:=hide (B0.out.below b1 (Blk.lt B0.out))
    have hb1:=hb0.trans (b1.mono hb0.size)
    clear HR B0 b1 hb0 hz1
    have szl:=hb1.size
    obtain ⟨r0,e0,s1⟩:=HB1.out.facts
    have x0:w1.cell? ⟨w.heap.size,0,none⟩=some (.int .u64 0):=r0 0
    have x1:w1.cell? ⟨w.heap.size,1,none⟩=some (.int .i64 0):=r0 1
    clear r0
    have z0:(w1.setCell ⟨w.heap.size,0,none⟩ (.int .u64 0)).cell? ⟨w.heap.size,0,none⟩=some (.int .u64 0):=(HB1.out.set_ 0 (.int .u64 0)).cell 0
    have z1:((w1.setCell ⟨w.heap.size,0,none⟩ (.int .u64 0)).setCell ⟨w.heap.size,1,none⟩ (.int .i64 0)).cell? ⟨w.heap.size,1,none⟩=some (.int .i64 0):=(HB1.out.set2 (x:=.int .u64 0) (y:=.int .i64 0)).cell 1
    have Z:=hide (And.intro z0 z1)
    clear z0 z1
    go_wp2_with (fail)
    refine bodyPost_ret (v:=.tuple #[.agg #[.int .u64 0,.int .i64 0],.bool false]) (by simp [results,Tryz.results72,go_sem,s1,Z.out.1,Z.out.2]) rfl ⟨by rw [HX.out],?_⟩
    (repeat (first | (with_reducible exact hb1) | (with_reducible refine Below.drew ?_) | ((with_reducible refine Below.setCell ?_ ?hside _);(case hside=>first | omega | (simp;done) | (simp;omega))) | ((with_reducible refine Below.alloc ?_ ?hside _);(case hside=>first | omega | (simp;done) | (simp;omega)))))
end Go.Proofs.YtppblcbgkadldaaGreatDoor
namespace Go.Proofs.YtppblcbgkadldaaGreatDoor
open Go Go.RowKit
set_option maxRecDepth 100000
attribute [local go_sem] Heavy heavyUpon
def RetTr2 (l m:List (Int × Int)) (w:World) (e:Ending) (w':World):Prop:=∃ p q s t,e=.returned (.tuple #[.pointer p,.pointer q]) ∧ Rep w' p s ∧ s.toL=l ∧ Rep w' q t ∧ t.toL=m ∧ Below w.heap.size w w'
set_option maxHeartbeats 1600000 in
theorem split_ok:∀ (t:Tr) (p:Option Addr) (at_:Int) (w:World),Rep w p t → t.sz ≤ 4096 → -5000 ≤ at_ ∧ at_ ≤ 5000 →
    Calls Tryz.prog 105 #[.pointer p,.int .i64 at_] w (RetTr2 (t.toL.take at_.toNat) (t.toL.drop at_.toNat) w):=by
  intro t
  induction t with
  | nil =>
    intro p at_ w h hs hat
    obtain rfl:=h
    have QL:=hide (fun W=>seqLen_ok .nil none W rfl)
    have hz:Tr.nil.sz=0:=rfl
    rw [hz] at QL
    clear hz
    by_cases h0:at_ ≤ 0
    · go_enter Tryz.func105,Tryz.ntmps105
      go_wp2_with (fail)
      go_ret2
      exact ⟨none,none,.nil,.nil,rfl,rfl,by simp [Tr.toL],rfl,by simp [Tr.toL],Below.refl _ _⟩
    · have h1:0 ≤ at_:=by omega
      go_enter Tryz.func105,Tryz.ntmps105
      go_wp2_with (fail)
      refine (QL.out _).mono ?_
      rintro e w1 ⟨rfl,b1⟩
      go_wp2_with (fail)
      go_ret2
      exact ⟨none,none,.nil,.nil,rfl,rfl,by simp [Tr.toL],rfl,by simp [Tr.toL],b1⟩
  | node a k n b iha ihb =>
    intro p at_ w h hs hat
    have QL:=hide (fun W (hR:Rep W p (.node a k n b))=>seqLen_ok _ p W hR)
    have hz:(Tr.node a k n b).sz=a.sz + 1 + b.sz:=rfl
    have HW:=hide (show (Tr.node a k n b).toL=a.toL ++ (k,n) :: b.toL from rfl)
    have la:=a.sz_len
    have lb:=b.sz_len
    have lw:=(Tr.node a k n b).sz_len
    generalize (Tr.node a k n b).toL=LL at *
    by_cases h0:at_ ≤ 0
    · have HT:=hide (show LL.take at_.toNat=[] ∧ LL.drop at_.toNat=LL by
        rw [show at_.toNat=0 by omega];simp)
      have HR:=hide h
      clear la lb lw hz h QL
      go_enter Tryz.func105,Tryz.ntmps105
      go_wp2_with (fail)
      go_ret2
      exact ⟨none,p,.nil,.node a k n b,rfl,rfl,by rw [HT.out.1];rfl,HR.out,by rw [HT.out.2,HW.out];rfl,Below.refl _ _⟩
    · have h1:0 ≤ at_:=by omega
      by_cases h2:((Tr.node a k n b).sz:Int) ≤ at_
      · have HT:=hide (show LL.take at_.toNat=LL ∧ LL.drop at_.toNat=[] by
          rw [List.take_of_length_le (by omega),List.drop_eq_nil_of_le (by omega)];simp)
        have HR:=hide h
        generalize hss:(Tr.node a k n b).sz=s at *
        clear la lb lw hz hss h
        go_enter Tryz.func105,Tryz.ntmps105
        go_wp2_with (fail)
        refine (QL.out _ HR.out).mono ?_
        rintro e w1 ⟨rfl,b1⟩
        go_wp2_with (fail)
        go_ret2
        exact ⟨p,none,.node a k n b,.nil,rfl,HR.out.below b1,by rw [HT.out.1,HW.out];rfl,rfl,by rw [HT.out.2];rfl,b1⟩
      · have QA:=hide (fun p W (hR:Rep W p a)=>seqLen_ok a p W hR)
        have HAR:=hide (fun (t:Tr) q W (h1:Rep W q t) (hl:t.sz ≤ a.sz)=>fun p (h2:Rep W p b)=>around_ok t b q p k n W h1 h2 (by omega))
        have HAL:=hide (fun (t:Tr) q W (h1:Rep W q t) (hl:t.sz ≤ b.sz)=>fun p (h2:Rep W p a)=>around_ok a t p q k n W h2 h1 (by omega))
        have IA:=hide iha
        have IB:=hide ihb
        clear iha ihb
        by_cases h3:at_ ≤ (a.sz:Int)
        · have HT:=hide (show LL.take at_.toNat=a.toL.take at_.toNat ∧ LL.drop at_.toNat=a.toL.drop at_.toNat ++ (k,n) :: b.toL by
            rw [HW.out,List.take_append_of_le_length (by omega),List.drop_append_of_le_length (by omega)];simp)
          have IS:=hide (fun p W (h:Rep W p a)=>IA.out p at_ W h (by omega) hat)
          have IQO:=hide (fun (t:Tr) q W (h1:Rep W q t) (hl:t.toL=a.toL.drop at_.toNat)=>HAR.out t q W h1 (by rw [t.sz_len,hl,List.length_drop,la];omega))
          generalize hss:(Tr.node a k n b).sz=s at *
          generalize hsa:a.sz=sa at *
          generalize hsb:b.sz=sb at *
          have h4:s ≤ 4096:=hs
          have h5:sa ≤ 4096:=by omega
          have h6:decide ((s:Int) ≤ at_)=false:=by simp;omega
          clear la lb lw hz hss hsa hsb HAR HAL IA IB hs h2
          have HR:=hide h
          obtain ⟨g,ga,gb,rfl,glt,gc0,gc1,gc2,gc3,gA,gB⟩:=Rep.opened h
          clear h
          go_enter Tryz.func105,Tryz.ntmps105
          go_wp2_with (fail)
          refine (QL.out _ HR.out).mono ?_
          rintro e w1 ⟨rfl,b1⟩
          (have klt:=Nat.lt_of_lt_of_le glt b1.size;have kc0:=(bcells b1 ⟨g,0,none⟩ glt).trans gc0;have kc1:=(bcells b1 ⟨g,1,none⟩ glt).trans gc1;have kc2:=(bcells b1 ⟨g,2,none⟩ glt).trans gc2;have kc3:=(bcells b1 ⟨g,3,none⟩ glt).trans gc3;have kA:=hide (gA.out.below b1);have kB:=hide (gB.out.below b1);clear glt gc0 gc1 gc2 gc3 gA gB)
          clear HR QL
          go_wp2_with (fail)
          refine (QA.out _ _ kA.out).mono ?_
          rintro e w2 ⟨rfl,b2⟩
          (have glt:=Nat.lt_of_lt_of_le klt b2.size;have gc0:=(bcells b2 ⟨g,0,none⟩ klt).trans kc0;have gc1:=(bcells b2 ⟨g,1,none⟩ klt).trans kc1;have gc2:=(bcells b2 ⟨g,2,none⟩ klt).trans kc2;have gc3:=(bcells b2 ⟨g,3,none⟩ klt).trans kc3;have gA:=hide (kA.out.below b2);have gB:=hide (kB.out.below b2);clear klt kc0 kc1 kc2 kc3 kA kB)
          have b12:=b1.trans (b2.mono b1.size)
          clear QA b1 b2
          go_wp2_with (fail)
          refine (IS.out _ _ gA.out).mono ?_
          rintro e w3 ⟨q1,q2,t1,t2,rfl,R1,T1,R2,T2,b3⟩
          have HR1:=hide R1
          have HT1:=hide T1
          have HR2:=hide R2
          have HT2:=hide T2
          clear R1 T1 R2 T2
          (have klt:=Nat.lt_of_lt_of_le glt b3.size;have kc0:=(bcells b3 ⟨g,0,none⟩ glt).trans gc0;have kc1:=(bcells b3 ⟨g,1,none⟩ glt).trans gc1;have kc2:=(bcells b3 ⟨g,2,none⟩ glt).trans gc2;have kc3:=(bcells b3 ⟨g,3,none⟩ glt).trans gc3;have kA:=hide (gA.out.below b3);have kB:=hide (gB.out.below b3);clear glt gc0 gc1 gc2 gc3 gA gB)
          have b13:=b12.trans (b3.mono b12.size)
          clear b3 b12 IS
          go_wp2_with (fail)
          refine wp_region_lexD [10] (fun w'=>Below (w3).heap.size (w3) w') (by kernel_rfl) (by kernel_rfl) (Below.refl _ _).drew ?_
          (repeat ((with_reducible refine wpLex_step (fun K hK=>?_));go_simp;first | ((with_reducible refine hK _ _ ?_);clear hK K) | ((with_reducible apply Exists.intro);refine ⟨fun w' hw'=>?_,hK _ _ ?_⟩;(· (have hq:=bcells hw';apply valEq;(· (go_simp;first | done | (with_reducible rfl)));(· ((try go_bits);with_reducible rfl))));clear hK K)))
          ((with_reducible refine wpLex_step (fun K hK=>?_));go_simp;refine (IQO.out _ _ _ HR2.out.drew HT2.out _ kB.out.drew).mono ?_;rintro e w4 ⟨q3,t3,rfl,R3,T3,hbx⟩;have g4:=((Below.refl (w3).heap.size w3).drew).trans (hbx.mono ((Below.refl (w3).heap.size w3).drew).size);have HR14:=hide (HR1.out.drew.below hbx);refine ⟨_,rfl,g4,hK _ _ ?_⟩;clear hK K hbx)
          have HR3:=hide R3
          have HT3:=hide T3
          clear R3 T3
          (repeat ((with_reducible refine wpLex_step (fun K hK=>?_));go_simp;first | ((with_reducible refine hK _ _ ?_);clear hK K) | ((with_reducible apply Exists.intro);refine ⟨fun w' hw'=>?_,hK _ _ ?_⟩;(· (have hq:=bcells hw';apply valEq;(· (go_simp;first | done | (with_reducible rfl)));(· ((try go_bits);with_reducible rfl))));clear hK K)))
          refine wpLex_nil (fun _=>?_)
          go_wp2_with (fail)
          go_ret2
          exact ⟨q1,q3,t1,t3,rfl,HR14.out,by rw [HT1.out,HT.out.1],HR3.out,by rw [HT3.out,HT2.out,HT.out.2],b13.trans (g4.mono b13.size)⟩
        · have HN:=hide (show (at_ - (a.sz:Int) - 1).toNat=at_.toNat - (a.sz + 1) by omega)
          have HT:=hide (show LL.take at_.toNat=a.toL ++ (k,n) :: b.toL.take (at_.toNat - (a.sz + 1)) ∧ LL.drop at_.toNat=b.toL.drop (at_.toNat - (a.sz + 1)) by
            obtain ⟨d,hd⟩:∃ d,at_.toNat=a.sz + (d + 1):=⟨at_.toNat - a.sz - 1,by omega⟩
            rw [HW.out,hd,la,List.take_append,List.drop_append,List.take_of_length_le (by omega),List.drop_eq_nil_of_le (by omega),show a.toL.length + (d + 1) - a.toL.length=d + 1 by omega,show a.toL.length + (d + 1) - (a.toL.length + 1)=d by omega];simp)
          have IS:=hide (fun p W (h:Rep W p b)=>IB.out p (at_ - (a.sz:Int) - 1) W h (by omega) (by omega))
          have IQO:=hide (fun (t:Tr) q W (h1:Rep W q t) (hl:t.toL=b.toL.take (at_.toNat - (a.sz + 1)))=>HAL.out t q W h1 (by rw [t.sz_len,hl,List.length_take,lb];omega))
          rw [HN.out] at IS
          generalize hss:(Tr.node a k n b).sz=s at *
          generalize hsa:a.sz=sa at *
          generalize hsb:b.sz=sb at *
          have h4:s ≤ 4096:=hs
          have h5:sa ≤ 4096:=by omega
          have h6:decide ((s:Int) ≤ at_)=false:=by simp;omega
          clear la lb lw hz hss hsa hsb HAR HAL IA IB hs h2 HN
          have HR:=hide h
          obtain ⟨g,ga,gb,rfl,glt,gc0,gc1,gc2,gc3,gA,gB⟩:=Rep.opened h
          clear h
          go_enter Tryz.func105,Tryz.ntmps105
          go_wp2_with (fail)
          refine (QL.out _ HR.out).mono ?_
          rintro e w1 ⟨rfl,b1⟩
          (have klt:=Nat.lt_of_lt_of_le glt b1.size;have kc0:=(bcells b1 ⟨g,0,none⟩ glt).trans gc0;have kc1:=(bcells b1 ⟨g,1,none⟩ glt).trans gc1;have kc2:=(bcells b1 ⟨g,2,none⟩ glt).trans gc2;have kc3:=(bcells b1 ⟨g,3,none⟩ glt).trans gc3;have kA:=hide (gA.out.below b1);have kB:=hide (gB.out.below b1);clear glt gc0 gc1 gc2 gc3 gA gB)
          clear HR QL
          go_wp2_with (fail)
          refine (QA.out _ _ kA.out).mono ?_
          rintro e w2 ⟨rfl,b2⟩
          (have glt:=Nat.lt_of_lt_of_le klt b2.size;have gc0:=(bcells b2 ⟨g,0,none⟩ klt).trans kc0;have gc1:=(bcells b2 ⟨g,1,none⟩ klt).trans kc1;have gc2:=(bcells b2 ⟨g,2,none⟩ klt).trans kc2;have gc3:=(bcells b2 ⟨g,3,none⟩ klt).trans kc3;have gA:=hide (kA.out.below b2);have gB:=hide (kB.out.below b2);clear klt kc0 kc1 kc2 kc3 kA kB)
          have b12:=b1.trans (b2.mono b1.size)
          clear QA b1 b2
          go_wp2_with (fail)
          refine (IS.out _ _ gB.out).mono ?_
          rintro e w3 ⟨q1,q2,t1,t2,rfl,R1,T1,R2,T2,b3⟩
          have HR1:=hide R1
          have HT1:=hide T1
          have HR2:=hide R2
          have HT2:=hide T2
          clear R1 T1 R2 T2
          (have klt:=Nat.lt_of_lt_of_le glt b3.size;have kc0:=(bcells b3 ⟨g,0,none⟩ glt).trans gc0;have kc1:=(bcells b3 ⟨g,1,none⟩ glt).trans gc1;have kc2:=(bcells b3 ⟨g,2,none⟩ glt).trans gc2;have kc3:=(bcells b3 ⟨g,3,none⟩ glt).trans gc3;have kA:=hide (gA.out.below b3);have kB:=hide (gB.out.below b3);clear glt gc0 gc1 gc2 gc3 gA gB)
          have b13:=b12.trans (b3.mono b12.size)
          clear b3 b12 IS
          go_wp2_with (fail)
          refine wp_region_lexD [9] (fun w'=>Below (w3).heap.size (w3) w') (by kernel_rfl) (by kernel_rfl) (Below.refl _ _).drew ?_
          (repeat ((with_reducible refine wpLex_step (fun K hK=>?_));go_simp;first | ((with_reducible refine hK _ _ ?_);clear hK K) | ((with_reducible apply Exists.intro);refine ⟨fun w' hw'=>?_,hK _ _ ?_⟩;(· (have hq:=bcells hw';apply valEq;(· (go_simp;first | done | (with_reducible rfl)));(· ((try go_bits);with_reducible rfl))));clear hK K)))
          ((with_reducible refine wpLex_step (fun K hK=>?_));go_simp;refine (IQO.out _ _ _ HR1.out.drew HT1.out _ kA.out.drew).mono ?_;rintro e w4 ⟨q3,t3,rfl,R3,T3,hbx⟩;have g4:=((Below.refl (w3).heap.size w3).drew).trans (hbx.mono ((Below.refl (w3).heap.size w3).drew).size);have HR24:=hide (HR2.out.drew.below hbx);refine ⟨_,rfl,g4,hK _ _ ?_⟩;clear hK K hbx)
          have HR3:=hide R3
          have HT3:=hide T3
          clear R3 T3
          (repeat ((with_reducible refine wpLex_step (fun K hK=>?_));go_simp;first | ((with_reducible refine hK _ _ ?_);clear hK K) | ((with_reducible apply Exists.intro);refine ⟨fun w' hw'=>?_,hK _ _ ?_⟩;(· (have hq:=bcells hw';apply valEq;(· (go_simp;first | done | (with_reducible rfl)));(· ((try go_bits);with_reducible rfl))));clear hK K)))
          refine wpLex_nil (fun _=>?_)
          go_wp2_with (fail)
          go_ret2
          exact ⟨q3,q2,t3,t2,rfl,HR3.out,by rw [HT3.out,HT1.out,HT.out.1],HR24.out,by rw [HT2.out,HT.out.2],b13.trans (g4.mono b13.size)⟩
end Go.Proofs.YtppblcbgkadldaaGreatDoor
namespace Go.Proofs.YtppblcbgkadldaaGreatDoor
open Go Go.RowKit
set_option maxRecDepth 100000
attribute [local go_sem] Heavy heavyUpon
set_option maxHeartbeats 1600000 in
theorem join_ok (a b:Tr) (pa pb:Option Addr) (w:World) (ha:Rep w pa a) (hb:Rep w pb b) (hs:a.sz + b.sz ≤ 4096) :
    Calls Tryz.prog 106 #[.pointer pa,.pointer pb] w (RetTr (a.toL ++ b.toL) w):=by
  have QA:=hide (fun W (h:Rep W pb b)=>seqAt_ok b pb 0 W h (by omega) (by omega))
  have QS:=hide (fun W (h:Rep W pb b)=>split_ok b pb 1 W h (by omega) (by omega))
  have hQ:((1:Int).toNat)=1:=rfl
  rw [hQ] at QS
  clear hQ
  have lb:=b.sz_len
  cases hb0:b.toL with
  | nil =>
    have e1:atV b.toL 0=.tuple #[.agg #[.int .u64 0,.int .i64 0],.bool false]:=by rw [hb0];rfl
    rw [e1] at QA
    have HA:=hide ha
    clear e1 lb hb0 ha
    go_enter Tryz.func106,Tryz.ntmps106
    go_wp2_with (fail)
    refine (QA.out _ hb).mono ?_
    rintro e w1 ⟨rfl,b1⟩
    go_wp2_with (fail)
    go_ret
    exact ⟨pa,a,rfl,(HA.out.below b1).alloc _,by simp,b1.alloc b1.size _⟩
  | cons x rest =>
    obtain ⟨k,n⟩:=x
    have e1:atV b.toL 0=.tuple #[.agg #[.int .u64 k,.int .i64 n],.bool true]:=by rw [hb0];rfl
    rw [e1] at QA
    rw [hb0] at QS
    simp only [List.take_succ_cons,List.take_zero,List.drop_succ_cons,List.drop_zero] at QS
    have lr:rest.length + 1=b.sz:=by rw [lb,hb0];rfl
    have QR:=hide (fun (t:Tr) q W (h:Rep W pa a) (h':Rep W q t) (ht:t.toL=rest)=>around_ok a t pa q k n W h h' (by rw [t.sz_len,ht];omega))
    clear e1 lb hb0 lr hs
    have HA:=hide ha
    have HB:=hide hb
    clear ha hb
    go_enter Tryz.func106,Tryz.ntmps106
    go_wp2_with (fail)
    refine (QA.out _ HB.out).mono ?_
    rintro e w1 ⟨rfl,b1⟩
    have HA1:=hide ((HA.out.below b1).alloc (.cells #[.int .u64 k,.int .i64 n] 145))
    have HB1:=hide ((HB.out.below b1).alloc (.cells #[.int .u64 k,.int .i64 n] 145))
    have B0:=Blk.new w1 145 #[.int .u64 k,.int .i64 n]
    have hb1:=b1.alloc b1.size (.cells #[.int .u64 k,.int .i64 n] 145)
    clear HA HB b1
    go_wp2_with (fail)
    generalize (w1.alloc (.cells #[.int .u64 k,.int .i64 n] 145))=W0 at *
    refine (QS.out _ HB1.out).mono ?_
    rintro e w2 ⟨q1,q2,t1,t2,rfl,_,_,R2,T2,b2⟩
    have HR2:=hide R2
    have HT2:=hide T2
    have B1:=B0.below b2 B0.lt
    have hb2:=hb1.trans (b2.mono hb1.size)
    have HA2:=hide (HA1.out.below b2)
    clear R2 T2 B0 HB1 HA1 hb1 b2
    obtain ⟨r0,e0,s2⟩:=B1.facts
    have x0:w2.cell? ⟨w1.heap.size,0,none⟩=some (.int .u64 k):=r0 0
    have x1:w2.cell? ⟨w1.heap.size,1,none⟩=some (.int .i64 n):=r0 1
    clear r0 B1
    go_wp2_with (fail)
    refine (QR.out _ _ _ HA2.out HR2.out HT2.out).mono ?_
    rintro e w3 ⟨q,t,rfl,R3,T3,b3⟩
    have HR3:=hide (And.intro R3 T3)
    clear R3 T3
    go_wp2_with (fail)
    go_ret
    exact ⟨q,t,rfl,HR3.out.1,by rw [HR3.out.2,HT2.out],hb2.trans (b3.mono hb2.size)⟩
theorem of_none (A:Option Addr) (c:Nat) (w:World):Calls Tryz.prog 107 #[.slice A 0 c] w (Ret (.pointer none) w):=by
  go_enter Tryz.func107,Tryz.ntmps107
  go_wp2_with (fail)
  go_ret
  exact ⟨rfl,Below.refl _ _⟩
set_option maxHeartbeats 1600000 in
theorem of_one (g:Nat) (k n:Int) (w:World) (hB:Blk w g 145 #[.int .u64 k,.int .i64 n]):Calls Tryz.prog 107 #[.slice (some ⟨g,0,none⟩) 1 1] w (RetTr [(k,n)] w):=by
  have QN:=hide of_none
  have QT:=hide (fun W=>seqTree_ok .nil .nil none none k n W rfl rfl (by decide))
  obtain ⟨r0,e0,s2⟩:=hB.facts
  have x0:w.cell? ⟨g,0,none⟩=some (.int .u64 k):=r0 0
  have x1:w.cell? ⟨g,1,none⟩=some (.int .i64 n):=r0 1
  clear r0 hB
  go_enter Tryz.func107,Tryz.ntmps107
  go_wp2_with (fail)
  refine wp_region_lexD [3,12,13] (fun w'=>Below (w).heap.size (w) w') (by kernel_rfl) (by kernel_rfl) (Below.refl _ _).drew ?_
  (repeat ((with_reducible refine wpLex_step (fun K hK=>?_));go_simp;first | ((with_reducible refine hK _ _ ?_);clear hK K) | ((with_reducible apply Exists.intro);refine ⟨fun w' hw'=>?_,hK _ _ ?_⟩;(· (have hq:=bcells hw';apply valEq;(· (go_simp;first | done | (with_reducible rfl)));(· ((try go_bits);with_reducible rfl))));clear hK K)))
  ((with_reducible refine wpLex_step (fun K hK=>?_));go_simp;refine (QN.out _ _ _).mono ?_;rintro e w1 ⟨rfl,hbx⟩;have g1:=((Below.refl (w).heap.size w).drew).trans (hbx.mono ((Below.refl (w).heap.size w).drew).size);refine ⟨_,rfl,g1,hK _ _ ?_⟩;clear hK K hbx)
  (repeat ((with_reducible refine wpLex_step (fun K hK=>?_));go_simp;first | ((with_reducible refine hK _ _ ?_);clear hK K) | ((with_reducible apply Exists.intro);refine ⟨fun w' hw'=>?_,hK _ _ ?_⟩;(· (have hq:=bcells hw';apply valEq;(· (go_simp;first | done | (with_reducible rfl)));(· ((try go_bits);with_reducible rfl))));clear hK K)))
  ((with_reducible refine wpLex_step (fun K hK=>?_));go_simp;refine (QN.out _ _ _).mono ?_;rintro e w2 ⟨rfl,hbx⟩;have g2:=(g1).trans (hbx.mono (g1).size);refine ⟨_,rfl,g2,hK _ _ ?_⟩;clear hK K hbx)
  (repeat ((with_reducible refine wpLex_step (fun K hK=>?_));go_simp;first | ((with_reducible refine hK _ _ ?_);clear hK K) | ((with_reducible apply Exists.intro);refine ⟨fun w' hw'=>?_,hK _ _ ?_⟩;(· (have hq:=bcells hw';apply valEq;(· (go_simp;first | done | (with_reducible rfl)));(· ((try go_bits);with_reducible rfl))));clear hK K)))
  ((with_reducible refine wpLex_step (fun K hK=>?_));go_simp;refine (QT.out _).mono ?_;rintro e w3 ⟨q,t,rfl,R3,T3,hbx⟩;have g3:=(g2).trans (hbx.mono (g2).size);refine ⟨_,rfl,g3,hK _ _ ?_⟩;clear hK K hbx)
  have HR3:=hide (And.intro R3 T3)
  clear R3 T3
  (repeat ((with_reducible refine wpLex_step (fun K hK=>?_));go_simp;first | ((with_reducible refine hK _ _ ?_);clear hK K) | ((with_reducible apply Exists.intro);refine ⟨fun w' hw'=>?_,hK _ _ ?_⟩;(· (have hq:=bcells hw';apply valEq;(· (go_simp;first | done | (with_reducible rfl)));(· ((try go_bits);with_reducible rfl))));clear hK K)))
  refine wpLex_nil (fun _=>?_)
  go_wp2_with (fail)
  go_ret
  exact ⟨q,t,rfl,HR3.out.1,by rw [HR3.out.2];rfl,g3⟩
end Go.Proofs.YtppblcbgkadldaaGreatDoor
