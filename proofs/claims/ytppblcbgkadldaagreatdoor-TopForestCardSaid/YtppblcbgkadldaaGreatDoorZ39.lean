/-
  A part of the proof that the law TopForest returns true for every input and leaves its arguments as they were: ChgC, ChgD, LawA, LawS, Cmds.
-/
import Derived.Test.YtppblcbgkadldaaGreatDoorZ27
import Derived.Test.YtppblcbgkadldaaGreatDoorZ32
import Derived.Test.YtppblcbgkadldaaGreatDoorZ35
import Derived.Test.YtppblcbgkadldaaGreatDoorZ36
import Derived.Test.YtppblcbgkadldaaGreatDoorZ38
set_option linter.all false
namespace Go.Proofs.YtppblcbgkadldaaGreatDoor
open Go Go.RowKit
set_option maxRecDepth 100000
attribute [local go_sem] Heavy heavyUpon
attribute [local go_sem ↓] usl_hi usl_lo
section
variable {w w':World} {g:Nat} {ks:List Int} {ps:List (Int × Int)} {A:Option Addr} {m c:Nat} {B:Option Addr} {b d:Nat}
set_option maxHeartbeats 12800000 in
theorem change3_ok (N:Nat) (a y:Int) (w:World) (hM:MM w ks ps A m c B b d) (hm:m ≤ 100) (hbb:b ≤ 100) :
    Calls Tryz.prog 8 #[mV N A m c B b d,.int .i64 3,.int .u64 a,.int .u64 y] w (RetM N (chM N ks ps 3 a y) w):=by
  (generalize hC:chM N ks ps 3 a y=rr;rw [chM_3] at hC;have HC:=hide hC;clear hC;obtain ⟨ie,hie,hze,he1,he2⟩:=info_parts u64_info;have HKL:=hide (show ks.length=m by have:=hM.k.len;simpa using this);have HPL:=hide (show ps.length=b from hM.p.length);have HM:=hide (hM.off (.cells #[.int .i64 N,.slice A m c,.slice B b d] 42) (.cells #[.int .i64 0,.slice none 0 0,.slice none 0 0] 42));have B0:=hide ((Blk.new w 42 #[.int .i64 N,.slice A m c,.slice B b d]).alloc (.cells #[.int .i64 0,.slice none 0 0,.slice none 0 0] 42));have B1:=Blk.new (w.alloc (.cells #[.int .i64 N,.slice A m c,.slice B b d] 42)) 42 #[.int .i64 0,.slice none 0 0,.slice none 0 0];rw [heap_alloc_size] at B1;replace B1:=hide B1;have hb:=((Below.refl w.heap.size w).alloc (Nat.le_refl _) (.cells #[.int .i64 N,.slice A m c,.slice B b d] 42)).alloc (by simp) (.cells #[.int .i64 0,.slice none 0 0,.slice none 0 0] 42);unfold mV;clear hM;go_enter Tryz.func8,Tryz.ntmps8;go_wp2_with (fail);generalize (w.alloc (.cells #[.int .i64 N,.slice A m c,.slice B b d] 42)).alloc (.cells #[.int .i64 0,.slice none 0 0,.slice none 0 0] 42)=W0 at *)
  obtain ⟨ip,hip,hpz,hp1,hp2⟩:=info_parts pair2_info
  refine (find_ok ks a _ _ _ _ HM.out.mm.k).mono ?_
  rintro e w1 ⟨rfl,b1⟩
  (replace hb:=hb.trans (b1.mono hb.size);replace HM:=hide (HM.out.below b1);replace B0:=hide (B0.out.below b1 B0.out.lt);replace B1:=hide (B1.out.below b1 B1.out.lt);clear b1)
  generalize idxP (keyP a) ks=r at *
  by_cases hr:r < 0
  · obtain rfl:rr=(ks,ps,7):=by rw [← HC.out,if_pos (.inl hr)]
    ((obtain ⟨x0,x1,x2,e0,s0⟩:=B0.out.f3;obtain ⟨q0,q1,q2,eb,sb⟩:=B1.out.f3);have Z:=hide (three_z B1.out (.int .i64 N) (.slice A m c) (.slice B b d));go_wp2_with (fail);refine bodyPost_ret (v:=.tuple #[mV N A m c B b d,.int .i64 7]) (by simp [results,Tryz.results8,go_sem,mV,Z.out.1,Z.out.2.1,Z.out.2.2]) rfl ?_;exact ⟨A,m,c,B,b,d,rfl,(HM.out.set3 _ _ _).mm,below_set3 hb (by omega) _ _ _⟩)
  · have HR:=hide hr
    (obtain ⟨x0,x1,x2,e0,s0⟩:=B0.out.f3;obtain ⟨q0,q1,q2,eb,sb⟩:=B1.out.f3)
    go_wp2_with (fail)
    clear x0 x1 x2 q0 q1 q2 e0 s0 eb sb
    refine (find_ok ks y _ _ _ _ HM.out.mm.k).mono ?_
    rintro e w2 ⟨rfl,b2⟩
    (replace hb:=hb.trans (b2.mono hb.size);replace HM:=hide (HM.out.below b2);replace B0:=hide (B0.out.below b2 B0.out.lt);replace B1:=hide (B1.out.below b2 B1.out.lt);clear b2)
    generalize idxP (keyP y) ks=s at *
    by_cases hs:s < 0
    · obtain rfl:rr=(ks,ps,7):=by rw [← HC.out,if_pos (.inr hs)]
      ((obtain ⟨x0,x1,x2,e0,s0⟩:=B0.out.f3;obtain ⟨q0,q1,q2,eb,sb⟩:=B1.out.f3);have Z:=hide (three_z B1.out (.int .i64 N) (.slice A m c) (.slice B b d));go_wp2_with (fail);refine bodyPost_ret (v:=.tuple #[mV N A m c B b d,.int .i64 7]) (by simp [results,Tryz.results8,go_sem,mV,Z.out.1,Z.out.2.1,Z.out.2.2]) rfl ?_;exact ⟨A,m,c,B,b,d,rfl,(HM.out.set3 _ _ _).mm,below_set3 hb (by omega) _ _ _⟩)
    · have HSS:=hide hs
      go_wp2_with (fail)
      refine (pair_ok a y _).mono ?_
      rintro e w3 ⟨rfl,b3⟩
      (replace hb:=hb.trans (b3.mono hb.size);replace HM:=hide (HM.out.below b3);replace B0:=hide (B0.out.below b3 B0.out.lt);replace B1:=hide (B1.out.below b3 B1.out.lt);clear b3)
      have HPE:=hide (show kp a y=((kp a y).1,(kp a y).2) from rfl)
      generalize hp0:(kp a y).1=p0 at *
      generalize hp1':(kp a y).2=p1 at *
      clear hp0 hp1'
      have BP:=hide (Blk.new w3 51 #[.int .u64 p0,.int .u64 p1])
      have hPs:=hb.size
      ((obtain ⟨x0,x1,x2,e0,s0⟩:=B0.out.f3;obtain ⟨q0,q1,q2,eb,sb⟩:=B1.out.f3);replace hb:=hb.alloc hb.size (.cells #[.int .u64 (p0),.int .u64 (p1)] 51);replace HM:=hide (HM.out.alloc (.cells #[.int .u64 (p0),.int .u64 (p1)] 51));have hnep:¬ (w.heap.size=w3.heap.size):=(by omega);replace B0:=hide (B0.out.alloc (.cells #[.int .u64 (p0),.int .u64 (p1)] 51));replace B1:=hide (B1.out.alloc (.cells #[.int .u64 (p0),.int .u64 (p1)] 51));go_wp2_with (fail);clear x0 x1 x2 q0 q1 q2 e0 s0 eb sb hnep;generalize w3.alloc (.cells #[.int .u64 (p0),.int .u64 (p1)] 51)=w4 at *)
      have HPC:=hide (show idxP (pairP (kp a y)) ps=idxP (pairP (p0,p1)) ps by rw [← HPE.out])
      rw [HPC.out,HPE.out] at HC
      refine (at_ok ps p0 p1 _ _ _ _ HM.out.mm.p).mono ?_
      rintro e w5 ⟨rfl,b5⟩
      replace BP:=hide (BP.out.below b5 BP.out.lt)
      (replace hb:=hb.trans (b5.mono hb.size);replace HM:=hide (HM.out.below b5);replace B0:=hide (B0.out.below b5 B0.out.lt);replace B1:=hide (B1.out.below b5 B1.out.lt);clear b5)
      generalize idxP (pairP (p0,p1)) ps=t at *
      have HN7:=hide (show ¬ (r < 0 ∨ s < 0) from fun h=>by have h1:=HR.out;have h2:=HSS.out;omega)
      by_cases hay:a=y
      · obtain rfl:rr=(ks,ps,8):=by rw [← HC.out,if_neg HN7.out,if_pos hay]
        subst hay
        have hd:(a == a)=true:=by simp
        ((obtain ⟨x0,x1,x2,e0,s0⟩:=B0.out.f3;obtain ⟨q0,q1,q2,eb,sb⟩:=B1.out.f3);have Z:=hide (three_z B1.out (.int .i64 N) (.slice A m c) (.slice B b d));go_wp2_with (fail);refine bodyPost_ret (v:=.tuple #[mV N A m c B b d,.int .i64 8]) (by simp [results,Tryz.results8,go_sem,mV,Z.out.1,Z.out.2.1,Z.out.2.2]) rfl ?_;exact ⟨A,m,c,B,b,d,rfl,(HM.out.set3 _ _ _).mm,below_set3 hb (by omega) _ _ _⟩)
      · have hd:(a == y)=false:=by simpa using hay
        by_cases ht:0 ≤ t
        · obtain rfl:rr=(ks,ps,4):=by rw [← HC.out,if_neg HN7.out,if_neg hay,if_pos ht]
          ((obtain ⟨x0,x1,x2,e0,s0⟩:=B0.out.f3;obtain ⟨q0,q1,q2,eb,sb⟩:=B1.out.f3);have Z:=hide (three_z B1.out (.int .i64 N) (.slice A m c) (.slice B b d));go_wp2_with (fail);refine bodyPost_ret (v:=.tuple #[mV N A m c B b d,.int .i64 4]) (by simp [results,Tryz.results8,go_sem,mV,Z.out.1,Z.out.2.1,Z.out.2.2]) rfl ?_;exact ⟨A,m,c,B,b,d,rfl,(HM.out.set3 _ _ _).mm,below_set3 hb (by omega) _ _ _⟩)
        · obtain rfl:rr=(ks,ps ++ [(p0,p1)],0):=by rw [← HC.out,if_neg HN7.out,if_neg hay,if_neg ht]
          (obtain ⟨x0,x1,x2,e0,s0⟩:=B0.out.f3;obtain ⟨q0,q1,q2,eb,sb⟩:=B1.out.f3)
          have O0:=hide (World.ownsRow_nil w5 w5.heap.size 51 2)
          have N0:=hide HM.out.mm.p
          (go_wp2_with (at_builtin;refine stopAt ?_);refine stopGo ?_)
          refine wpList_append_sl _ rfl (.tmp 122) (.tmp 124) _ rfl w5.heap.size 51 ip _ 2 16 Tryz.underlying40 hip hpz hp1 hp2 rfl (by omega) (.slice none 0 0) 0 _ rfl O0.out [] _ b d _ rfl N0.out hcells_one (by simp only [maxLen];omega) (by omega) (Nat.le_refl _) ?_
          intro A2 c2 w6 own2 g2 _
          simp only [Nat.zero_add,List.nil_append] at own2
          have G2:=below_grown O0.out g2 (Nat.le_refl _) (Nat.le_refl _)
          have O2:=hide own2
          clear own2 g2 O0 N0 x0 x1 x2 q0 q1 q2 e0 s0 eb sb
          (obtain ⟨x0,x1,x2,e0,s0⟩:=(B0.out.below G2 B0.out.lt).f3)
          obtain ⟨rp,ep,sp⟩:=(BP.out.below G2 BP.out.lt).facts
          have z0:w6.cell? ⟨w3.heap.size,0,none⟩=some (.int .u64 p0):=rp 0
          have z1:w6.cell? ⟨w3.heap.size,1,none⟩=some (.int .u64 p1):=rp 1
          clear rp
          go_wp2_with (fail)
          (have hl0:w.heap.size < w.heap.size + 1:=Nat.lt_succ_self _;have hB8:w.heap.size + 1 ≤ (w6).heap.size:=Nat.le_trans (Nat.le_of_lt B1.out.lt) (G2).size;refine wp_region_lexD [5,6,7,9] (fun w'=>Below (w.heap.size + 1) (w6) w') (by kernel_rfl) (by kernel_rfl) (Below.refl _ _).drew ?_;(repeat ((with_reducible refine wpLex_step (fun K hK=>?_));go_simp;first | ((with_reducible refine hK _ _ ?_);clear hK K) | ((with_reducible apply Exists.intro);refine ⟨fun w' hw'=>?_,hK _ _ ?_⟩;(· (have hq:=bcells hw';apply valEq;(· (go_simp;first | done | (with_reducible rfl)));(· ((try go_bits);with_reducible rfl))));clear hK K)));have g0:=(Below.refl (w.heap.size + 1) (w6)).drew)
          ((with_reducible refine wpLex_step (fun K hK=>?_));go_simp;first | (refine hK _ _ ?_;clear hK K) | (refine ⟨?_,hK _ _ ?_⟩;(· (exact g0));clear hK K))
          have gA:=g0.alloc hB8 (.cells #[.int .u64 (p0),.int .u64 (p1)] 51)
          have O3:=hide (show ((w6.alloc (.cells #[.int .u64 (p0),.int .u64 (p1)] 51)).drew).ownsRow _ _ _ _ _ _ from O2.out.alloc (.cells #[.int .u64 (p0),.int .u64 (p1)] 51))
          have N3:=hide (Sl.drew (p1_new w6 p0 p1))
          have G3:=(G2.alloc G2.size (.cells #[.int .u64 (p0),.int .u64 (p1)] 51)).drew
          ((with_reducible refine wpLex_step (fun K hK=>?_));go_simp;refine ⟨gA,hK _ _ ?_⟩;clear hK K)
          have gA2:Below (w.heap.size + 1) w6 (w6.alloc (.cells #[.int .u64 (p0),.int .u64 (p1)] 51)).drew:=gA
          clear z0 z1 ep sp
          generalize (w6.alloc (.cells #[.int .u64 (p0),.int .u64 (p1)] 51)).drew=w7 at *
          refine wpLex_append_sl _ rfl (by rfl) (.tmp 130) (.tmp 132) _ rfl w5.heap.size 51 ip _ 2 16 Tryz.underlying40 hip hpz hp1 hp2 rfl (by omega) (.slice A2 b c2) b _ rfl O3.out [] _ 1 1 _ rfl N3.out hcells_one (by simp only [maxLen];omega) (by omega) G3.size ?_
          intro A4 c4 w8 own4 g4 _
          have G4:=below_grown O3.out g4 (Nat.le_refl _) G3.size
          have gB:=gA2.trans (G4.mono (Nat.le_of_lt B1.out.lt))
          replace G4:=G3.trans G4
          refine ⟨gB,?_⟩
          rw [← hcells_app] at own4
          have hlt1:=B1.out.lt
          have S4:=hide (Sl.of_own own4 (M:=[w.heap.size + 1]) (fun kk hkk=>by rw [List.mem_singleton.1 hkk];exact hlt1))
          (replace hb:=hb.trans (G4.mono hb.size);replace HM:=hide (HM.out.below G4);replace B0:=hide (B0.out.below G4 B0.out.lt);replace B1:=hide (B1.out.below G4 B1.out.lt);clear G4)
          clear own4 g4 O2 O3 N3 G2 G3 gA gA2 g0 hlt1
          (obtain ⟨q0,q1,q2,eb,sb⟩:=B1.out.f3;(repeat ((with_reducible refine wpLex_step (fun K hK=>?_));go_simp;first | ((with_reducible refine hK _ _ ?_);clear hK K) | ((with_reducible apply Exists.intro);refine ⟨fun w' hw'=>?_,hK _ _ ?_⟩;(· (have hq:=bcells hw';apply valEq;(· (go_simp;first | done | (with_reducible rfl)));(· ((try go_bits);with_reducible rfl))));clear hK K)));((with_reducible refine wpLex_step (fun K hK=>?_));go_simp;refine ⟨below_set3 gB (Nat.le_refl _) _ _ _,hK _ _ ?_⟩;clear hK K);clear q0 q1 q2 eb sb x0 x1 x2 e0 s0;(repeat ((with_reducible refine wpLex_step (fun K hK=>?_));go_simp;first | ((with_reducible refine hK _ _ ?_);clear hK K) | ((with_reducible apply Exists.intro);refine ⟨fun w' hw'=>?_,hK _ _ ?_⟩;(· (have hq:=bcells hw';apply valEq;(· (go_simp;first | done | (with_reducible rfl)));(· ((try go_bits);with_reducible rfl))));clear hK K)));refine wpLex_nil (fun _=>?_);have BW:=Blk.set3 (x:=.int .i64 N) (y:=.slice A m c) (z:=.slice A4 (b + 1) c4) B1.out;have MW:=hide (MO.set3 (MO.mk HM.out.k S4.out) (.int .i64 N) (.slice A m c) (.slice A4 (b + 1) c4));have hbw:=below_set3 hb (show w.heap.size ≤ w.heap.size + 1 by omega) (.int .i64 N) (.slice A m c) (.slice A4 (b + 1) c4);clear B0 B1 HM hb;generalize (((w8.setCell ⟨w.heap.size + 1,0,none⟩ (Value.int .i64 N)).setCell ⟨w.heap.size + 1,1,none⟩ (Value.slice A m c)).setCell ⟨w.heap.size + 1,2,none⟩ (Value.slice A4 (b + 1) c4))=W9 at *;obtain ⟨q0,q1,q2,eb,sb⟩:=BW.f3;go_wp2_with (fail);refine bodyPost_ret (v:=.tuple #[mV N A m c A4 (b + 1) c4,.int .i64 0]) (by simp [results,Tryz.results8,go_sem,mV,q0,q1,q2]) rfl ?_;exact ⟨_,_,_,_,_,_,rfl,MW.out.mm,hbw⟩)
end
end Go.Proofs.YtppblcbgkadldaaGreatDoor
namespace Go.Proofs.YtppblcbgkadldaaGreatDoor
open Go Go.RowKit
set_option maxRecDepth 100000
attribute [local go_sem] Heavy heavyUpon
attribute [local go_sem ↓] usl_hi usl_lo psl_hi psl_lo
section
variable {w w':World} {g:Nat} {ks:List Int} {ps:List (Int × Int)} {A:Option Addr} {m c:Nat} {B:Option Addr} {b d:Nat}
set_option maxHeartbeats 12800000 in
theorem change4_ok (N:Nat) (a y:Int) (w:World) (hM:MM w ks ps A m c B b d) (hm:m ≤ 100) (hbb:b ≤ 100) :
    Calls Tryz.prog 8 #[mV N A m c B b d,.int .i64 4,.int .u64 a,.int .u64 y] w (RetM N (chM N ks ps 4 a y) w):=by
  (generalize hC:chM N ks ps 4 a y=rr;rw [chM_4] at hC;have HC:=hide hC;clear hC;obtain ⟨ie,hie,hze,he1,he2⟩:=info_parts u64_info;have HKL:=hide (show ks.length=m by have:=hM.k.len;simpa using this);have HPL:=hide (show ps.length=b from hM.p.length);have HM:=hide (hM.off (.cells #[.int .i64 N,.slice A m c,.slice B b d] 42) (.cells #[.int .i64 0,.slice none 0 0,.slice none 0 0] 42));have B0:=hide ((Blk.new w 42 #[.int .i64 N,.slice A m c,.slice B b d]).alloc (.cells #[.int .i64 0,.slice none 0 0,.slice none 0 0] 42));have B1:=Blk.new (w.alloc (.cells #[.int .i64 N,.slice A m c,.slice B b d] 42)) 42 #[.int .i64 0,.slice none 0 0,.slice none 0 0];rw [heap_alloc_size] at B1;replace B1:=hide B1;have hb:=((Below.refl w.heap.size w).alloc (Nat.le_refl _) (.cells #[.int .i64 N,.slice A m c,.slice B b d] 42)).alloc (by simp) (.cells #[.int .i64 0,.slice none 0 0,.slice none 0 0] 42);unfold mV;clear hM;go_enter Tryz.func8,Tryz.ntmps8;go_wp2_with (fail);generalize (w.alloc (.cells #[.int .i64 N,.slice A m c,.slice B b d] 42)).alloc (.cells #[.int .i64 0,.slice none 0 0,.slice none 0 0] 42)=W0 at *)
  obtain ⟨ip,hip,hpz,hp1,hp2⟩:=info_parts pair2_info
  refine (find_ok ks a _ _ _ _ HM.out.mm.k).mono ?_
  rintro e w1 ⟨rfl,b1⟩
  (replace hb:=hb.trans (b1.mono hb.size);replace HM:=hide (HM.out.below b1);replace B0:=hide (B0.out.below b1 B0.out.lt);replace B1:=hide (B1.out.below b1 B1.out.lt);clear b1)
  generalize idxP (keyP a) ks=r at *
  by_cases hr:r < 0
  · obtain rfl:rr=(ks,ps,7):=by rw [← HC.out,if_pos (.inl hr)]
    ((obtain ⟨x0,x1,x2,e0,s0⟩:=B0.out.f3;obtain ⟨q0,q1,q2,eb,sb⟩:=B1.out.f3);have Z:=hide (three_z B1.out (.int .i64 N) (.slice A m c) (.slice B b d));go_wp2_with (fail);refine bodyPost_ret (v:=.tuple #[mV N A m c B b d,.int .i64 7]) (by simp [results,Tryz.results8,go_sem,mV,Z.out.1,Z.out.2.1,Z.out.2.2]) rfl ?_;exact ⟨A,m,c,B,b,d,rfl,(HM.out.set3 _ _ _).mm,below_set3 hb (by omega) _ _ _⟩)
  · have HR:=hide hr
    (obtain ⟨x0,x1,x2,e0,s0⟩:=B0.out.f3;obtain ⟨q0,q1,q2,eb,sb⟩:=B1.out.f3)
    go_wp2_with (fail)
    clear x0 x1 x2 q0 q1 q2 e0 s0 eb sb
    refine (find_ok ks y _ _ _ _ HM.out.mm.k).mono ?_
    rintro e w2 ⟨rfl,b2⟩
    (replace hb:=hb.trans (b2.mono hb.size);replace HM:=hide (HM.out.below b2);replace B0:=hide (B0.out.below b2 B0.out.lt);replace B1:=hide (B1.out.below b2 B1.out.lt);clear b2)
    generalize idxP (keyP y) ks=s at *
    by_cases hs:s < 0
    · obtain rfl:rr=(ks,ps,7):=by rw [← HC.out,if_pos (.inr hs)]
      ((obtain ⟨x0,x1,x2,e0,s0⟩:=B0.out.f3;obtain ⟨q0,q1,q2,eb,sb⟩:=B1.out.f3);have Z:=hide (three_z B1.out (.int .i64 N) (.slice A m c) (.slice B b d));go_wp2_with (fail);refine bodyPost_ret (v:=.tuple #[mV N A m c B b d,.int .i64 7]) (by simp [results,Tryz.results8,go_sem,mV,Z.out.1,Z.out.2.1,Z.out.2.2]) rfl ?_;exact ⟨A,m,c,B,b,d,rfl,(HM.out.set3 _ _ _).mm,below_set3 hb (by omega) _ _ _⟩)
    · have HSS:=hide hs
      go_wp2_with (fail)
      refine (pair_ok a y _).mono ?_
      rintro e w3 ⟨rfl,b3⟩
      (replace hb:=hb.trans (b3.mono hb.size);replace HM:=hide (HM.out.below b3);replace B0:=hide (B0.out.below b3 B0.out.lt);replace B1:=hide (B1.out.below b3 B1.out.lt);clear b3)
      have HPE:=hide (show kp a y=((kp a y).1,(kp a y).2) from rfl)
      generalize hp0:(kp a y).1=p0 at *
      generalize hp1':(kp a y).2=p1 at *
      clear hp0 hp1'
      have BP:=hide (Blk.new w3 51 #[.int .u64 p0,.int .u64 p1])
      have hPs:=hb.size
      ((obtain ⟨x0,x1,x2,e0,s0⟩:=B0.out.f3;obtain ⟨q0,q1,q2,eb,sb⟩:=B1.out.f3);replace hb:=hb.alloc hb.size (.cells #[.int .u64 (p0),.int .u64 (p1)] 51);replace HM:=hide (HM.out.alloc (.cells #[.int .u64 (p0),.int .u64 (p1)] 51));have hnep:¬ (w.heap.size=w3.heap.size):=(by omega);replace B0:=hide (B0.out.alloc (.cells #[.int .u64 (p0),.int .u64 (p1)] 51));replace B1:=hide (B1.out.alloc (.cells #[.int .u64 (p0),.int .u64 (p1)] 51));go_wp2_with (fail);clear x0 x1 x2 q0 q1 q2 e0 s0 eb sb hnep;generalize w3.alloc (.cells #[.int .u64 (p0),.int .u64 (p1)] 51)=w4 at *)
      have HPC:=hide (show idxP (pairP (kp a y)) ps=idxP (pairP (p0,p1)) ps by rw [← HPE.out])
      rw [HPC.out] at HC
      refine (at_ok ps p0 p1 _ _ _ _ HM.out.mm.p).mono ?_
      rintro e w5 ⟨rfl,b5⟩
      replace BP:=hide (BP.out.below b5 BP.out.lt)
      (replace hb:=hb.trans (b5.mono hb.size);replace HM:=hide (HM.out.below b5);replace B0:=hide (B0.out.below b5 B0.out.lt);replace B1:=hide (B1.out.below b5 B1.out.lt);clear b5)
      have HAT:=hide (fun h=>idxP_at (p:=pairP (p0,p1)) (l:=ps) h)
      generalize idxP (pairP (p0,p1)) ps=t at *
      have HN7:=hide (show ¬ (r < 0 ∨ s < 0) from fun h=>by have h1:=HR.out;have h2:=HSS.out;omega)
      by_cases ht:t < 0
      · obtain rfl:rr=(ks,ps,9):=by rw [← HC.out,if_neg HN7.out,if_pos ht]
        ((obtain ⟨x0,x1,x2,e0,s0⟩:=B0.out.f3;obtain ⟨q0,q1,q2,eb,sb⟩:=B1.out.f3);have Z:=hide (three_z B1.out (.int .i64 N) (.slice A m c) (.slice B b d));go_wp2_with (fail);refine bodyPost_ret (v:=.tuple #[mV N A m c B b d,.int .i64 9]) (by simp [results,Tryz.results8,go_sem,mV,Z.out.1,Z.out.2.1,Z.out.2.2]) rfl ?_;exact ⟨A,m,c,B,b,d,rfl,(HM.out.set3 _ _ _).mm,below_set3 hb (by omega) _ _ _⟩)
      · obtain ⟨i,rfl,hi,_⟩:=HAT.out (by omega)
        have him:i < b:=by have:=HPL.out;omega
        clear HAT
        obtain rfl:rr=(ks,ps.take i ++ ps.drop (i + 1),0):=by rw [← HC.out,if_neg HN7.out,if_neg ht];rfl
        (obtain ⟨x0,x1,x2,e0,s0⟩:=B0.out.f3;obtain ⟨q0,q1,q2,eb,sb⟩:=B1.out.f3)
        have O0:=hide (World.ownsRow_nil w5 w5.heap.size 51 2)
        have N0:=hide (pr_head HM.out.p (Nat.le_of_lt him))
        have hcc:=HM.out.p.le
        have hcc2:i ≤ d:=by omega
        (go_wp2_with (at_builtin;refine stopAt ?_);refine stopGo ?_)
        refine wpList_append_sl _ rfl (.tmp 97) (.tmp 101) _ rfl w5.heap.size 51 ip _ 2 16 Tryz.underlying40 hip hpz hp1 hp2 rfl (by omega) (.slice none 0 0) 0 _ rfl O0.out [] _ i d _ rfl N0.out hcells_one (by simp only [maxLen];omega) (by omega) (Nat.le_refl _) ?_
        intro A2 c2 w6 own2 g2 _
        simp only [Nat.zero_add,List.nil_append] at own2
        have G2:=below_grown O0.out g2 (Nat.le_refl _) (Nat.le_refl _)
        have O2:=hide own2
        clear own2 g2 O0 N0 x0 x1 x2 q0 q1 q2 e0 s0 eb sb
        (obtain ⟨x0,x1,x2,e0,s0⟩:=(B0.out.below G2 B0.out.lt).f3)
        have i0:(0:Int) ≤ (i:Int) + 1:=by omega
        have i1:(i:Int) + 1 ≤ (b:Int):=by omega
        have i2:((i:Int) + 1).toNat=i + 1:=by omega
        go_wp2_with (fail)
        (have hl0:w.heap.size < w.heap.size + 1:=Nat.lt_succ_self _;have hB8:w.heap.size + 1 ≤ (w6).heap.size:=Nat.le_trans (Nat.le_of_lt B1.out.lt) (G2).size;refine wp_region_lexD [10,12] (fun w'=>Below (w.heap.size + 1) (w6) w') (by kernel_rfl) (by kernel_rfl) (Below.refl _ _).drew ?_;(repeat ((with_reducible refine wpLex_step (fun K hK=>?_));go_simp;first | ((with_reducible refine hK _ _ ?_);clear hK K) | ((with_reducible apply Exists.intro);refine ⟨fun w' hw'=>?_,hK _ _ ?_⟩;(· (have hq:=bcells hw';apply valEq;(· (go_simp;first | done | (with_reducible rfl)));(· ((try go_bits);with_reducible rfl))));clear hK K)));have g0:=(Below.refl (w.heap.size + 1) (w6)).drew)
        have O3:=hide (show w6.drew.ownsRow _ _ _ _ _ _ from O2.out)
        have G3:=G2.drew
        have N3:=hide (pr_tail (Sl.below HM.out.p G3) (show i + 1 ≤ b by omega))
        generalize w6.drew=w7 at *
        refine wpLex_append_sl _ rfl (by rfl) (.tmp 107) (.tmp 112) _ rfl w5.heap.size 51 ip _ 2 16 Tryz.underlying40 hip hpz hp1 hp2 rfl (by omega) (.slice A2 i c2) i _ rfl O3.out [] _ (b - (i + 1)) _ _ rfl N3.out hcells_one (by simp only [maxLen];omega) (by omega) G3.size ?_
        intro A4 c4 w8 own4 g4 _
        have G4:=below_grown O3.out g4 (Nat.le_refl _) G3.size
        have gB:=g0.trans (G4.mono (Nat.le_of_lt B1.out.lt))
        replace G4:=G3.trans G4
        refine ⟨gB,?_⟩
        rw [← hcells_app] at own4
        have hlt1:=B1.out.lt
        have S4:=hide (Sl.of_own own4 (M:=[w.heap.size + 1]) (fun kk hkk=>by rw [List.mem_singleton.1 hkk];exact hlt1))
        (replace hb:=hb.trans (G4.mono hb.size);replace HM:=hide (HM.out.below G4);replace B0:=hide (B0.out.below G4 B0.out.lt);replace B1:=hide (B1.out.below G4 B1.out.lt);clear G4)
        clear own4 g4 O2 O3 N3 G2 G3 g0 hlt1
        (obtain ⟨q0,q1,q2,eb,sb⟩:=B1.out.f3;(repeat ((with_reducible refine wpLex_step (fun K hK=>?_));go_simp;first | ((with_reducible refine hK _ _ ?_);clear hK K) | ((with_reducible apply Exists.intro);refine ⟨fun w' hw'=>?_,hK _ _ ?_⟩;(· (have hq:=bcells hw';apply valEq;(· (go_simp;first | done | (with_reducible rfl)));(· ((try go_bits);with_reducible rfl))));clear hK K)));((with_reducible refine wpLex_step (fun K hK=>?_));go_simp;refine ⟨below_set3 gB (Nat.le_refl _) _ _ _,hK _ _ ?_⟩;clear hK K);clear q0 q1 q2 eb sb x0 x1 x2 e0 s0;(repeat ((with_reducible refine wpLex_step (fun K hK=>?_));go_simp;first | ((with_reducible refine hK _ _ ?_);clear hK K) | ((with_reducible apply Exists.intro);refine ⟨fun w' hw'=>?_,hK _ _ ?_⟩;(· (have hq:=bcells hw';apply valEq;(· (go_simp;first | done | (with_reducible rfl)));(· ((try go_bits);with_reducible rfl))));clear hK K)));refine wpLex_nil (fun _=>?_);have BW:=Blk.set3 (x:=.int .i64 N) (y:=.slice A m c) (z:=.slice A4 (i + (b - (i + 1))) c4) B1.out;have MW:=hide (MO.set3 (MO.mk HM.out.k S4.out) (.int .i64 N) (.slice A m c) (.slice A4 (i + (b - (i + 1))) c4));have hbw:=below_set3 hb (show w.heap.size ≤ w.heap.size + 1 by omega) (.int .i64 N) (.slice A m c) (.slice A4 (i + (b - (i + 1))) c4);clear B0 B1 HM hb;generalize (((w8.setCell ⟨w.heap.size + 1,0,none⟩ (Value.int .i64 N)).setCell ⟨w.heap.size + 1,1,none⟩ (Value.slice A m c)).setCell ⟨w.heap.size + 1,2,none⟩ (Value.slice A4 (i + (b - (i + 1))) c4))=W9 at *;obtain ⟨q0,q1,q2,eb,sb⟩:=BW.f3;go_wp2_with (fail);refine bodyPost_ret (v:=.tuple #[mV N A m c A4 (i + (b - (i + 1))) c4,.int .i64 0]) (by simp [results,Tryz.results8,go_sem,mV,q0,q1,q2]) rfl ?_;exact ⟨_,_,_,_,_,_,rfl,MW.out.mm,hbw⟩)
end
end Go.Proofs.YtppblcbgkadldaaGreatDoor
namespace Go.Proofs.YtppblcbgkadldaaGreatDoor
open Go Go.RowKit
set_option maxRecDepth 100000
section
variable {w w':World} {N L R:Nat} {hs:List (Int × Int)} {es:List E3} {ls:List S2} {H:Option Addr} {hc:Nat} {E:Option Addr} {m c:Nat} {S:Option Addr} {d:Nat} {ks:List Int} {ps:List (Int × Int)}
theorem slot_of (hok:SOK ls) (a:Int):(∃ u:Nat,IsSlot ls a u ∧ getV (dnK ls ls.length) a=.tuple #[.int .i64 (u:Int),.bool true]) ∨ ((¬ ∃ i,IsSlot ls a i) ∧ getV (dnK ls ls.length) a=.tuple #[.int .i64 ((0:Nat):Int),.bool false]):=by
  by_cases h:∃ i,IsSlot ls a i
  · obtain ⟨u,hu⟩:=h
    exact .inl ⟨u,hu,get_slot hok hu⟩
  · exact .inr ⟨h,get_noslot fun i hi=>h ⟨i,hi⟩⟩
theorem slot_any (hok:SOK ls) (a:Int):∃ (u:Nat) (ka:Bool),getV (dnK ls ls.length) a=.tuple #[.int .i64 (u:Int),.bool ka]:=by
  rcases slot_of hok a with ⟨u,_,h⟩ | ⟨_,h⟩
  · exact ⟨u,true,h⟩
  · exact ⟨0,false,h⟩
theorem RetD.imp {K:Nat} {P Q:List E3 → List S2 → Int → Prop} {e:Ending} (h:RetD N L R hs H hc K P w e w') (hi:∀ es ls code,P es ls code → Q es ls code):RetD N L R hs H hc K Q w e w':=by
  obtain ⟨E,m,c,S,d,es,ls,code,h1,h2,h3,h4⟩:=h
  exact ⟨E,m,c,S,d,es,ls,code,h1,h2,hi _ _ _ h3,h4⟩
def Goes (N:Nat) (ks:List Int) (ps:List (Int × Int)) (q a b:Int) (es':List E3) (ls':List S2) (_:Int):Prop:=MI ls' es' (chM N ks ps q a b).1 (chM N ks ps q a b).2.1
theorem slot_ltN (hS:SM w N L R hs es ls H hc E m c S d) {a:Int} {u:Nat} (h:IsSlot ls a u):u < N:=by
  obtain ⟨h1,_⟩:=h
  have:=SSl.length hS.s
  omega
theorem do_step1 (a b:Int) (tx:ByteArray) (hI:MI ls es ks ps) (w:World) (hS:SM w N L R hs es ls H hc E m c S d) :
    Calls Tryz.prog 7 #[sV N L R H hc E m c S d,.agg #[.int .i64 1,.int .u64 a,.int .u64 b,.string tx]] w (RetD N L R hs H hc (L * R) (Goes N ks ps 1 a b) w):=by
  obtain ⟨u,ka,hA⟩:=slot_any hS.ok a
  obtain ⟨v,kb,hB⟩:=slot_any hS.ok b
  refine (do_run1 a b tx u v ka kb hA hB (ChAdd a es ls) ?_ (fun W h=>change_1 a b tx u v W h) w hS).mono fun e w' h=>h.imp fun es' ls' code hc=>mi_add hI (SSl.length hS.s) hS.used hc
  rintro es' ls' code ⟨rfl,⟨_,_,rfl⟩ | ⟨_,_,_,rfl⟩ | ⟨_,h0,_⟩⟩ hc
  · exact ⟨rfl,rfl⟩
  · exact ⟨rfl,rfl⟩
  · exact absurd h0 hc
theorem do_step2 (a b:Int) (tx:ByteArray) (hI:MI ls es ks ps) (w:World) (hS:SM w N L R hs es ls H hc E m c S d) :
    Calls Tryz.prog 7 #[sV N L R H hc E m c S d,.agg #[.int .i64 2,.int .u64 a,.int .u64 b,.string tx]] w (RetD N L R hs H hc (L * R) (Goes N ks ps 2 a b) w):=by
  obtain ⟨v,kb,hB⟩:=slot_any hS.ok b
  rcases slot_of hS.ok a with ⟨u,hu,hA⟩ | ⟨hn,hA⟩
  · refine (do_run2 a b tx u v kb hA hB (ChDrop N u es ls) ?_ (fun W h=>change_2 a b tx u v hu W h) w hS).mono fun e w' h=>h.imp fun es' ls' code hc=>mi_drop hI hS.g.ge.right hS.ok hS.used hu (slot_ltN hS hu) hc
    rintro es' ls' code ⟨rfl,⟨_,_,rfl⟩ | ⟨_,h0,_⟩⟩ hc
    · exact ⟨rfl,rfl⟩
    · exact absurd h0 hc
  · refine (do_errA2 a b tx 0 v kb hA hB w hS).mono fun e w' h=>h.imp ?_
    rintro es' ls' code ⟨rfl,rfl,_⟩
    unfold Goes
    rw [mi_none hI (by decide) (.inl hn)]
    exact hI
theorem do_step3 (a b:Int) (tx:ByteArray) (hI:MI ls es ks ps) (w:World) (hS:SM w N L R hs es ls H hc E m c S d) :
    Calls Tryz.prog 7 #[sV N L R H hc E m c S d,.agg #[.int .i64 3,.int .u64 a,.int .u64 b,.string tx]] w (RetD N L R hs H hc (L * R) (Goes N ks ps 3 a b) w):=by
  rcases slot_of hS.ok a with ⟨u,hu,hA⟩ | ⟨hn,hA⟩
  · rcases slot_of hS.ok b with ⟨v,hv,hB⟩ | ⟨hn,hB⟩
    · refine (do_run3 a b tx u v hA hB (ChIns N u v es ls) ?_ (fun W h=>change_3 a b tx u v hu hv W h) w hS).mono fun e w' h=>h.imp fun es' ls' code hc=>mi_ins hI hS.g.ge.right hS.ok hS.used hu hv (slot_ltN hS hu) (slot_ltN hS hv) hc
      rintro es' ls' code ⟨rfl,_,h2,_⟩ hc
      exact ⟨h2 hc,rfl⟩
    · refine (do_errB3 a b tx u 0 hA hB w hS).mono fun e w' h=>h.imp ?_
      rintro es' ls' code ⟨rfl,rfl,_⟩
      unfold Goes
      rw [mi_none hI (by decide) (.inr ⟨by decide,hn⟩)]
      exact hI
  · obtain ⟨v,kb,hB⟩:=slot_any hS.ok b
    refine (do_errA3 a b tx 0 v kb hA hB w hS).mono fun e w' h=>h.imp ?_
    rintro es' ls' code ⟨rfl,rfl,_⟩
    unfold Goes
    rw [mi_none hI (by decide) (.inl hn)]
    exact hI
theorem do_step4 (a b:Int) (tx:ByteArray) (hI:MI ls es ks ps) (w:World) (hS:SM w N L R hs es ls H hc E m c S d) :
    Calls Tryz.prog 7 #[sV N L R H hc E m c S d,.agg #[.int .i64 4,.int .u64 a,.int .u64 b,.string tx]] w (RetD N L R hs H hc (L * R) (Goes N ks ps 4 a b) w):=by
  rcases slot_of hS.ok a with ⟨u,hu,hA⟩ | ⟨hn,hA⟩
  · rcases slot_of hS.ok b with ⟨v,hv,hB⟩ | ⟨hn,hB⟩
    · refine (do_run4 a b tx u v hA hB (ChDel N u v es ls) ?_ (fun W h=>change_4 a b tx u v hu hv W h) w hS).mono fun e w' h=>h.imp fun es' ls' code hc=>mi_del hI hS.g.ge.right hS.ok hS.used hu hv (slot_ltN hS hu) (slot_ltN hS hv) hc
      rintro es' ls' code ⟨rfl,⟨_,_,rfl⟩ | ⟨_,_,h2,_⟩⟩ hc
      · exact ⟨rfl,rfl⟩
      · exact ⟨h2 hc,rfl⟩
    · refine (do_errB4 a b tx u 0 hA hB w hS).mono fun e w' h=>h.imp ?_
      rintro es' ls' code ⟨rfl,rfl,_⟩
      unfold Goes
      rw [mi_none hI (by decide) (.inr ⟨by decide,hn⟩)]
      exact hI
  · obtain ⟨v,kb,hB⟩:=slot_any hS.ok b
    refine (do_errA4 a b tx 0 v kb hA hB w hS).mono fun e w' h=>h.imp ?_
    rintro es' ls' code ⟨rfl,rfl,_⟩
    unfold Goes
    rw [mi_none hI (by decide) (.inl hn)]
    exact hI
theorem do_step (q a b:Int) (tx:ByteArray) (hq:1 ≤ q ∧ q ≤ 4) (hI:MI ls es ks ps) (w:World) (hS:SM w N L R hs es ls H hc E m c S d) :
    Calls Tryz.prog 7 #[sV N L R H hc E m c S d,.agg #[.int .i64 q,.int .u64 a,.int .u64 b,.string tx]] w (RetD N L R hs H hc (L * R) (Goes N ks ps q a b) w):=by
  have:q=1 ∨ q=2 ∨ q=3 ∨ q=4:=by omega
  rcases this with rfl | rfl | rfl | rfl
  · exact do_step1 a b tx hI w hS
  · exact do_step2 a b tx hI w hS
  · exact do_step3 a b tx hI w hS
  · exact do_step4 a b tx hI w hS
theorem ch_step {A:Option Addr} {a c:Nat} {B:Option Addr} {b d:Nat} (N:Nat) (q x y:Int) (hq:1 ≤ q ∧ q ≤ 4) (w:World) (hM:MM w ks ps A a c B b d) (ha:a ≤ 100) (hb:b ≤ 100) (hP:PU ps) :
    Calls Tryz.prog 8 #[mV N A a c B b d,.int .i64 q,.int .u64 x,.int .u64 y] w (RetM N (chM N ks ps q x y) w):=by
  have:q=1 ∨ q=2 ∨ q=3 ∨ q=4:=by omega
  rcases this with rfl | rfl | rfl | rfl
  · exact change1_ok N x y w hM ha
  · exact change2_ok N x y w hM ha hP hb
  · exact change3_ok N x y w hM ha hb
  · exact change4_ok N x y w hM ha hb
theorem ask_forest (tx:ByteArray) (w:World) (hS:SM w N L R hs es ls H hc E m c S d) :
    Calls Tryz.prog 7 #[sV N L R H hc E m c S d,.agg #[.int .i64 12,.int .u64 0,.int .u64 0,.string tx]] w (RetDA N L R hs es ls H hc E m c S d (L * R) 40 (IsPs [w.heap.size + 1 + 1] ((forestE es L).map (pairL ls))) w):=by
  obtain ⟨u,ka,hA⟩:=slot_any hS.ok 0
  exact do_ask12 0 0 tx u u ka ka hA hA _ w _ (keeps_ps _ _) (fun W h hl=>answer_12 _ u u W h (by simpa using hl)) hS
theorem ask_members {a:Int} {u:Nat} (hu:IsSlot ls a u) (tx:ByteArray) (w:World) (hS:SM w N L R hs es ls H hc E m c S d) :
    Calls Tryz.prog 7 #[sV N L R H hc E m c S d,.agg #[.int .i64 11,.int .u64 a,.int .u64 0,.string tx]] w (RetDA N L R hs es ls H hc E m c S d (L * R) 24 (IsKeys [w.heap.size + 1 + 1] (keysN ls (classN (partN N (forN es L)) u N))) w):=by
  obtain ⟨v,kb,hB⟩:=slot_any hS.ok 0
  exact do_ask11 a 0 tx u v kb (get_slot hS.ok hu) hB _ w _ (keeps_keys _ _) (fun W h hl=>answer_11 _ u v (slot_ltN hS hu) W h (by simpa using hl)) hS
end
def KU (ks:List Int):Prop:=∀ k ∈ ks,IsW k
theorem chM_ku {N:Int} {ks:List Int} {ps:List (Int × Int)} {q a b:Int} (hq:1 ≤ q ∧ q ≤ 4) (hk:KU ks) (hp:PU ps) (ha:IsW a) (hb:IsW b):KU (chM N ks ps q a b).1 ∧ PU (chM N ks ps q a b).2.1:=by
  have hkp:∀ x ∈ [kp a b],IsW x.1 ∧ IsW x.2:=by
    intro x hx
    rw [List.mem_singleton.1 hx]
    unfold kp
    split
    · exact ⟨hb,ha⟩
    · exact ⟨ha,hb⟩
  have:q=1 ∨ q=2 ∨ q=3 ∨ q=4:=by omega
  rcases this with rfl | rfl | rfl | rfl
  · rw [chM_1]
    split
    · exact ⟨hk,hp⟩
    · split
      · exact ⟨hk,hp⟩
      · exact ⟨fun x hx=>(List.mem_append.1 hx).elim (hk x) fun h=>by rw [List.mem_singleton.1 h];exact ha,hp⟩
  · rw [chM_2]
    split
    · exact ⟨hk,hp⟩
    · split
      · exact ⟨hk,hp⟩
      · exact ⟨fun x hx=>(List.mem_append.1 hx).elim (fun h=>hk x (List.mem_of_mem_take h)) fun h=>hk x (List.mem_of_mem_drop h),hp⟩
  · rw [chM_3]
    split
    · exact ⟨hk,hp⟩
    · split
      · exact ⟨hk,hp⟩
      · split
        · exact ⟨hk,hp⟩
        · exact ⟨hk,fun x hx=>(List.mem_append.1 hx).elim (hp x) (hkp x)⟩
  · rw [chM_4]
    split
    · exact ⟨hk,hp⟩
    · split
      · exact ⟨hk,hp⟩
      · exact ⟨hk,fun x hx=>(List.mem_append.1 hx).elim (fun h=>hp x (List.mem_of_mem_take h)) fun h=>hp x (List.mem_of_mem_drop h)⟩
theorem MI.start (N:Nat):MI (List.replicate N (false,0)) [] [] []:=by
  refine ⟨?_,List.Perm.refl _⟩
  have:usedL (List.replicate N ((false,0):S2))=[]:=by
    unfold usedL
    rw [List.map_eq_nil_iff,List.filter_eq_nil_iff]
    intro x hx
    rw [(List.mem_replicate.1 hx).2];simp
  rw [this]
end Go.Proofs.YtppblcbgkadldaaGreatDoor
namespace Go.Proofs.YtppblcbgkadldaaGreatDoor
open Go Go.RowKit
set_option maxRecDepth 100000
theorem sl_off {w:World} {A:Option Addr} {n c sz g:Nat} {t:TypeId} {cs:Array Value} {xs:List Value} (h:Sl w [] sz A n c xs) (hx:0 < n → ∃ v,xs[0]? = some (.int .u64 v)) (hB:Blk w g t cs) (h64:∀ (i:Nat) (v:Int),cs[i]? ≠ some (.int .u64 v)):Sl w [g] sz A n c xs:=by
  refine ⟨h.len,h.le,h.cap,fun hn=>?_⟩
  obtain ⟨ad,e,hb,hm,hc'⟩:=h.at_ hn
  refine ⟨ad,e,hb,?_,hc'⟩
  intro hg
  simp only [List.mem_singleton] at hg
  obtain ⟨v,hv⟩:=hx hn
  have c0:=hc' 0 _ hv
  rw [add_zero_] at c0
  subst hg
  exact h64 _ _ (cell_blk hB c0)
section
variable {w w':World} {g:Nat} {t:TypeId} {cs:Array Value} {ks:List Int} {ps:List (Int × Int)} {A:Option Addr} {a c:Nat} {B:Option Addr} {b d:Nat}
theorem MM.offb (h:MM w ks ps A a c B b d) (hB:Blk w g t cs) (h64:∀ (i:Nat) (v:Int),cs[i]? ≠ some (.int .u64 v)):MO w g ks ps A a c B b d:=by
  refine ⟨sl_off h.k (fun hn=>?_) hB h64,sl_off h.p (fun hn=>?_) hB h64⟩
  · have hl:0 < ks.length:=by have:=h.k.len;simp at this;omega
    exact ⟨_,ints_get hl⟩
  · have hl:0 < ps.length:=by have:=h.p.length;omega
    have:=hcells_get0 ps 0 hl
    rw [Nat.zero_mul] at this
    exact ⟨_,this⟩
theorem mo_set6 (h:MO w g ks ps A a c B b d) (x y z e f i:Value):MO ((((((w.setCell ⟨g,0,none⟩ x).setCell ⟨g,1,none⟩ y).setCell ⟨g,2,none⟩ z).setCell ⟨g,3,none⟩ e).setCell ⟨g,4,none⟩ f).setCell ⟨g,5,none⟩ i) g ks ps A a c B b d:=⟨sl_set6 h.k x y z e f i,sl_set6 h.p x y z e f i⟩
theorem mm_set6 {N:Nat} (h:MM w ks ps A a c B b d) (hB:Blk w g t cs) (hcs:SCells N cs) (x y z e f i:Value):MM ((((((w.setCell ⟨g,0,none⟩ x).setCell ⟨g,1,none⟩ y).setCell ⟨g,2,none⟩ z).setCell ⟨g,3,none⟩ e).setCell ⟨g,4,none⟩ f).setCell ⟨g,5,none⟩ i) ks ps A a c B b d:=(mo_set6 (h.offb hB (scells_no64 hcs)) x y z e f i).mm
theorem mm_set3 (h:MM w ks ps A a c B b d) (hB:Blk w g t cs) (hcs:NC cs) (x y z:Value):MM (((w.setCell ⟨g,0,none⟩ x).setCell ⟨g,1,none⟩ y).setCell ⟨g,2,none⟩ z) ks ps A a c B b d:=((h.offb hB hcs.no64).set3 x y z).mm
theorem far3 {k:Nat} {u:TypeId} {cs':Array Value} (h2:Blk w k u cs') (hk:k ≠ g) (x y z:Value):Blk (((w.setCell ⟨g,0,none⟩ x).setCell ⟨g,1,none⟩ y).setCell ⟨g,2,none⟩ z) k u cs':=
  ((h2.far (p:=⟨g,0,none⟩) hk x).far (p:=⟨g,1,none⟩) hk y).far (p:=⟨g,2,none⟩) hk z
theorem set3_blk {x0 x1 x2:Value} (h:Blk w g t #[x0,x1,x2]) (x y z:Value):Blk (((w.setCell ⟨g,0,none⟩ x).setCell ⟨g,1,none⟩ y).setCell ⟨g,2,none⟩ z) g t #[x,y,z]:=Blk.set3 h
end
structure LI (N:Nat) (es:List E3) (ls:List S2) (ks:List Int) (ps:List (Int × Int)):Prop where
  mi:MI ls es ks ps
  ku:KU ks
  pu:PU ps
theorem LI.step {N:Nat} {es es':List E3} {ls ls':List S2} {ks:List Int} {ps:List (Int × Int)} {q a b code:Int} (h:LI N es ls ks ps) (hq:1 ≤ q ∧ q ≤ 4) (ha:IsW a) (hb:IsW b) (hg:Goes N ks ps q a b es' ls' code):LI N es' ls' (chM N ks ps q a b).1 (chM N ks ps q a b).2.1:=
  ⟨hg,(chM_ku hq h.ku h.pu ha hb).1,(chM_ku hq h.ku h.pu ha hb).2⟩
theorem LI.lens {w:World} {N L R:Nat} {hs:List (Int × Int)} {es:List E3} {ls:List S2} {H:Option Addr} {hc:Nat} {E:Option Addr} {m c:Nat} {S:Option Addr} {d:Nat} {ks:List Int} {ps:List (Int × Int)} (h:LI N es ls ks ps) (hS:SM w N L R hs es ls H hc E m c S d):ks.length ≤ 10 ∧ ps.length ≤ 100:=by
  have h1:=h.mi.k.length_eq
  have h2:=usedL_len ls
  have h3:=SSl.length hS.s
  have h4:=hS.g.n2
  have h5:=h.mi.p.length_eq
  rw [List.length_map] at h5
  have h6:=ESl.length hS.g.em
  have h7:=hS.g.m_le
  omega
end Go.Proofs.YtppblcbgkadldaaGreatDoor
namespace Go.Proofs.YtppblcbgkadldaaGreatDoor
open Go Go.RowKit
set_option maxRecDepth 100000
abbrev Cmd:=Int × Int × Int × ByteArray
def ccell (x:Cmd):List Value:=[.int .i64 x.1,.int .u64 x.2.1,.int .u64 x.2.2.1,.string x.2.2.2]
def ccells (l:List Cmd):List Value:=l.flatMap ccell
theorem ccell_len (x:Cmd):(ccell x).length=4:=rfl
theorem ccells_len (l:List Cmd):(ccells l).length=l.length * 4:=flat_len ccell ccell_len l
theorem ccells_get0 (l:List Cmd) (i:Nat) (hi:i < l.length):(ccells l)[i * 4]? = some (.int .i64 l[i].1):=by
  have:=flat_get ccell ccell_len l i 0 hi (by decide);simpa [ccell,ccells] using this
theorem ccells_get1 (l:List Cmd) (i:Nat) (hi:i < l.length):(ccells l)[i * 4 + 1]? = some (.int .u64 l[i].2.1):=by
  have:=flat_get ccell ccell_len l i 1 hi (by decide);simpa [ccell,ccells] using this
theorem ccells_get2 (l:List Cmd) (i:Nat) (hi:i < l.length):(ccells l)[i * 4 + 2]? = some (.int .u64 l[i].2.2.1):=by
  have:=flat_get ccell ccell_len l i 2 hi (by decide);simpa [ccell,ccells] using this
theorem ccells_get3 (l:List Cmd) (i:Nat) (hi:i < l.length):(ccells l)[i * 4 + 3]? = some (.string l[i].2.2.2):=by
  have:=flat_get ccell ccell_len l i 3 hi (by decide);simpa [ccell,ccells] using this
def CSl (w:World) (A:Option Addr) (n c:Nat) (l:List Cmd):Prop:=Sl w [] 4 A n c (ccells l)
section
variable {w w':World} {A:Option Addr} {n c:Nat} {l:List Cmd}
theorem CSl.length (h:CSl w A n c l):l.length=n:=by have:=h.len;rw [ccells_len] at this;omega
theorem CSl.below (h:CSl w A n c l) (hb:Below w.heap.size w w'):CSl w' A n c l:=Sl.below h hb
theorem CSl.get (h:CSl w A n c l) {k:Nat} (hk:k < l.length) :
    ∃ ad,A=some ad ∧ ad.block < w.heap.size ∧ w.cell? (ad.add (k * 4))=some (.int .i64 l[k].1) ∧ w.cell? ⟨(ad.add (k * 4)).block,(ad.add (k * 4)).off + 1,none⟩=some (.int .u64 l[k].2.1) ∧ w.cell? ⟨(ad.add (k * 4)).block,(ad.add (k * 4)).off + 2,none⟩=some (.int .u64 l[k].2.2.1) ∧ w.cell? ⟨(ad.add (k * 4)).block,(ad.add (k * 4)).off + 3,none⟩=some (.string l[k].2.2.2):=by
  have hl:=h.length
  obtain ⟨ad,e,hb,_,hc⟩:=h.at_ (by omega)
  exact ⟨ad,e,hb,hc _ _ (ccells_get0 l k hk),cell_off (hc _ _ (ccells_get1 l k hk)) (by decide),cell_off (hc _ _ (ccells_get2 l k hk)) (by decide),cell_off (hc _ _ (ccells_get3 l k hk)) (by decide)⟩
theorem ccells_take (l:List Cmd) (k:Nat):(ccells l).take (k * 4)=ccells (l.take k):=by
  induction l generalizing k with
  | nil=>simp [ccells]
  | cons x l ih =>
    cases k with
    | zero=>simp [ccells]
    | succ k =>
      have e:ccells (x :: l)=ccell x ++ ccells l:=rfl
      have e2:ccells (x :: l.take k)=ccell x ++ ccells (l.take k):=rfl
      rw [e,List.take_succ_cons,e2,← ih,List.take_append,ccell_len,List.take_of_length_le (by rw [ccell_len];omega),show (k + 1) * 4 - 4=k * 4 by omega]
theorem CSl.head (h:CSl w A n c l) {k:Nat} (hk:k ≤ n):CSl w A k c (l.take k):=by
  have:=Sl.take h hk
  rw [ccells_take] at this
  exact this
end
end Go.Proofs.YtppblcbgkadldaaGreatDoor
