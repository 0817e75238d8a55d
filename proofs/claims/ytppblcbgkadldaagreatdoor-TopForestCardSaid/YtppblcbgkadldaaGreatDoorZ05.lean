/-
  A part of the proof that the law TopForest returns true for every input and leaves its arguments as they were: Turned.
-/
import Derived.Test.YtppblcbgkadldaaGreatDoorZ04
set_option linter.all false
namespace Go.Proofs.YtppblcbgkadldaaGreatDoor
open Go Go.RowKit
set_option maxRecDepth 100000
attribute [local go_sem] Heavy heavyUpon
set_option maxHeartbeats 1600000 in
theorem turned_even (a b:Tr) (pa pb:Option Addr) (k n:Int) (w:World) (ha:Rep w pa a) (hb:Rep w pb b) (hs:a.sz + b.sz ≤ 4096) (h1:¬ b.ht + 1 < a.ht) (h2:¬ a.ht + 1 < b.ht) :
    Calls Tryz.prog 177 #[.pointer pa,.agg #[.int .u64 k,.int .i64 n],.pointer pb] w (RetTr (a.toL ++ (k,n) :: b.toL) w):=by
  have la:=a.ht_le
  have lb:=b.ht_le
  have QA:=hide (fun W (h:Rep W pa a)=>seqHeight_ok a pa W h)
  have QB:=hide (fun W (h:Rep W pb b)=>seqHeight_ok b pb W h)
  have QT:=hide (fun W (h:Rep W pa a) (h':Rep W pb b)=>seqTree_ok a b pa pb k n W h h' hs)
  generalize a.ht=qa at *
  generalize b.ht=qb at *
  have hqa:qa ≤ 4096:=by omega
  have hqb:qb ≤ 4096:=by omega
  clear la lb hs
  (go_enter Tryz.func177,Tryz.ntmps177;go_wp2_with (fail);have hb0:=(Below.refl w.heap.size w).alloc (Nat.le_refl _) (.cells #[.int .u64 k,.int .i64 n] 145);have HR:=hide (And.intro (ha.alloc (.cells #[.int .u64 k,.int .i64 n] 145)) (hb.alloc (.cells #[.int .u64 k,.int .i64 n] 145)));have B0:=Blk.new w 145 #[.int .u64 k,.int .i64 n];generalize (w.alloc (.cells #[.int .u64 k,.int .i64 n] 145))=W0 at *;refine (QA.out _ HR.out.1).mono ?_;rintro e w1 ⟨rfl,b1⟩;go_wp2_with (fail);refine (QB.out _ (HR.out.2.below b1)).mono ?_;rintro e w2 ⟨rfl,b2⟩;have b02:=b1.trans (b2.mono b1.size);have HR2:=hide (And.intro (HR.out.1.below b02) (HR.out.2.below b02));have B2:=B0.below b02 B0.lt;have hb2:=hb0.trans (b02.mono hb0.size);clear B0 HR b1 b2 b02 hb0;obtain ⟨x0,x1,e0,s2⟩:=B2.f2)
  go_wp2_with (fail)
  refine (QB.out _ HR2.out.2).mono ?_
  rintro e w3 ⟨rfl,b3⟩
  go_wp2_with (fail)
  refine (QA.out _ (HR2.out.1.below b3)).mono ?_
  rintro e w4 ⟨rfl,b4⟩
  have b34:=b3.trans (b4.mono b3.size)
  have y0:=(bcells b34 ⟨w.heap.size,0,none⟩ s2).trans x0
  have y1:=(bcells b34 ⟨w.heap.size,1,none⟩ s2).trans x1
  have hb4:=hb2.trans (b34.mono hb2.size)
  have HR4:=hide (And.intro (HR2.out.1.below b34) (HR2.out.2.below b34))
  clear x0 x1 b3 b4 b34
  go_wp2_with (fail)
  refine (QT.out _ HR4.out.1 HR4.out.2).mono ?_
  rintro e w5 ⟨q,t,rfl,hq,ht,b5⟩
  have Q5:=hide hq
  have T5:=hide ht
  clear hq ht
  go_wp2_with (fail)
  go_ret
  exact ⟨q,t,rfl,Q5.out,T5.out,hb4.trans (b5.mono hb4.size)⟩
set_option maxHeartbeats 1600000 in
theorem turned_left1 (aa ab b:Tr) (ak an:Int) (pa pb:Option Addr) (k n:Int) (w:World) (ha:Rep w pa (.node aa ak an ab)) (hb:Rep w pb b) (hs:(Tr.node aa ak an ab).sz + b.sz ≤ 4096) (h1:b.ht + 1 < (Tr.node aa ak an ab).ht) (h2:ab.ht ≤ aa.ht) :
    Calls Tryz.prog 177 #[.pointer pa,.agg #[.int .u64 k,.int .i64 n],.pointer pb] w (RetTr ((Tr.node aa ak an ab).toL ++ (k,n) :: b.toL) w):=by
  have hs':aa.sz + 1 + ab.sz + b.sz ≤ 4096:=hs
  have la:=(Tr.node aa ak an ab).ht_le
  have lb:=b.ht_le
  have laa:=aa.ht_le
  have lab:=ab.ht_le
  have QA:=hide (fun W (h:Rep W pa (.node aa ak an ab))=>seqHeight_ok _ pa W h)
  have QB:=hide (fun W (h:Rep W pb b)=>seqHeight_ok b pb W h)
  have QC:=hide (fun p W (h:Rep W p aa)=>seqHeight_ok aa p W h)
  have QD:=hide (fun p W (h:Rep W p ab)=>seqHeight_ok ab p W h)
  have QT:=hide (fun p W (h:Rep W p ab) (h':Rep W pb b)=>seqTree_ok ab b p pb k n W h h' (by omega))
  have QU:=hide (fun p q t W (h:Rep W p aa) (h':Rep W q t) (he:t.toL=ab.toL ++ (k,n) :: b.toL)=>seqTree_ok aa t p q ak an W h h' (by rw [t.sz_len,he,List.length_append,List.length_cons,← ab.sz_len,← b.sz_len];omega))
  have HE:=hide (show (Tr.node aa ak an ab).toL=aa.toL ++ (ak,an) :: ab.toL from rfl)
  generalize (Tr.node aa ak an ab).ht=qa at *
  generalize (Tr.node aa ak an ab).toL=LL at *
  generalize b.ht=qb at *
  generalize aa.ht=qc at *
  generalize ab.ht=qd at *
  have hqa:qa ≤ 4096:=by omega
  have hqb:qb ≤ 4096:=by omega
  clear la lb laa lab hs' hs
  (go_enter Tryz.func177,Tryz.ntmps177;go_wp2_with (fail);have hb0:=(Below.refl w.heap.size w).alloc (Nat.le_refl _) (.cells #[.int .u64 k,.int .i64 n] 145);have HR:=hide (And.intro (ha.alloc (.cells #[.int .u64 k,.int .i64 n] 145)) (hb.alloc (.cells #[.int .u64 k,.int .i64 n] 145)));have B0:=Blk.new w 145 #[.int .u64 k,.int .i64 n];generalize (w.alloc (.cells #[.int .u64 k,.int .i64 n] 145))=W0 at *;refine (QA.out _ HR.out.1).mono ?_;rintro e w1 ⟨rfl,b1⟩;go_wp2_with (fail);refine (QB.out _ (HR.out.2.below b1)).mono ?_;rintro e w2 ⟨rfl,b2⟩;have b02:=b1.trans (b2.mono b1.size);have HR2:=hide (And.intro (HR.out.1.below b02) (HR.out.2.below b02));have B2:=B0.below b02 B0.lt;have hb2:=hb0.trans (b02.mono hb0.size);clear B0 HR b1 b2 b02 hb0;obtain ⟨x0,x1,e0,s2⟩:=B2.f2)
  have HBB:=hide HR2.out.2
  (obtain ⟨g,ga,gb,rfl,glt,gc0,gc1,gc2,gc3,gA,gB⟩:=Rep.opened HR2.out.1)
  clear QA HR2 ha hb
  go_wp2_with (fail)
  refine wp_region_lexD [4,9] (fun w'=>Below (w2).heap.size (w2) w') (by kernel_rfl) (by kernel_rfl) (Below.refl _ _).drew ?_
  (repeat ((with_reducible refine wpLex_step (fun K hK=>?_));go_simp;first | ((with_reducible refine hK _ _ ?_);clear hK K) | ((with_reducible apply Exists.intro);refine ⟨fun w' hw'=>?_,hK _ _ ?_⟩;(· (have hq:=bcells hw';apply valEq;(· (go_simp;first | done | (with_reducible rfl)));(· ((try go_bits);with_reducible rfl))));clear hK K)))
  ((with_reducible refine wpLex_step (fun K hK=>?_));go_simp;refine (QC.out _ _ gA.out.drew).mono ?_;rintro e w3 ⟨rfl,hbx⟩;have g3:=((Below.refl (w2).heap.size w2).drew).trans (hbx.mono ((Below.refl (w2).heap.size w2).drew).size);refine ⟨_,rfl,g3,hK _ _ ?_⟩;clear hK K hbx)
  (repeat ((with_reducible refine wpLex_step (fun K hK=>?_));go_simp;first | ((with_reducible refine hK _ _ ?_);clear hK K) | ((with_reducible apply Exists.intro);refine ⟨fun w' hw'=>?_,hK _ _ ?_⟩;(· (have hq:=bcells hw';apply valEq;(· (go_simp;first | done | (with_reducible rfl)));(· ((try go_bits);with_reducible rfl))));clear hK K)))
  ((with_reducible refine wpLex_step (fun K hK=>?_));go_simp;refine (QD.out _ _ (gB.out.below g3)).mono ?_;rintro e w4 ⟨rfl,hbx⟩;have g4:=(g3).trans (hbx.mono (g3).size);refine ⟨_,rfl,g4,hK _ _ ?_⟩;clear hK K hbx)
  (repeat ((with_reducible refine wpLex_step (fun K hK=>?_));go_simp;first | ((with_reducible refine hK _ _ ?_);clear hK K) | ((with_reducible apply Exists.intro);refine ⟨fun w' hw'=>?_,hK _ _ ?_⟩;(· (have hq:=bcells hw';apply valEq;(· (go_simp;first | done | (with_reducible rfl)));(· ((try go_bits);with_reducible rfl))));clear hK K)))
  refine wpLex_nil (fun _=>?_)
  have hb4:=hb2.trans (g4.mono hb2.size)
  have y0:=(bcells g4 ⟨w.heap.size,0,none⟩ s2).trans x0
  have y1:=(bcells g4 ⟨w.heap.size,1,none⟩ s2).trans x1
  have z0:=(bcells g4 ⟨g,0,none⟩ glt).trans gc0
  have z1:=(bcells g4 ⟨g,1,none⟩ glt).trans gc1
  have z2:=(bcells g4 ⟨g,2,none⟩ glt).trans gc2
  have z3:=(bcells g4 ⟨g,3,none⟩ glt).trans gc3
  have k1:=Nat.lt_of_lt_of_le glt g4.size
  have k2:=Nat.lt_of_lt_of_le s2 g4.size
  have HC:=hide (And.intro (gA.out.below g4) (And.intro (gB.out.below g4) (HBB.out.below g4)))
  clear g3 g4 x0 x1 gc0 gc1 gc2 gc3 glt s2 gA gB HBB
  go_wp2_with (fail)
  refine wp_region_lexD [14,15] (fun w'=>Below (w4).heap.size (w4) w') (by kernel_rfl) (by kernel_rfl) (Below.refl _ _).drew ?_
  (repeat ((with_reducible refine wpLex_step (fun K hK=>?_));go_simp;first | ((with_reducible refine hK _ _ ?_);clear hK K) | ((with_reducible apply Exists.intro);refine ⟨fun w' hw'=>?_,hK _ _ ?_⟩;(· (have hq:=bcells hw';apply valEq;(· (go_simp;first | done | (with_reducible rfl)));(· ((try go_bits);with_reducible rfl))));clear hK K)))
  ((with_reducible refine wpLex_step (fun K hK=>?_));go_simp;refine (QT.out _ _ HC.out.2.1.drew HC.out.2.2.drew).mono ?_;rintro e w5 ⟨q5,t5,rfl,R5,T5,hbx⟩;have g5:=((Below.refl (w4).heap.size w4).drew).trans (hbx.mono ((Below.refl (w4).heap.size w4).drew).size);refine ⟨_,rfl,g5,hK _ _ ?_⟩;clear hK K hbx)
  have HR5:=hide R5
  clear R5
  have HT5:=hide T5
  clear T5
  (repeat ((with_reducible refine wpLex_step (fun K hK=>?_));go_simp;first | ((with_reducible refine hK _ _ ?_);clear hK K) | ((with_reducible apply Exists.intro);refine ⟨fun w' hw'=>?_,hK _ _ ?_⟩;(· (have hq:=bcells hw';apply valEq;(· (go_simp;first | done | (with_reducible rfl)));(· ((try go_bits);with_reducible rfl))));clear hK K)))
  ((with_reducible refine wpLex_step (fun K hK=>?_));go_simp;refine (QU.out _ _ _ _ (HC.out.1.below g5) HR5.out HT5.out).mono ?_;rintro e w6 ⟨q6,t6,rfl,R6,T6,hbx⟩;have g6:=(g5).trans (hbx.mono (g5).size);refine ⟨_,rfl,g6,hK _ _ ?_⟩;clear hK K hbx)
  have HR6:=hide (And.intro R6 T6)
  clear R6 T6
  (repeat ((with_reducible refine wpLex_step (fun K hK=>?_));go_simp;first | ((with_reducible refine hK _ _ ?_);clear hK K) | ((with_reducible apply Exists.intro);refine ⟨fun w' hw'=>?_,hK _ _ ?_⟩;(· (have hq:=bcells hw';apply valEq;(· (go_simp;first | done | (with_reducible rfl)));(· ((try go_bits);with_reducible rfl))));clear hK K)))
  refine wpLex_nil (fun _=>?_)
  go_wp2_with (fail)
  go_ret
  exact ⟨q6,t6,rfl,HR6.out.1,by rw [HR6.out.2,HT5.out,HE.out];simp,hb4.trans (g6.mono hb4.size)⟩
set_option maxHeartbeats 3200000 in
theorem turned_left2 (aa ta tb b:Tr) (ak an tk tn:Int) (pa pb:Option Addr) (k n:Int) (w:World) (ha:Rep w pa (.node aa ak an (.node ta tk tn tb))) (hb:Rep w pb b) (hs:(Tr.node aa ak an (.node ta tk tn tb)).sz + b.sz ≤ 4096)
    (h1:b.ht + 1 < (Tr.node aa ak an (.node ta tk tn tb)).ht) (h2:¬ (Tr.node ta tk tn tb).ht ≤ aa.ht) :
    Calls Tryz.prog 177 #[.pointer pa,.agg #[.int .u64 k,.int .i64 n],.pointer pb] w (RetTr ((Tr.node aa ak an (.node ta tk tn tb)).toL ++ (k,n) :: b.toL) w):=by
  have hs':aa.sz + 1 + (ta.sz + 1 + tb.sz) + b.sz ≤ 4096:=hs
  have la:=(Tr.node aa ak an (.node ta tk tn tb)).ht_le
  have lb:=b.ht_le
  have laa:=aa.ht_le
  have lab:=(Tr.node ta tk tn tb).ht_le
  have hsab:(Tr.node ta tk tn tb).sz=ta.sz + 1 + tb.sz:=rfl
  have QA:=hide (fun W (h:Rep W pa (.node aa ak an (.node ta tk tn tb)))=>seqHeight_ok _ pa W h)
  have QB:=hide (fun W (h:Rep W pb b)=>seqHeight_ok b pb W h)
  have QC:=hide (fun p W (h:Rep W p aa)=>seqHeight_ok aa p W h)
  have QD:=hide (fun p W (h:Rep W p (.node ta tk tn tb))=>seqHeight_ok _ p W h)
  have QT:=hide (fun p q W (h:Rep W p aa) (h':Rep W q ta)=>seqTree_ok aa ta p q ak an W h h' (by omega))
  have QU:=hide (fun p W (h:Rep W p tb) (h':Rep W pb b)=>seqTree_ok tb b p pb k n W h h' (by omega))
  have QV:=hide (fun p q s t W (h:Rep W p s) (h':Rep W q t) (hs:s.toL=aa.toL ++ (ak,an) :: ta.toL) (ht:t.toL=tb.toL ++ (k,n) :: b.toL)=>seqTree_ok s t p q tk tn W h h' (by rw [s.sz_len,t.sz_len,hs,ht,List.length_append,List.length_cons,List.length_append,List.length_cons,← aa.sz_len,← b.sz_len,← ta.sz_len,← tb.sz_len];omega))
  have HE:=hide (show (Tr.node aa ak an (.node ta tk tn tb)).toL=aa.toL ++ (ak,an) :: (ta.toL ++ (tk,tn) :: tb.toL) from rfl)
  generalize (Tr.node aa ak an (.node ta tk tn tb)).ht=qa at *
  generalize (Tr.node aa ak an (.node ta tk tn tb)).toL=LL at *
  generalize (Tr.node ta tk tn tb).ht=qd at *
  generalize b.ht=qb at *
  generalize aa.ht=qc at *
  have hqa:qa ≤ 4096:=by omega
  have hqb:qb ≤ 4096:=by omega
  clear la lb laa lab hs' hs hsab
  (go_enter Tryz.func177,Tryz.ntmps177;go_wp2_with (fail);have hb0:=(Below.refl w.heap.size w).alloc (Nat.le_refl _) (.cells #[.int .u64 k,.int .i64 n] 145);have HR:=hide (And.intro (ha.alloc (.cells #[.int .u64 k,.int .i64 n] 145)) (hb.alloc (.cells #[.int .u64 k,.int .i64 n] 145)));have B0:=Blk.new w 145 #[.int .u64 k,.int .i64 n];generalize (w.alloc (.cells #[.int .u64 k,.int .i64 n] 145))=W0 at *;refine (QA.out _ HR.out.1).mono ?_;rintro e w1 ⟨rfl,b1⟩;go_wp2_with (fail);refine (QB.out _ (HR.out.2.below b1)).mono ?_;rintro e w2 ⟨rfl,b2⟩;have b02:=b1.trans (b2.mono b1.size);have HR2:=hide (And.intro (HR.out.1.below b02) (HR.out.2.below b02));have B2:=B0.below b02 B0.lt;have hb2:=hb0.trans (b02.mono hb0.size);clear B0 HR b1 b2 b02 hb0;obtain ⟨x0,x1,e0,s2⟩:=B2.f2)
  have HBB:=hide HR2.out.2
  (obtain ⟨g,ga,gb,rfl,glt,gc0,gc1,gc2,gc3,gA,gB⟩:=Rep.opened HR2.out.1)
  clear QA HR2 ha hb
  go_wp2_with (fail)
  refine wp_region_lexD [4,9] (fun w'=>Below (w2).heap.size (w2) w') (by kernel_rfl) (by kernel_rfl) (Below.refl _ _).drew ?_
  (repeat ((with_reducible refine wpLex_step (fun K hK=>?_));go_simp;first | ((with_reducible refine hK _ _ ?_);clear hK K) | ((with_reducible apply Exists.intro);refine ⟨fun w' hw'=>?_,hK _ _ ?_⟩;(· (have hq:=bcells hw';apply valEq;(· (go_simp;first | done | (with_reducible rfl)));(· ((try go_bits);with_reducible rfl))));clear hK K)))
  ((with_reducible refine wpLex_step (fun K hK=>?_));go_simp;refine (QC.out _ _ gA.out.drew).mono ?_;rintro e w3 ⟨rfl,hbx⟩;have g3:=((Below.refl (w2).heap.size w2).drew).trans (hbx.mono ((Below.refl (w2).heap.size w2).drew).size);refine ⟨_,rfl,g3,hK _ _ ?_⟩;clear hK K hbx)
  (repeat ((with_reducible refine wpLex_step (fun K hK=>?_));go_simp;first | ((with_reducible refine hK _ _ ?_);clear hK K) | ((with_reducible apply Exists.intro);refine ⟨fun w' hw'=>?_,hK _ _ ?_⟩;(· (have hq:=bcells hw';apply valEq;(· (go_simp;first | done | (with_reducible rfl)));(· ((try go_bits);with_reducible rfl))));clear hK K)))
  ((with_reducible refine wpLex_step (fun K hK=>?_));go_simp;refine (QD.out _ _ (gB.out.below g3)).mono ?_;rintro e w4 ⟨rfl,hbx⟩;have g4:=(g3).trans (hbx.mono (g3).size);refine ⟨_,rfl,g4,hK _ _ ?_⟩;clear hK K hbx)
  (repeat ((with_reducible refine wpLex_step (fun K hK=>?_));go_simp;first | ((with_reducible refine hK _ _ ?_);clear hK K) | ((with_reducible apply Exists.intro);refine ⟨fun w' hw'=>?_,hK _ _ ?_⟩;(· (have hq:=bcells hw';apply valEq;(· (go_simp;first | done | (with_reducible rfl)));(· ((try go_bits);with_reducible rfl))));clear hK K)))
  refine wpLex_nil (fun _=>?_)
  have hb4:=hb2.trans (g4.mono hb2.size)
  have y0:=(bcells g4 ⟨w.heap.size,0,none⟩ s2).trans x0
  have y1:=(bcells g4 ⟨w.heap.size,1,none⟩ s2).trans x1
  have z0:=(bcells g4 ⟨g,0,none⟩ glt).trans gc0
  have z1:=(bcells g4 ⟨g,1,none⟩ glt).trans gc1
  have z2:=(bcells g4 ⟨g,2,none⟩ glt).trans gc2
  have z3:=(bcells g4 ⟨g,3,none⟩ glt).trans gc3
  have k1:=Nat.lt_of_lt_of_le glt g4.size
  have k2:=Nat.lt_of_lt_of_le s2 g4.size
  have HC:=hide (And.intro (gA.out.below g4) (HBB.out.below g4))
  have HD:=hide (gB.out.below g4)
  clear g3 g4 x0 x1 gc0 gc1 gc2 gc3 glt s2 gA gB HBB
  (obtain ⟨f,fa,fb,rfl,flt,fc0,fc1,fc2,fc3,fA,fB⟩:=Rep.opened HD.out)
  clear HD
  go_wp2_with (fail)
  refine wp_region_lexD [12,23,24] (fun w'=>Below (w4).heap.size (w4) w') (by kernel_rfl) (by kernel_rfl) (Below.refl _ _).drew ?_
  (repeat ((with_reducible refine wpLex_step (fun K hK=>?_));go_simp;first | ((with_reducible refine hK _ _ ?_);clear hK K) | ((with_reducible apply Exists.intro);refine ⟨fun w' hw'=>?_,hK _ _ ?_⟩;(· (have hq:=bcells hw';apply valEq;(· (go_simp;first | done | (with_reducible rfl)));(· ((try go_bits);with_reducible rfl))));clear hK K)))
  ((with_reducible refine wpLex_step (fun K hK=>?_));go_simp;refine (QT.out _ _ _ HC.out.1.drew fA.out.drew).mono ?_;rintro e w5 ⟨q5,t5,rfl,R5,T5,hbx⟩;have g5:=((Below.refl (w4).heap.size w4).drew).trans (hbx.mono ((Below.refl (w4).heap.size w4).drew).size);refine ⟨_,rfl,g5,hK _ _ ?_⟩;clear hK K hbx)
  have HR5:=hide R5
  clear R5
  have HT5:=hide T5
  clear T5
  (repeat ((with_reducible refine wpLex_step (fun K hK=>?_));go_simp;first | ((with_reducible refine hK _ _ ?_);clear hK K) | ((with_reducible apply Exists.intro);refine ⟨fun w' hw'=>?_,hK _ _ ?_⟩;(· (have hq:=bcells hw';apply valEq;(· (go_simp;first | done | (with_reducible rfl)));(· ((try go_bits);with_reducible rfl))));clear hK K)))
  ((with_reducible refine wpLex_step (fun K hK=>?_));go_simp;refine (QU.out _ _ (fB.out.below g5) (HC.out.2.below g5)).mono ?_;rintro e w6 ⟨q6,t6,rfl,R6,T6,hbx⟩;have g6:=(g5).trans (hbx.mono (g5).size);have HR65:=hide (HR5.out.below hbx);refine ⟨_,rfl,g6,hK _ _ ?_⟩;clear hK K hbx)
  have HR6:=hide (And.intro R6 HR65.out)
  clear R6
  have HT6:=hide T6
  clear T6
  (repeat ((with_reducible refine wpLex_step (fun K hK=>?_));go_simp;first | ((with_reducible refine hK _ _ ?_);clear hK K) | ((with_reducible apply Exists.intro);refine ⟨fun w' hw'=>?_,hK _ _ ?_⟩;(· (have hq:=bcells hw';apply valEq;(· (go_simp;first | done | (with_reducible rfl)));(· ((try go_bits);with_reducible rfl))));clear hK K)))
  ((with_reducible refine wpLex_step (fun K hK=>?_));go_simp;refine (QV.out _ _ _ _ _ HR6.out.2 HR6.out.1 HT5.out HT6.out).mono ?_;rintro e w7 ⟨q7,t7,rfl,R7,T7,hbx⟩;have g7:=(g6).trans (hbx.mono (g6).size);refine ⟨_,rfl,g7,hK _ _ ?_⟩;clear hK K hbx)
  have HR7:=hide (And.intro R7 T7)
  clear R7 T7
  (repeat ((with_reducible refine wpLex_step (fun K hK=>?_));go_simp;first | ((with_reducible refine hK _ _ ?_);clear hK K) | ((with_reducible apply Exists.intro);refine ⟨fun w' hw'=>?_,hK _ _ ?_⟩;(· (have hq:=bcells hw';apply valEq;(· (go_simp;first | done | (with_reducible rfl)));(· ((try go_bits);with_reducible rfl))));clear hK K)))
  refine wpLex_nil (fun _=>?_)
  go_wp2_with (fail)
  go_ret
  exact ⟨q7,t7,rfl,HR7.out.1,by rw [HR7.out.2,HT5.out,HT6.out,HE.out];simp,hb4.trans (g7.mono hb4.size)⟩
set_option maxHeartbeats 3200000 in
theorem turned_right1 (a ba bb:Tr) (bk bn:Int) (pa pb:Option Addr) (k n:Int) (w:World) (ha:Rep w pa a) (hb:Rep w pb (.node ba bk bn bb)) (hs:a.sz + (Tr.node ba bk bn bb).sz ≤ 4096) (h1:a.ht + 1 < (Tr.node ba bk bn bb).ht) (h2:ba.ht ≤ bb.ht) :
    Calls Tryz.prog 177 #[.pointer pa,.agg #[.int .u64 k,.int .i64 n],.pointer pb] w (RetTr (a.toL ++ (k,n) :: (Tr.node ba bk bn bb).toL) w):=by
  have hs':a.sz + (ba.sz + 1 + bb.sz) ≤ 4096:=hs
  have la:=a.ht_le
  have lb:=(Tr.node ba bk bn bb).ht_le
  have lba:=ba.ht_le
  have lbb:=bb.ht_le
  have QA:=hide (fun W (h:Rep W pa a)=>seqHeight_ok a pa W h)
  have QB:=hide (fun W (h:Rep W pb (.node ba bk bn bb))=>seqHeight_ok _ pb W h)
  have QC:=hide (fun p W (h:Rep W p bb)=>seqHeight_ok bb p W h)
  have QD:=hide (fun p W (h:Rep W p ba)=>seqHeight_ok ba p W h)
  have QT:=hide (fun p W (h:Rep W pa a) (h':Rep W p ba)=>seqTree_ok a ba pa p k n W h h' (by omega))
  have QU:=hide (fun p q t W (h:Rep W p t) (h':Rep W q bb) (he:t.toL=a.toL ++ (k,n) :: ba.toL)=>seqTree_ok t bb p q bk bn W h h' (by rw [t.sz_len,he,List.length_append,List.length_cons,← a.sz_len,← ba.sz_len];omega))
  have HE:=hide (show (Tr.node ba bk bn bb).toL=ba.toL ++ (bk,bn) :: bb.toL from rfl)
  generalize (Tr.node ba bk bn bb).ht=qb at *
  generalize (Tr.node ba bk bn bb).toL=LL at *
  generalize a.ht=qa at *
  generalize bb.ht=qc at *
  generalize ba.ht=qd at *
  have hqa:qa ≤ 4096:=by omega
  have hqb:qb ≤ 4096:=by omega
  have hn1:¬ qb + 1 < qa:=by omega
  clear la lb lba lbb hs' hs
  (go_enter Tryz.func177,Tryz.ntmps177;go_wp2_with (fail);have hb0:=(Below.refl w.heap.size w).alloc (Nat.le_refl _) (.cells #[.int .u64 k,.int .i64 n] 145);have HR:=hide (And.intro (ha.alloc (.cells #[.int .u64 k,.int .i64 n] 145)) (hb.alloc (.cells #[.int .u64 k,.int .i64 n] 145)));have B0:=Blk.new w 145 #[.int .u64 k,.int .i64 n];generalize (w.alloc (.cells #[.int .u64 k,.int .i64 n] 145))=W0 at *;refine (QA.out _ HR.out.1).mono ?_;rintro e w1 ⟨rfl,b1⟩;go_wp2_with (fail);refine (QB.out _ (HR.out.2.below b1)).mono ?_;rintro e w2 ⟨rfl,b2⟩;have b02:=b1.trans (b2.mono b1.size);have HR2:=hide (And.intro (HR.out.1.below b02) (HR.out.2.below b02));have B2:=B0.below b02 B0.lt;have hb2:=hb0.trans (b02.mono hb0.size);clear B0 HR b1 b2 b02 hb0;obtain ⟨x0,x1,e0,s2⟩:=B2.f2)
  go_wp2_with (fail)
  (refine (QB.out _ HR2.out.2).mono ?_;rintro e w3 ⟨rfl,b3⟩;go_wp2_with (fail);refine (QA.out _ (HR2.out.1.below b3)).mono ?_;rintro e w4 ⟨rfl,b4⟩;have b34:=b3.trans (b4.mono b3.size);have y0:=(bcells b34 ⟨w.heap.size,0,none⟩ s2).trans x0;have y1:=(bcells b34 ⟨w.heap.size,1,none⟩ s2).trans x1;have hb4:=hb2.trans (b34.mono hb2.size);have HR4:=hide (And.intro (HR2.out.1.below b34) (HR2.out.2.below b34));have s4:=Nat.lt_of_lt_of_le s2 b34.size;clear x0 x1 b3 b4 b34 hb2 HR2 s2 e0 B2;obtain ⟨x0,x1⟩:=And.intro y0 y1;clear y0 y1;have hb2:=hb4;have HR2:=HR4;have s2:=s4;clear hb4 HR4 s4 w2;rename World=>w2)
  have HAA:=hide HR2.out.1
  (obtain ⟨g,ga,gb,rfl,glt,gc0,gc1,gc2,gc3,gA,gB⟩:=Rep.opened HR2.out.2)
  clear QA QB HR2 ha hb
  go_wp2_with (fail)
  refine wp_region_lexD [4,9] (fun w'=>Below (w2).heap.size (w2) w') (by kernel_rfl) (by kernel_rfl) (Below.refl _ _).drew ?_
  (repeat ((with_reducible refine wpLex_step (fun K hK=>?_));go_simp;first | ((with_reducible refine hK _ _ ?_);clear hK K) | ((with_reducible apply Exists.intro);refine ⟨fun w' hw'=>?_,hK _ _ ?_⟩;(· (have hq:=bcells hw';apply valEq;(· (go_simp;first | done | (with_reducible rfl)));(· ((try go_bits);with_reducible rfl))));clear hK K)))
  ((with_reducible refine wpLex_step (fun K hK=>?_));go_simp;refine (QC.out _ _ gB.out.drew).mono ?_;rintro e w3 ⟨rfl,hbx⟩;have g3:=((Below.refl (w2).heap.size w2).drew).trans (hbx.mono ((Below.refl (w2).heap.size w2).drew).size);refine ⟨_,rfl,g3,hK _ _ ?_⟩;clear hK K hbx)
  (repeat ((with_reducible refine wpLex_step (fun K hK=>?_));go_simp;first | ((with_reducible refine hK _ _ ?_);clear hK K) | ((with_reducible apply Exists.intro);refine ⟨fun w' hw'=>?_,hK _ _ ?_⟩;(· (have hq:=bcells hw';apply valEq;(· (go_simp;first | done | (with_reducible rfl)));(· ((try go_bits);with_reducible rfl))));clear hK K)))
  ((with_reducible refine wpLex_step (fun K hK=>?_));go_simp;refine (QD.out _ _ (gA.out.below g3)).mono ?_;rintro e w4 ⟨rfl,hbx⟩;have g4:=(g3).trans (hbx.mono (g3).size);refine ⟨_,rfl,g4,hK _ _ ?_⟩;clear hK K hbx)
  (repeat ((with_reducible refine wpLex_step (fun K hK=>?_));go_simp;first | ((with_reducible refine hK _ _ ?_);clear hK K) | ((with_reducible apply Exists.intro);refine ⟨fun w' hw'=>?_,hK _ _ ?_⟩;(· (have hq:=bcells hw';apply valEq;(· (go_simp;first | done | (with_reducible rfl)));(· ((try go_bits);with_reducible rfl))));clear hK K)))
  refine wpLex_nil (fun _=>?_)
  have hb4:=hb2.trans (g4.mono hb2.size)
  have y0:=(bcells g4 ⟨w.heap.size,0,none⟩ s2).trans x0
  have y1:=(bcells g4 ⟨w.heap.size,1,none⟩ s2).trans x1
  have z0:=(bcells g4 ⟨g,0,none⟩ glt).trans gc0
  have z1:=(bcells g4 ⟨g,1,none⟩ glt).trans gc1
  have z2:=(bcells g4 ⟨g,2,none⟩ glt).trans gc2
  have z3:=(bcells g4 ⟨g,3,none⟩ glt).trans gc3
  have k1:=Nat.lt_of_lt_of_le glt g4.size
  have k2:=Nat.lt_of_lt_of_le s2 g4.size
  have HC:=hide (And.intro (gA.out.below g4) (And.intro (gB.out.below g4) (HAA.out.below g4)))
  clear g3 g4 x0 x1 gc0 gc1 gc2 gc3 glt s2 gA gB HAA
  go_wp2_with (fail)
  refine wp_region_lexD [6,15] (fun w'=>Below (w4).heap.size (w4) w') (by kernel_rfl) (by kernel_rfl) (Below.refl _ _).drew ?_
  (repeat ((with_reducible refine wpLex_step (fun K hK=>?_));go_simp;first | ((with_reducible refine hK _ _ ?_);clear hK K) | ((with_reducible apply Exists.intro);refine ⟨fun w' hw'=>?_,hK _ _ ?_⟩;(· (have hq:=bcells hw';apply valEq;(· (go_simp;first | done | (with_reducible rfl)));(· ((try go_bits);with_reducible rfl))));clear hK K)))
  ((with_reducible refine wpLex_step (fun K hK=>?_));go_simp;refine (QT.out _ _ HC.out.2.2.drew HC.out.1.drew).mono ?_;rintro e w5 ⟨q5,t5,rfl,R5,T5,hbx⟩;have g5:=((Below.refl (w4).heap.size w4).drew).trans (hbx.mono ((Below.refl (w4).heap.size w4).drew).size);refine ⟨_,rfl,g5,hK _ _ ?_⟩;clear hK K hbx)
  have HR5:=hide R5
  clear R5
  have HT5:=hide T5
  clear T5
  (repeat ((with_reducible refine wpLex_step (fun K hK=>?_));go_simp;first | ((with_reducible refine hK _ _ ?_);clear hK K) | ((with_reducible apply Exists.intro);refine ⟨fun w' hw'=>?_,hK _ _ ?_⟩;(· (have hq:=bcells hw';apply valEq;(· (go_simp;first | done | (with_reducible rfl)));(· ((try go_bits);with_reducible rfl))));clear hK K)))
  ((with_reducible refine wpLex_step (fun K hK=>?_));go_simp;refine (QU.out _ _ _ _ HR5.out (HC.out.2.1.below g5) HT5.out).mono ?_;rintro e w6 ⟨q6,t6,rfl,R6,T6,hbx⟩;have g6:=(g5).trans (hbx.mono (g5).size);refine ⟨_,rfl,g6,hK _ _ ?_⟩;clear hK K hbx)
  have HR6:=hide (And.intro R6 T6)
  clear R6 T6
  (repeat ((with_reducible refine wpLex_step (fun K hK=>?_));go_simp;first | ((with_reducible refine hK _ _ ?_);clear hK K) | ((with_reducible apply Exists.intro);refine ⟨fun w' hw'=>?_,hK _ _ ?_⟩;(· (have hq:=bcells hw';apply valEq;(· (go_simp;first | done | (with_reducible rfl)));(· ((try go_bits);with_reducible rfl))));clear hK K)))
  refine wpLex_nil (fun _=>?_)
  go_wp2_with (fail)
  go_ret
  exact ⟨q6,t6,rfl,HR6.out.1,by rw [HR6.out.2,HT5.out,HE.out];simp,hb4.trans (g6.mono hb4.size)⟩
set_option maxHeartbeats 3200000 in
theorem turned_right2 (a ta tb bb:Tr) (bk bn tk tn:Int) (pa pb:Option Addr) (k n:Int) (w:World) (ha:Rep w pa a) (hb:Rep w pb (.node (.node ta tk tn tb) bk bn bb)) (hs:a.sz + (Tr.node (.node ta tk tn tb) bk bn bb).sz ≤ 4096)
    (h1:a.ht + 1 < (Tr.node (.node ta tk tn tb) bk bn bb).ht) (h2:¬ (Tr.node ta tk tn tb).ht ≤ bb.ht) :
    Calls Tryz.prog 177 #[.pointer pa,.agg #[.int .u64 k,.int .i64 n],.pointer pb] w (RetTr (a.toL ++ (k,n) :: (Tr.node (.node ta tk tn tb) bk bn bb).toL) w):=by
  have hs':a.sz + (ta.sz + 1 + tb.sz + 1 + bb.sz) ≤ 4096:=hs
  have la:=a.ht_le
  have lb:=(Tr.node (.node ta tk tn tb) bk bn bb).ht_le
  have lba:=(Tr.node ta tk tn tb).ht_le
  have lbb:=bb.ht_le
  have hsba:(Tr.node ta tk tn tb).sz=ta.sz + 1 + tb.sz:=rfl
  have QA:=hide (fun W (h:Rep W pa a)=>seqHeight_ok a pa W h)
  have QB:=hide (fun W (h:Rep W pb (.node (.node ta tk tn tb) bk bn bb))=>seqHeight_ok _ pb W h)
  have QC:=hide (fun p W (h:Rep W p bb)=>seqHeight_ok bb p W h)
  have QD:=hide (fun p W (h:Rep W p (.node ta tk tn tb))=>seqHeight_ok _ p W h)
  have QT:=hide (fun p W (h:Rep W pa a) (h':Rep W p ta)=>seqTree_ok a ta pa p k n W h h' (by omega))
  have QU:=hide (fun p q W (h:Rep W p tb) (h':Rep W q bb)=>seqTree_ok tb bb p q bk bn W h h' (by omega))
  have QV:=hide (fun p q s t W (h:Rep W p s) (h':Rep W q t) (hs:s.toL=a.toL ++ (k,n) :: ta.toL) (ht:t.toL=tb.toL ++ (bk,bn) :: bb.toL)=>seqTree_ok s t p q tk tn W h h' (by rw [s.sz_len,t.sz_len,hs,ht,List.length_append,List.length_cons,List.length_append,List.length_cons,← a.sz_len,← bb.sz_len,← ta.sz_len,← tb.sz_len];omega))
  have HE:=hide (show (Tr.node (.node ta tk tn tb) bk bn bb).toL=(ta.toL ++ (tk,tn) :: tb.toL) ++ (bk,bn) :: bb.toL from rfl)
  generalize (Tr.node (.node ta tk tn tb) bk bn bb).ht=qb at *
  generalize (Tr.node (.node ta tk tn tb) bk bn bb).toL=LL at *
  generalize (Tr.node ta tk tn tb).ht=qd at *
  generalize a.ht=qa at *
  generalize bb.ht=qc at *
  have hqa:qa ≤ 4096:=by omega
  have hqb:qb ≤ 4096:=by omega
  have hn1:¬ qb + 1 < qa:=by omega
  clear la lb lba lbb hs' hs hsba
  (go_enter Tryz.func177,Tryz.ntmps177;go_wp2_with (fail);have hb0:=(Below.refl w.heap.size w).alloc (Nat.le_refl _) (.cells #[.int .u64 k,.int .i64 n] 145);have HR:=hide (And.intro (ha.alloc (.cells #[.int .u64 k,.int .i64 n] 145)) (hb.alloc (.cells #[.int .u64 k,.int .i64 n] 145)));have B0:=Blk.new w 145 #[.int .u64 k,.int .i64 n];generalize (w.alloc (.cells #[.int .u64 k,.int .i64 n] 145))=W0 at *;refine (QA.out _ HR.out.1).mono ?_;rintro e w1 ⟨rfl,b1⟩;go_wp2_with (fail);refine (QB.out _ (HR.out.2.below b1)).mono ?_;rintro e w2 ⟨rfl,b2⟩;have b02:=b1.trans (b2.mono b1.size);have HR2:=hide (And.intro (HR.out.1.below b02) (HR.out.2.below b02));have B2:=B0.below b02 B0.lt;have hb2:=hb0.trans (b02.mono hb0.size);clear B0 HR b1 b2 b02 hb0;obtain ⟨x0,x1,e0,s2⟩:=B2.f2)
  go_wp2_with (fail)
  (refine (QB.out _ HR2.out.2).mono ?_;rintro e w3 ⟨rfl,b3⟩;go_wp2_with (fail);refine (QA.out _ (HR2.out.1.below b3)).mono ?_;rintro e w4 ⟨rfl,b4⟩;have b34:=b3.trans (b4.mono b3.size);have y0:=(bcells b34 ⟨w.heap.size,0,none⟩ s2).trans x0;have y1:=(bcells b34 ⟨w.heap.size,1,none⟩ s2).trans x1;have hb4:=hb2.trans (b34.mono hb2.size);have HR4:=hide (And.intro (HR2.out.1.below b34) (HR2.out.2.below b34));have s4:=Nat.lt_of_lt_of_le s2 b34.size;clear x0 x1 b3 b4 b34 hb2 HR2 s2 e0 B2;obtain ⟨x0,x1⟩:=And.intro y0 y1;clear y0 y1;have hb2:=hb4;have HR2:=HR4;have s2:=s4;clear hb4 HR4 s4 w2;rename World=>w2)
  have HAA:=hide HR2.out.1
  (obtain ⟨g,ga,gb,rfl,glt,gc0,gc1,gc2,gc3,gA,gB⟩:=Rep.opened HR2.out.2)
  clear QA QB HR2 ha hb
  go_wp2_with (fail)
  refine wp_region_lexD [4,9] (fun w'=>Below (w2).heap.size (w2) w') (by kernel_rfl) (by kernel_rfl) (Below.refl _ _).drew ?_
  (repeat ((with_reducible refine wpLex_step (fun K hK=>?_));go_simp;first | ((with_reducible refine hK _ _ ?_);clear hK K) | ((with_reducible apply Exists.intro);refine ⟨fun w' hw'=>?_,hK _ _ ?_⟩;(· (have hq:=bcells hw';apply valEq;(· (go_simp;first | done | (with_reducible rfl)));(· ((try go_bits);with_reducible rfl))));clear hK K)))
  ((with_reducible refine wpLex_step (fun K hK=>?_));go_simp;refine (QC.out _ _ gB.out.drew).mono ?_;rintro e w3 ⟨rfl,hbx⟩;have g3:=((Below.refl (w2).heap.size w2).drew).trans (hbx.mono ((Below.refl (w2).heap.size w2).drew).size);refine ⟨_,rfl,g3,hK _ _ ?_⟩;clear hK K hbx)
  (repeat ((with_reducible refine wpLex_step (fun K hK=>?_));go_simp;first | ((with_reducible refine hK _ _ ?_);clear hK K) | ((with_reducible apply Exists.intro);refine ⟨fun w' hw'=>?_,hK _ _ ?_⟩;(· (have hq:=bcells hw';apply valEq;(· (go_simp;first | done | (with_reducible rfl)));(· ((try go_bits);with_reducible rfl))));clear hK K)))
  ((with_reducible refine wpLex_step (fun K hK=>?_));go_simp;refine (QD.out _ _ (gA.out.below g3)).mono ?_;rintro e w4 ⟨rfl,hbx⟩;have g4:=(g3).trans (hbx.mono (g3).size);refine ⟨_,rfl,g4,hK _ _ ?_⟩;clear hK K hbx)
  (repeat ((with_reducible refine wpLex_step (fun K hK=>?_));go_simp;first | ((with_reducible refine hK _ _ ?_);clear hK K) | ((with_reducible apply Exists.intro);refine ⟨fun w' hw'=>?_,hK _ _ ?_⟩;(· (have hq:=bcells hw';apply valEq;(· (go_simp;first | done | (with_reducible rfl)));(· ((try go_bits);with_reducible rfl))));clear hK K)))
  refine wpLex_nil (fun _=>?_)
  have hb4:=hb2.trans (g4.mono hb2.size)
  have y0:=(bcells g4 ⟨w.heap.size,0,none⟩ s2).trans x0
  have y1:=(bcells g4 ⟨w.heap.size,1,none⟩ s2).trans x1
  have z0:=(bcells g4 ⟨g,0,none⟩ glt).trans gc0
  have z1:=(bcells g4 ⟨g,1,none⟩ glt).trans gc1
  have z2:=(bcells g4 ⟨g,2,none⟩ glt).trans gc2
  have z3:=(bcells g4 ⟨g,3,none⟩ glt).trans gc3
  have k1:=Nat.lt_of_lt_of_le glt g4.size
  have k2:=Nat.lt_of_lt_of_le s2 g4.size
  have HC:=hide (And.intro (gB.out.below g4) (HAA.out.below g4))
  have HD:=hide (gA.out.below g4)
  clear g3 g4 x0 x1 gc0 gc1 gc2 gc3 glt s2 gA gB HAA
  (obtain ⟨f,fa,fb,rfl,flt,fc0,fc1,fc2,fc3,fA,fB⟩:=Rep.opened HD.out)
  clear HD
  go_wp2_with (fail)
  refine wp_region_lexD [6,23,24] (fun w'=>Below (w4).heap.size (w4) w') (by kernel_rfl) (by kernel_rfl) (Below.refl _ _).drew ?_
  (repeat ((with_reducible refine wpLex_step (fun K hK=>?_));go_simp;first | ((with_reducible refine hK _ _ ?_);clear hK K) | ((with_reducible apply Exists.intro);refine ⟨fun w' hw'=>?_,hK _ _ ?_⟩;(· (have hq:=bcells hw';apply valEq;(· (go_simp;first | done | (with_reducible rfl)));(· ((try go_bits);with_reducible rfl))));clear hK K)))
  ((with_reducible refine wpLex_step (fun K hK=>?_));go_simp;refine (QT.out _ _ HC.out.2.drew fA.out.drew).mono ?_;rintro e w5 ⟨q5,t5,rfl,R5,T5,hbx⟩;have g5:=((Below.refl (w4).heap.size w4).drew).trans (hbx.mono ((Below.refl (w4).heap.size w4).drew).size);refine ⟨_,rfl,g5,hK _ _ ?_⟩;clear hK K hbx)
  have HR5:=hide R5
  clear R5
  have HT5:=hide T5
  clear T5
  (repeat ((with_reducible refine wpLex_step (fun K hK=>?_));go_simp;first | ((with_reducible refine hK _ _ ?_);clear hK K) | ((with_reducible apply Exists.intro);refine ⟨fun w' hw'=>?_,hK _ _ ?_⟩;(· (have hq:=bcells hw';apply valEq;(· (go_simp;first | done | (with_reducible rfl)));(· ((try go_bits);with_reducible rfl))));clear hK K)))
  ((with_reducible refine wpLex_step (fun K hK=>?_));go_simp;refine (QU.out _ _ _ (fB.out.below g5) (HC.out.1.below g5)).mono ?_;rintro e w6 ⟨q6,t6,rfl,R6,T6,hbx⟩;have g6:=(g5).trans (hbx.mono (g5).size);have HR65:=hide (HR5.out.below hbx);refine ⟨_,rfl,g6,hK _ _ ?_⟩;clear hK K hbx)
  have HR6:=hide (And.intro R6 HR65.out)
  clear R6
  have HT6:=hide T6
  clear T6
  (repeat ((with_reducible refine wpLex_step (fun K hK=>?_));go_simp;first | ((with_reducible refine hK _ _ ?_);clear hK K) | ((with_reducible apply Exists.intro);refine ⟨fun w' hw'=>?_,hK _ _ ?_⟩;(· (have hq:=bcells hw';apply valEq;(· (go_simp;first | done | (with_reducible rfl)));(· ((try go_bits);with_reducible rfl))));clear hK K)))
  ((with_reducible refine wpLex_step (fun K hK=>?_));go_simp;refine (QV.out _ _ _ _ _ HR6.out.2 HR6.out.1 HT5.out HT6.out).mono ?_;rintro e w7 ⟨q7,t7,rfl,R7,T7,hbx⟩;have g7:=(g6).trans (hbx.mono (g6).size);refine ⟨_,rfl,g7,hK _ _ ?_⟩;clear hK K hbx)
  have HR7:=hide (And.intro R7 T7)
  clear R7 T7
  (repeat ((with_reducible refine wpLex_step (fun K hK=>?_));go_simp;first | ((with_reducible refine hK _ _ ?_);clear hK K) | ((with_reducible apply Exists.intro);refine ⟨fun w' hw'=>?_,hK _ _ ?_⟩;(· (have hq:=bcells hw';apply valEq;(· (go_simp;first | done | (with_reducible rfl)));(· ((try go_bits);with_reducible rfl))));clear hK K)))
  refine wpLex_nil (fun _=>?_)
  go_wp2_with (fail)
  go_ret
  exact ⟨q7,t7,rfl,HR7.out.1,by rw [HR7.out.2,HT5.out,HT6.out,HE.out];simp,hb4.trans (g7.mono hb4.size)⟩
theorem turned_ok (a b:Tr) (pa pb:Option Addr) (k n:Int) (w:World) (ha:Rep w pa a) (hb:Rep w pb b) (hs:a.sz + b.sz ≤ 4096) :
    Calls Tryz.prog 177 #[.pointer pa,.agg #[.int .u64 k,.int .i64 n],.pointer pb] w (RetTr (a.toL ++ (k,n) :: b.toL) w):=by
  by_cases h1:b.ht + 1 < a.ht
  · obtain ⟨aa,ak,an,ab,rfl⟩:=Tr.ne_nil (t:=a) (by omega)
    by_cases h2:ab.ht ≤ aa.ht
    · exact turned_left1 aa ab b ak an pa pb k n w ha hb hs h1 h2
    · obtain ⟨ta,tk,tn,tb,rfl⟩:=Tr.ne_nil (t:=ab) (by omega)
      exact turned_left2 aa ta tb b ak an tk tn pa pb k n w ha hb hs h1 h2
  · by_cases h2:a.ht + 1 < b.ht
    · obtain ⟨ba,bk,bn,bb,rfl⟩:=Tr.ne_nil (t:=b) (by omega)
      by_cases h3:ba.ht ≤ bb.ht
      · exact turned_right1 a ba bb bk bn pa pb k n w ha hb hs h2 h3
      · obtain ⟨ta,tk,tn,tb,rfl⟩:=Tr.ne_nil (t:=ba) (by omega)
        exact turned_right2 a ta tb bb bk bn tk tn pa pb k n w ha hb hs h2 h3
    · exact turned_even a b pa pb k n w ha hb hs h1 h2
end Go.Proofs.YtppblcbgkadldaaGreatDoor
