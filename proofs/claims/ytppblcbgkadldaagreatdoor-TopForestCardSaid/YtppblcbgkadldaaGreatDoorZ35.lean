/-
  A part of the proof that the law TopForest returns true for every input and leaves its arguments as they were: IdxF.
-/
import Derived.Test.YtppblcbgkadldaaGreatDoorZ33
import Derived.Test.YtppblcbgkadldaaGreatDoorZ34
set_option linter.all false
namespace Go.Proofs.YtppblcbgkadldaaGreatDoor
open Go Go.RowKit
set_option maxRecDepth 100000
attribute [local go_sem] Heavy heavyUpon
section
variable {w w':World} {N L R:Nat} {hs:List (Int × Int)} {es:List E3} {ls:List S2} {H:Option Addr} {hc:Nat} {E:Option Addr} {m c:Nat} {S:Option Addr} {d:Nat}
def RetDA (N L R:Nat) (hs:List (Int × Int)) (es:List E3) (ls:List S2) (H:Option Addr) (hc:Nat) (E:Option Addr) (m c:Nat) (S:Option Addr) (d K:Nat) (T:TypeId) (P:Value → World → Prop) (w:World) (e:Ending) (w':World):Prop:=
  ∃ x,e=.returned (.tuple #[.agg #[.int .i64 N,.int .i64 L,.int .i64 R,.slice H K hc,.slice E m c,.slice S N d],.iface T x]) ∧ P x w' ∧ SM w' N L R hs es ls H hc E m c S d ∧ Below w.heap.size w w'
def Keeps6 (g:Nat) (P:Value → World → Prop):Prop:=∀ x W a b k e f i,P x W → P x ((((((W.setCell ⟨g,0,none⟩ a).setCell ⟨g,1,none⟩ b).setCell ⟨g,2,none⟩ k).setCell ⟨g,3,none⟩ e).setCell ⟨g,4,none⟩ f).setCell ⟨g,5,none⟩ i)
theorem sl_set6 {W:World} {g sz n c:Nat} {A:Option Addr} {xs:List Value} (h:Sl W [g] sz A n c xs) (a b k e f i:Value):Sl ((((((W.setCell ⟨g,0,none⟩ a).setCell ⟨g,1,none⟩ b).setCell ⟨g,2,none⟩ k).setCell ⟨g,3,none⟩ e).setCell ⟨g,4,none⟩ f).setCell ⟨g,5,none⟩ i) [g] sz A n c xs:=by
  have h0:=h.setCell (p:=⟨g,0,none⟩) (by simp) a
  have h1:=h0.setCell (p:=⟨g,1,none⟩) (by simp) b
  have h2:=h1.setCell (p:=⟨g,2,none⟩) (by simp) k
  have h3:=h2.setCell (p:=⟨g,3,none⟩) (by simp) e
  have h4:=h3.setCell (p:=⟨g,4,none⟩) (by simp) f
  exact h4.setCell (p:=⟨g,5,none⟩) (by simp) i
theorem keeps_v (g:Nat) (v:Value):Keeps6 g (IsV v):=by
  unfold Keeps6 IsV
  intros;assumption
theorem keeps_keys (g:Nat) (l:List Int):Keeps6 g (IsKeys [g] l):=by
  unfold Keeps6 IsKeys
  intro x W a b k e f i h
  obtain ⟨A,n,l',h1,h2,h3⟩:=h
  exact ⟨A,n,l',h1,sl_set6 h2 a b k e f i,h3⟩
theorem keeps_ps (g:Nat) (l:List (Int × Int)):Keeps6 g (IsPs [g] l):=by
  unfold Keeps6 IsPs
  intro x W a b k e f i h
  obtain ⟨A,n,l',h1,h2,h3⟩:=h
  exact ⟨A,n,l',h1,sl_set6 h2 a b k e f i,h3⟩
set_option maxHeartbeats 6400000 in
theorem do_ask8 (a b:Int) (tx:ByteArray) (u v:Nat) (hA:getV (dnK ls ls.length) a=.tuple #[.int .i64 (u:Int),.bool true]) (hB:getV (dnK ls ls.length) b=.tuple #[.int .i64 (v:Int),.bool true]) (T:TypeId) (w:World) (P:Value → World → Prop) (hP:Keeps6 (w.heap.size + 1 + 1) P)
    (hQ:∀ W,SM W N L R hs es ls H hc E m c S d → w.heap.size + 1 + 1 < W.heap.size → Calls Tryz.prog 20 #[sV N L R H hc E m c S d,.int .i64 8,.int .i64 u,.int .i64 v] W (RetA T P W)) (hS:SM w N L R hs es ls H hc E m c S d) :
    Calls Tryz.prog 7 #[sV N L R H hc E m c S d,.agg #[.int .i64 8,.int .u64 a,.int .u64 b,.string tx]] w (RetDA N L R hs es ls H hc E m c S d (L * R) T P w):=by
  have QC:=hide hQ
  have HP:=hide hP
  unfold sV at QC
  clear hQ hP
  (have n1:=hS.g.n1;have n2:=hS.g.n2;have hne2:w.heap.size + 1 + 1 ≠ w.heap.size:=(by omega);have hne3:¬ (w.heap.size=w.heap.size + 1 + 1):=(by omega);have QR:=hide (fun W (h:SM W N L R hs es ls H hc E m c S d)=>snapR_ok W h);have QA:=hide (fun W (h:SM W N L R hs es ls H hc E m c S d)=>vfind_ok ls h.ok a S N d W h.s n1 (by omega));have QB:=hide (fun W (h:SM W N L R hs es ls H hc E m c S d)=>vfind_ok ls h.ok b S N d W h.s n1 (by omega));rw [hA] at QA;rw [hB] at QB;have B0:=hide (((Blk.new w 33 #[.int .i64 N,.int .i64 L,.int .i64 R,.slice H (L * R) hc,.slice E m c,.slice S N d]).alloc (.cells #[.int .i64 8,.int .u64 a,.int .u64 b,.string tx] 45)).alloc (.cells #[.int .i64 0,.int .i64 0,.int .i64 0,.slice none 0 0,.slice none 0 0,.slice none 0 0] 33));have B1:=(Blk.new (w.alloc (.cells #[.int .i64 N,.int .i64 L,.int .i64 R,.slice H (L * R) hc,.slice E m c,.slice S N d] 33)) 45 #[.int .i64 8,.int .u64 a,.int .u64 b,.string tx]).alloc (.cells #[.int .i64 0,.int .i64 0,.int .i64 0,.slice none 0 0,.slice none 0 0,.slice none 0 0] 33);rw [heap_alloc_size] at B1;replace B1:=hide B1;have B2:=Blk.new ((w.alloc (.cells #[.int .i64 N,.int .i64 L,.int .i64 R,.slice H (L * R) hc,.slice E m c,.slice S N d] 33)).alloc (.cells #[.int .i64 8,.int .u64 a,.int .u64 b,.string tx] 45)) 33 #[.int .i64 0,.int .i64 0,.int .i64 0,.slice none 0 0,.slice none 0 0,.slice none 0 0];rw [heap_alloc_size,heap_alloc_size] at B2;replace B2:=hide B2;have hb:=(((Below.refl w.heap.size w).alloc (Nat.le_refl _) (.cells #[.int .i64 N,.int .i64 L,.int .i64 R,.slice H (L * R) hc,.slice E m c,.slice S N d] 33)).alloc (by simp) (.cells #[.int .i64 8,.int .u64 a,.int .u64 b,.string tx] 45)).alloc (by simp;omega) (.cells #[.int .i64 0,.int .i64 0,.int .i64 0,.slice none 0 0,.slice none 0 0,.slice none 0 0] 33);have HS:=hide (((hS.alloc (.cells #[.int .i64 N,.int .i64 L,.int .i64 R,.slice H (L * R) hc,.slice E m c,.slice S N d] 33)).alloc (.cells #[.int .i64 8,.int .u64 a,.int .u64 b,.string tx] 45)).alloc (.cells #[.int .i64 0,.int .i64 0,.int .i64 0,.slice none 0 0,.slice none 0 0,.slice none 0 0] 33));unfold sV at QR;unfold sV;generalize hK:L * R=K at *;clear hS;go_enter Tryz.func7,Tryz.ntmps7;go_wp2_with (fail);generalize ((w.alloc (.cells #[.int .i64 N,.int .i64 L,.int .i64 R,.slice H K hc,.slice E m c,.slice S N d] 33)).alloc (.cells #[.int .i64 8,.int .u64 a,.int .u64 b,.string tx] 45)).alloc (.cells #[.int .i64 0,.int .i64 0,.int .i64 0,.slice none 0 0,.slice none 0 0,.slice none 0 0] 33)=W0 at *;(refine (QR.out _ HS.out).mono ?_;rintro e w1 ⟨rfl,bx⟩;replace hb:=hb.trans (bx.mono hb.size);replace HS:=hide (HS.out.below bx);replace B2:=hide (B2.out.below bx B2.out.lt);replace B1:=hide (B1.out.below bx B1.out.lt);replace B0:=hide (B0.out.below bx B0.out.lt);clear bx;(obtain ⟨x0,x1,x2,x3,x4,x5,e0,s0⟩:=(B0.out).f6);(obtain ⟨y0,y1,y2,y3,e1,s1⟩:=(B1.out).f4);go_wp2_with (fail);clear x0 x1 x2 x3 x4 x5 e0 s0 y0 y1 y2 y3 e1 s1);(refine (QA.out _ HS.out).mono ?_;rintro e w2 ⟨rfl,bx⟩;replace hb:=hb.trans (bx.mono hb.size);replace HS:=hide (HS.out.below bx);replace B2:=hide (B2.out.below bx B2.out.lt);replace B1:=hide (B1.out.below bx B1.out.lt);replace B0:=hide (B0.out.below bx B0.out.lt);clear bx;(obtain ⟨x0,x1,x2,x3,x4,x5,e0,s0⟩:=(B0.out).f6);(obtain ⟨y0,y1,y2,y3,e1,s1⟩:=(B1.out).f4);go_wp2_with (fail);clear x0 x1 x2 x3 x4 x5 e0 s0 y0 y1 y2 y3 e1 s1);(refine (QB.out _ HS.out).mono ?_;rintro e w3 ⟨rfl,bx⟩;replace hb:=hb.trans (bx.mono hb.size);replace HS:=hide (HS.out.below bx);replace B2:=hide (B2.out.below bx B2.out.lt);replace B1:=hide (B1.out.below bx B1.out.lt);replace B0:=hide (B0.out.below bx B0.out.lt);clear bx;(obtain ⟨x0,x1,x2,x3,x4,x5,e0,s0⟩:=(B0.out).f6);(obtain ⟨y0,y1,y2,y3,e1,s1⟩:=(B1.out).f4);go_wp2_with (fail);clear x0 x1 x2 x3 x4 x5 e0 s0 y0 y1 y2 y3 e1 s1))
  (refine (asksA_8 _).mono ?_;rintro e w4 ⟨rfl,bx⟩;replace hb:=hb.trans (bx.mono hb.size);replace HS:=hide (HS.out.below bx);replace B2:=hide (B2.out.below bx B2.out.lt);replace B1:=hide (B1.out.below bx B1.out.lt);replace B0:=hide (B0.out.below bx B0.out.lt);clear bx;(obtain ⟨x0,x1,x2,x3,x4,x5,e0,s0⟩:=(B0.out).f6);(obtain ⟨y0,y1,y2,y3,e1,s1⟩:=(B1.out).f4);go_wp2_with (fail);clear x0 x1 x2 x3 x4 x5 e0 s0 y0 y1 y2 y3 e1 s1)
  (refine (asksB_8 _).mono ?_;rintro e w5 ⟨rfl,bx⟩;replace hb:=hb.trans (bx.mono hb.size);replace HS:=hide (HS.out.below bx);replace B2:=hide (B2.out.below bx B2.out.lt);replace B1:=hide (B1.out.below bx B1.out.lt);replace B0:=hide (B0.out.below bx B0.out.lt);clear bx;(obtain ⟨x0,x1,x2,x3,x4,x5,e0,s0⟩:=(B0.out).f6);(obtain ⟨y0,y1,y2,y3,e1,s1⟩:=(B1.out).f4);go_wp2_with (fail);clear x0 x1 x2 x3 x4 x5 e0 s0 y0 y1 y2 y3 e1 s1)
  have hB2:w.heap.size + 1 + 1 ≤ w5.heap.size:=Nat.le_of_lt B2.out.lt
  have hl0:w.heap.size < w.heap.size + 1 + 1:=by omega
  have hl1:w.heap.size + 1 < w.heap.size + 1 + 1:=by omega
  (obtain ⟨x0,x1,x2,x3,x4,x5,e0,s0⟩:=(B0.out).f6)
  (obtain ⟨y0,y1,y2,y3,e1,s1⟩:=(B1.out).f4)
  obtain ⟨rb,eb,sb⟩:=B2.out.facts
  have q0:w5.cell? ⟨w.heap.size + 1 + 1,0,none⟩=some (.int .i64 0):=rb 0
  have q1:w5.cell? ⟨w.heap.size + 1 + 1,1,none⟩=some (.int .i64 0):=rb 1
  have q2:w5.cell? ⟨w.heap.size + 1 + 1,2,none⟩=some (.int .i64 0):=rb 2
  have q3:w5.cell? ⟨w.heap.size + 1 + 1,3,none⟩=some (.slice none 0 0):=rb 3
  have q4:w5.cell? ⟨w.heap.size + 1 + 1,4,none⟩=some (.slice none 0 0):=rb 4
  have q5:w5.cell? ⟨w.heap.size + 1 + 1,5,none⟩=some (.slice none 0 0):=rb 5
  clear rb QR QA QB
  refine wp_region_lexD [6,7] (fun w'=>Below (w.heap.size + 1 + 1) w5 w') (by kernel_rfl) (by kernel_rfl) (Below.refl _ _).drew ?_
  (repeat ((with_reducible refine wpLex_step (fun K hK=>?_));go_simp;first | ((with_reducible refine hK _ _ ?_);clear hK K) | ((with_reducible apply Exists.intro);refine ⟨fun w' hw'=>?_,hK _ _ ?_⟩;(· (have hq:=bcells hw';apply valEq;(· (go_simp;first | done | (with_reducible rfl)));(· ((try go_bits);with_reducible rfl))));clear hK K)))
  have g0:=(Below.refl (w.heap.size + 1 + 1) w5).drew
  ((with_reducible refine wpLex_step (fun K hK=>?_));go_simp;refine (QC.out _ HS.out.drew B2.out.lt).mono ?_;rintro e w6 ⟨x,rfl,P6,hbx⟩;have g6:=g0.trans (hbx.mono hB2);have HS6:=hide (SM.below HS.out.drew hbx);have hb6:=hb.drew.trans (hbx.mono (show w.heap.size ≤ w5.drew.heap.size from hb.size));have B26:=(show Blk w5.drew _ _ _ from B2.out).below hbx B2.out.lt;refine ⟨_,rfl,g6,hK _ _ ?_⟩;clear hK K hbx)
  have HP6:=hide P6
  clear P6 q0 q1 q2 q3 q4 q5 eb sb
  obtain ⟨rb,eb,sb⟩:=B26.facts
  have q0:w6.cell? ⟨w.heap.size + 1 + 1,0,none⟩=some (.int .i64 0):=rb 0
  have q1:w6.cell? ⟨w.heap.size + 1 + 1,1,none⟩=some (.int .i64 0):=rb 1
  have q2:w6.cell? ⟨w.heap.size + 1 + 1,2,none⟩=some (.int .i64 0):=rb 2
  have q3:w6.cell? ⟨w.heap.size + 1 + 1,3,none⟩=some (.slice none 0 0):=rb 3
  have q4:w6.cell? ⟨w.heap.size + 1 + 1,4,none⟩=some (.slice none 0 0):=rb 4
  have q5:w6.cell? ⟨w.heap.size + 1 + 1,5,none⟩=some (.slice none 0 0):=rb 5
  clear rb
  ((with_reducible refine wpLex_step (fun K hK=>?_));go_simp;refine ⟨below_set6 g6 (Nat.le_refl _) _ _ _ _ _ _,hK _ _ ?_⟩;clear hK K)
  clear q0 q1 q2 q3 q4 q5 eb sb x0 x1 x2 x3 x4 x5 e0 s0 y0 y1 y2 y3 e1 s1 B0 B1 B2 HS g0 g6 hB2
  (repeat ((with_reducible refine wpLex_step (fun K hK=>?_));go_simp;first | ((with_reducible refine hK _ _ ?_);clear hK K) | ((with_reducible apply Exists.intro);refine ⟨fun w' hw'=>?_,hK _ _ ?_⟩;(· (have hq:=bcells hw';apply valEq;(· (go_simp;first | done | (with_reducible rfl)));(· ((try go_bits);with_reducible rfl))));clear hK K)))
  refine wpLex_nil (fun _=>?_)
  have BW:=Blk.set6 B26 (Value.int .i64 N) (Value.int .i64 L) (Value.int .i64 R) (Value.slice H K hc) (Value.slice E m c) (Value.slice S N d)
  have SW:=hide (HS6.out.set6 B26 (scells_z N) (Value.int .i64 N) (Value.int .i64 L) (Value.int .i64 R) (Value.slice H K hc) (Value.slice E m c) (Value.slice S N d))
  have PW:=hide (HP.out x w6 (Value.int .i64 N) (Value.int .i64 L) (Value.int .i64 R) (Value.slice H K hc) (Value.slice E m c) (Value.slice S N d) HP6.out)
  have hbw:=below_set6 hb6 (show w.heap.size ≤ w.heap.size + 1 + 1 by omega) (Value.int .i64 N) (Value.int .i64 L) (Value.int .i64 R) (Value.slice H K hc) (Value.slice E m c) (Value.slice S N d)
  clear HP HP6 HS6 B26 hb6 QC hb
  generalize ((((((w6.setCell ⟨w.heap.size + 1 + 1,0,none⟩ (Value.int .i64 N)).setCell ⟨w.heap.size + 1 + 1,1,none⟩ (Value.int .i64 L)).setCell ⟨w.heap.size + 1 + 1,2,none⟩ (Value.int .i64 R)).setCell ⟨w.heap.size + 1 + 1,3,none⟩ (Value.slice H K hc)).setCell ⟨w.heap.size + 1 + 1,4,none⟩ (Value.slice E m c)).setCell ⟨w.heap.size + 1 + 1,5,none⟩ (Value.slice S N d))=W9 at *
  obtain ⟨rb,eb,sb⟩:=BW.facts
  have q0:W9.cell? ⟨w.heap.size + 1 + 1,0,none⟩=some (.int .i64 N):=rb 0
  have q1:W9.cell? ⟨w.heap.size + 1 + 1,1,none⟩=some (.int .i64 L):=rb 1
  have q2:W9.cell? ⟨w.heap.size + 1 + 1,2,none⟩=some (.int .i64 R):=rb 2
  have q3:W9.cell? ⟨w.heap.size + 1 + 1,3,none⟩=some (.slice H K hc):=rb 3
  have q4:W9.cell? ⟨w.heap.size + 1 + 1,4,none⟩=some (.slice E m c):=rb 4
  have q5:W9.cell? ⟨w.heap.size + 1 + 1,5,none⟩=some (.slice S N d):=rb 5
  clear rb
  go_wp2_with (fail)
  refine bodyPost_ret (v:=.tuple #[.agg #[.int .i64 N,.int .i64 L,.int .i64 R,.slice H K hc,.slice E m c,.slice S N d],.iface T x]) (by simp [results,Tryz.results7,go_sem,sb,q0,q1,q2,q3,q4,q5]) rfl ?_
  exact ⟨x,rfl,PW.out,SW.out,hbw⟩
set_option maxHeartbeats 6400000 in
theorem do_ask9 (a b:Int) (tx:ByteArray) (u v:Nat) (kb:Bool) (hA:getV (dnK ls ls.length) a=.tuple #[.int .i64 (u:Int),.bool true]) (hB:getV (dnK ls ls.length) b=.tuple #[.int .i64 (v:Int),.bool kb]) (T:TypeId) (w:World) (P:Value → World → Prop) (hP:Keeps6 (w.heap.size + 1 + 1) P)
    (hQ:∀ W,SM W N L R hs es ls H hc E m c S d → w.heap.size + 1 + 1 < W.heap.size → Calls Tryz.prog 20 #[sV N L R H hc E m c S d,.int .i64 9,.int .i64 u,.int .i64 v] W (RetA T P W)) (hS:SM w N L R hs es ls H hc E m c S d) :
    Calls Tryz.prog 7 #[sV N L R H hc E m c S d,.agg #[.int .i64 9,.int .u64 a,.int .u64 b,.string tx]] w (RetDA N L R hs es ls H hc E m c S d (L * R) T P w):=by
  have QC:=hide hQ
  have HP:=hide hP
  unfold sV at QC
  clear hQ hP
  (have n1:=hS.g.n1;have n2:=hS.g.n2;have hne2:w.heap.size + 1 + 1 ≠ w.heap.size:=(by omega);have hne3:¬ (w.heap.size=w.heap.size + 1 + 1):=(by omega);have QR:=hide (fun W (h:SM W N L R hs es ls H hc E m c S d)=>snapR_ok W h);have QA:=hide (fun W (h:SM W N L R hs es ls H hc E m c S d)=>vfind_ok ls h.ok a S N d W h.s n1 (by omega));have QB:=hide (fun W (h:SM W N L R hs es ls H hc E m c S d)=>vfind_ok ls h.ok b S N d W h.s n1 (by omega));rw [hA] at QA;rw [hB] at QB;have B0:=hide (((Blk.new w 33 #[.int .i64 N,.int .i64 L,.int .i64 R,.slice H (L * R) hc,.slice E m c,.slice S N d]).alloc (.cells #[.int .i64 9,.int .u64 a,.int .u64 b,.string tx] 45)).alloc (.cells #[.int .i64 0,.int .i64 0,.int .i64 0,.slice none 0 0,.slice none 0 0,.slice none 0 0] 33));have B1:=(Blk.new (w.alloc (.cells #[.int .i64 N,.int .i64 L,.int .i64 R,.slice H (L * R) hc,.slice E m c,.slice S N d] 33)) 45 #[.int .i64 9,.int .u64 a,.int .u64 b,.string tx]).alloc (.cells #[.int .i64 0,.int .i64 0,.int .i64 0,.slice none 0 0,.slice none 0 0,.slice none 0 0] 33);rw [heap_alloc_size] at B1;replace B1:=hide B1;have B2:=Blk.new ((w.alloc (.cells #[.int .i64 N,.int .i64 L,.int .i64 R,.slice H (L * R) hc,.slice E m c,.slice S N d] 33)).alloc (.cells #[.int .i64 9,.int .u64 a,.int .u64 b,.string tx] 45)) 33 #[.int .i64 0,.int .i64 0,.int .i64 0,.slice none 0 0,.slice none 0 0,.slice none 0 0];rw [heap_alloc_size,heap_alloc_size] at B2;replace B2:=hide B2;have hb:=(((Below.refl w.heap.size w).alloc (Nat.le_refl _) (.cells #[.int .i64 N,.int .i64 L,.int .i64 R,.slice H (L * R) hc,.slice E m c,.slice S N d] 33)).alloc (by simp) (.cells #[.int .i64 9,.int .u64 a,.int .u64 b,.string tx] 45)).alloc (by simp;omega) (.cells #[.int .i64 0,.int .i64 0,.int .i64 0,.slice none 0 0,.slice none 0 0,.slice none 0 0] 33);have HS:=hide (((hS.alloc (.cells #[.int .i64 N,.int .i64 L,.int .i64 R,.slice H (L * R) hc,.slice E m c,.slice S N d] 33)).alloc (.cells #[.int .i64 9,.int .u64 a,.int .u64 b,.string tx] 45)).alloc (.cells #[.int .i64 0,.int .i64 0,.int .i64 0,.slice none 0 0,.slice none 0 0,.slice none 0 0] 33));unfold sV at QR;unfold sV;generalize hK:L * R=K at *;clear hS;go_enter Tryz.func7,Tryz.ntmps7;go_wp2_with (fail);generalize ((w.alloc (.cells #[.int .i64 N,.int .i64 L,.int .i64 R,.slice H K hc,.slice E m c,.slice S N d] 33)).alloc (.cells #[.int .i64 9,.int .u64 a,.int .u64 b,.string tx] 45)).alloc (.cells #[.int .i64 0,.int .i64 0,.int .i64 0,.slice none 0 0,.slice none 0 0,.slice none 0 0] 33)=W0 at *;(refine (QR.out _ HS.out).mono ?_;rintro e w1 ⟨rfl,bx⟩;replace hb:=hb.trans (bx.mono hb.size);replace HS:=hide (HS.out.below bx);replace B2:=hide (B2.out.below bx B2.out.lt);replace B1:=hide (B1.out.below bx B1.out.lt);replace B0:=hide (B0.out.below bx B0.out.lt);clear bx;(obtain ⟨x0,x1,x2,x3,x4,x5,e0,s0⟩:=(B0.out).f6);(obtain ⟨y0,y1,y2,y3,e1,s1⟩:=(B1.out).f4);go_wp2_with (fail);clear x0 x1 x2 x3 x4 x5 e0 s0 y0 y1 y2 y3 e1 s1);(refine (QA.out _ HS.out).mono ?_;rintro e w2 ⟨rfl,bx⟩;replace hb:=hb.trans (bx.mono hb.size);replace HS:=hide (HS.out.below bx);replace B2:=hide (B2.out.below bx B2.out.lt);replace B1:=hide (B1.out.below bx B1.out.lt);replace B0:=hide (B0.out.below bx B0.out.lt);clear bx;(obtain ⟨x0,x1,x2,x3,x4,x5,e0,s0⟩:=(B0.out).f6);(obtain ⟨y0,y1,y2,y3,e1,s1⟩:=(B1.out).f4);go_wp2_with (fail);clear x0 x1 x2 x3 x4 x5 e0 s0 y0 y1 y2 y3 e1 s1);(refine (QB.out _ HS.out).mono ?_;rintro e w3 ⟨rfl,bx⟩;replace hb:=hb.trans (bx.mono hb.size);replace HS:=hide (HS.out.below bx);replace B2:=hide (B2.out.below bx B2.out.lt);replace B1:=hide (B1.out.below bx B1.out.lt);replace B0:=hide (B0.out.below bx B0.out.lt);clear bx;(obtain ⟨x0,x1,x2,x3,x4,x5,e0,s0⟩:=(B0.out).f6);(obtain ⟨y0,y1,y2,y3,e1,s1⟩:=(B1.out).f4);go_wp2_with (fail);clear x0 x1 x2 x3 x4 x5 e0 s0 y0 y1 y2 y3 e1 s1))
  (refine (asksA_9 _).mono ?_;rintro e w4 ⟨rfl,bx⟩;replace hb:=hb.trans (bx.mono hb.size);replace HS:=hide (HS.out.below bx);replace B2:=hide (B2.out.below bx B2.out.lt);replace B1:=hide (B1.out.below bx B1.out.lt);replace B0:=hide (B0.out.below bx B0.out.lt);clear bx;(obtain ⟨x0,x1,x2,x3,x4,x5,e0,s0⟩:=(B0.out).f6);(obtain ⟨y0,y1,y2,y3,e1,s1⟩:=(B1.out).f4);go_wp2_with (fail);clear x0 x1 x2 x3 x4 x5 e0 s0 y0 y1 y2 y3 e1 s1)
  (refine (asksB_9 _).mono ?_;rintro e w5 ⟨rfl,bx⟩;replace hb:=hb.trans (bx.mono hb.size);replace HS:=hide (HS.out.below bx);replace B2:=hide (B2.out.below bx B2.out.lt);replace B1:=hide (B1.out.below bx B1.out.lt);replace B0:=hide (B0.out.below bx B0.out.lt);clear bx;(obtain ⟨x0,x1,x2,x3,x4,x5,e0,s0⟩:=(B0.out).f6);(obtain ⟨y0,y1,y2,y3,e1,s1⟩:=(B1.out).f4);go_wp2_with (fail);clear x0 x1 x2 x3 x4 x5 e0 s0 y0 y1 y2 y3 e1 s1)
  have hB2:w.heap.size + 1 + 1 ≤ w5.heap.size:=Nat.le_of_lt B2.out.lt
  have hl0:w.heap.size < w.heap.size + 1 + 1:=by omega
  have hl1:w.heap.size + 1 < w.heap.size + 1 + 1:=by omega
  (obtain ⟨x0,x1,x2,x3,x4,x5,e0,s0⟩:=(B0.out).f6)
  (obtain ⟨y0,y1,y2,y3,e1,s1⟩:=(B1.out).f4)
  obtain ⟨rb,eb,sb⟩:=B2.out.facts
  have q0:w5.cell? ⟨w.heap.size + 1 + 1,0,none⟩=some (.int .i64 0):=rb 0
  have q1:w5.cell? ⟨w.heap.size + 1 + 1,1,none⟩=some (.int .i64 0):=rb 1
  have q2:w5.cell? ⟨w.heap.size + 1 + 1,2,none⟩=some (.int .i64 0):=rb 2
  have q3:w5.cell? ⟨w.heap.size + 1 + 1,3,none⟩=some (.slice none 0 0):=rb 3
  have q4:w5.cell? ⟨w.heap.size + 1 + 1,4,none⟩=some (.slice none 0 0):=rb 4
  have q5:w5.cell? ⟨w.heap.size + 1 + 1,5,none⟩=some (.slice none 0 0):=rb 5
  clear rb QR QA QB
  refine wp_region_lexD [6,7] (fun w'=>Below (w.heap.size + 1 + 1) w5 w') (by kernel_rfl) (by kernel_rfl) (Below.refl _ _).drew ?_
  (repeat ((with_reducible refine wpLex_step (fun K hK=>?_));go_simp;first | ((with_reducible refine hK _ _ ?_);clear hK K) | ((with_reducible apply Exists.intro);refine ⟨fun w' hw'=>?_,hK _ _ ?_⟩;(· (have hq:=bcells hw';apply valEq;(· (go_simp;first | done | (with_reducible rfl)));(· ((try go_bits);with_reducible rfl))));clear hK K)))
  have g0:=(Below.refl (w.heap.size + 1 + 1) w5).drew
  ((with_reducible refine wpLex_step (fun K hK=>?_));go_simp;refine (QC.out _ HS.out.drew B2.out.lt).mono ?_;rintro e w6 ⟨x,rfl,P6,hbx⟩;have g6:=g0.trans (hbx.mono hB2);have HS6:=hide (SM.below HS.out.drew hbx);have hb6:=hb.drew.trans (hbx.mono (show w.heap.size ≤ w5.drew.heap.size from hb.size));have B26:=(show Blk w5.drew _ _ _ from B2.out).below hbx B2.out.lt;refine ⟨_,rfl,g6,hK _ _ ?_⟩;clear hK K hbx)
  have HP6:=hide P6
  clear P6 q0 q1 q2 q3 q4 q5 eb sb
  obtain ⟨rb,eb,sb⟩:=B26.facts
  have q0:w6.cell? ⟨w.heap.size + 1 + 1,0,none⟩=some (.int .i64 0):=rb 0
  have q1:w6.cell? ⟨w.heap.size + 1 + 1,1,none⟩=some (.int .i64 0):=rb 1
  have q2:w6.cell? ⟨w.heap.size + 1 + 1,2,none⟩=some (.int .i64 0):=rb 2
  have q3:w6.cell? ⟨w.heap.size + 1 + 1,3,none⟩=some (.slice none 0 0):=rb 3
  have q4:w6.cell? ⟨w.heap.size + 1 + 1,4,none⟩=some (.slice none 0 0):=rb 4
  have q5:w6.cell? ⟨w.heap.size + 1 + 1,5,none⟩=some (.slice none 0 0):=rb 5
  clear rb
  ((with_reducible refine wpLex_step (fun K hK=>?_));go_simp;refine ⟨below_set6 g6 (Nat.le_refl _) _ _ _ _ _ _,hK _ _ ?_⟩;clear hK K)
  clear q0 q1 q2 q3 q4 q5 eb sb x0 x1 x2 x3 x4 x5 e0 s0 y0 y1 y2 y3 e1 s1 B0 B1 B2 HS g0 g6 hB2
  (repeat ((with_reducible refine wpLex_step (fun K hK=>?_));go_simp;first | ((with_reducible refine hK _ _ ?_);clear hK K) | ((with_reducible apply Exists.intro);refine ⟨fun w' hw'=>?_,hK _ _ ?_⟩;(· (have hq:=bcells hw';apply valEq;(· (go_simp;first | done | (with_reducible rfl)));(· ((try go_bits);with_reducible rfl))));clear hK K)))
  refine wpLex_nil (fun _=>?_)
  have BW:=Blk.set6 B26 (Value.int .i64 N) (Value.int .i64 L) (Value.int .i64 R) (Value.slice H K hc) (Value.slice E m c) (Value.slice S N d)
  have SW:=hide (HS6.out.set6 B26 (scells_z N) (Value.int .i64 N) (Value.int .i64 L) (Value.int .i64 R) (Value.slice H K hc) (Value.slice E m c) (Value.slice S N d))
  have PW:=hide (HP.out x w6 (Value.int .i64 N) (Value.int .i64 L) (Value.int .i64 R) (Value.slice H K hc) (Value.slice E m c) (Value.slice S N d) HP6.out)
  have hbw:=below_set6 hb6 (show w.heap.size ≤ w.heap.size + 1 + 1 by omega) (Value.int .i64 N) (Value.int .i64 L) (Value.int .i64 R) (Value.slice H K hc) (Value.slice E m c) (Value.slice S N d)
  clear HP HP6 HS6 B26 hb6 QC hb
  generalize ((((((w6.setCell ⟨w.heap.size + 1 + 1,0,none⟩ (Value.int .i64 N)).setCell ⟨w.heap.size + 1 + 1,1,none⟩ (Value.int .i64 L)).setCell ⟨w.heap.size + 1 + 1,2,none⟩ (Value.int .i64 R)).setCell ⟨w.heap.size + 1 + 1,3,none⟩ (Value.slice H K hc)).setCell ⟨w.heap.size + 1 + 1,4,none⟩ (Value.slice E m c)).setCell ⟨w.heap.size + 1 + 1,5,none⟩ (Value.slice S N d))=W9 at *
  obtain ⟨rb,eb,sb⟩:=BW.facts
  have q0:W9.cell? ⟨w.heap.size + 1 + 1,0,none⟩=some (.int .i64 N):=rb 0
  have q1:W9.cell? ⟨w.heap.size + 1 + 1,1,none⟩=some (.int .i64 L):=rb 1
  have q2:W9.cell? ⟨w.heap.size + 1 + 1,2,none⟩=some (.int .i64 R):=rb 2
  have q3:W9.cell? ⟨w.heap.size + 1 + 1,3,none⟩=some (.slice H K hc):=rb 3
  have q4:W9.cell? ⟨w.heap.size + 1 + 1,4,none⟩=some (.slice E m c):=rb 4
  have q5:W9.cell? ⟨w.heap.size + 1 + 1,5,none⟩=some (.slice S N d):=rb 5
  clear rb
  go_wp2_with (fail)
  refine bodyPost_ret (v:=.tuple #[.agg #[.int .i64 N,.int .i64 L,.int .i64 R,.slice H K hc,.slice E m c,.slice S N d],.iface T x]) (by simp [results,Tryz.results7,go_sem,sb,q0,q1,q2,q3,q4,q5]) rfl ?_
  exact ⟨x,rfl,PW.out,SW.out,hbw⟩
set_option maxHeartbeats 6400000 in
theorem do_ask11 (a b:Int) (tx:ByteArray) (u v:Nat) (kb:Bool) (hA:getV (dnK ls ls.length) a=.tuple #[.int .i64 (u:Int),.bool true]) (hB:getV (dnK ls ls.length) b=.tuple #[.int .i64 (v:Int),.bool kb]) (T:TypeId) (w:World) (P:Value → World → Prop) (hP:Keeps6 (w.heap.size + 1 + 1) P)
    (hQ:∀ W,SM W N L R hs es ls H hc E m c S d → w.heap.size + 1 + 1 < W.heap.size → Calls Tryz.prog 20 #[sV N L R H hc E m c S d,.int .i64 11,.int .i64 u,.int .i64 v] W (RetA T P W)) (hS:SM w N L R hs es ls H hc E m c S d) :
    Calls Tryz.prog 7 #[sV N L R H hc E m c S d,.agg #[.int .i64 11,.int .u64 a,.int .u64 b,.string tx]] w (RetDA N L R hs es ls H hc E m c S d (L * R) T P w):=by
  have QC:=hide hQ
  have HP:=hide hP
  unfold sV at QC
  clear hQ hP
  (have n1:=hS.g.n1;have n2:=hS.g.n2;have hne2:w.heap.size + 1 + 1 ≠ w.heap.size:=(by omega);have hne3:¬ (w.heap.size=w.heap.size + 1 + 1):=(by omega);have QR:=hide (fun W (h:SM W N L R hs es ls H hc E m c S d)=>snapR_ok W h);have QA:=hide (fun W (h:SM W N L R hs es ls H hc E m c S d)=>vfind_ok ls h.ok a S N d W h.s n1 (by omega));have QB:=hide (fun W (h:SM W N L R hs es ls H hc E m c S d)=>vfind_ok ls h.ok b S N d W h.s n1 (by omega));rw [hA] at QA;rw [hB] at QB;have B0:=hide (((Blk.new w 33 #[.int .i64 N,.int .i64 L,.int .i64 R,.slice H (L * R) hc,.slice E m c,.slice S N d]).alloc (.cells #[.int .i64 11,.int .u64 a,.int .u64 b,.string tx] 45)).alloc (.cells #[.int .i64 0,.int .i64 0,.int .i64 0,.slice none 0 0,.slice none 0 0,.slice none 0 0] 33));have B1:=(Blk.new (w.alloc (.cells #[.int .i64 N,.int .i64 L,.int .i64 R,.slice H (L * R) hc,.slice E m c,.slice S N d] 33)) 45 #[.int .i64 11,.int .u64 a,.int .u64 b,.string tx]).alloc (.cells #[.int .i64 0,.int .i64 0,.int .i64 0,.slice none 0 0,.slice none 0 0,.slice none 0 0] 33);rw [heap_alloc_size] at B1;replace B1:=hide B1;have B2:=Blk.new ((w.alloc (.cells #[.int .i64 N,.int .i64 L,.int .i64 R,.slice H (L * R) hc,.slice E m c,.slice S N d] 33)).alloc (.cells #[.int .i64 11,.int .u64 a,.int .u64 b,.string tx] 45)) 33 #[.int .i64 0,.int .i64 0,.int .i64 0,.slice none 0 0,.slice none 0 0,.slice none 0 0];rw [heap_alloc_size,heap_alloc_size] at B2;replace B2:=hide B2;have hb:=(((Below.refl w.heap.size w).alloc (Nat.le_refl _) (.cells #[.int .i64 N,.int .i64 L,.int .i64 R,.slice H (L * R) hc,.slice E m c,.slice S N d] 33)).alloc (by simp) (.cells #[.int .i64 11,.int .u64 a,.int .u64 b,.string tx] 45)).alloc (by simp;omega) (.cells #[.int .i64 0,.int .i64 0,.int .i64 0,.slice none 0 0,.slice none 0 0,.slice none 0 0] 33);have HS:=hide (((hS.alloc (.cells #[.int .i64 N,.int .i64 L,.int .i64 R,.slice H (L * R) hc,.slice E m c,.slice S N d] 33)).alloc (.cells #[.int .i64 11,.int .u64 a,.int .u64 b,.string tx] 45)).alloc (.cells #[.int .i64 0,.int .i64 0,.int .i64 0,.slice none 0 0,.slice none 0 0,.slice none 0 0] 33));unfold sV at QR;unfold sV;generalize hK:L * R=K at *;clear hS;go_enter Tryz.func7,Tryz.ntmps7;go_wp2_with (fail);generalize ((w.alloc (.cells #[.int .i64 N,.int .i64 L,.int .i64 R,.slice H K hc,.slice E m c,.slice S N d] 33)).alloc (.cells #[.int .i64 11,.int .u64 a,.int .u64 b,.string tx] 45)).alloc (.cells #[.int .i64 0,.int .i64 0,.int .i64 0,.slice none 0 0,.slice none 0 0,.slice none 0 0] 33)=W0 at *;(refine (QR.out _ HS.out).mono ?_;rintro e w1 ⟨rfl,bx⟩;replace hb:=hb.trans (bx.mono hb.size);replace HS:=hide (HS.out.below bx);replace B2:=hide (B2.out.below bx B2.out.lt);replace B1:=hide (B1.out.below bx B1.out.lt);replace B0:=hide (B0.out.below bx B0.out.lt);clear bx;(obtain ⟨x0,x1,x2,x3,x4,x5,e0,s0⟩:=(B0.out).f6);(obtain ⟨y0,y1,y2,y3,e1,s1⟩:=(B1.out).f4);go_wp2_with (fail);clear x0 x1 x2 x3 x4 x5 e0 s0 y0 y1 y2 y3 e1 s1);(refine (QA.out _ HS.out).mono ?_;rintro e w2 ⟨rfl,bx⟩;replace hb:=hb.trans (bx.mono hb.size);replace HS:=hide (HS.out.below bx);replace B2:=hide (B2.out.below bx B2.out.lt);replace B1:=hide (B1.out.below bx B1.out.lt);replace B0:=hide (B0.out.below bx B0.out.lt);clear bx;(obtain ⟨x0,x1,x2,x3,x4,x5,e0,s0⟩:=(B0.out).f6);(obtain ⟨y0,y1,y2,y3,e1,s1⟩:=(B1.out).f4);go_wp2_with (fail);clear x0 x1 x2 x3 x4 x5 e0 s0 y0 y1 y2 y3 e1 s1);(refine (QB.out _ HS.out).mono ?_;rintro e w3 ⟨rfl,bx⟩;replace hb:=hb.trans (bx.mono hb.size);replace HS:=hide (HS.out.below bx);replace B2:=hide (B2.out.below bx B2.out.lt);replace B1:=hide (B1.out.below bx B1.out.lt);replace B0:=hide (B0.out.below bx B0.out.lt);clear bx;(obtain ⟨x0,x1,x2,x3,x4,x5,e0,s0⟩:=(B0.out).f6);(obtain ⟨y0,y1,y2,y3,e1,s1⟩:=(B1.out).f4);go_wp2_with (fail);clear x0 x1 x2 x3 x4 x5 e0 s0 y0 y1 y2 y3 e1 s1))
  (refine (asksA_11 _).mono ?_;rintro e w4 ⟨rfl,bx⟩;replace hb:=hb.trans (bx.mono hb.size);replace HS:=hide (HS.out.below bx);replace B2:=hide (B2.out.below bx B2.out.lt);replace B1:=hide (B1.out.below bx B1.out.lt);replace B0:=hide (B0.out.below bx B0.out.lt);clear bx;(obtain ⟨x0,x1,x2,x3,x4,x5,e0,s0⟩:=(B0.out).f6);(obtain ⟨y0,y1,y2,y3,e1,s1⟩:=(B1.out).f4);go_wp2_with (fail);clear x0 x1 x2 x3 x4 x5 e0 s0 y0 y1 y2 y3 e1 s1)
  (refine (asksB_11 _).mono ?_;rintro e w5 ⟨rfl,bx⟩;replace hb:=hb.trans (bx.mono hb.size);replace HS:=hide (HS.out.below bx);replace B2:=hide (B2.out.below bx B2.out.lt);replace B1:=hide (B1.out.below bx B1.out.lt);replace B0:=hide (B0.out.below bx B0.out.lt);clear bx;(obtain ⟨x0,x1,x2,x3,x4,x5,e0,s0⟩:=(B0.out).f6);(obtain ⟨y0,y1,y2,y3,e1,s1⟩:=(B1.out).f4);go_wp2_with (fail);clear x0 x1 x2 x3 x4 x5 e0 s0 y0 y1 y2 y3 e1 s1)
  have hB2:w.heap.size + 1 + 1 ≤ w5.heap.size:=Nat.le_of_lt B2.out.lt
  have hl0:w.heap.size < w.heap.size + 1 + 1:=by omega
  have hl1:w.heap.size + 1 < w.heap.size + 1 + 1:=by omega
  (obtain ⟨x0,x1,x2,x3,x4,x5,e0,s0⟩:=(B0.out).f6)
  (obtain ⟨y0,y1,y2,y3,e1,s1⟩:=(B1.out).f4)
  obtain ⟨rb,eb,sb⟩:=B2.out.facts
  have q0:w5.cell? ⟨w.heap.size + 1 + 1,0,none⟩=some (.int .i64 0):=rb 0
  have q1:w5.cell? ⟨w.heap.size + 1 + 1,1,none⟩=some (.int .i64 0):=rb 1
  have q2:w5.cell? ⟨w.heap.size + 1 + 1,2,none⟩=some (.int .i64 0):=rb 2
  have q3:w5.cell? ⟨w.heap.size + 1 + 1,3,none⟩=some (.slice none 0 0):=rb 3
  have q4:w5.cell? ⟨w.heap.size + 1 + 1,4,none⟩=some (.slice none 0 0):=rb 4
  have q5:w5.cell? ⟨w.heap.size + 1 + 1,5,none⟩=some (.slice none 0 0):=rb 5
  clear rb QR QA QB
  refine wp_region_lexD [6,7] (fun w'=>Below (w.heap.size + 1 + 1) w5 w') (by kernel_rfl) (by kernel_rfl) (Below.refl _ _).drew ?_
  (repeat ((with_reducible refine wpLex_step (fun K hK=>?_));go_simp;first | ((with_reducible refine hK _ _ ?_);clear hK K) | ((with_reducible apply Exists.intro);refine ⟨fun w' hw'=>?_,hK _ _ ?_⟩;(· (have hq:=bcells hw';apply valEq;(· (go_simp;first | done | (with_reducible rfl)));(· ((try go_bits);with_reducible rfl))));clear hK K)))
  have g0:=(Below.refl (w.heap.size + 1 + 1) w5).drew
  ((with_reducible refine wpLex_step (fun K hK=>?_));go_simp;refine (QC.out _ HS.out.drew B2.out.lt).mono ?_;rintro e w6 ⟨x,rfl,P6,hbx⟩;have g6:=g0.trans (hbx.mono hB2);have HS6:=hide (SM.below HS.out.drew hbx);have hb6:=hb.drew.trans (hbx.mono (show w.heap.size ≤ w5.drew.heap.size from hb.size));have B26:=(show Blk w5.drew _ _ _ from B2.out).below hbx B2.out.lt;refine ⟨_,rfl,g6,hK _ _ ?_⟩;clear hK K hbx)
  have HP6:=hide P6
  clear P6 q0 q1 q2 q3 q4 q5 eb sb
  obtain ⟨rb,eb,sb⟩:=B26.facts
  have q0:w6.cell? ⟨w.heap.size + 1 + 1,0,none⟩=some (.int .i64 0):=rb 0
  have q1:w6.cell? ⟨w.heap.size + 1 + 1,1,none⟩=some (.int .i64 0):=rb 1
  have q2:w6.cell? ⟨w.heap.size + 1 + 1,2,none⟩=some (.int .i64 0):=rb 2
  have q3:w6.cell? ⟨w.heap.size + 1 + 1,3,none⟩=some (.slice none 0 0):=rb 3
  have q4:w6.cell? ⟨w.heap.size + 1 + 1,4,none⟩=some (.slice none 0 0):=rb 4
  have q5:w6.cell? ⟨w.heap.size + 1 + 1,5,none⟩=some (.slice none 0 0):=rb 5
  clear rb
  ((with_reducible refine wpLex_step (fun K hK=>?_));go_simp;refine ⟨below_set6 g6 (Nat.le_refl _) _ _ _ _ _ _,hK _ _ ?_⟩;clear hK K)
  clear q0 q1 q2 q3 q4 q5 eb sb x0 x1 x2 x3 x4 x5 e0 s0 y0 y1 y2 y3 e1 s1 B0 B1 B2 HS g0 g6 hB2
  (repeat ((with_reducible refine wpLex_step (fun K hK=>?_));go_simp;first | ((with_reducible refine hK _ _ ?_);clear hK K) | ((with_reducible apply Exists.intro);refine ⟨fun w' hw'=>?_,hK _ _ ?_⟩;(· (have hq:=bcells hw';apply valEq;(· (go_simp;first | done | (with_reducible rfl)));(· ((try go_bits);with_reducible rfl))));clear hK K)))
  refine wpLex_nil (fun _=>?_)
  have BW:=Blk.set6 B26 (Value.int .i64 N) (Value.int .i64 L) (Value.int .i64 R) (Value.slice H K hc) (Value.slice E m c) (Value.slice S N d)
  have SW:=hide (HS6.out.set6 B26 (scells_z N) (Value.int .i64 N) (Value.int .i64 L) (Value.int .i64 R) (Value.slice H K hc) (Value.slice E m c) (Value.slice S N d))
  have PW:=hide (HP.out x w6 (Value.int .i64 N) (Value.int .i64 L) (Value.int .i64 R) (Value.slice H K hc) (Value.slice E m c) (Value.slice S N d) HP6.out)
  have hbw:=below_set6 hb6 (show w.heap.size ≤ w.heap.size + 1 + 1 by omega) (Value.int .i64 N) (Value.int .i64 L) (Value.int .i64 R) (Value.slice H K hc) (Value.slice E m c) (Value.slice S N d)
  clear HP HP6 HS6 B26 hb6 QC hb
  generalize ((((((w6.setCell ⟨w.heap.size + 1 + 1,0,none⟩ (Value.int .i64 N)).setCell ⟨w.heap.size + 1 + 1,1,none⟩ (Value.int .i64 L)).setCell ⟨w.heap.size + 1 + 1,2,none⟩ (Value.int .i64 R)).setCell ⟨w.heap.size + 1 + 1,3,none⟩ (Value.slice H K hc)).setCell ⟨w.heap.size + 1 + 1,4,none⟩ (Value.slice E m c)).setCell ⟨w.heap.size + 1 + 1,5,none⟩ (Value.slice S N d))=W9 at *
  obtain ⟨rb,eb,sb⟩:=BW.facts
  have q0:W9.cell? ⟨w.heap.size + 1 + 1,0,none⟩=some (.int .i64 N):=rb 0
  have q1:W9.cell? ⟨w.heap.size + 1 + 1,1,none⟩=some (.int .i64 L):=rb 1
  have q2:W9.cell? ⟨w.heap.size + 1 + 1,2,none⟩=some (.int .i64 R):=rb 2
  have q3:W9.cell? ⟨w.heap.size + 1 + 1,3,none⟩=some (.slice H K hc):=rb 3
  have q4:W9.cell? ⟨w.heap.size + 1 + 1,4,none⟩=some (.slice E m c):=rb 4
  have q5:W9.cell? ⟨w.heap.size + 1 + 1,5,none⟩=some (.slice S N d):=rb 5
  clear rb
  go_wp2_with (fail)
  refine bodyPost_ret (v:=.tuple #[.agg #[.int .i64 N,.int .i64 L,.int .i64 R,.slice H K hc,.slice E m c,.slice S N d],.iface T x]) (by simp [results,Tryz.results7,go_sem,sb,q0,q1,q2,q3,q4,q5]) rfl ?_
  exact ⟨x,rfl,PW.out,SW.out,hbw⟩
set_option maxHeartbeats 6400000 in
theorem do_ask12 (a b:Int) (tx:ByteArray) (u v:Nat) (ka:Bool) (kb:Bool) (hA:getV (dnK ls ls.length) a=.tuple #[.int .i64 (u:Int),.bool ka]) (hB:getV (dnK ls ls.length) b=.tuple #[.int .i64 (v:Int),.bool kb]) (T:TypeId) (w:World) (P:Value → World → Prop) (hP:Keeps6 (w.heap.size + 1 + 1) P)
    (hQ:∀ W,SM W N L R hs es ls H hc E m c S d → w.heap.size + 1 + 1 < W.heap.size → Calls Tryz.prog 20 #[sV N L R H hc E m c S d,.int .i64 12,.int .i64 u,.int .i64 v] W (RetA T P W)) (hS:SM w N L R hs es ls H hc E m c S d) :
    Calls Tryz.prog 7 #[sV N L R H hc E m c S d,.agg #[.int .i64 12,.int .u64 a,.int .u64 b,.string tx]] w (RetDA N L R hs es ls H hc E m c S d (L * R) T P w):=by
  have QC:=hide hQ
  have HP:=hide hP
  unfold sV at QC
  clear hQ hP
  (have n1:=hS.g.n1;have n2:=hS.g.n2;have hne2:w.heap.size + 1 + 1 ≠ w.heap.size:=(by omega);have hne3:¬ (w.heap.size=w.heap.size + 1 + 1):=(by omega);have QR:=hide (fun W (h:SM W N L R hs es ls H hc E m c S d)=>snapR_ok W h);have QA:=hide (fun W (h:SM W N L R hs es ls H hc E m c S d)=>vfind_ok ls h.ok a S N d W h.s n1 (by omega));have QB:=hide (fun W (h:SM W N L R hs es ls H hc E m c S d)=>vfind_ok ls h.ok b S N d W h.s n1 (by omega));rw [hA] at QA;rw [hB] at QB;have B0:=hide (((Blk.new w 33 #[.int .i64 N,.int .i64 L,.int .i64 R,.slice H (L * R) hc,.slice E m c,.slice S N d]).alloc (.cells #[.int .i64 12,.int .u64 a,.int .u64 b,.string tx] 45)).alloc (.cells #[.int .i64 0,.int .i64 0,.int .i64 0,.slice none 0 0,.slice none 0 0,.slice none 0 0] 33));have B1:=(Blk.new (w.alloc (.cells #[.int .i64 N,.int .i64 L,.int .i64 R,.slice H (L * R) hc,.slice E m c,.slice S N d] 33)) 45 #[.int .i64 12,.int .u64 a,.int .u64 b,.string tx]).alloc (.cells #[.int .i64 0,.int .i64 0,.int .i64 0,.slice none 0 0,.slice none 0 0,.slice none 0 0] 33);rw [heap_alloc_size] at B1;replace B1:=hide B1;have B2:=Blk.new ((w.alloc (.cells #[.int .i64 N,.int .i64 L,.int .i64 R,.slice H (L * R) hc,.slice E m c,.slice S N d] 33)).alloc (.cells #[.int .i64 12,.int .u64 a,.int .u64 b,.string tx] 45)) 33 #[.int .i64 0,.int .i64 0,.int .i64 0,.slice none 0 0,.slice none 0 0,.slice none 0 0];rw [heap_alloc_size,heap_alloc_size] at B2;replace B2:=hide B2;have hb:=(((Below.refl w.heap.size w).alloc (Nat.le_refl _) (.cells #[.int .i64 N,.int .i64 L,.int .i64 R,.slice H (L * R) hc,.slice E m c,.slice S N d] 33)).alloc (by simp) (.cells #[.int .i64 12,.int .u64 a,.int .u64 b,.string tx] 45)).alloc (by simp;omega) (.cells #[.int .i64 0,.int .i64 0,.int .i64 0,.slice none 0 0,.slice none 0 0,.slice none 0 0] 33);have HS:=hide (((hS.alloc (.cells #[.int .i64 N,.int .i64 L,.int .i64 R,.slice H (L * R) hc,.slice E m c,.slice S N d] 33)).alloc (.cells #[.int .i64 12,.int .u64 a,.int .u64 b,.string tx] 45)).alloc (.cells #[.int .i64 0,.int .i64 0,.int .i64 0,.slice none 0 0,.slice none 0 0,.slice none 0 0] 33));unfold sV at QR;unfold sV;generalize hK:L * R=K at *;clear hS;go_enter Tryz.func7,Tryz.ntmps7;go_wp2_with (fail);generalize ((w.alloc (.cells #[.int .i64 N,.int .i64 L,.int .i64 R,.slice H K hc,.slice E m c,.slice S N d] 33)).alloc (.cells #[.int .i64 12,.int .u64 a,.int .u64 b,.string tx] 45)).alloc (.cells #[.int .i64 0,.int .i64 0,.int .i64 0,.slice none 0 0,.slice none 0 0,.slice none 0 0] 33)=W0 at *;(refine (QR.out _ HS.out).mono ?_;rintro e w1 ⟨rfl,bx⟩;replace hb:=hb.trans (bx.mono hb.size);replace HS:=hide (HS.out.below bx);replace B2:=hide (B2.out.below bx B2.out.lt);replace B1:=hide (B1.out.below bx B1.out.lt);replace B0:=hide (B0.out.below bx B0.out.lt);clear bx;(obtain ⟨x0,x1,x2,x3,x4,x5,e0,s0⟩:=(B0.out).f6);(obtain ⟨y0,y1,y2,y3,e1,s1⟩:=(B1.out).f4);go_wp2_with (fail);clear x0 x1 x2 x3 x4 x5 e0 s0 y0 y1 y2 y3 e1 s1);(refine (QA.out _ HS.out).mono ?_;rintro e w2 ⟨rfl,bx⟩;replace hb:=hb.trans (bx.mono hb.size);replace HS:=hide (HS.out.below bx);replace B2:=hide (B2.out.below bx B2.out.lt);replace B1:=hide (B1.out.below bx B1.out.lt);replace B0:=hide (B0.out.below bx B0.out.lt);clear bx;(obtain ⟨x0,x1,x2,x3,x4,x5,e0,s0⟩:=(B0.out).f6);(obtain ⟨y0,y1,y2,y3,e1,s1⟩:=(B1.out).f4);go_wp2_with (fail);clear x0 x1 x2 x3 x4 x5 e0 s0 y0 y1 y2 y3 e1 s1);(refine (QB.out _ HS.out).mono ?_;rintro e w3 ⟨rfl,bx⟩;replace hb:=hb.trans (bx.mono hb.size);replace HS:=hide (HS.out.below bx);replace B2:=hide (B2.out.below bx B2.out.lt);replace B1:=hide (B1.out.below bx B1.out.lt);replace B0:=hide (B0.out.below bx B0.out.lt);clear bx;(obtain ⟨x0,x1,x2,x3,x4,x5,e0,s0⟩:=(B0.out).f6);(obtain ⟨y0,y1,y2,y3,e1,s1⟩:=(B1.out).f4);go_wp2_with (fail);clear x0 x1 x2 x3 x4 x5 e0 s0 y0 y1 y2 y3 e1 s1))
  (refine (asksA_12 _).mono ?_;rintro e w4 ⟨rfl,bx⟩;replace hb:=hb.trans (bx.mono hb.size);replace HS:=hide (HS.out.below bx);replace B2:=hide (B2.out.below bx B2.out.lt);replace B1:=hide (B1.out.below bx B1.out.lt);replace B0:=hide (B0.out.below bx B0.out.lt);clear bx;(obtain ⟨x0,x1,x2,x3,x4,x5,e0,s0⟩:=(B0.out).f6);(obtain ⟨y0,y1,y2,y3,e1,s1⟩:=(B1.out).f4);go_wp2_with (fail);clear x0 x1 x2 x3 x4 x5 e0 s0 y0 y1 y2 y3 e1 s1)
  (refine (asksB_12 _).mono ?_;rintro e w5 ⟨rfl,bx⟩;replace hb:=hb.trans (bx.mono hb.size);replace HS:=hide (HS.out.below bx);replace B2:=hide (B2.out.below bx B2.out.lt);replace B1:=hide (B1.out.below bx B1.out.lt);replace B0:=hide (B0.out.below bx B0.out.lt);clear bx;(obtain ⟨x0,x1,x2,x3,x4,x5,e0,s0⟩:=(B0.out).f6);(obtain ⟨y0,y1,y2,y3,e1,s1⟩:=(B1.out).f4);go_wp2_with (fail);clear x0 x1 x2 x3 x4 x5 e0 s0 y0 y1 y2 y3 e1 s1)
  have hB2:w.heap.size + 1 + 1 ≤ w5.heap.size:=Nat.le_of_lt B2.out.lt
  have hl0:w.heap.size < w.heap.size + 1 + 1:=by omega
  have hl1:w.heap.size + 1 < w.heap.size + 1 + 1:=by omega
  (obtain ⟨x0,x1,x2,x3,x4,x5,e0,s0⟩:=(B0.out).f6)
  (obtain ⟨y0,y1,y2,y3,e1,s1⟩:=(B1.out).f4)
  obtain ⟨rb,eb,sb⟩:=B2.out.facts
  have q0:w5.cell? ⟨w.heap.size + 1 + 1,0,none⟩=some (.int .i64 0):=rb 0
  have q1:w5.cell? ⟨w.heap.size + 1 + 1,1,none⟩=some (.int .i64 0):=rb 1
  have q2:w5.cell? ⟨w.heap.size + 1 + 1,2,none⟩=some (.int .i64 0):=rb 2
  have q3:w5.cell? ⟨w.heap.size + 1 + 1,3,none⟩=some (.slice none 0 0):=rb 3
  have q4:w5.cell? ⟨w.heap.size + 1 + 1,4,none⟩=some (.slice none 0 0):=rb 4
  have q5:w5.cell? ⟨w.heap.size + 1 + 1,5,none⟩=some (.slice none 0 0):=rb 5
  clear rb QR QA QB
  refine wp_region_lexD [6,7] (fun w'=>Below (w.heap.size + 1 + 1) w5 w') (by kernel_rfl) (by kernel_rfl) (Below.refl _ _).drew ?_
  (repeat ((with_reducible refine wpLex_step (fun K hK=>?_));go_simp;first | ((with_reducible refine hK _ _ ?_);clear hK K) | ((with_reducible apply Exists.intro);refine ⟨fun w' hw'=>?_,hK _ _ ?_⟩;(· (have hq:=bcells hw';apply valEq;(· (go_simp;first | done | (with_reducible rfl)));(· ((try go_bits);with_reducible rfl))));clear hK K)))
  have g0:=(Below.refl (w.heap.size + 1 + 1) w5).drew
  ((with_reducible refine wpLex_step (fun K hK=>?_));go_simp;refine (QC.out _ HS.out.drew B2.out.lt).mono ?_;rintro e w6 ⟨x,rfl,P6,hbx⟩;have g6:=g0.trans (hbx.mono hB2);have HS6:=hide (SM.below HS.out.drew hbx);have hb6:=hb.drew.trans (hbx.mono (show w.heap.size ≤ w5.drew.heap.size from hb.size));have B26:=(show Blk w5.drew _ _ _ from B2.out).below hbx B2.out.lt;refine ⟨_,rfl,g6,hK _ _ ?_⟩;clear hK K hbx)
  have HP6:=hide P6
  clear P6 q0 q1 q2 q3 q4 q5 eb sb
  obtain ⟨rb,eb,sb⟩:=B26.facts
  have q0:w6.cell? ⟨w.heap.size + 1 + 1,0,none⟩=some (.int .i64 0):=rb 0
  have q1:w6.cell? ⟨w.heap.size + 1 + 1,1,none⟩=some (.int .i64 0):=rb 1
  have q2:w6.cell? ⟨w.heap.size + 1 + 1,2,none⟩=some (.int .i64 0):=rb 2
  have q3:w6.cell? ⟨w.heap.size + 1 + 1,3,none⟩=some (.slice none 0 0):=rb 3
  have q4:w6.cell? ⟨w.heap.size + 1 + 1,4,none⟩=some (.slice none 0 0):=rb 4
  have q5:w6.cell? ⟨w.heap.size + 1 + 1,5,none⟩=some (.slice none 0 0):=rb 5
  clear rb
  ((with_reducible refine wpLex_step (fun K hK=>?_));go_simp;refine ⟨below_set6 g6 (Nat.le_refl _) _ _ _ _ _ _,hK _ _ ?_⟩;clear hK K)
  clear q0 q1 q2 q3 q4 q5 eb sb x0 x1 x2 x3 x4 x5 e0 s0 y0 y1 y2 y3 e1 s1 B0 B1 B2 HS g0 g6 hB2
  (repeat ((with_reducible refine wpLex_step (fun K hK=>?_));go_simp;first | ((with_reducible refine hK _ _ ?_);clear hK K) | ((with_reducible apply Exists.intro);refine ⟨fun w' hw'=>?_,hK _ _ ?_⟩;(· (have hq:=bcells hw';apply valEq;(· (go_simp;first | done | (with_reducible rfl)));(· ((try go_bits);with_reducible rfl))));clear hK K)))
  refine wpLex_nil (fun _=>?_)
  have BW:=Blk.set6 B26 (Value.int .i64 N) (Value.int .i64 L) (Value.int .i64 R) (Value.slice H K hc) (Value.slice E m c) (Value.slice S N d)
  have SW:=hide (HS6.out.set6 B26 (scells_z N) (Value.int .i64 N) (Value.int .i64 L) (Value.int .i64 R) (Value.slice H K hc) (Value.slice E m c) (Value.slice S N d))
  have PW:=hide (HP.out x w6 (Value.int .i64 N) (Value.int .i64 L) (Value.int .i64 R) (Value.slice H K hc) (Value.slice E m c) (Value.slice S N d) HP6.out)
  have hbw:=below_set6 hb6 (show w.heap.size ≤ w.heap.size + 1 + 1 by omega) (Value.int .i64 N) (Value.int .i64 L) (Value.int .i64 R) (Value.slice H K hc) (Value.slice E m c) (Value.slice S N d)
  clear HP HP6 HS6 B26 hb6 QC hb
  generalize ((((((w6.setCell ⟨w.heap.size + 1 + 1,0,none⟩ (Value.int .i64 N)).setCell ⟨w.heap.size + 1 + 1,1,none⟩ (Value.int .i64 L)).setCell ⟨w.heap.size + 1 + 1,2,none⟩ (Value.int .i64 R)).setCell ⟨w.heap.size + 1 + 1,3,none⟩ (Value.slice H K hc)).setCell ⟨w.heap.size + 1 + 1,4,none⟩ (Value.slice E m c)).setCell ⟨w.heap.size + 1 + 1,5,none⟩ (Value.slice S N d))=W9 at *
  obtain ⟨rb,eb,sb⟩:=BW.facts
  have q0:W9.cell? ⟨w.heap.size + 1 + 1,0,none⟩=some (.int .i64 N):=rb 0
  have q1:W9.cell? ⟨w.heap.size + 1 + 1,1,none⟩=some (.int .i64 L):=rb 1
  have q2:W9.cell? ⟨w.heap.size + 1 + 1,2,none⟩=some (.int .i64 R):=rb 2
  have q3:W9.cell? ⟨w.heap.size + 1 + 1,3,none⟩=some (.slice H K hc):=rb 3
  have q4:W9.cell? ⟨w.heap.size + 1 + 1,4,none⟩=some (.slice E m c):=rb 4
  have q5:W9.cell? ⟨w.heap.size + 1 + 1,5,none⟩=some (.slice S N d):=rb 5
  clear rb
  go_wp2_with (fail)
  refine bodyPost_ret (v:=.tuple #[.agg #[.int .i64 N,.int .i64 L,.int .i64 R,.slice H K hc,.slice E m c,.slice S N d],.iface T x]) (by simp [results,Tryz.results7,go_sem,sb,q0,q1,q2,q3,q4,q5]) rfl ?_
  exact ⟨x,rfl,PW.out,SW.out,hbw⟩
set_option maxHeartbeats 6400000 in
theorem do_ask13 (a b:Int) (tx:ByteArray) (u v:Nat) (ka:Bool) (kb:Bool) (hA:getV (dnK ls ls.length) a=.tuple #[.int .i64 (u:Int),.bool ka]) (hB:getV (dnK ls ls.length) b=.tuple #[.int .i64 (v:Int),.bool kb]) (T:TypeId) (w:World) (P:Value → World → Prop) (hP:Keeps6 (w.heap.size + 1 + 1) P)
    (hQ:∀ W,SM W N L R hs es ls H hc E m c S d → w.heap.size + 1 + 1 < W.heap.size → Calls Tryz.prog 20 #[sV N L R H hc E m c S d,.int .i64 13,.int .i64 u,.int .i64 v] W (RetA T P W)) (hS:SM w N L R hs es ls H hc E m c S d) :
    Calls Tryz.prog 7 #[sV N L R H hc E m c S d,.agg #[.int .i64 13,.int .u64 a,.int .u64 b,.string tx]] w (RetDA N L R hs es ls H hc E m c S d (L * R) T P w):=by
  have QC:=hide hQ
  have HP:=hide hP
  unfold sV at QC
  clear hQ hP
  (have n1:=hS.g.n1;have n2:=hS.g.n2;have hne2:w.heap.size + 1 + 1 ≠ w.heap.size:=(by omega);have hne3:¬ (w.heap.size=w.heap.size + 1 + 1):=(by omega);have QR:=hide (fun W (h:SM W N L R hs es ls H hc E m c S d)=>snapR_ok W h);have QA:=hide (fun W (h:SM W N L R hs es ls H hc E m c S d)=>vfind_ok ls h.ok a S N d W h.s n1 (by omega));have QB:=hide (fun W (h:SM W N L R hs es ls H hc E m c S d)=>vfind_ok ls h.ok b S N d W h.s n1 (by omega));rw [hA] at QA;rw [hB] at QB;have B0:=hide (((Blk.new w 33 #[.int .i64 N,.int .i64 L,.int .i64 R,.slice H (L * R) hc,.slice E m c,.slice S N d]).alloc (.cells #[.int .i64 13,.int .u64 a,.int .u64 b,.string tx] 45)).alloc (.cells #[.int .i64 0,.int .i64 0,.int .i64 0,.slice none 0 0,.slice none 0 0,.slice none 0 0] 33));have B1:=(Blk.new (w.alloc (.cells #[.int .i64 N,.int .i64 L,.int .i64 R,.slice H (L * R) hc,.slice E m c,.slice S N d] 33)) 45 #[.int .i64 13,.int .u64 a,.int .u64 b,.string tx]).alloc (.cells #[.int .i64 0,.int .i64 0,.int .i64 0,.slice none 0 0,.slice none 0 0,.slice none 0 0] 33);rw [heap_alloc_size] at B1;replace B1:=hide B1;have B2:=Blk.new ((w.alloc (.cells #[.int .i64 N,.int .i64 L,.int .i64 R,.slice H (L * R) hc,.slice E m c,.slice S N d] 33)).alloc (.cells #[.int .i64 13,.int .u64 a,.int .u64 b,.string tx] 45)) 33 #[.int .i64 0,.int .i64 0,.int .i64 0,.slice none 0 0,.slice none 0 0,.slice none 0 0];rw [heap_alloc_size,heap_alloc_size] at B2;replace B2:=hide B2;have hb:=(((Below.refl w.heap.size w).alloc (Nat.le_refl _) (.cells #[.int .i64 N,.int .i64 L,.int .i64 R,.slice H (L * R) hc,.slice E m c,.slice S N d] 33)).alloc (by simp) (.cells #[.int .i64 13,.int .u64 a,.int .u64 b,.string tx] 45)).alloc (by simp;omega) (.cells #[.int .i64 0,.int .i64 0,.int .i64 0,.slice none 0 0,.slice none 0 0,.slice none 0 0] 33);have HS:=hide (((hS.alloc (.cells #[.int .i64 N,.int .i64 L,.int .i64 R,.slice H (L * R) hc,.slice E m c,.slice S N d] 33)).alloc (.cells #[.int .i64 13,.int .u64 a,.int .u64 b,.string tx] 45)).alloc (.cells #[.int .i64 0,.int .i64 0,.int .i64 0,.slice none 0 0,.slice none 0 0,.slice none 0 0] 33));unfold sV at QR;unfold sV;generalize hK:L * R=K at *;clear hS;go_enter Tryz.func7,Tryz.ntmps7;go_wp2_with (fail);generalize ((w.alloc (.cells #[.int .i64 N,.int .i64 L,.int .i64 R,.slice H K hc,.slice E m c,.slice S N d] 33)).alloc (.cells #[.int .i64 13,.int .u64 a,.int .u64 b,.string tx] 45)).alloc (.cells #[.int .i64 0,.int .i64 0,.int .i64 0,.slice none 0 0,.slice none 0 0,.slice none 0 0] 33)=W0 at *;(refine (QR.out _ HS.out).mono ?_;rintro e w1 ⟨rfl,bx⟩;replace hb:=hb.trans (bx.mono hb.size);replace HS:=hide (HS.out.below bx);replace B2:=hide (B2.out.below bx B2.out.lt);replace B1:=hide (B1.out.below bx B1.out.lt);replace B0:=hide (B0.out.below bx B0.out.lt);clear bx;(obtain ⟨x0,x1,x2,x3,x4,x5,e0,s0⟩:=(B0.out).f6);(obtain ⟨y0,y1,y2,y3,e1,s1⟩:=(B1.out).f4);go_wp2_with (fail);clear x0 x1 x2 x3 x4 x5 e0 s0 y0 y1 y2 y3 e1 s1);(refine (QA.out _ HS.out).mono ?_;rintro e w2 ⟨rfl,bx⟩;replace hb:=hb.trans (bx.mono hb.size);replace HS:=hide (HS.out.below bx);replace B2:=hide (B2.out.below bx B2.out.lt);replace B1:=hide (B1.out.below bx B1.out.lt);replace B0:=hide (B0.out.below bx B0.out.lt);clear bx;(obtain ⟨x0,x1,x2,x3,x4,x5,e0,s0⟩:=(B0.out).f6);(obtain ⟨y0,y1,y2,y3,e1,s1⟩:=(B1.out).f4);go_wp2_with (fail);clear x0 x1 x2 x3 x4 x5 e0 s0 y0 y1 y2 y3 e1 s1);(refine (QB.out _ HS.out).mono ?_;rintro e w3 ⟨rfl,bx⟩;replace hb:=hb.trans (bx.mono hb.size);replace HS:=hide (HS.out.below bx);replace B2:=hide (B2.out.below bx B2.out.lt);replace B1:=hide (B1.out.below bx B1.out.lt);replace B0:=hide (B0.out.below bx B0.out.lt);clear bx;(obtain ⟨x0,x1,x2,x3,x4,x5,e0,s0⟩:=(B0.out).f6);(obtain ⟨y0,y1,y2,y3,e1,s1⟩:=(B1.out).f4);go_wp2_with (fail);clear x0 x1 x2 x3 x4 x5 e0 s0 y0 y1 y2 y3 e1 s1))
  (refine (asksA_13 _).mono ?_;rintro e w4 ⟨rfl,bx⟩;replace hb:=hb.trans (bx.mono hb.size);replace HS:=hide (HS.out.below bx);replace B2:=hide (B2.out.below bx B2.out.lt);replace B1:=hide (B1.out.below bx B1.out.lt);replace B0:=hide (B0.out.below bx B0.out.lt);clear bx;(obtain ⟨x0,x1,x2,x3,x4,x5,e0,s0⟩:=(B0.out).f6);(obtain ⟨y0,y1,y2,y3,e1,s1⟩:=(B1.out).f4);go_wp2_with (fail);clear x0 x1 x2 x3 x4 x5 e0 s0 y0 y1 y2 y3 e1 s1)
  (refine (asksB_13 _).mono ?_;rintro e w5 ⟨rfl,bx⟩;replace hb:=hb.trans (bx.mono hb.size);replace HS:=hide (HS.out.below bx);replace B2:=hide (B2.out.below bx B2.out.lt);replace B1:=hide (B1.out.below bx B1.out.lt);replace B0:=hide (B0.out.below bx B0.out.lt);clear bx;(obtain ⟨x0,x1,x2,x3,x4,x5,e0,s0⟩:=(B0.out).f6);(obtain ⟨y0,y1,y2,y3,e1,s1⟩:=(B1.out).f4);go_wp2_with (fail);clear x0 x1 x2 x3 x4 x5 e0 s0 y0 y1 y2 y3 e1 s1)
  have hB2:w.heap.size + 1 + 1 ≤ w5.heap.size:=Nat.le_of_lt B2.out.lt
  have hl0:w.heap.size < w.heap.size + 1 + 1:=by omega
  have hl1:w.heap.size + 1 < w.heap.size + 1 + 1:=by omega
  (obtain ⟨x0,x1,x2,x3,x4,x5,e0,s0⟩:=(B0.out).f6)
  (obtain ⟨y0,y1,y2,y3,e1,s1⟩:=(B1.out).f4)
  obtain ⟨rb,eb,sb⟩:=B2.out.facts
  have q0:w5.cell? ⟨w.heap.size + 1 + 1,0,none⟩=some (.int .i64 0):=rb 0
  have q1:w5.cell? ⟨w.heap.size + 1 + 1,1,none⟩=some (.int .i64 0):=rb 1
  have q2:w5.cell? ⟨w.heap.size + 1 + 1,2,none⟩=some (.int .i64 0):=rb 2
  have q3:w5.cell? ⟨w.heap.size + 1 + 1,3,none⟩=some (.slice none 0 0):=rb 3
  have q4:w5.cell? ⟨w.heap.size + 1 + 1,4,none⟩=some (.slice none 0 0):=rb 4
  have q5:w5.cell? ⟨w.heap.size + 1 + 1,5,none⟩=some (.slice none 0 0):=rb 5
  clear rb QR QA QB
  refine wp_region_lexD [6,7] (fun w'=>Below (w.heap.size + 1 + 1) w5 w') (by kernel_rfl) (by kernel_rfl) (Below.refl _ _).drew ?_
  (repeat ((with_reducible refine wpLex_step (fun K hK=>?_));go_simp;first | ((with_reducible refine hK _ _ ?_);clear hK K) | ((with_reducible apply Exists.intro);refine ⟨fun w' hw'=>?_,hK _ _ ?_⟩;(· (have hq:=bcells hw';apply valEq;(· (go_simp;first | done | (with_reducible rfl)));(· ((try go_bits);with_reducible rfl))));clear hK K)))
  have g0:=(Below.refl (w.heap.size + 1 + 1) w5).drew
  ((with_reducible refine wpLex_step (fun K hK=>?_));go_simp;refine (QC.out _ HS.out.drew B2.out.lt).mono ?_;rintro e w6 ⟨x,rfl,P6,hbx⟩;have g6:=g0.trans (hbx.mono hB2);have HS6:=hide (SM.below HS.out.drew hbx);have hb6:=hb.drew.trans (hbx.mono (show w.heap.size ≤ w5.drew.heap.size from hb.size));have B26:=(show Blk w5.drew _ _ _ from B2.out).below hbx B2.out.lt;refine ⟨_,rfl,g6,hK _ _ ?_⟩;clear hK K hbx)
  have HP6:=hide P6
  clear P6 q0 q1 q2 q3 q4 q5 eb sb
  obtain ⟨rb,eb,sb⟩:=B26.facts
  have q0:w6.cell? ⟨w.heap.size + 1 + 1,0,none⟩=some (.int .i64 0):=rb 0
  have q1:w6.cell? ⟨w.heap.size + 1 + 1,1,none⟩=some (.int .i64 0):=rb 1
  have q2:w6.cell? ⟨w.heap.size + 1 + 1,2,none⟩=some (.int .i64 0):=rb 2
  have q3:w6.cell? ⟨w.heap.size + 1 + 1,3,none⟩=some (.slice none 0 0):=rb 3
  have q4:w6.cell? ⟨w.heap.size + 1 + 1,4,none⟩=some (.slice none 0 0):=rb 4
  have q5:w6.cell? ⟨w.heap.size + 1 + 1,5,none⟩=some (.slice none 0 0):=rb 5
  clear rb
  ((with_reducible refine wpLex_step (fun K hK=>?_));go_simp;refine ⟨below_set6 g6 (Nat.le_refl _) _ _ _ _ _ _,hK _ _ ?_⟩;clear hK K)
  clear q0 q1 q2 q3 q4 q5 eb sb x0 x1 x2 x3 x4 x5 e0 s0 y0 y1 y2 y3 e1 s1 B0 B1 B2 HS g0 g6 hB2
  (repeat ((with_reducible refine wpLex_step (fun K hK=>?_));go_simp;first | ((with_reducible refine hK _ _ ?_);clear hK K) | ((with_reducible apply Exists.intro);refine ⟨fun w' hw'=>?_,hK _ _ ?_⟩;(· (have hq:=bcells hw';apply valEq;(· (go_simp;first | done | (with_reducible rfl)));(· ((try go_bits);with_reducible rfl))));clear hK K)))
  refine wpLex_nil (fun _=>?_)
  have BW:=Blk.set6 B26 (Value.int .i64 N) (Value.int .i64 L) (Value.int .i64 R) (Value.slice H K hc) (Value.slice E m c) (Value.slice S N d)
  have SW:=hide (HS6.out.set6 B26 (scells_z N) (Value.int .i64 N) (Value.int .i64 L) (Value.int .i64 R) (Value.slice H K hc) (Value.slice E m c) (Value.slice S N d))
  have PW:=hide (HP.out x w6 (Value.int .i64 N) (Value.int .i64 L) (Value.int .i64 R) (Value.slice H K hc) (Value.slice E m c) (Value.slice S N d) HP6.out)
  have hbw:=below_set6 hb6 (show w.heap.size ≤ w.heap.size + 1 + 1 by omega) (Value.int .i64 N) (Value.int .i64 L) (Value.int .i64 R) (Value.slice H K hc) (Value.slice E m c) (Value.slice S N d)
  clear HP HP6 HS6 B26 hb6 QC hb
  generalize ((((((w6.setCell ⟨w.heap.size + 1 + 1,0,none⟩ (Value.int .i64 N)).setCell ⟨w.heap.size + 1 + 1,1,none⟩ (Value.int .i64 L)).setCell ⟨w.heap.size + 1 + 1,2,none⟩ (Value.int .i64 R)).setCell ⟨w.heap.size + 1 + 1,3,none⟩ (Value.slice H K hc)).setCell ⟨w.heap.size + 1 + 1,4,none⟩ (Value.slice E m c)).setCell ⟨w.heap.size + 1 + 1,5,none⟩ (Value.slice S N d))=W9 at *
  obtain ⟨rb,eb,sb⟩:=BW.facts
  have q0:W9.cell? ⟨w.heap.size + 1 + 1,0,none⟩=some (.int .i64 N):=rb 0
  have q1:W9.cell? ⟨w.heap.size + 1 + 1,1,none⟩=some (.int .i64 L):=rb 1
  have q2:W9.cell? ⟨w.heap.size + 1 + 1,2,none⟩=some (.int .i64 R):=rb 2
  have q3:W9.cell? ⟨w.heap.size + 1 + 1,3,none⟩=some (.slice H K hc):=rb 3
  have q4:W9.cell? ⟨w.heap.size + 1 + 1,4,none⟩=some (.slice E m c):=rb 4
  have q5:W9.cell? ⟨w.heap.size + 1 + 1,5,none⟩=some (.slice S N d):=rb 5
  clear rb
  go_wp2_with (fail)
  refine bodyPost_ret (v:=.tuple #[.agg #[.int .i64 N,.int .i64 L,.int .i64 R,.slice H K hc,.slice E m c,.slice S N d],.iface T x]) (by simp [results,Tryz.results7,go_sem,sb,q0,q1,q2,q3,q4,q5]) rfl ?_
  exact ⟨x,rfl,PW.out,SW.out,hbw⟩
end
end Go.Proofs.YtppblcbgkadldaaGreatDoor
