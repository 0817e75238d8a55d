/-
  A part of the proof that the law TopForest returns true for every input and leaves its arguments as they were: Line.
-/
import Derived.Test.YtppblcbgkadldaaGreatDoorZ15
import Derived.Test.YtppblcbgkadldaaGreatDoorZ43
import Derived.Test.YtppblcbgkadldaaGreatDoorZ44
set_option linter.all false
namespace Go.Proofs.YtppblcbgkadldaaGreatDoor
open Go Go.RowKit
set_option maxRecDepth 100000
attribute [local go_sem] Heavy heavyUpon
theorem ssl_size (w:World):(sizeOf (Tryz.prog.elem 93)).run Tryz.prog w=.ok 1 w:=by kernel_rfl
theorem ssl_lo (A:Option Addr) (n c:Nat) (i:Int) (h0:0 ≤ i) (h1:i ≤ n) (w:World) :
    (Instr.slice 93 (.slice A n c) (some (.int .i64 i)) none none).run Tryz.prog w=.ok (.slice (cutA A c i.toNat 1) (n - i.toNat) (c - i.toNat)) w:=by
  rw [run_slice_l (P:=Tryz.prog) (t:=93) (a:=A) (len:=n) (cap:=c) w Tryz.underlying93 .i64 i h0 h1,ssl_size]
  simp [Result.andThen,sliced,cutA]
theorem str_tail {W:World} {M:List Nat} {A:Option Addr} {m c:Nat} {x:ByteArray} {l:List ByteArray} (hS:Sl W M 1 A (m + 1) c (strs (x :: l))):Sl W [] 1 (cutA A c 1 1) m (c - 1) (strs l):=by
  have:=Sl.cut hS (k:=1) (by omega)
  have:=this.less (M':=[]) (by simp)
  unfold cutA
  rw [Nat.mul_one]
  exact this
attribute [local go_sem ↓] ssl_lo
section
variable {N L R:Nat} {hs:List (Int × Int)} {es:List E3} {ls:List S2} {H:Option Addr} {hc:Nat} {E:Option Addr} {m c:Nat} {S:Option Addr} {d:Nat}
def noS:ByteArray:=⟨#[]⟩
set_option maxHeartbeats 12800000 in
theorem line_0 (Aw:Option Addr) (nw cw:Nat) (ta q:Int) (w0 s:ByteArray) (Q:List E3 → List S2 → Value → Prop)
    (hc0:∀ W,Calls Tryz.prog 65 #[.string w0] W (Ret (.tuple #[.int .i64 q,.int .i64 0]) W)) (h1:q ≠ 0) (h2:q ≠ 15) (h3:q ≠ -1) (h4:q ≠ -2)
    (hD:∀ W,SM W N L R hs es ls H hc E m c S d → Calls Tryz.prog 67 #[.agg #[.int .i64 N,.int .i64 L,.int .i64 R,.slice H (L * R) hc,.slice E m c,.slice S N d,.slice Aw nw cw,.int .i64 ta,.bool true],.agg #[.int .i64 q,.int .u64 0,.int .u64 0,.string noS]] W (RepS N L R hs H hc (L * R) Aw nw cw ta s Q W))
    (A:Option Addr) (cc:Nat) (w:World) (hA:Sl w [] 1 A 1 cc (strs (w0 :: [].map digB))) (hS:SM w N L R hs es ls H hc E m c S d) :
    Calls Tryz.prog 35 #[.agg #[.int .i64 N,.int .i64 L,.int .i64 R,.slice H (L * R) hc,.slice E m c,.slice S N d,.slice Aw nw cw,.int .i64 ta,.bool true],.slice A 1 cc] w (RepS N L R hs H hc (L * R) Aw nw cw ta s Q w):=by
  have QC:=hide hc0
  have QD:=hide hD
  have QN:=hide (fun A c W (h:Sl W [] 1 A 0 c (strs ([].map digB)))=>numbers_ok [] (by simp) A 0 c W h (by omega))
  have B2:=(Blk.new w 88 #[.int .i64 N,.int .i64 L,.int .i64 R,.slice H (L * R) hc,.slice E m c,.slice S N d,.slice Aw nw cw,.int .i64 ta,.bool true]).alloc (.cells #[.int .i64 0,.int .i64 0,.int .i64 0,.slice none 0 0,.slice none 0 0,.slice none 0 0,.slice none 0 0,.int .i64 0,.bool false] 88)
  have B4:=Blk.new (w.alloc (.cells #[.int .i64 N,.int .i64 L,.int .i64 R,.slice H (L * R) hc,.slice E m c,.slice S N d,.slice Aw nw cw,.int .i64 ta,.bool true] 88)) 88 #[.int .i64 0,.int .i64 0,.int .i64 0,.slice none 0 0,.slice none 0 0,.slice none 0 0,.slice none 0 0,.int .i64 0,.bool false]
  rw [heap_alloc_size] at B4
  have hb0:=((Below.refl w.heap.size w).alloc (Nat.le_refl _) (.cells #[.int .i64 N,.int .i64 L,.int .i64 R,.slice H (L * R) hc,.slice E m c,.slice S N d,.slice Aw nw cw,.int .i64 ta,.bool true] 88)).alloc (by simp) (.cells #[.int .i64 0,.int .i64 0,.int .i64 0,.slice none 0 0,.slice none 0 0,.slice none 0 0,.slice none 0 0,.int .i64 0,.bool false] 88)
  have HS0:=hide ((hS.alloc (.cells #[.int .i64 N,.int .i64 L,.int .i64 R,.slice H (L * R) hc,.slice E m c,.slice S N d,.slice Aw nw cw,.int .i64 ta,.bool true] 88)).alloc (.cells #[.int .i64 0,.int .i64 0,.int .i64 0,.slice none 0 0,.slice none 0 0,.slice none 0 0,.slice none 0 0,.int .i64 0,.bool false] 88))
  have HA0:=hide (show Sl _ [] 1 A (0 + 1) cc (strs (w0 :: [].map digB)) from Sl.alloc (Sl.alloc hA (.cells #[.int .i64 N,.int .i64 L,.int .i64 R,.slice H (L * R) hc,.slice E m c,.slice S N d,.slice Aw nw cw,.int .i64 ta,.bool true] 88)) (.cells #[.int .i64 0,.int .i64 0,.int .i64 0,.slice none 0 0,.slice none 0 0,.slice none 0 0,.slice none 0 0,.int .i64 0,.bool false] 88))
  have d1:(q == 0)=false:=by simpa using h1
  have d2:(q == 15)=false:=by simpa using h2
  have d3:(q == -1)=false:=by simpa using h3
  have d4:(q == -2)=false:=by simpa using h4
  have hcc:=hA.le
  unfold noS at QD
  generalize L * R=K at *
  obtain ⟨ad,rfl,had,_,hcz⟩:=hA.at_ (by omega)
  have z0:w.cell? ad=some (.string w0):=by have:=hcz 0 _ rfl;rwa [add_zero_] at this
  have n1:¬ (ad.block=w.heap.size):=by omega
  have n2:¬ (ad.block=w.heap.size + 1):=by omega
  clear hc0 hD hA hS h1 h2 h3 h4 hcz
  go_enter Tryz.func35,Tryz.ntmps35
  go_wp2_with (fail)
  generalize (w.alloc (.cells #[.int .i64 N,.int .i64 L,.int .i64 R,.slice H (K) hc,.slice E m c,.slice S N d,.slice Aw nw cw,.int .i64 ta,.bool true] 88)).alloc (.cells #[.int .i64 0,.int .i64 0,.int .i64 0,.slice none 0 0,.slice none 0 0,.slice none 0 0,.slice none 0 0,.int .i64 0,.bool false] 88)=W0 at *
  refine (QC.out _).mono ?_
  rintro e w1 ⟨rfl,b1⟩
  have hb1:=hb0.trans (b1.mono hb0.size)
  have HS1:=hide (HS0.out.below b1)
  have B21:=B2.below b1 B2.lt
  have B41:=B4.below b1 B4.lt
  have HT1:=hide (str_tail (Sl.below HA0.out b1))
  clear b1 hb0 HS0 B2 B4 HA0 z0 n1 n2
  go_wp2_with (fail)
  refine (QN.out _ _ _ HT1.out).mono ?_
  rintro e w3 ⟨R3,rd,rfl,S3,b3⟩
  have hb3:=hb1.trans (b3.mono hb1.size)
  have HS3:=hide (HS1.out.below b3)
  have B23:=B21.below b3 B21.lt
  have B43:=B41.below b3 B41.lt
  have S2':=hide S3
  clear S3 b3 hb1 HS1 B21 B41 HT1 QN QC
  have hlt2:=B23.lt
  have hlt4:=B43.lt
  have n3:¬ (w.heap.size=w3.heap.size):=by omega
  (obtain ⟨x0,x1,x2,x3,x4,x5,x6,x7,x8,e0,s0⟩:=(B23).f9)
  have HB43:=hide (B43.alloc (.cells #[.int .i64 q,.int .u64 0,.int .u64 0,.string ⟨#[]⟩] 45))
  have HS4:=hide (HS3.out.alloc (.cells #[.int .i64 q,.int .u64 0,.int .u64 0,.string ⟨#[]⟩] 45))
  have hb4:=hb3.alloc hb3.size (.cells #[.int .i64 q,.int .u64 0,.int .u64 0,.string ⟨#[]⟩] 45)
  go_wp2_with (fail)
  clear x0 x1 x2 x3 x4 x5 x6 x7 x8 e0 s0
  generalize w3.alloc (.cells #[.int .i64 q,.int .u64 0,.int .u64 0,.string ⟨#[]⟩] 45)=W4 at *
  refine (QD.out _ HS4.out).mono ?_
  rintro e w6 ⟨E2,m2,c2,S2,d2,es2,ls2,rep,rfl,G2,Q2,b6⟩
  have HQ:=hide Q2
  have HS6:=hide G2
  have hb6:=hb4.trans (b6.mono hb4.size)
  have B46:=HB43.out.below b6 HB43.out.lt
  clear G2 Q2 b6 hb4 HS4 HB43 HS3 B23 B43 hb3
  (obtain ⟨q0,q1,q2,q3,q4,q5,q6,q7,q8,eb,sb⟩:=(B46).f9)
  have BW:=se_set9 B46 (Value.int .i64 N) (Value.int .i64 L) (Value.int .i64 R) (Value.slice H K hc) (Value.slice E2 m2 c2) (Value.slice S2 N d2) (Value.slice Aw nw cw) (Value.int .i64 ta) (Value.bool true)
  have SW:=hide (sm_se9 HS6.out B46 (sec_off N none 0 0 none 0 0 none 0 0 none 0 0 0 false) (Value.int .i64 N) (Value.int .i64 L) (Value.int .i64 R) (Value.slice H K hc) (Value.slice E2 m2 c2) (Value.slice S2 N d2) (Value.slice Aw nw cw) (Value.int .i64 ta) (Value.bool true))
  have hbw:=below_set9 hb6 (show w.heap.size ≤ w.heap.size + 1 by omega) (Value.int .i64 N) (Value.int .i64 L) (Value.int .i64 R) (Value.slice H K hc) (Value.slice E2 m2 c2) (Value.slice S2 N d2) (Value.slice Aw nw cw) (Value.int .i64 ta) (Value.bool true)
  obtain ⟨rb2,_,_⟩:=BW.facts
  have p0:(((((((((w6.setCell ⟨w.heap.size + 1,0,none⟩ (Value.int .i64 N)).setCell ⟨w.heap.size + 1,1,none⟩ (Value.int .i64 L)).setCell ⟨w.heap.size + 1,2,none⟩ (Value.int .i64 R)).setCell ⟨w.heap.size + 1,3,none⟩ (Value.slice H K hc)).setCell ⟨w.heap.size + 1,4,none⟩ (Value.slice E2 m2 c2)).setCell ⟨w.heap.size + 1,5,none⟩ (Value.slice S2 N d2)).setCell ⟨w.heap.size + 1,6,none⟩ (Value.slice Aw nw cw)).setCell ⟨w.heap.size + 1,7,none⟩ (Value.int .i64 ta)).setCell ⟨w.heap.size + 1,8,none⟩ (Value.bool true)).cell? ⟨w.heap.size + 1,0,none⟩=some (.int .i64 N):=rb2 0
  have p1:(((((((((w6.setCell ⟨w.heap.size + 1,0,none⟩ (Value.int .i64 N)).setCell ⟨w.heap.size + 1,1,none⟩ (Value.int .i64 L)).setCell ⟨w.heap.size + 1,2,none⟩ (Value.int .i64 R)).setCell ⟨w.heap.size + 1,3,none⟩ (Value.slice H K hc)).setCell ⟨w.heap.size + 1,4,none⟩ (Value.slice E2 m2 c2)).setCell ⟨w.heap.size + 1,5,none⟩ (Value.slice S2 N d2)).setCell ⟨w.heap.size + 1,6,none⟩ (Value.slice Aw nw cw)).setCell ⟨w.heap.size + 1,7,none⟩ (Value.int .i64 ta)).setCell ⟨w.heap.size + 1,8,none⟩ (Value.bool true)).cell? ⟨w.heap.size + 1,1,none⟩=some (.int .i64 L):=rb2 1
  have p2:(((((((((w6.setCell ⟨w.heap.size + 1,0,none⟩ (Value.int .i64 N)).setCell ⟨w.heap.size + 1,1,none⟩ (Value.int .i64 L)).setCell ⟨w.heap.size + 1,2,none⟩ (Value.int .i64 R)).setCell ⟨w.heap.size + 1,3,none⟩ (Value.slice H K hc)).setCell ⟨w.heap.size + 1,4,none⟩ (Value.slice E2 m2 c2)).setCell ⟨w.heap.size + 1,5,none⟩ (Value.slice S2 N d2)).setCell ⟨w.heap.size + 1,6,none⟩ (Value.slice Aw nw cw)).setCell ⟨w.heap.size + 1,7,none⟩ (Value.int .i64 ta)).setCell ⟨w.heap.size + 1,8,none⟩ (Value.bool true)).cell? ⟨w.heap.size + 1,2,none⟩=some (.int .i64 R):=rb2 2
  have p3:(((((((((w6.setCell ⟨w.heap.size + 1,0,none⟩ (Value.int .i64 N)).setCell ⟨w.heap.size + 1,1,none⟩ (Value.int .i64 L)).setCell ⟨w.heap.size + 1,2,none⟩ (Value.int .i64 R)).setCell ⟨w.heap.size + 1,3,none⟩ (Value.slice H K hc)).setCell ⟨w.heap.size + 1,4,none⟩ (Value.slice E2 m2 c2)).setCell ⟨w.heap.size + 1,5,none⟩ (Value.slice S2 N d2)).setCell ⟨w.heap.size + 1,6,none⟩ (Value.slice Aw nw cw)).setCell ⟨w.heap.size + 1,7,none⟩ (Value.int .i64 ta)).setCell ⟨w.heap.size + 1,8,none⟩ (Value.bool true)).cell? ⟨w.heap.size + 1,3,none⟩=some (.slice H K hc):=rb2 3
  have p4:(((((((((w6.setCell ⟨w.heap.size + 1,0,none⟩ (Value.int .i64 N)).setCell ⟨w.heap.size + 1,1,none⟩ (Value.int .i64 L)).setCell ⟨w.heap.size + 1,2,none⟩ (Value.int .i64 R)).setCell ⟨w.heap.size + 1,3,none⟩ (Value.slice H K hc)).setCell ⟨w.heap.size + 1,4,none⟩ (Value.slice E2 m2 c2)).setCell ⟨w.heap.size + 1,5,none⟩ (Value.slice S2 N d2)).setCell ⟨w.heap.size + 1,6,none⟩ (Value.slice Aw nw cw)).setCell ⟨w.heap.size + 1,7,none⟩ (Value.int .i64 ta)).setCell ⟨w.heap.size + 1,8,none⟩ (Value.bool true)).cell? ⟨w.heap.size + 1,4,none⟩=some (.slice E2 m2 c2):=rb2 4
  have p5:(((((((((w6.setCell ⟨w.heap.size + 1,0,none⟩ (Value.int .i64 N)).setCell ⟨w.heap.size + 1,1,none⟩ (Value.int .i64 L)).setCell ⟨w.heap.size + 1,2,none⟩ (Value.int .i64 R)).setCell ⟨w.heap.size + 1,3,none⟩ (Value.slice H K hc)).setCell ⟨w.heap.size + 1,4,none⟩ (Value.slice E2 m2 c2)).setCell ⟨w.heap.size + 1,5,none⟩ (Value.slice S2 N d2)).setCell ⟨w.heap.size + 1,6,none⟩ (Value.slice Aw nw cw)).setCell ⟨w.heap.size + 1,7,none⟩ (Value.int .i64 ta)).setCell ⟨w.heap.size + 1,8,none⟩ (Value.bool true)).cell? ⟨w.heap.size + 1,5,none⟩=some (.slice S2 N d2):=rb2 5
  have p6:(((((((((w6.setCell ⟨w.heap.size + 1,0,none⟩ (Value.int .i64 N)).setCell ⟨w.heap.size + 1,1,none⟩ (Value.int .i64 L)).setCell ⟨w.heap.size + 1,2,none⟩ (Value.int .i64 R)).setCell ⟨w.heap.size + 1,3,none⟩ (Value.slice H K hc)).setCell ⟨w.heap.size + 1,4,none⟩ (Value.slice E2 m2 c2)).setCell ⟨w.heap.size + 1,5,none⟩ (Value.slice S2 N d2)).setCell ⟨w.heap.size + 1,6,none⟩ (Value.slice Aw nw cw)).setCell ⟨w.heap.size + 1,7,none⟩ (Value.int .i64 ta)).setCell ⟨w.heap.size + 1,8,none⟩ (Value.bool true)).cell? ⟨w.heap.size + 1,6,none⟩=some (.slice Aw nw cw):=rb2 6
  have p7:(((((((((w6.setCell ⟨w.heap.size + 1,0,none⟩ (Value.int .i64 N)).setCell ⟨w.heap.size + 1,1,none⟩ (Value.int .i64 L)).setCell ⟨w.heap.size + 1,2,none⟩ (Value.int .i64 R)).setCell ⟨w.heap.size + 1,3,none⟩ (Value.slice H K hc)).setCell ⟨w.heap.size + 1,4,none⟩ (Value.slice E2 m2 c2)).setCell ⟨w.heap.size + 1,5,none⟩ (Value.slice S2 N d2)).setCell ⟨w.heap.size + 1,6,none⟩ (Value.slice Aw nw cw)).setCell ⟨w.heap.size + 1,7,none⟩ (Value.int .i64 ta)).setCell ⟨w.heap.size + 1,8,none⟩ (Value.bool true)).cell? ⟨w.heap.size + 1,7,none⟩=some (.int .i64 ta):=rb2 7
  have p8:(((((((((w6.setCell ⟨w.heap.size + 1,0,none⟩ (Value.int .i64 N)).setCell ⟨w.heap.size + 1,1,none⟩ (Value.int .i64 L)).setCell ⟨w.heap.size + 1,2,none⟩ (Value.int .i64 R)).setCell ⟨w.heap.size + 1,3,none⟩ (Value.slice H K hc)).setCell ⟨w.heap.size + 1,4,none⟩ (Value.slice E2 m2 c2)).setCell ⟨w.heap.size + 1,5,none⟩ (Value.slice S2 N d2)).setCell ⟨w.heap.size + 1,6,none⟩ (Value.slice Aw nw cw)).setCell ⟨w.heap.size + 1,7,none⟩ (Value.int .i64 ta)).setCell ⟨w.heap.size + 1,8,none⟩ (Value.bool true)).cell? ⟨w.heap.size + 1,8,none⟩=some (.bool true):=rb2 8
  clear rb2 BW
  have HP:=hide (And.intro p0 (And.intro p1 (And.intro p2 (And.intro p3 (And.intro p4 (And.intro p5 (And.intro p6 (And.intro p7 p8))))))))
  clear p0 p1 p2 p3 p4 p5 p6 p7 p8
  go_wp2_with (fail)
  generalize (((((((((w6.setCell ⟨w.heap.size + 1,0,none⟩ (Value.int .i64 N)).setCell ⟨w.heap.size + 1,1,none⟩ (Value.int .i64 L)).setCell ⟨w.heap.size + 1,2,none⟩ (Value.int .i64 R)).setCell ⟨w.heap.size + 1,3,none⟩ (Value.slice H K hc)).setCell ⟨w.heap.size + 1,4,none⟩ (Value.slice E2 m2 c2)).setCell ⟨w.heap.size + 1,5,none⟩ (Value.slice S2 N d2)).setCell ⟨w.heap.size + 1,6,none⟩ (Value.slice Aw nw cw)).setCell ⟨w.heap.size + 1,7,none⟩ (Value.int .i64 ta)).setCell ⟨w.heap.size + 1,8,none⟩ (Value.bool true))=W9 at *
  obtain ⟨p0,p1,p2,p3,p4,p5,p6,p7,p8⟩:=HP.out
  refine bodyPost_ret (v:=.tuple #[.agg #[.int .i64 N,.int .i64 L,.int .i64 R,.slice H (K) hc,.slice E2 m2 c2,.slice S2 N d2,.slice Aw nw cw,.int .i64 ta,.bool true],.string s]) (by simp [results,Tryz.results35,go_sem,p0,p1,p2,p3,p4,p5,p6,p7,p8]) rfl ?_
  exact ⟨E2,m2,c2,S2,d2,es2,ls2,rep,rfl,SW.out,HQ.out,hbw⟩
set_option maxHeartbeats 12800000 in
theorem line_1 (Aw:Option Addr) (nw cw:Nat) (ta q:Int) (w0 s:ByteArray) (p:Nat) (hp:IsDig p) (Q:List E3 → List S2 → Value → Prop)
    (hc0:∀ W,Calls Tryz.prog 65 #[.string w0] W (Ret (.tuple #[.int .i64 q,.int .i64 1]) W)) (h1:q ≠ 0) (h2:q ≠ 15) (h3:q ≠ -1) (h4:q ≠ -2)
    (hD:∀ W,SM W N L R hs es ls H hc E m c S d → Calls Tryz.prog 67 #[.agg #[.int .i64 N,.int .i64 L,.int .i64 R,.slice H (L * R) hc,.slice E m c,.slice S N d,.slice Aw nw cw,.int .i64 ta,.bool true],.agg #[.int .i64 q,.int .u64 (p:Nat),.int .u64 0,.string noS]] W (RepS N L R hs H hc (L * R) Aw nw cw ta s Q W))
    (A:Option Addr) (cc:Nat) (w:World) (hA:Sl w [] 1 A 2 cc (strs (w0 :: [p].map digB))) (hS:SM w N L R hs es ls H hc E m c S d) :
    Calls Tryz.prog 35 #[.agg #[.int .i64 N,.int .i64 L,.int .i64 R,.slice H (L * R) hc,.slice E m c,.slice S N d,.slice Aw nw cw,.int .i64 ta,.bool true],.slice A 2 cc] w (RepS N L R hs H hc (L * R) Aw nw cw ta s Q w):=by
  have QC:=hide hc0
  have QD:=hide hD
  have QN:=hide (fun A c W (h:Sl W [] 1 A 1 c (strs ([p].map digB)))=>numbers_ok [p] (by simpa using hp) A 1 c W h (by omega))
  have B2:=(Blk.new w 88 #[.int .i64 N,.int .i64 L,.int .i64 R,.slice H (L * R) hc,.slice E m c,.slice S N d,.slice Aw nw cw,.int .i64 ta,.bool true]).alloc (.cells #[.int .i64 0,.int .i64 0,.int .i64 0,.slice none 0 0,.slice none 0 0,.slice none 0 0,.slice none 0 0,.int .i64 0,.bool false] 88)
  have B4:=Blk.new (w.alloc (.cells #[.int .i64 N,.int .i64 L,.int .i64 R,.slice H (L * R) hc,.slice E m c,.slice S N d,.slice Aw nw cw,.int .i64 ta,.bool true] 88)) 88 #[.int .i64 0,.int .i64 0,.int .i64 0,.slice none 0 0,.slice none 0 0,.slice none 0 0,.slice none 0 0,.int .i64 0,.bool false]
  rw [heap_alloc_size] at B4
  have hb0:=((Below.refl w.heap.size w).alloc (Nat.le_refl _) (.cells #[.int .i64 N,.int .i64 L,.int .i64 R,.slice H (L * R) hc,.slice E m c,.slice S N d,.slice Aw nw cw,.int .i64 ta,.bool true] 88)).alloc (by simp) (.cells #[.int .i64 0,.int .i64 0,.int .i64 0,.slice none 0 0,.slice none 0 0,.slice none 0 0,.slice none 0 0,.int .i64 0,.bool false] 88)
  have HS0:=hide ((hS.alloc (.cells #[.int .i64 N,.int .i64 L,.int .i64 R,.slice H (L * R) hc,.slice E m c,.slice S N d,.slice Aw nw cw,.int .i64 ta,.bool true] 88)).alloc (.cells #[.int .i64 0,.int .i64 0,.int .i64 0,.slice none 0 0,.slice none 0 0,.slice none 0 0,.slice none 0 0,.int .i64 0,.bool false] 88))
  have HA0:=hide (show Sl _ [] 1 A (1 + 1) cc (strs (w0 :: [p].map digB)) from Sl.alloc (Sl.alloc hA (.cells #[.int .i64 N,.int .i64 L,.int .i64 R,.slice H (L * R) hc,.slice E m c,.slice S N d,.slice Aw nw cw,.int .i64 ta,.bool true] 88)) (.cells #[.int .i64 0,.int .i64 0,.int .i64 0,.slice none 0 0,.slice none 0 0,.slice none 0 0,.slice none 0 0,.int .i64 0,.bool false] 88))
  have d1:(q == 0)=false:=by simpa using h1
  have d2:(q == 15)=false:=by simpa using h2
  have d3:(q == -1)=false:=by simpa using h3
  have d4:(q == -2)=false:=by simpa using h4
  have hcc:=hA.le
  unfold noS at QD
  generalize L * R=K at *
  obtain ⟨ad,rfl,had,_,hcz⟩:=hA.at_ (by omega)
  have z0:w.cell? ad=some (.string w0):=by have:=hcz 0 _ rfl;rwa [add_zero_] at this
  have n1:¬ (ad.block=w.heap.size):=by omega
  have n2:¬ (ad.block=w.heap.size + 1):=by omega
  clear hc0 hD hA hS h1 h2 h3 h4 hcz
  go_enter Tryz.func35,Tryz.ntmps35
  go_wp2_with (fail)
  generalize (w.alloc (.cells #[.int .i64 N,.int .i64 L,.int .i64 R,.slice H (K) hc,.slice E m c,.slice S N d,.slice Aw nw cw,.int .i64 ta,.bool true] 88)).alloc (.cells #[.int .i64 0,.int .i64 0,.int .i64 0,.slice none 0 0,.slice none 0 0,.slice none 0 0,.slice none 0 0,.int .i64 0,.bool false] 88)=W0 at *
  refine (QC.out _).mono ?_
  rintro e w1 ⟨rfl,b1⟩
  have hb1:=hb0.trans (b1.mono hb0.size)
  have HS1:=hide (HS0.out.below b1)
  have B21:=B2.below b1 B2.lt
  have B41:=B4.below b1 B4.lt
  have HT1:=hide (str_tail (Sl.below HA0.out b1))
  clear b1 hb0 HS0 B2 B4 HA0 z0 n1 n2
  go_wp2_with (fail)
  refine (QN.out _ _ _ HT1.out).mono ?_
  rintro e w3 ⟨R3,rd,rfl,S3,b3⟩
  have hb3:=hb1.trans (b3.mono hb1.size)
  have HS3:=hide (HS1.out.below b3)
  have B23:=B21.below b3 B21.lt
  have B43:=B41.below b3 B41.lt
  have S2':=hide S3
  clear S3 b3 hb1 HS1 B21 B41 HT1 QN QC
  obtain ⟨ad2,rfl,had2,_,hcy⟩:=S2'.out.at_ (by omega)
  have u0:w3.cell? ad2=some (.int .u64 p):=by have:=hcy 0 _ rfl;rwa [add_zero_] at this
  clear hcy
  have hlt2:=B23.lt
  have hlt4:=B43.lt
  have n3:¬ (w.heap.size=w3.heap.size):=by omega
  have n5:¬ (ad2.block=w3.heap.size):=by omega
  have n6:¬ (w3.heap.size=ad2.block):=by omega
  (obtain ⟨x0,x1,x2,x3,x4,x5,x6,x7,x8,e0,s0⟩:=(B23).f9)
  have HB43:=hide (B43.alloc (.cells #[.int .i64 q,.int .u64 (p:Nat),.int .u64 0,.string ⟨#[]⟩] 45))
  have HS4:=hide (HS3.out.alloc (.cells #[.int .i64 q,.int .u64 (p:Nat),.int .u64 0,.string ⟨#[]⟩] 45))
  have hb4:=hb3.alloc hb3.size (.cells #[.int .i64 q,.int .u64 (p:Nat),.int .u64 0,.string ⟨#[]⟩] 45)
  go_wp2_with (fail)
  clear x0 x1 x2 x3 x4 x5 x6 x7 x8 e0 s0
  generalize w3.alloc (.cells #[.int .i64 q,.int .u64 (p:Nat),.int .u64 0,.string ⟨#[]⟩] 45)=W4 at *
  refine (QD.out _ HS4.out).mono ?_
  rintro e w6 ⟨E2,m2,c2,S2,d2,es2,ls2,rep,rfl,G2,Q2,b6⟩
  have HQ:=hide Q2
  have HS6:=hide G2
  have hb6:=hb4.trans (b6.mono hb4.size)
  have B46:=HB43.out.below b6 HB43.out.lt
  clear G2 Q2 b6 hb4 HS4 HB43 HS3 B23 B43 hb3
  (obtain ⟨q0,q1,q2,q3,q4,q5,q6,q7,q8,eb,sb⟩:=(B46).f9)
  have BW:=se_set9 B46 (Value.int .i64 N) (Value.int .i64 L) (Value.int .i64 R) (Value.slice H K hc) (Value.slice E2 m2 c2) (Value.slice S2 N d2) (Value.slice Aw nw cw) (Value.int .i64 ta) (Value.bool true)
  have SW:=hide (sm_se9 HS6.out B46 (sec_off N none 0 0 none 0 0 none 0 0 none 0 0 0 false) (Value.int .i64 N) (Value.int .i64 L) (Value.int .i64 R) (Value.slice H K hc) (Value.slice E2 m2 c2) (Value.slice S2 N d2) (Value.slice Aw nw cw) (Value.int .i64 ta) (Value.bool true))
  have hbw:=below_set9 hb6 (show w.heap.size ≤ w.heap.size + 1 by omega) (Value.int .i64 N) (Value.int .i64 L) (Value.int .i64 R) (Value.slice H K hc) (Value.slice E2 m2 c2) (Value.slice S2 N d2) (Value.slice Aw nw cw) (Value.int .i64 ta) (Value.bool true)
  obtain ⟨rb2,_,_⟩:=BW.facts
  have p0:(((((((((w6.setCell ⟨w.heap.size + 1,0,none⟩ (Value.int .i64 N)).setCell ⟨w.heap.size + 1,1,none⟩ (Value.int .i64 L)).setCell ⟨w.heap.size + 1,2,none⟩ (Value.int .i64 R)).setCell ⟨w.heap.size + 1,3,none⟩ (Value.slice H K hc)).setCell ⟨w.heap.size + 1,4,none⟩ (Value.slice E2 m2 c2)).setCell ⟨w.heap.size + 1,5,none⟩ (Value.slice S2 N d2)).setCell ⟨w.heap.size + 1,6,none⟩ (Value.slice Aw nw cw)).setCell ⟨w.heap.size + 1,7,none⟩ (Value.int .i64 ta)).setCell ⟨w.heap.size + 1,8,none⟩ (Value.bool true)).cell? ⟨w.heap.size + 1,0,none⟩=some (.int .i64 N):=rb2 0
  have p1:(((((((((w6.setCell ⟨w.heap.size + 1,0,none⟩ (Value.int .i64 N)).setCell ⟨w.heap.size + 1,1,none⟩ (Value.int .i64 L)).setCell ⟨w.heap.size + 1,2,none⟩ (Value.int .i64 R)).setCell ⟨w.heap.size + 1,3,none⟩ (Value.slice H K hc)).setCell ⟨w.heap.size + 1,4,none⟩ (Value.slice E2 m2 c2)).setCell ⟨w.heap.size + 1,5,none⟩ (Value.slice S2 N d2)).setCell ⟨w.heap.size + 1,6,none⟩ (Value.slice Aw nw cw)).setCell ⟨w.heap.size + 1,7,none⟩ (Value.int .i64 ta)).setCell ⟨w.heap.size + 1,8,none⟩ (Value.bool true)).cell? ⟨w.heap.size + 1,1,none⟩=some (.int .i64 L):=rb2 1
  have p2:(((((((((w6.setCell ⟨w.heap.size + 1,0,none⟩ (Value.int .i64 N)).setCell ⟨w.heap.size + 1,1,none⟩ (Value.int .i64 L)).setCell ⟨w.heap.size + 1,2,none⟩ (Value.int .i64 R)).setCell ⟨w.heap.size + 1,3,none⟩ (Value.slice H K hc)).setCell ⟨w.heap.size + 1,4,none⟩ (Value.slice E2 m2 c2)).setCell ⟨w.heap.size + 1,5,none⟩ (Value.slice S2 N d2)).setCell ⟨w.heap.size + 1,6,none⟩ (Value.slice Aw nw cw)).setCell ⟨w.heap.size + 1,7,none⟩ (Value.int .i64 ta)).setCell ⟨w.heap.size + 1,8,none⟩ (Value.bool true)).cell? ⟨w.heap.size + 1,2,none⟩=some (.int .i64 R):=rb2 2
  have p3:(((((((((w6.setCell ⟨w.heap.size + 1,0,none⟩ (Value.int .i64 N)).setCell ⟨w.heap.size + 1,1,none⟩ (Value.int .i64 L)).setCell ⟨w.heap.size + 1,2,none⟩ (Value.int .i64 R)).setCell ⟨w.heap.size + 1,3,none⟩ (Value.slice H K hc)).setCell ⟨w.heap.size + 1,4,none⟩ (Value.slice E2 m2 c2)).setCell ⟨w.heap.size + 1,5,none⟩ (Value.slice S2 N d2)).setCell ⟨w.heap.size + 1,6,none⟩ (Value.slice Aw nw cw)).setCell ⟨w.heap.size + 1,7,none⟩ (Value.int .i64 ta)).setCell ⟨w.heap.size + 1,8,none⟩ (Value.bool true)).cell? ⟨w.heap.size + 1,3,none⟩=some (.slice H K hc):=rb2 3
  have p4:(((((((((w6.setCell ⟨w.heap.size + 1,0,none⟩ (Value.int .i64 N)).setCell ⟨w.heap.size + 1,1,none⟩ (Value.int .i64 L)).setCell ⟨w.heap.size + 1,2,none⟩ (Value.int .i64 R)).setCell ⟨w.heap.size + 1,3,none⟩ (Value.slice H K hc)).setCell ⟨w.heap.size + 1,4,none⟩ (Value.slice E2 m2 c2)).setCell ⟨w.heap.size + 1,5,none⟩ (Value.slice S2 N d2)).setCell ⟨w.heap.size + 1,6,none⟩ (Value.slice Aw nw cw)).setCell ⟨w.heap.size + 1,7,none⟩ (Value.int .i64 ta)).setCell ⟨w.heap.size + 1,8,none⟩ (Value.bool true)).cell? ⟨w.heap.size + 1,4,none⟩=some (.slice E2 m2 c2):=rb2 4
  have p5:(((((((((w6.setCell ⟨w.heap.size + 1,0,none⟩ (Value.int .i64 N)).setCell ⟨w.heap.size + 1,1,none⟩ (Value.int .i64 L)).setCell ⟨w.heap.size + 1,2,none⟩ (Value.int .i64 R)).setCell ⟨w.heap.size + 1,3,none⟩ (Value.slice H K hc)).setCell ⟨w.heap.size + 1,4,none⟩ (Value.slice E2 m2 c2)).setCell ⟨w.heap.size + 1,5,none⟩ (Value.slice S2 N d2)).setCell ⟨w.heap.size + 1,6,none⟩ (Value.slice Aw nw cw)).setCell ⟨w.heap.size + 1,7,none⟩ (Value.int .i64 ta)).setCell ⟨w.heap.size + 1,8,none⟩ (Value.bool true)).cell? ⟨w.heap.size + 1,5,none⟩=some (.slice S2 N d2):=rb2 5
  have p6:(((((((((w6.setCell ⟨w.heap.size + 1,0,none⟩ (Value.int .i64 N)).setCell ⟨w.heap.size + 1,1,none⟩ (Value.int .i64 L)).setCell ⟨w.heap.size + 1,2,none⟩ (Value.int .i64 R)).setCell ⟨w.heap.size + 1,3,none⟩ (Value.slice H K hc)).setCell ⟨w.heap.size + 1,4,none⟩ (Value.slice E2 m2 c2)).setCell ⟨w.heap.size + 1,5,none⟩ (Value.slice S2 N d2)).setCell ⟨w.heap.size + 1,6,none⟩ (Value.slice Aw nw cw)).setCell ⟨w.heap.size + 1,7,none⟩ (Value.int .i64 ta)).setCell ⟨w.heap.size + 1,8,none⟩ (Value.bool true)).cell? ⟨w.heap.size + 1,6,none⟩=some (.slice Aw nw cw):=rb2 6
  have p7:(((((((((w6.setCell ⟨w.heap.size + 1,0,none⟩ (Value.int .i64 N)).setCell ⟨w.heap.size + 1,1,none⟩ (Value.int .i64 L)).setCell ⟨w.heap.size + 1,2,none⟩ (Value.int .i64 R)).setCell ⟨w.heap.size + 1,3,none⟩ (Value.slice H K hc)).setCell ⟨w.heap.size + 1,4,none⟩ (Value.slice E2 m2 c2)).setCell ⟨w.heap.size + 1,5,none⟩ (Value.slice S2 N d2)).setCell ⟨w.heap.size + 1,6,none⟩ (Value.slice Aw nw cw)).setCell ⟨w.heap.size + 1,7,none⟩ (Value.int .i64 ta)).setCell ⟨w.heap.size + 1,8,none⟩ (Value.bool true)).cell? ⟨w.heap.size + 1,7,none⟩=some (.int .i64 ta):=rb2 7
  have p8:(((((((((w6.setCell ⟨w.heap.size + 1,0,none⟩ (Value.int .i64 N)).setCell ⟨w.heap.size + 1,1,none⟩ (Value.int .i64 L)).setCell ⟨w.heap.size + 1,2,none⟩ (Value.int .i64 R)).setCell ⟨w.heap.size + 1,3,none⟩ (Value.slice H K hc)).setCell ⟨w.heap.size + 1,4,none⟩ (Value.slice E2 m2 c2)).setCell ⟨w.heap.size + 1,5,none⟩ (Value.slice S2 N d2)).setCell ⟨w.heap.size + 1,6,none⟩ (Value.slice Aw nw cw)).setCell ⟨w.heap.size + 1,7,none⟩ (Value.int .i64 ta)).setCell ⟨w.heap.size + 1,8,none⟩ (Value.bool true)).cell? ⟨w.heap.size + 1,8,none⟩=some (.bool true):=rb2 8
  clear rb2 BW
  have HP:=hide (And.intro p0 (And.intro p1 (And.intro p2 (And.intro p3 (And.intro p4 (And.intro p5 (And.intro p6 (And.intro p7 p8))))))))
  clear p0 p1 p2 p3 p4 p5 p6 p7 p8
  go_wp2_with (fail)
  generalize (((((((((w6.setCell ⟨w.heap.size + 1,0,none⟩ (Value.int .i64 N)).setCell ⟨w.heap.size + 1,1,none⟩ (Value.int .i64 L)).setCell ⟨w.heap.size + 1,2,none⟩ (Value.int .i64 R)).setCell ⟨w.heap.size + 1,3,none⟩ (Value.slice H K hc)).setCell ⟨w.heap.size + 1,4,none⟩ (Value.slice E2 m2 c2)).setCell ⟨w.heap.size + 1,5,none⟩ (Value.slice S2 N d2)).setCell ⟨w.heap.size + 1,6,none⟩ (Value.slice Aw nw cw)).setCell ⟨w.heap.size + 1,7,none⟩ (Value.int .i64 ta)).setCell ⟨w.heap.size + 1,8,none⟩ (Value.bool true))=W9 at *
  obtain ⟨p0,p1,p2,p3,p4,p5,p6,p7,p8⟩:=HP.out
  refine bodyPost_ret (v:=.tuple #[.agg #[.int .i64 N,.int .i64 L,.int .i64 R,.slice H (K) hc,.slice E2 m2 c2,.slice S2 N d2,.slice Aw nw cw,.int .i64 ta,.bool true],.string s]) (by simp [results,Tryz.results35,go_sem,p0,p1,p2,p3,p4,p5,p6,p7,p8]) rfl ?_
  exact ⟨E2,m2,c2,S2,d2,es2,ls2,rep,rfl,SW.out,HQ.out,hbw⟩
set_option maxHeartbeats 12800000 in
theorem line_2 (Aw:Option Addr) (nw cw:Nat) (ta q:Int) (w0 s:ByteArray) (p q2:Nat) (hp:IsDig p) (hq2:IsDig q2) (Q:List E3 → List S2 → Value → Prop)
    (hc0:∀ W,Calls Tryz.prog 65 #[.string w0] W (Ret (.tuple #[.int .i64 q,.int .i64 2]) W)) (h1:q ≠ 0) (h2:q ≠ 15) (h3:q ≠ -1) (h4:q ≠ -2)
    (hD:∀ W,SM W N L R hs es ls H hc E m c S d → Calls Tryz.prog 67 #[.agg #[.int .i64 N,.int .i64 L,.int .i64 R,.slice H (L * R) hc,.slice E m c,.slice S N d,.slice Aw nw cw,.int .i64 ta,.bool true],.agg #[.int .i64 q,.int .u64 (p:Nat),.int .u64 (q2:Nat),.string noS]] W (RepS N L R hs H hc (L * R) Aw nw cw ta s Q W))
    (A:Option Addr) (cc:Nat) (w:World) (hA:Sl w [] 1 A 3 cc (strs (w0 :: [p,q2].map digB))) (hS:SM w N L R hs es ls H hc E m c S d) :
    Calls Tryz.prog 35 #[.agg #[.int .i64 N,.int .i64 L,.int .i64 R,.slice H (L * R) hc,.slice E m c,.slice S N d,.slice Aw nw cw,.int .i64 ta,.bool true],.slice A 3 cc] w (RepS N L R hs H hc (L * R) Aw nw cw ta s Q w):=by
  have QC:=hide hc0
  have QD:=hide hD
  have QN:=hide (fun A c W (h:Sl W [] 1 A 2 c (strs ([p,q2].map digB)))=>numbers_ok [p,q2] (by simpa using And.intro hp hq2) A 2 c W h (by omega))
  have B2:=(Blk.new w 88 #[.int .i64 N,.int .i64 L,.int .i64 R,.slice H (L * R) hc,.slice E m c,.slice S N d,.slice Aw nw cw,.int .i64 ta,.bool true]).alloc (.cells #[.int .i64 0,.int .i64 0,.int .i64 0,.slice none 0 0,.slice none 0 0,.slice none 0 0,.slice none 0 0,.int .i64 0,.bool false] 88)
  have B4:=Blk.new (w.alloc (.cells #[.int .i64 N,.int .i64 L,.int .i64 R,.slice H (L * R) hc,.slice E m c,.slice S N d,.slice Aw nw cw,.int .i64 ta,.bool true] 88)) 88 #[.int .i64 0,.int .i64 0,.int .i64 0,.slice none 0 0,.slice none 0 0,.slice none 0 0,.slice none 0 0,.int .i64 0,.bool false]
  rw [heap_alloc_size] at B4
  have hb0:=((Below.refl w.heap.size w).alloc (Nat.le_refl _) (.cells #[.int .i64 N,.int .i64 L,.int .i64 R,.slice H (L * R) hc,.slice E m c,.slice S N d,.slice Aw nw cw,.int .i64 ta,.bool true] 88)).alloc (by simp) (.cells #[.int .i64 0,.int .i64 0,.int .i64 0,.slice none 0 0,.slice none 0 0,.slice none 0 0,.slice none 0 0,.int .i64 0,.bool false] 88)
  have HS0:=hide ((hS.alloc (.cells #[.int .i64 N,.int .i64 L,.int .i64 R,.slice H (L * R) hc,.slice E m c,.slice S N d,.slice Aw nw cw,.int .i64 ta,.bool true] 88)).alloc (.cells #[.int .i64 0,.int .i64 0,.int .i64 0,.slice none 0 0,.slice none 0 0,.slice none 0 0,.slice none 0 0,.int .i64 0,.bool false] 88))
  have HA0:=hide (show Sl _ [] 1 A (2 + 1) cc (strs (w0 :: [p,q2].map digB)) from Sl.alloc (Sl.alloc hA (.cells #[.int .i64 N,.int .i64 L,.int .i64 R,.slice H (L * R) hc,.slice E m c,.slice S N d,.slice Aw nw cw,.int .i64 ta,.bool true] 88)) (.cells #[.int .i64 0,.int .i64 0,.int .i64 0,.slice none 0 0,.slice none 0 0,.slice none 0 0,.slice none 0 0,.int .i64 0,.bool false] 88))
  have d1:(q == 0)=false:=by simpa using h1
  have d2:(q == 15)=false:=by simpa using h2
  have d3:(q == -1)=false:=by simpa using h3
  have d4:(q == -2)=false:=by simpa using h4
  have hcc:=hA.le
  unfold noS at QD
  generalize L * R=K at *
  obtain ⟨ad,rfl,had,_,hcz⟩:=hA.at_ (by omega)
  have z0:w.cell? ad=some (.string w0):=by have:=hcz 0 _ rfl;rwa [add_zero_] at this
  have n1:¬ (ad.block=w.heap.size):=by omega
  have n2:¬ (ad.block=w.heap.size + 1):=by omega
  clear hc0 hD hA hS h1 h2 h3 h4 hcz
  go_enter Tryz.func35,Tryz.ntmps35
  go_wp2_with (fail)
  generalize (w.alloc (.cells #[.int .i64 N,.int .i64 L,.int .i64 R,.slice H (K) hc,.slice E m c,.slice S N d,.slice Aw nw cw,.int .i64 ta,.bool true] 88)).alloc (.cells #[.int .i64 0,.int .i64 0,.int .i64 0,.slice none 0 0,.slice none 0 0,.slice none 0 0,.slice none 0 0,.int .i64 0,.bool false] 88)=W0 at *
  refine (QC.out _).mono ?_
  rintro e w1 ⟨rfl,b1⟩
  have hb1:=hb0.trans (b1.mono hb0.size)
  have HS1:=hide (HS0.out.below b1)
  have B21:=B2.below b1 B2.lt
  have B41:=B4.below b1 B4.lt
  have HT1:=hide (str_tail (Sl.below HA0.out b1))
  clear b1 hb0 HS0 B2 B4 HA0 z0 n1 n2
  go_wp2_with (fail)
  refine (QN.out _ _ _ HT1.out).mono ?_
  rintro e w3 ⟨R3,rd,rfl,S3,b3⟩
  have hb3:=hb1.trans (b3.mono hb1.size)
  have HS3:=hide (HS1.out.below b3)
  have B23:=B21.below b3 B21.lt
  have B43:=B41.below b3 B41.lt
  have S2':=hide S3
  clear S3 b3 hb1 HS1 B21 B41 HT1 QN QC
  obtain ⟨ad2,rfl,had2,_,hcy⟩:=S2'.out.at_ (by omega)
  have u0:w3.cell? ad2=some (.int .u64 p):=by have:=hcy 0 _ rfl;rwa [add_zero_] at this
  have u1:w3.cell? ⟨ad2.block,ad2.off + 1,none⟩=some (.int .u64 q2):=by have:=cell_off (i:=0) (j:=1) (hcy 1 _ rfl) (by decide);rwa [add_zero_] at this
  clear hcy
  have hlt2:=B23.lt
  have hlt4:=B43.lt
  have n3:¬ (w.heap.size=w3.heap.size):=by omega
  have n5:¬ (ad2.block=w3.heap.size):=by omega
  have n6:¬ (w3.heap.size=ad2.block):=by omega
  (obtain ⟨x0,x1,x2,x3,x4,x5,x6,x7,x8,e0,s0⟩:=(B23).f9)
  have HB43:=hide (B43.alloc (.cells #[.int .i64 q,.int .u64 (p:Nat),.int .u64 (q2:Nat),.string ⟨#[]⟩] 45))
  have HS4:=hide (HS3.out.alloc (.cells #[.int .i64 q,.int .u64 (p:Nat),.int .u64 (q2:Nat),.string ⟨#[]⟩] 45))
  have hb4:=hb3.alloc hb3.size (.cells #[.int .i64 q,.int .u64 (p:Nat),.int .u64 (q2:Nat),.string ⟨#[]⟩] 45)
  go_wp2_with (fail)
  clear x0 x1 x2 x3 x4 x5 x6 x7 x8 e0 s0
  generalize w3.alloc (.cells #[.int .i64 q,.int .u64 (p:Nat),.int .u64 (q2:Nat),.string ⟨#[]⟩] 45)=W4 at *
  refine (QD.out _ HS4.out).mono ?_
  rintro e w6 ⟨E2,m2,c2,S2,d2,es2,ls2,rep,rfl,G2,Q2,b6⟩
  have HQ:=hide Q2
  have HS6:=hide G2
  have hb6:=hb4.trans (b6.mono hb4.size)
  have B46:=HB43.out.below b6 HB43.out.lt
  clear G2 Q2 b6 hb4 HS4 HB43 HS3 B23 B43 hb3
  (obtain ⟨q0,q1,q2,q3,q4,q5,q6,q7,q8,eb,sb⟩:=(B46).f9)
  have BW:=se_set9 B46 (Value.int .i64 N) (Value.int .i64 L) (Value.int .i64 R) (Value.slice H K hc) (Value.slice E2 m2 c2) (Value.slice S2 N d2) (Value.slice Aw nw cw) (Value.int .i64 ta) (Value.bool true)
  have SW:=hide (sm_se9 HS6.out B46 (sec_off N none 0 0 none 0 0 none 0 0 none 0 0 0 false) (Value.int .i64 N) (Value.int .i64 L) (Value.int .i64 R) (Value.slice H K hc) (Value.slice E2 m2 c2) (Value.slice S2 N d2) (Value.slice Aw nw cw) (Value.int .i64 ta) (Value.bool true))
  have hbw:=below_set9 hb6 (show w.heap.size ≤ w.heap.size + 1 by omega) (Value.int .i64 N) (Value.int .i64 L) (Value.int .i64 R) (Value.slice H K hc) (Value.slice E2 m2 c2) (Value.slice S2 N d2) (Value.slice Aw nw cw) (Value.int .i64 ta) (Value.bool true)
  obtain ⟨rb2,_,_⟩:=BW.facts
  have p0:(((((((((w6.setCell ⟨w.heap.size + 1,0,none⟩ (Value.int .i64 N)).setCell ⟨w.heap.size + 1,1,none⟩ (Value.int .i64 L)).setCell ⟨w.heap.size + 1,2,none⟩ (Value.int .i64 R)).setCell ⟨w.heap.size + 1,3,none⟩ (Value.slice H K hc)).setCell ⟨w.heap.size + 1,4,none⟩ (Value.slice E2 m2 c2)).setCell ⟨w.heap.size + 1,5,none⟩ (Value.slice S2 N d2)).setCell ⟨w.heap.size + 1,6,none⟩ (Value.slice Aw nw cw)).setCell ⟨w.heap.size + 1,7,none⟩ (Value.int .i64 ta)).setCell ⟨w.heap.size + 1,8,none⟩ (Value.bool true)).cell? ⟨w.heap.size + 1,0,none⟩=some (.int .i64 N):=rb2 0
  have p1:(((((((((w6.setCell ⟨w.heap.size + 1,0,none⟩ (Value.int .i64 N)).setCell ⟨w.heap.size + 1,1,none⟩ (Value.int .i64 L)).setCell ⟨w.heap.size + 1,2,none⟩ (Value.int .i64 R)).setCell ⟨w.heap.size + 1,3,none⟩ (Value.slice H K hc)).setCell ⟨w.heap.size + 1,4,none⟩ (Value.slice E2 m2 c2)).setCell ⟨w.heap.size + 1,5,none⟩ (Value.slice S2 N d2)).setCell ⟨w.heap.size + 1,6,none⟩ (Value.slice Aw nw cw)).setCell ⟨w.heap.size + 1,7,none⟩ (Value.int .i64 ta)).setCell ⟨w.heap.size + 1,8,none⟩ (Value.bool true)).cell? ⟨w.heap.size + 1,1,none⟩=some (.int .i64 L):=rb2 1
  have p2:(((((((((w6.setCell ⟨w.heap.size + 1,0,none⟩ (Value.int .i64 N)).setCell ⟨w.heap.size + 1,1,none⟩ (Value.int .i64 L)).setCell ⟨w.heap.size + 1,2,none⟩ (Value.int .i64 R)).setCell ⟨w.heap.size + 1,3,none⟩ (Value.slice H K hc)).setCell ⟨w.heap.size + 1,4,none⟩ (Value.slice E2 m2 c2)).setCell ⟨w.heap.size + 1,5,none⟩ (Value.slice S2 N d2)).setCell ⟨w.heap.size + 1,6,none⟩ (Value.slice Aw nw cw)).setCell ⟨w.heap.size + 1,7,none⟩ (Value.int .i64 ta)).setCell ⟨w.heap.size + 1,8,none⟩ (Value.bool true)).cell? ⟨w.heap.size + 1,2,none⟩=some (.int .i64 R):=rb2 2
  have p3:(((((((((w6.setCell ⟨w.heap.size + 1,0,none⟩ (Value.int .i64 N)).setCell ⟨w.heap.size + 1,1,none⟩ (Value.int .i64 L)).setCell ⟨w.heap.size + 1,2,none⟩ (Value.int .i64 R)).setCell ⟨w.heap.size + 1,3,none⟩ (Value.slice H K hc)).setCell ⟨w.heap.size + 1,4,none⟩ (Value.slice E2 m2 c2)).setCell ⟨w.heap.size + 1,5,none⟩ (Value.slice S2 N d2)).setCell ⟨w.heap.size + 1,6,none⟩ (Value.slice Aw nw cw)).setCell ⟨w.heap.size + 1,7,none⟩ (Value.int .i64 ta)).setCell ⟨w.heap.size + 1,8,none⟩ (Value.bool true)).cell? ⟨w.heap.size + 1,3,none⟩=some (.slice H K hc):=rb2 3
  have p4:(((((((((w6.setCell ⟨w.heap.size + 1,0,none⟩ (Value.int .i64 N)).setCell ⟨w.heap.size + 1,1,none⟩ (Value.int .i64 L)).setCell ⟨w.heap.size + 1,2,none⟩ (Value.int .i64 R)).setCell ⟨w.heap.size + 1,3,none⟩ (Value.slice H K hc)).setCell ⟨w.heap.size + 1,4,none⟩ (Value.slice E2 m2 c2)).setCell ⟨w.heap.size + 1,5,none⟩ (Value.slice S2 N d2)).setCell ⟨w.heap.size + 1,6,none⟩ (Value.slice Aw nw cw)).setCell ⟨w.heap.size + 1,7,none⟩ (Value.int .i64 ta)).setCell ⟨w.heap.size + 1,8,none⟩ (Value.bool true)).cell? ⟨w.heap.size + 1,4,none⟩=some (.slice E2 m2 c2):=rb2 4
  have p5:(((((((((w6.setCell ⟨w.heap.size + 1,0,none⟩ (Value.int .i64 N)).setCell ⟨w.heap.size + 1,1,none⟩ (Value.int .i64 L)).setCell ⟨w.heap.size + 1,2,none⟩ (Value.int .i64 R)).setCell ⟨w.heap.size + 1,3,none⟩ (Value.slice H K hc)).setCell ⟨w.heap.size + 1,4,none⟩ (Value.slice E2 m2 c2)).setCell ⟨w.heap.size + 1,5,none⟩ (Value.slice S2 N d2)).setCell ⟨w.heap.size + 1,6,none⟩ (Value.slice Aw nw cw)).setCell ⟨w.heap.size + 1,7,none⟩ (Value.int .i64 ta)).setCell ⟨w.heap.size + 1,8,none⟩ (Value.bool true)).cell? ⟨w.heap.size + 1,5,none⟩=some (.slice S2 N d2):=rb2 5
  have p6:(((((((((w6.setCell ⟨w.heap.size + 1,0,none⟩ (Value.int .i64 N)).setCell ⟨w.heap.size + 1,1,none⟩ (Value.int .i64 L)).setCell ⟨w.heap.size + 1,2,none⟩ (Value.int .i64 R)).setCell ⟨w.heap.size + 1,3,none⟩ (Value.slice H K hc)).setCell ⟨w.heap.size + 1,4,none⟩ (Value.slice E2 m2 c2)).setCell ⟨w.heap.size + 1,5,none⟩ (Value.slice S2 N d2)).setCell ⟨w.heap.size + 1,6,none⟩ (Value.slice Aw nw cw)).setCell ⟨w.heap.size + 1,7,none⟩ (Value.int .i64 ta)).setCell ⟨w.heap.size + 1,8,none⟩ (Value.bool true)).cell? ⟨w.heap.size + 1,6,none⟩=some (.slice Aw nw cw):=rb2 6
  have p7:(((((((((w6.setCell ⟨w.heap.size + 1,0,none⟩ (Value.int .i64 N)).setCell ⟨w.heap.size + 1,1,none⟩ (Value.int .i64 L)).setCell ⟨w.heap.size + 1,2,none⟩ (Value.int .i64 R)).setCell ⟨w.heap.size + 1,3,none⟩ (Value.slice H K hc)).setCell ⟨w.heap.size + 1,4,none⟩ (Value.slice E2 m2 c2)).setCell ⟨w.heap.size + 1,5,none⟩ (Value.slice S2 N d2)).setCell ⟨w.heap.size + 1,6,none⟩ (Value.slice Aw nw cw)).setCell ⟨w.heap.size + 1,7,none⟩ (Value.int .i64 ta)).setCell ⟨w.heap.size + 1,8,none⟩ (Value.bool true)).cell? ⟨w.heap.size + 1,7,none⟩=some (.int .i64 ta):=rb2 7
  have p8:(((((((((w6.setCell ⟨w.heap.size + 1,0,none⟩ (Value.int .i64 N)).setCell ⟨w.heap.size + 1,1,none⟩ (Value.int .i64 L)).setCell ⟨w.heap.size + 1,2,none⟩ (Value.int .i64 R)).setCell ⟨w.heap.size + 1,3,none⟩ (Value.slice H K hc)).setCell ⟨w.heap.size + 1,4,none⟩ (Value.slice E2 m2 c2)).setCell ⟨w.heap.size + 1,5,none⟩ (Value.slice S2 N d2)).setCell ⟨w.heap.size + 1,6,none⟩ (Value.slice Aw nw cw)).setCell ⟨w.heap.size + 1,7,none⟩ (Value.int .i64 ta)).setCell ⟨w.heap.size + 1,8,none⟩ (Value.bool true)).cell? ⟨w.heap.size + 1,8,none⟩=some (.bool true):=rb2 8
  clear rb2 BW
  have HP:=hide (And.intro p0 (And.intro p1 (And.intro p2 (And.intro p3 (And.intro p4 (And.intro p5 (And.intro p6 (And.intro p7 p8))))))))
  clear p0 p1 p2 p3 p4 p5 p6 p7 p8
  go_wp2_with (fail)
  generalize (((((((((w6.setCell ⟨w.heap.size + 1,0,none⟩ (Value.int .i64 N)).setCell ⟨w.heap.size + 1,1,none⟩ (Value.int .i64 L)).setCell ⟨w.heap.size + 1,2,none⟩ (Value.int .i64 R)).setCell ⟨w.heap.size + 1,3,none⟩ (Value.slice H K hc)).setCell ⟨w.heap.size + 1,4,none⟩ (Value.slice E2 m2 c2)).setCell ⟨w.heap.size + 1,5,none⟩ (Value.slice S2 N d2)).setCell ⟨w.heap.size + 1,6,none⟩ (Value.slice Aw nw cw)).setCell ⟨w.heap.size + 1,7,none⟩ (Value.int .i64 ta)).setCell ⟨w.heap.size + 1,8,none⟩ (Value.bool true))=W9 at *
  obtain ⟨p0,p1,p2,p3,p4,p5,p6,p7,p8⟩:=HP.out
  refine bodyPost_ret (v:=.tuple #[.agg #[.int .i64 N,.int .i64 L,.int .i64 R,.slice H (K) hc,.slice E2 m2 c2,.slice S2 N d2,.slice Aw nw cw,.int .i64 ta,.bool true],.string s]) (by simp [results,Tryz.results35,go_sem,p0,p1,p2,p3,p4,p5,p6,p7,p8]) rfl ?_
  exact ⟨E2,m2,c2,S2,d2,es2,ls2,rep,rfl,SW.out,HQ.out,hbw⟩
end
end Go.Proofs.YtppblcbgkadldaaGreatDoor
