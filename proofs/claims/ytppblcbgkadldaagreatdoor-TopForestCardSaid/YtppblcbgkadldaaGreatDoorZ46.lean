/-
  A part of the proof that the law TopForest returns true for every input and leaves its arguments as they were: LineN, Stages, LineAt, LinesP.
-/
import Derived.Test.YtppblcbgkadldaaGreatDoorZ39
import Derived.Test.YtppblcbgkadldaaGreatDoorZ45
set_option linter.all false
namespace Go.Proofs.YtppblcbgkadldaaGreatDoor
open Go Go.RowKit
set_option maxRecDepth 100000
attribute [local go_sem] Heavy heavyUpon
attribute [local go_sem ↓] ssl_lo
set_option maxHeartbeats 12800000 in
theorem line_new (Aw:Option Addr) (nw cw:Nat) (A:Option Addr) (cc:Nat) (w:World) (hA:Sl w [] 1 A 4 cc (strs (wNew :: [3,2,1].map digB))) (hW:Sl w [] 1 Aw nw cw (ints .u64 [7,1,9,2])) :
    Calls Tryz.prog 35 #[.agg #[.int .i64 0,.int .i64 0,.int .i64 0,.slice none 0 0,.slice none 0 0,.slice none 0 0,.slice Aw nw cw,.int .i64 0,.bool false],.slice A 4 cc] w (fun e w'=>∃ H hc,RepS 3 2 1 hsF H hc 2 Aw nw cw 4 sOk (fun es ls _=>es=[] ∧ ls=List.replicate 3 (false,0)) w e w'):=by
  have QC:=hide command_new
  have QB:=hide (fun Ra rd W (h1:Sl W [] 1 Aw nw cw (ints .u64 [7,1,9,2])) (h2:Sl W [] 1 Ra 3 rd (ints .u64 [3,2,1]))=>begun_ok Aw nw cw Ra rd W h1 h2)
  have QN:=hide (fun A c W (h:Sl W [] 1 A 3 c (strs ([3,2,1].map digB)))=>numbers_ok [3,2,1] (by intro d hd;simp at hd;rcases hd with rfl | rfl | rfl <;> simp [IsDig]) A 3 c W h (by omega))
  have B2:=(Blk.new w 88 #[.int .i64 0,.int .i64 0,.int .i64 0,.slice none 0 0,.slice none 0 0,.slice none 0 0,.slice Aw nw cw,.int .i64 0,.bool false]).alloc (.cells #[.int .i64 0,.int .i64 0,.int .i64 0,.slice none 0 0,.slice none 0 0,.slice none 0 0,.slice none 0 0,.int .i64 0,.bool false] 88)
  have B4:=Blk.new (w.alloc (.cells #[.int .i64 0,.int .i64 0,.int .i64 0,.slice none 0 0,.slice none 0 0,.slice none 0 0,.slice Aw nw cw,.int .i64 0,.bool false] 88)) 88 #[.int .i64 0,.int .i64 0,.int .i64 0,.slice none 0 0,.slice none 0 0,.slice none 0 0,.slice none 0 0,.int .i64 0,.bool false]
  rw [heap_alloc_size] at B4
  have hb0:=((Below.refl w.heap.size w).alloc (Nat.le_refl _) (.cells #[.int .i64 0,.int .i64 0,.int .i64 0,.slice none 0 0,.slice none 0 0,.slice none 0 0,.slice Aw nw cw,.int .i64 0,.bool false] 88)).alloc (by simp) (.cells #[.int .i64 0,.int .i64 0,.int .i64 0,.slice none 0 0,.slice none 0 0,.slice none 0 0,.slice none 0 0,.int .i64 0,.bool false] 88)
  have HW0:=hide (show Sl _ [] 1 Aw nw cw (ints .u64 [7,1,9,2]) from Sl.alloc (Sl.alloc hW (.cells #[.int .i64 0,.int .i64 0,.int .i64 0,.slice none 0 0,.slice none 0 0,.slice none 0 0,.slice Aw nw cw,.int .i64 0,.bool false] 88)) (.cells #[.int .i64 0,.int .i64 0,.int .i64 0,.slice none 0 0,.slice none 0 0,.slice none 0 0,.slice none 0 0,.int .i64 0,.bool false] 88))
  have HA0:=hide (show Sl _ [] 1 A (3 + 1) cc (strs (wNew :: [3,2,1].map digB)) from Sl.alloc (Sl.alloc hA (.cells #[.int .i64 0,.int .i64 0,.int .i64 0,.slice none 0 0,.slice none 0 0,.slice none 0 0,.slice Aw nw cw,.int .i64 0,.bool false] 88)) (.cells #[.int .i64 0,.int .i64 0,.int .i64 0,.slice none 0 0,.slice none 0 0,.slice none 0 0,.slice none 0 0,.int .i64 0,.bool false] 88))
  have hcc:=hA.le
  obtain ⟨ad,rfl,had,_,hcz⟩:=hA.at_ (by omega)
  have z0:w.cell? ad=some (.string wNew):=by have:=hcz 0 _ rfl;rwa [add_zero_] at this
  have n1:¬ (ad.block=w.heap.size):=by omega
  have n2:¬ (ad.block=w.heap.size + 1):=by omega
  clear hA hW hcz
  go_enter Tryz.func35,Tryz.ntmps35
  go_wp2_with (fail)
  generalize (w.alloc (.cells #[.int .i64 0,.int .i64 0,.int .i64 0,.slice none 0 0,.slice none 0 0,.slice none 0 0,.slice Aw nw cw,.int .i64 0,.bool false] 88)).alloc (.cells #[.int .i64 0,.int .i64 0,.int .i64 0,.slice none 0 0,.slice none 0 0,.slice none 0 0,.slice none 0 0,.int .i64 0,.bool false] 88)=W0 at *
  refine (QC.out _).mono ?_
  rintro e w1 ⟨rfl,b1⟩
  have hb1:=hb0.trans (b1.mono hb0.size)
  have HW1:=hide (HW0.out.below b1)
  have B21:=B2.below b1 B2.lt
  have B41:=B4.below b1 B4.lt
  have HT1:=hide (str_tail (Sl.below HA0.out b1))
  clear b1 hb0 HW0 B2 B4 HA0 z0 n1 n2
  go_wp2_with (fail)
  refine (QN.out _ _ _ HT1.out).mono ?_
  rintro e w3 ⟨R3,rd,rfl,S3,b3⟩
  have hb3:=hb1.trans (b3.mono hb1.size)
  have HW3:=hide (HW1.out.below b3)
  have B23:=B21.below b3 B21.lt
  have HB43:=hide (B41.below b3 B41.lt)
  have HR3:=hide (show Sl w3 [] 1 R3 3 rd (ints .u64 [3,2,1]) from S3)
  clear S3 b3 hb1 HW1 B21 B41 HT1 QN QC
  obtain ⟨r0,e0,s0⟩:=B23.facts
  have x0:w3.cell? ⟨w.heap.size,0,none⟩=some (.int .i64 0):=r0 0
  have x1:w3.cell? ⟨w.heap.size,1,none⟩=some (.int .i64 0):=r0 1
  have x2:w3.cell? ⟨w.heap.size,2,none⟩=some (.int .i64 0):=r0 2
  have x3:w3.cell? ⟨w.heap.size,3,none⟩=some (.slice none 0 0):=r0 3
  have x4:w3.cell? ⟨w.heap.size,4,none⟩=some (.slice none 0 0):=r0 4
  have x5:w3.cell? ⟨w.heap.size,5,none⟩=some (.slice none 0 0):=r0 5
  have x6:w3.cell? ⟨w.heap.size,6,none⟩=some (.slice Aw nw cw):=r0 6
  have x7:w3.cell? ⟨w.heap.size,7,none⟩=some (.int .i64 0):=r0 7
  have x8:w3.cell? ⟨w.heap.size,8,none⟩=some (.bool false):=r0 8
  clear r0
  go_wp2_with (fail)
  clear x0 x1 x2 x3 x4 x5 x6 x7 x8 e0 s0
  refine (QB.out _ _ _ HW3.out HR3.out).mono ?_
  rintro e w6 ⟨H,hc,E2,m2,c2,S2,d2,es2,ls2,rep,rfl,G2,Q2,b6⟩
  have HQ:=hide Q2
  have HS6:=hide G2
  have hb6:=hb3.trans (b6.mono hb3.size)
  have B46:=HB43.out.below b6 HB43.out.lt
  clear G2 Q2 b6 hb3 HW3 HR3 HB43 B23
  (obtain ⟨q0,q1,q2,q3,q4,q5,q6,q7,q8,eb,sb⟩:=(B46).f9)
  have BW:=se_set9 B46 (Value.int .i64 3) (Value.int .i64 2) (Value.int .i64 1) (Value.slice H 2 hc) (Value.slice E2 m2 c2) (Value.slice S2 3 d2) (Value.slice Aw nw cw) (Value.int .i64 4) (Value.bool true)
  have SW:=hide (sm_se9 HS6.out B46 (sec_off 3 none 0 0 none 0 0 none 0 0 none 0 0 0 false) (Value.int .i64 3) (Value.int .i64 2) (Value.int .i64 1) (Value.slice H 2 hc) (Value.slice E2 m2 c2) (Value.slice S2 3 d2) (Value.slice Aw nw cw) (Value.int .i64 4) (Value.bool true))
  have hbw:=below_set9 hb6 (show w.heap.size ≤ w.heap.size + 1 by omega) (Value.int .i64 3) (Value.int .i64 2) (Value.int .i64 1) (Value.slice H 2 hc) (Value.slice E2 m2 c2) (Value.slice S2 3 d2) (Value.slice Aw nw cw) (Value.int .i64 4) (Value.bool true)
  obtain ⟨rb2,_,_⟩:=BW.facts
  have p0:(((((((((w6.setCell ⟨w.heap.size + 1,0,none⟩ (Value.int .i64 3)).setCell ⟨w.heap.size + 1,1,none⟩ (Value.int .i64 2)).setCell ⟨w.heap.size + 1,2,none⟩ (Value.int .i64 1)).setCell ⟨w.heap.size + 1,3,none⟩ (Value.slice H 2 hc)).setCell ⟨w.heap.size + 1,4,none⟩ (Value.slice E2 m2 c2)).setCell ⟨w.heap.size + 1,5,none⟩ (Value.slice S2 3 d2)).setCell ⟨w.heap.size + 1,6,none⟩ (Value.slice Aw nw cw)).setCell ⟨w.heap.size + 1,7,none⟩ (Value.int .i64 4)).setCell ⟨w.heap.size + 1,8,none⟩ (Value.bool true)).cell? ⟨w.heap.size + 1,0,none⟩=some (.int .i64 3):=rb2 0
  have p1:(((((((((w6.setCell ⟨w.heap.size + 1,0,none⟩ (Value.int .i64 3)).setCell ⟨w.heap.size + 1,1,none⟩ (Value.int .i64 2)).setCell ⟨w.heap.size + 1,2,none⟩ (Value.int .i64 1)).setCell ⟨w.heap.size + 1,3,none⟩ (Value.slice H 2 hc)).setCell ⟨w.heap.size + 1,4,none⟩ (Value.slice E2 m2 c2)).setCell ⟨w.heap.size + 1,5,none⟩ (Value.slice S2 3 d2)).setCell ⟨w.heap.size + 1,6,none⟩ (Value.slice Aw nw cw)).setCell ⟨w.heap.size + 1,7,none⟩ (Value.int .i64 4)).setCell ⟨w.heap.size + 1,8,none⟩ (Value.bool true)).cell? ⟨w.heap.size + 1,1,none⟩=some (.int .i64 2):=rb2 1
  have p2:(((((((((w6.setCell ⟨w.heap.size + 1,0,none⟩ (Value.int .i64 3)).setCell ⟨w.heap.size + 1,1,none⟩ (Value.int .i64 2)).setCell ⟨w.heap.size + 1,2,none⟩ (Value.int .i64 1)).setCell ⟨w.heap.size + 1,3,none⟩ (Value.slice H 2 hc)).setCell ⟨w.heap.size + 1,4,none⟩ (Value.slice E2 m2 c2)).setCell ⟨w.heap.size + 1,5,none⟩ (Value.slice S2 3 d2)).setCell ⟨w.heap.size + 1,6,none⟩ (Value.slice Aw nw cw)).setCell ⟨w.heap.size + 1,7,none⟩ (Value.int .i64 4)).setCell ⟨w.heap.size + 1,8,none⟩ (Value.bool true)).cell? ⟨w.heap.size + 1,2,none⟩=some (.int .i64 1):=rb2 2
  have p3:(((((((((w6.setCell ⟨w.heap.size + 1,0,none⟩ (Value.int .i64 3)).setCell ⟨w.heap.size + 1,1,none⟩ (Value.int .i64 2)).setCell ⟨w.heap.size + 1,2,none⟩ (Value.int .i64 1)).setCell ⟨w.heap.size + 1,3,none⟩ (Value.slice H 2 hc)).setCell ⟨w.heap.size + 1,4,none⟩ (Value.slice E2 m2 c2)).setCell ⟨w.heap.size + 1,5,none⟩ (Value.slice S2 3 d2)).setCell ⟨w.heap.size + 1,6,none⟩ (Value.slice Aw nw cw)).setCell ⟨w.heap.size + 1,7,none⟩ (Value.int .i64 4)).setCell ⟨w.heap.size + 1,8,none⟩ (Value.bool true)).cell? ⟨w.heap.size + 1,3,none⟩=some (.slice H 2 hc):=rb2 3
  have p4:(((((((((w6.setCell ⟨w.heap.size + 1,0,none⟩ (Value.int .i64 3)).setCell ⟨w.heap.size + 1,1,none⟩ (Value.int .i64 2)).setCell ⟨w.heap.size + 1,2,none⟩ (Value.int .i64 1)).setCell ⟨w.heap.size + 1,3,none⟩ (Value.slice H 2 hc)).setCell ⟨w.heap.size + 1,4,none⟩ (Value.slice E2 m2 c2)).setCell ⟨w.heap.size + 1,5,none⟩ (Value.slice S2 3 d2)).setCell ⟨w.heap.size + 1,6,none⟩ (Value.slice Aw nw cw)).setCell ⟨w.heap.size + 1,7,none⟩ (Value.int .i64 4)).setCell ⟨w.heap.size + 1,8,none⟩ (Value.bool true)).cell? ⟨w.heap.size + 1,4,none⟩=some (.slice E2 m2 c2):=rb2 4
  have p5:(((((((((w6.setCell ⟨w.heap.size + 1,0,none⟩ (Value.int .i64 3)).setCell ⟨w.heap.size + 1,1,none⟩ (Value.int .i64 2)).setCell ⟨w.heap.size + 1,2,none⟩ (Value.int .i64 1)).setCell ⟨w.heap.size + 1,3,none⟩ (Value.slice H 2 hc)).setCell ⟨w.heap.size + 1,4,none⟩ (Value.slice E2 m2 c2)).setCell ⟨w.heap.size + 1,5,none⟩ (Value.slice S2 3 d2)).setCell ⟨w.heap.size + 1,6,none⟩ (Value.slice Aw nw cw)).setCell ⟨w.heap.size + 1,7,none⟩ (Value.int .i64 4)).setCell ⟨w.heap.size + 1,8,none⟩ (Value.bool true)).cell? ⟨w.heap.size + 1,5,none⟩=some (.slice S2 3 d2):=rb2 5
  have p6:(((((((((w6.setCell ⟨w.heap.size + 1,0,none⟩ (Value.int .i64 3)).setCell ⟨w.heap.size + 1,1,none⟩ (Value.int .i64 2)).setCell ⟨w.heap.size + 1,2,none⟩ (Value.int .i64 1)).setCell ⟨w.heap.size + 1,3,none⟩ (Value.slice H 2 hc)).setCell ⟨w.heap.size + 1,4,none⟩ (Value.slice E2 m2 c2)).setCell ⟨w.heap.size + 1,5,none⟩ (Value.slice S2 3 d2)).setCell ⟨w.heap.size + 1,6,none⟩ (Value.slice Aw nw cw)).setCell ⟨w.heap.size + 1,7,none⟩ (Value.int .i64 4)).setCell ⟨w.heap.size + 1,8,none⟩ (Value.bool true)).cell? ⟨w.heap.size + 1,6,none⟩=some (.slice Aw nw cw):=rb2 6
  have p7:(((((((((w6.setCell ⟨w.heap.size + 1,0,none⟩ (Value.int .i64 3)).setCell ⟨w.heap.size + 1,1,none⟩ (Value.int .i64 2)).setCell ⟨w.heap.size + 1,2,none⟩ (Value.int .i64 1)).setCell ⟨w.heap.size + 1,3,none⟩ (Value.slice H 2 hc)).setCell ⟨w.heap.size + 1,4,none⟩ (Value.slice E2 m2 c2)).setCell ⟨w.heap.size + 1,5,none⟩ (Value.slice S2 3 d2)).setCell ⟨w.heap.size + 1,6,none⟩ (Value.slice Aw nw cw)).setCell ⟨w.heap.size + 1,7,none⟩ (Value.int .i64 4)).setCell ⟨w.heap.size + 1,8,none⟩ (Value.bool true)).cell? ⟨w.heap.size + 1,7,none⟩=some (.int .i64 4):=rb2 7
  have p8:(((((((((w6.setCell ⟨w.heap.size + 1,0,none⟩ (Value.int .i64 3)).setCell ⟨w.heap.size + 1,1,none⟩ (Value.int .i64 2)).setCell ⟨w.heap.size + 1,2,none⟩ (Value.int .i64 1)).setCell ⟨w.heap.size + 1,3,none⟩ (Value.slice H 2 hc)).setCell ⟨w.heap.size + 1,4,none⟩ (Value.slice E2 m2 c2)).setCell ⟨w.heap.size + 1,5,none⟩ (Value.slice S2 3 d2)).setCell ⟨w.heap.size + 1,6,none⟩ (Value.slice Aw nw cw)).setCell ⟨w.heap.size + 1,7,none⟩ (Value.int .i64 4)).setCell ⟨w.heap.size + 1,8,none⟩ (Value.bool true)).cell? ⟨w.heap.size + 1,8,none⟩=some (.bool true):=rb2 8
  clear rb2 BW
  have HP:=hide (And.intro p0 (And.intro p1 (And.intro p2 (And.intro p3 (And.intro p4 (And.intro p5 (And.intro p6 (And.intro p7 p8))))))))
  clear p0 p1 p2 p3 p4 p5 p6 p7 p8
  go_wp2_with (fail)
  generalize (((((((((w6.setCell ⟨w.heap.size + 1,0,none⟩ (Value.int .i64 3)).setCell ⟨w.heap.size + 1,1,none⟩ (Value.int .i64 2)).setCell ⟨w.heap.size + 1,2,none⟩ (Value.int .i64 1)).setCell ⟨w.heap.size + 1,3,none⟩ (Value.slice H 2 hc)).setCell ⟨w.heap.size + 1,4,none⟩ (Value.slice E2 m2 c2)).setCell ⟨w.heap.size + 1,5,none⟩ (Value.slice S2 3 d2)).setCell ⟨w.heap.size + 1,6,none⟩ (Value.slice Aw nw cw)).setCell ⟨w.heap.size + 1,7,none⟩ (Value.int .i64 4)).setCell ⟨w.heap.size + 1,8,none⟩ (Value.bool true))=W9 at *
  obtain ⟨p0,p1,p2,p3,p4,p5,p6,p7,p8⟩:=HP.out
  refine bodyPost_ret (v:=.tuple #[.agg #[.int .i64 3,.int .i64 2,.int .i64 1,.slice H 2 hc,.slice E2 m2 c2,.slice S2 3 d2,.slice Aw nw cw,.int .i64 4,.bool true],.string sOk]) (by simp [results,Tryz.results35,go_sem,p0,p1,p2,p3,p4,p5,p6,p7,p8]) rfl ?_
  exact ⟨H,hc,E2,m2,c2,S2,d2,es2,ls2,rep,rfl,SW.out,HQ.out,hbw⟩
end Go.Proofs.YtppblcbgkadldaaGreatDoor
namespace Go.Proofs.YtppblcbgkadldaaGreatDoor
open Go Go.RowKit
set_option maxRecDepth 100000
def lsF:List S2:=[(true,4),(true,6),(true,8)]
def St:Nat → List E3 → List S2 → Prop
  | 1,es,ls=>es=[] ∧ ls=List.replicate 3 (false,0)
  | 2,es,ls=>es=[] ∧ ls=[(true,4),(false,0),(false,0)]
  | 3,es,ls=>es=[] ∧ ls=[(true,4),(true,6),(false,0)]
  | 4,es,ls=>es=[] ∧ ls=lsF
  | _,es,ls=>(∃ s:Int,1 ≤ s ∧ es=[(0,1,s)]) ∧ ls=lsF
theorem add_first {a:Int} {es es':List E3} {ls ls':List S2} {code:Int} (h:ChAdd a es ls es' ls' code) (hn:∀ x ∈ ls,x ≠ (true,a)) {v:Nat} (hv:v < ls.length) (h0:ls[v].1=false) (hb:∀ (j:Nat) (hj:j < ls.length),j < v → ls[j].1=true):code=0 ∧ es'=es ∧ ls'=ls.set v (true,a):=by
  obtain ⟨rfl,⟨⟨i,hi,h1⟩,_⟩ | ⟨_,h1,_⟩ | ⟨_,rfl,u,hu,⟨h1,h2⟩,rfl⟩⟩:=h
  · exact absurd h1 (hn _ (List.getElem_mem hi))
  · have:=h1 _ (List.getElem_mem hv);rw [h0] at this;cases this
  · rcases Nat.lt_trichotomy u v with h3 | h3 | h3
    · rw [hb u hu h3] at h1;cases h1
    · subst h3;exact ⟨rfl,rfl,rfl⟩
    · rw [h2 v hv h3] at h0;cases h0
section
variable {w w':World} {hs:List (Int × Int)} {es:List E3} {ls:List S2} {H:Option Addr} {hc:Nat} {E:Option Addr} {m c:Nat} {S:Option Addr} {d:Nat}
def QOk (t:Nat) (es:List E3) (ls:List S2) (rep:Value):Prop:=St t es ls ∧ rep=.iface 36 (.int .i64 0)
def QV (t:Nat) (T:TypeId) (v:Value) (es:List E3) (ls:List S2) (rep:Value):Prop:=St t es ls ∧ rep=.iface T v
theorem repd_of {N L R K:Nat} {P:List E3 → List S2 → Int → Prop} {t:Nat} {e:Ending} (h:RetD N L R hs H hc K P w e w') (hi:∀ es ls code,P es ls code → code=0 ∧ St t es ls):RepD N L R hs H hc K (QOk t) w e w':=by
  obtain ⟨E,m,c,S,d,es,ls,code,h1,h2,h3,h4⟩:=h
  obtain ⟨rfl,h5⟩:=hi _ _ _ h3
  exact ⟨E,m,c,S,d,es,ls,_,h1,h2,⟨h5,rfl⟩,h4⟩
theorem repd_ask {N L R K t:Nat} {T:TypeId} {v:Value} {e:Ending} (hst:St t es ls) (h:RetDA N L R hs es ls H hc E m c S d K T (IsV v) w e w'):RepD N L R hs H hc K (QV t T v) w e w':=by
  obtain ⟨x,h1,rfl,h3,h4⟩:=h
  exact ⟨E,m,c,S,d,es,ls,_,h1,h3,⟨hst,rfl⟩,h4⟩
theorem do_add {N L R:Nat} (a b:Int) (tx:ByteArray) (t v:Nat) (hn:∀ x ∈ ls,x ≠ (true,a)) (hv:v < ls.length) (h0:ls[v].1=false) (hb:∀ (j:Nat) (hj:j < ls.length),j < v → ls[j].1=true) (hst:∀ es',es'=es → St t es' (ls.set v (true,a))) (w:World) (hS:SM w N L R hs es ls H hc E m c S d) :
    Calls Tryz.prog 7 #[sV N L R H hc E m c S d,.agg #[.int .i64 1,.int .u64 a,.int .u64 b,.string tx]] w (RepD N L R hs H hc (L * R) (QOk t) w):=by
  obtain ⟨u,ka,hA⟩:=slot_any hS.ok a
  obtain ⟨u2,kb,hB⟩:=slot_any hS.ok b
  refine (do_run1 a b tx u u2 ka kb hA hB (ChAdd a es ls) ?_ (fun W h=>change_1 a b tx u u2 W h) w hS).mono fun e w' h=>repd_of h fun es' ls' code hc=>?_
  · rintro es' ls' code ⟨rfl,⟨_,_,rfl⟩ | ⟨_,_,_,rfl⟩ | ⟨_,h0,_⟩⟩ hc
    · exact ⟨rfl,rfl⟩
    · exact ⟨rfl,rfl⟩
    · exact absurd h0 hc
  · obtain ⟨h1,h2,rfl⟩:=add_first hc hn hv h0 hb
    exact ⟨h1,hst _ h2⟩
theorem slotF:IsSlot lsF 4 0 ∧ IsSlot lsF 6 1 ∧ IsSlot lsF 8 2:=⟨⟨by decide,rfl⟩,⟨by decide,rfl⟩,⟨by decide,rfl⟩⟩
theorem do_edge (tx:ByteArray) (w:World) (hS:SM w 3 2 1 hs [] lsF H hc E m c S d) :
    Calls Tryz.prog 7 #[sV 3 2 1 H hc E m c S d,.agg #[.int .i64 3,.int .u64 6,.int .u64 4,.string tx]] w (RepD 3 2 1 hs H hc (2 * 1) (QOk 5) w):=by
  refine (do_run3 6 4 tx 1 0 (get_slot hS.ok slotF.2.1) (get_slot hS.ok slotF.1) (ChIns 3 1 0 [] lsF) ?_ (fun W h=>change_3 6 4 tx 1 0 slotF.2.1 slotF.1 W h) w hS).mono fun e w' h=>repd_of h fun es' ls' code hc=>?_
  · rintro es' ls' code ⟨rfl,_,h2,_⟩ hc
    exact ⟨h2 hc,rfl⟩
  · obtain ⟨rfl,h1,_,h3⟩:=hc
    have h4:(addE 3 [] 1 0).2=0:=by decide
    have h5:code=0:=h1.symm.trans h4
    obtain ⟨_,hp⟩:=h3 h5
    obtain ⟨s,h6,h7⟩:=hp (by decide) rfl rfl
    exact ⟨h5,⟨s,h6,h7⟩,rfl⟩
theorem forN_one {s:Int} (h:1 ≤ s ∧ s ≤ 2):forN [(0,1,s)] 2=[(0,1)]:=by
  unfold forN forestE tierT endsE e2
  rw [List.filter_cons,if_pos (by simp;omega)]
  rfl
theorem part_one:partN 3 [(0,1)]=[0,0,2]:=by decide
theorem st_tier {s:Int} (hS:SM w 3 2 1 hs [(0,1,s)] ls H hc E m c S d):s ≤ 2:=hS.g.ge.tier (0,1,s) (by simp)
theorem ask_conn (tx:ByteArray) (b:Int) (v:Nat) (hv:IsSlot lsF b v) (t:Nat) (s:Int) (hs1:1 ≤ s) (hst:St t [(0,1,s)] lsF) (w:World) (hS:SM w 3 2 1 hs [(0,1,s)] lsF H hc E m c S d) :
    Calls Tryz.prog 7 #[sV 3 2 1 H hc E m c S d,.agg #[.int .i64 8,.int .u64 4,.int .u64 b,.string tx]] w (RepD 3 2 1 hs H hc (2 * 1) (QV t 4 (.bool (decide ([0,0,2].getD 0 0=[0,0,2].getD v 0)))) w):=by
  have hp:partN 3 (forN [(0,1,s)] 2)=[0,0,2]:=by rw [forN_one ⟨hs1,st_tier hS⟩,part_one]
  refine (do_ask8 4 b tx 0 v (get_slot hS.ok slotF.1) (get_slot hS.ok hv) 4 w (IsV (.bool (decide ([0,0,2].getD 0 0=[0,0,2].getD v 0)))) (keeps_v _ _) (fun W h _=>?_) hS).mono fun e w' h=>repd_ask hst h
  have:=answer_8 [] 0 v (by decide) (slot_ltN h hv) W h (by simp)
  rw [show ((2:Nat):Int)=2 from rfl,hp] at this
  exact this
theorem ask_audit (tx:ByteArray) (t:Nat) (s:Int) (hs1:1 ≤ s) (hst:St t [(0,1,s)] lsF) (w:World) (hS:SM w 3 2 1 hs [(0,1,s)] lsF H hc E m c S d) :
    Calls Tryz.prog 7 #[sV 3 2 1 H hc E m c S d,.agg #[.int .i64 13,.int .u64 0,.int .u64 0,.string tx]] w (RepD 3 2 1 hs H hc (2 * 1) (QV t 4 (.bool true)) w):=by
  have hp:forN [(0,1,s)] 2=[(0,1)]:=forN_one ⟨hs1,st_tier hS⟩
  obtain ⟨u,ka,hA⟩:=slot_any hS.ok 0
  refine (do_ask13 0 0 tx u u ka ka hA hA 4 w (IsV (.bool true)) (keeps_v _ _) (fun W h _=>?_) hS).mono fun e w' h=>repd_ask hst h
  have:=answer_13 [] u u W h (by simp)
  rw [show ((2:Nat):Int)=2 from rfl,hp,show endsE [(0,1,s)]=[(0,1)] from rfl,decide_eq_true rfl] at this
  exact this
theorem ask_size (tx:ByteArray) (t:Nat) (s:Int) (hs1:1 ≤ s) (hst:St t [(0,1,s)] lsF) (w:World) (hS:SM w 3 2 1 hs [(0,1,s)] lsF H hc E m c S d) :
    Calls Tryz.prog 7 #[sV 3 2 1 H hc E m c S d,.agg #[.int .i64 9,.int .u64 6,.int .u64 0,.string tx]] w (RepD 3 2 1 hs H hc (2 * 1) (QV t 3 (.int .i64 (2:Nat))) w):=by
  have hp:partN 3 (forN [(0,1,s)] 2)=[0,0,2]:=by rw [forN_one ⟨hs1,st_tier hS⟩,part_one]
  obtain ⟨v,kb,hB⟩:=slot_any hS.ok 0
  refine (do_ask9 6 0 tx 1 v kb (get_slot hS.ok slotF.2.1) hB 3 w (IsV (.int .i64 (2:Nat))) (keeps_v _ _) (fun W h _=>?_) hS).mono fun e w' h=>repd_ask hst h
  have:=answer_9 [] 1 v (by decide) W h (by simp)
  rw [show ((2:Nat):Int)=2 from rfl,hp,show (keysN lsF (classN [0,0,2] 1 3)).length=2 from by decide] at this
  exact this
end
end Go.Proofs.YtppblcbgkadldaaGreatDoor
namespace Go.Proofs.YtppblcbgkadldaaGreatDoor
open Go Go.RowKit
set_option maxRecDepth 100000
def linesF:List (List ByteArray):=[wNew :: [3,2,1].map digB,wVertex :: [4].map digB,wVertex :: [6].map digB,wVertex :: [8].map digB,wEdge :: [6,4].map digB,wConnected :: [4,6].map digB,wConnected :: [4,8].map digB,wAudit :: [].map digB,wSize :: [6].map digB]
def s2:ByteArray:=⟨(Lib.decDigits 2).toArray⟩
def toldF:List ByteArray:=[sOk,sOk,sOk,sOk,sOk,sYes,sNo,sYes,s2]
def SessAt (Aw:Option Addr) (nw cw t:Nat) (W:World) (a b c:Int) (H:Option Addr) (k hc:Nat) (E:Option Addr) (m ce:Nat) (S:Option Addr) (n d:Nat) (ta:Int) (o:Bool):Prop:=
  (t=0 ∧ a=0 ∧ b=0 ∧ c=0 ∧ (H=none ∧ k=0 ∧ hc=0) ∧ (E=none ∧ m=0 ∧ ce=0) ∧ (S=none ∧ n=0 ∧ d=0) ∧ ta=0 ∧ o=false ∧ Sl W [] 1 Aw nw cw (ints .u64 [7,1,9,2])) ∨
  (1 ≤ t ∧ a=3 ∧ b=2 ∧ c=1 ∧ k=2 ∧ n=3 ∧ ta=4 ∧ o=true ∧ ∃ es ls,St t es ls ∧ SM W 3 2 1 hsF es ls H hc E m ce S d)
def RetLine (Aw:Option Addr) (nw cw t:Nat) (w:World) (e:Ending) (w':World):Prop:=
  ∃ a b c H k hc E m ce S n d ta o,e=.returned (.tuple #[.agg #[.int .i64 a,.int .i64 b,.int .i64 c,.slice H k hc,.slice E m ce,.slice S n d,.slice Aw nw cw,.int .i64 ta,.bool o],.string (toldF.getD t sOk)]) ∧ SessAt Aw nw cw (t + 1) w' a b c H k hc E m ce S n d ta o ∧ Below w.heap.size w w'
theorem line_ret {Aw:Option Addr} {nw cw t:Nat} {s:ByteArray} {w w':World} {H:Option Addr} {hc:Nat} {Q:List E3 → List S2 → Value → Prop} {e:Ending} (hs:s=toldF.getD t sOk) (hQ:∀ es ls rep,Q es ls rep → St (t + 1) es ls) (h:RepS 3 2 1 hsF H hc (2 * 1) Aw nw cw 4 s Q w e w'):RetLine Aw nw cw t w e w':=by
  obtain ⟨E,m,c,S,d,es,ls,rep,h1,h2,h3,h4⟩:=h
  subst hs
  exact ⟨3,2,1,H,2,hc,E,m,c,S,3,d,4,true,h1,.inr ⟨by omega,rfl,rfl,rfl,rfl,rfl,rfl,rfl,es,ls,hQ _ _ _ h3,h2⟩,h4⟩
section
variable {es:List E3} {ls:List S2} {H:Option Addr} {hc:Nat} {E:Option Addr} {m c:Nat} {S:Option Addr} {d:Nat}
theorem tellQ_ok {t:Nat}:∀ es' ls' rep,QOk t es' ls' rep → ∀ W,Calls Tryz.prog 33 #[rep] W (Ret (.string sOk) W):=by
  rintro es' ls' rep ⟨_,rfl⟩ W;exact tell_ok W
theorem tellQ_yes {t:Nat}:∀ es' ls' rep,QV t 4 (.bool true) es' ls' rep → ∀ W,Calls Tryz.prog 33 #[rep] W (Ret (.string sYes) W):=by
  rintro es' ls' rep ⟨_,rfl⟩ W;exact tell_yes W
theorem tellQ_no {t:Nat}:∀ es' ls' rep,QV t 4 (.bool false) es' ls' rep → ∀ W,Calls Tryz.prog 33 #[rep] W (Ret (.string sNo) W):=by
  rintro es' ls' rep ⟨_,rfl⟩ W;exact tell_no W
theorem tellQ_2 {t:Nat}:∀ es' ls' rep,QV t 3 (.int .i64 (2:Nat)) es' ls' rep → ∀ W,Calls Tryz.prog 33 #[rep] W (Ret (.string s2) W):=by
  rintro es' ls' rep ⟨_,rfl⟩ W;exact tell_int 2 (by decide) W
theorem line_add (Aw:Option Addr) (nw cw t v p:Nat) (hp:IsDig p) (ht:toldF.getD t sOk=sOk) (hn:∀ x ∈ ls,x ≠ (true,(p:Int))) (hv:v < ls.length) (h0:ls[v].1=false) (hb:∀ (j:Nat) (hj:j < ls.length),j < v → ls[j].1=true) (hst:∀ es',es'=es → St (t + 1) es' (ls.set v (true,(p:Int))))
    (A:Option Addr) (cc:Nat) (w:World) (hA:Sl w [] 1 A 2 cc (strs (wVertex :: [p].map digB))) (hS:SM w 3 2 1 hsF es ls H hc E m c S d) :
    Calls Tryz.prog 35 #[.agg #[.int .i64 3,.int .i64 2,.int .i64 1,.slice H 2 hc,.slice E m c,.slice S 3 d,.slice Aw nw cw,.int .i64 4,.bool true],.slice A 2 cc] w (RetLine Aw nw cw t w):=
  (line_1 (N:=3) (L:=2) (R:=1) Aw nw cw 4 1 wVertex sOk p hp (QOk (t + 1)) command_vertex (by decide) (by decide) (by decide) (by decide)
    (fun W h=>done_ok Aw nw cw 4 1 p 0 noS sOk (QOk (t + 1)) (fun W h=>do_add p 0 noS (t + 1) v hn hv h0 hb hst W h) tellQ_ok W h) A cc w hA hS).mono fun e w' h=>line_ret ht.symm (fun _ _ _ h=>h.1) h
end
set_option maxHeartbeats 3200000 in
theorem line_at (Aw:Option Addr) (nw cw t:Nat) (ht:t < 9) (A:Option Addr) (na cc:Nat) (w:World) (a b c:Int) (H:Option Addr) (k hc:Nat) (E:Option Addr) (m ce:Nat) (S:Option Addr) (n d:Nat) (ta:Int) (o:Bool)
    (hA:Sl w [] 1 A na cc (strs (linesF.getD t []))) (hS:SessAt Aw nw cw t w a b c H k hc E m ce S n d ta o) :
    Calls Tryz.prog 35 #[.agg #[.int .i64 a,.int .i64 b,.int .i64 c,.slice H k hc,.slice E m ce,.slice S n d,.slice Aw nw cw,.int .i64 ta,.bool o],.slice A na cc] w (RetLine Aw nw cw t w):=by
  have hna:na=(linesF.getD t []).length:=by have:=hA.len;rw [strs_len] at this;omega
  rcases hS with ⟨rfl,rfl,rfl,rfl,⟨rfl,rfl,rfl⟩,⟨rfl,rfl,rfl⟩,⟨rfl,rfl,rfl⟩,rfl,rfl,hW⟩ | ⟨h1,rfl,rfl,rfl,rfl,rfl,rfl,rfl,es,ls,hst,hS⟩
  · obtain rfl:na=4:=hna
    refine (line_new Aw nw cw A cc w hA hW).mono ?_
    rintro e w' ⟨H,hc,h⟩
    exact line_ret rfl (fun _ _ _ h=>h) h
  · have:t=1 ∨ t=2 ∨ t=3 ∨ t=4 ∨ t=5 ∨ t=6 ∨ t=7 ∨ t=8:=by omega
    rcases this with rfl | rfl | rfl | rfl | rfl | rfl | rfl | rfl
    · obtain ⟨rfl,rfl⟩:=hst
      obtain rfl:na=2:=hna
      exact line_add Aw nw cw 1 0 4 (by simp [IsDig]) rfl (by decide) (by decide) (by decide) (fun j _ h=>by omega) (fun es' h=>⟨h,rfl⟩) A cc w hA hS
    · obtain ⟨rfl,rfl⟩:=hst
      obtain rfl:na=2:=hna
      exact line_add Aw nw cw 2 1 6 (by simp [IsDig]) rfl (by decide) (by decide) (by decide) (fun j hj h=>by obtain rfl:j=0:=(by omega);rfl) (fun es' h=>⟨h,rfl⟩) A cc w hA hS
    · obtain ⟨rfl,rfl⟩:=hst
      obtain rfl:na=2:=hna
      exact line_add Aw nw cw 3 2 8 (by simp [IsDig]) rfl (by decide) (by decide) (by decide) (fun j hj h=>by have:j=0 ∨ j=1:=(by omega);rcases this with rfl | rfl <;> rfl) (fun es' h=>⟨h,rfl⟩) A cc w hA hS
    · obtain ⟨rfl,rfl⟩:=hst
      obtain rfl:na=3:=hna
      exact (line_2 (N:=3) (L:=2) (R:=1) Aw nw cw 4 3 wEdge sOk 6 4 (by simp [IsDig]) (by simp [IsDig]) (QOk 5) command_edge (by decide) (by decide) (by decide) (by decide)
        (fun W h=>done_ok Aw nw cw 4 3 6 4 noS sOk (QOk 5) (fun W h=>do_edge noS W h) tellQ_ok W h) A cc w hA hS).mono fun e w' h=>line_ret rfl (fun _ _ _ h=>h.1) h
    · obtain ⟨⟨s,hs1,rfl⟩,rfl⟩:=hst
      obtain rfl:na=3:=hna
      exact (line_2 (N:=3) (L:=2) (R:=1) Aw nw cw 4 8 wConnected sYes 4 6 (by simp [IsDig]) (by simp [IsDig]) (QV 6 4 (.bool true)) command_connected (by decide) (by decide) (by decide) (by decide)
        (fun W h=>done_ok Aw nw cw 4 8 4 6 noS sYes (QV 6 4 (.bool true)) (fun W h=>ask_conn noS 6 1 slotF.2.1 6 s hs1 ⟨⟨s,hs1,rfl⟩,rfl⟩ W h) tellQ_yes W h) A cc w hA hS).mono fun e w' h=>line_ret rfl (fun _ _ _ h=>h.1) h
    · obtain ⟨⟨s,hs1,rfl⟩,rfl⟩:=hst
      obtain rfl:na=3:=hna
      exact (line_2 (N:=3) (L:=2) (R:=1) Aw nw cw 4 8 wConnected sNo 4 8 (by simp [IsDig]) (by simp [IsDig]) (QV 7 4 (.bool false)) command_connected (by decide) (by decide) (by decide) (by decide)
        (fun W h=>done_ok Aw nw cw 4 8 4 8 noS sNo (QV 7 4 (.bool false)) (fun W h=>ask_conn noS 8 2 slotF.2.2 7 s hs1 ⟨⟨s,hs1,rfl⟩,rfl⟩ W h) tellQ_no W h) A cc w hA hS).mono fun e w' h=>line_ret rfl (fun _ _ _ h=>h.1) h
    · obtain ⟨⟨s,hs1,rfl⟩,rfl⟩:=hst
      obtain rfl:na=1:=hna
      exact (line_0 (N:=3) (L:=2) (R:=1) Aw nw cw 4 13 wAudit sYes (QV 8 4 (.bool true)) command_audit (by decide) (by decide) (by decide) (by decide)
        (fun W h=>done_ok Aw nw cw 4 13 0 0 noS sYes (QV 8 4 (.bool true)) (fun W h=>ask_audit noS 8 s hs1 ⟨⟨s,hs1,rfl⟩,rfl⟩ W h) tellQ_yes W h) A cc w hA hS).mono fun e w' h=>line_ret rfl (fun _ _ _ h=>h.1) h
    · obtain ⟨⟨s,hs1,rfl⟩,rfl⟩:=hst
      obtain rfl:na=2:=hna
      exact (line_1 (N:=3) (L:=2) (R:=1) Aw nw cw 4 9 wSize s2 6 (by simp [IsDig]) (QV 9 3 (.int .i64 (2:Nat))) command_size (by decide) (by decide) (by decide) (by decide)
        (fun W h=>done_ok Aw nw cw 4 9 6 0 noS s2 (QV 9 3 (.int .i64 (2:Nat))) (fun W h=>ask_size noS 9 s hs1 ⟨⟨s,hs1,rfl⟩,rfl⟩ W h) tellQ_2 W h) A cc w hA hS).mono fun e w' h=>line_ret rfl (fun _ _ _ h=>h.1) h
theorem SessAt.below {Aw:Option Addr} {nw cw t:Nat} {W W':World} {a b c:Int} {H:Option Addr} {k hc:Nat} {E:Option Addr} {m ce:Nat} {S:Option Addr} {n d:Nat} {ta:Int} {o:Bool} (h:SessAt Aw nw cw t W a b c H k hc E m ce S n d ta o) (hb:Below W.heap.size W W'):SessAt Aw nw cw t W' a b c H k hc E m ce S n d ta o:=by
  rcases h with ⟨h0,h1,h2,h3,h4,h5,h6,h7,h8,h9⟩ | ⟨h1,h2,h3,h4,h5,h6,h7,h8,es,ls,h9,h10⟩
  · exact .inl ⟨h0,h1,h2,h3,h4,h5,h6,h7,h8,h9.below hb⟩
  · exact .inr ⟨h1,h2,h3,h4,h5,h6,h7,h8,es,ls,h9,h10.below hb⟩
end Go.Proofs.YtppblcbgkadldaaGreatDoor
namespace Go.Proofs.YtppblcbgkadldaaGreatDoor
open Go Go.RowKit
set_option maxRecDepth 100000
def textL:List UInt8:=[110,101,119,32,51,32,50,32,49,10,118,101,114,116,101,120,32,52,10,118,101,114,116,101,120,32,54,10,118,101,114,116,101,120,32,56,10,101,100,103,101,32,54].append [32,52,10,99,111,110,110,101,99,116,101,100,32,52,32,54,10,99,111,110,110,101,99,116,101,100,32,52,32,56,10,97,117,100,105,116,10,115,105,122,101,32,54]
def textF:ByteArray:=⟨textL.toArray⟩
theorem textF_size:textF.size=86:=by kernel_rfl
def isL (b:Nat):Bool:=(decide (97 ≤ b) && decide (b ≤ 122)) || (decide (48 ≤ b) && decide (b ≤ 57))
def byteF (p:Nat):Nat:=(textL.getD p 0).toNat
theorem byteF_eq (p:Nat) (h:p < textF.size):(textF[p]'h).toNat=byteF p:=by
  have h':p < textL.length:=h
  unfold byteF
  rw [List.getD_eq_getElem?_getD,List.getElem?_eq_getElem h']
  rfl
@[reducible] def wordF (a b:Nat):ByteArray:=textF.extract a b
def lexAt:Nat → List (List ByteArray) × List ByteArray × Int
  | 0=>([],[],-1)
  | p + 1 =>
    let s:=lexAt p
    if isL (byteF p) then (s.1,s.2.1,if s.2.2 < 0 then (p:Int) else s.2.2)
    else if byteF p=10 then (s.1 ++ [s.2.1 ++ [wordF s.2.2.toNat p]],[],-1)
    else (s.1,s.2.1 ++ [wordF s.2.2.toNat p],-1)
def startAt:Nat → Int
  | 0=>-1
  | p + 1=>if isL (byteF p) then (if startAt p < 0 then (p:Int) else startAt p) else -1
def factsF:Bool:=(List.range 86).all fun p=>decide (byteF p < 128) && (isL (byteF p) || ((decide (byteF p=10) || decide (byteF p=32)) && decide (0 ≤ startAt p)))
theorem factsF_ok:factsF=true:=by kernel_rfl
theorem start_eq (p:Nat):(lexAt p).2.2=startAt p:=by
  induction p with
  | zero=>rfl
  | succ p ih =>
    unfold lexAt startAt
    simp only [ih]
    split
    · rfl
    · split <;> rfl
theorem start_le (p:Nat) : -1 ≤ startAt p ∧ startAt p ≤ p:=by
  induction p with
  | zero=>simp [startAt]
  | succ p ih =>
    unfold startAt
    split
    · split <;> omega
    · omega
theorem lex_letter (p:Nat) (h:isL (byteF p)=true):lexAt (p + 1)=((lexAt p).1,(lexAt p).2.1,if startAt p < 0 then (p:Int) else startAt p):=by
  show (if isL (byteF p) then _ else _)=_
  rw [if_pos h,start_eq]
theorem lex_line (p:Nat) (h:isL (byteF p)=false) (h1:byteF p=10):lexAt (p + 1)=((lexAt p).1 ++ [(lexAt p).2.1 ++ [textF.extract (startAt p).toNat p]],[],-1):=by
  show (if isL (byteF p) then _ else _)=_
  rw [if_neg (by rw [h];decide),if_pos h1,start_eq]
theorem lex_word (p:Nat) (h:isL (byteF p)=false) (h1:byteF p=32):lexAt (p + 1)=((lexAt p).1,(lexAt p).2.1 ++ [textF.extract (startAt p).toNat p],-1):=by
  show (if isL (byteF p) then _ else _)=_
  rw [if_neg (by rw [h];decide),if_neg (by omega),start_eq]
theorem isL_no {b:Nat} (h:isL b=true):((b:Int) == 10)=false ∧ ((b:Int) == 32)=false ∧ ((b:Int) == 9)=false ∧ ((b:Int) == 35)=false:=by
  simp only [isL,Bool.or_eq_true,Bool.and_eq_true,decide_eq_true_eq] at h
  refine ⟨beq_eq_false_iff_ne.2 ?_,beq_eq_false_iff_ne.2 ?_,beq_eq_false_iff_ne.2 ?_,beq_eq_false_iff_ne.2 ?_⟩ <;> omega
theorem facts_at (p:Nat) (h:p < 86):byteF p < 128 ∧ (isL (byteF p)=true ∨ (isL (byteF p)=false ∧ (byteF p=10 ∨ byteF p=32) ∧ 0 ≤ startAt p)):=by
  have h0:=List.all_eq_true.1 factsF_ok p (List.mem_range.2 h)
  simp only [Bool.and_eq_true,Bool.or_eq_true,decide_eq_true_eq] at h0
  refine ⟨h0.1,?_⟩
  rcases h0.2 with h1 | h1
  · exact .inl h1
  · cases hl:isL (byteF p)
    · exact .inr ⟨rfl,h1.1,h1.2⟩
    · exact .inl rfl
theorem lines_len (p:Nat):(lexAt p).1.length ≤ p ∧ (lexAt p).2.1.length ≤ p:=by
  induction p with
  | zero=>simp [lexAt]
  | succ p ih =>
    unfold lexAt
    simp only
    split
    · exact ⟨by simp only;omega,by simp only;omega⟩
    · split
      · exact ⟨by simp only [List.length_append,List.length_cons,List.length_nil];omega,by simp only [List.length_nil];omega⟩
      · exact ⟨by simp only;omega,by simp only [List.length_append,List.length_cons,List.length_nil];omega⟩
theorem start_end:startAt 86=85:=by kernel_rfl
theorem lines_end:(lexAt 86).1 ++ [(lexAt 86).2.1 ++ [wordF 85 86]]=linesF:=by kernel_rfl
end Go.Proofs.YtppblcbgkadldaaGreatDoor
