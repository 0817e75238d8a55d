/-
  A part of the proof that the law TopForest returns true for every input and leaves its arguments as they were: Tell, Done, Begun, Number.
-/
import Derived.Test.YtppblcbgkadldaaGreatDoorZ14
import Derived.Test.YtppblcbgkadldaaGreatDoorZ28
import Derived.Test.YtppblcbgkadldaaGreatDoorZ29
import Derived.Laws.RangeString
import Derived.Lib.OthersKept
import Derived.WalkSmall
set_option linter.all false
namespace Go.Proofs.YtppblcbgkadldaaGreatDoor
open Go Go.RowKit
set_option maxRecDepth 100000
attribute [local go_sem] Heavy heavyUpon
theorem as_e_e (v:Value) (W:World):(Instr.typeAssert (.iface 36 v) 20 36 true).run Tryz.prog W=.ok (.tuple #[v,.bool true]) W:=by kernel_rfl
theorem as_b_e (v:Value) (W:World):(Instr.typeAssert (.iface 4 v) 20 36 true).run Tryz.prog W=.ok (.tuple #[.int .i64 0,.bool false]) W:=by kernel_rfl
theorem as_b_b (v:Value) (W:World):(Instr.typeAssert (.iface 4 v) 20 4 true).run Tryz.prog W=.ok (.tuple #[v,.bool true]) W:=by kernel_rfl
theorem as_i_e (v:Value) (W:World):(Instr.typeAssert (.iface 3 v) 20 36 true).run Tryz.prog W=.ok (.tuple #[.int .i64 0,.bool false]) W:=by kernel_rfl
theorem as_i_b (v:Value) (W:World):(Instr.typeAssert (.iface 3 v) 20 4 true).run Tryz.prog W=.ok (.tuple #[.bool false,.bool false]) W:=by kernel_rfl
theorem as_i_i (v:Value) (W:World):(Instr.typeAssert (.iface 3 v) 20 3 true).run Tryz.prog W=.ok (.tuple #[v,.bool true]) W:=by kernel_rfl
attribute [local go_sem ↓] as_e_e as_b_e as_b_b as_i_e as_i_b as_i_i
def sOk:ByteArray:=⟨#[111,107]⟩
def sYes:ByteArray:=⟨#[121,101,115]⟩
def sNo:ByteArray:=⟨#[110,111]⟩
set_option maxHeartbeats 1600000 in
theorem tell_ok (w:World):Calls Tryz.prog 33 #[.iface 36 (.int .i64 0)] w (Ret (.string sOk) w):=by
  go_enter Tryz.func33,Tryz.ntmps33
  go_wp2_with (fail)
  go_ret
  exact ⟨rfl,Below.refl _ _⟩
set_option maxHeartbeats 1600000 in
theorem tell_yes (w:World):Calls Tryz.prog 33 #[.iface 4 (.bool true)] w (Ret (.string sYes) w):=by
  go_enter Tryz.func33,Tryz.ntmps33
  go_wp2_with (fail)
  go_ret
  exact ⟨rfl,Below.refl _ _⟩
set_option maxHeartbeats 1600000 in
theorem tell_no (w:World):Calls Tryz.prog 33 #[.iface 4 (.bool false)] w (Ret (.string sNo) w):=by
  go_enter Tryz.func33,Tryz.ntmps33
  go_wp2_with (fail)
  go_ret
  exact ⟨rfl,Below.refl _ _⟩
set_option maxHeartbeats 1600000 in
theorem tell_int (i:Nat) (hi:i < 100) (w:World):Calls Tryz.prog 33 #[.iface 3 (.int .i64 i)] w (Ret (.string ⟨(Lib.decDigits i).toArray⟩) w):=by
  have QI:=hide (fun W=>Tryz.strconv_Itoa_small i hi W)
  go_enter Tryz.func33,Tryz.ntmps33
  go_wp2_with (fail)
  refine (QI.out _).mono ?_
  rintro e w1 ⟨rfl,rfl⟩
  go_wp2_with (fail)
  go_ret
  exact ⟨rfl,Below.refl _ _⟩
def wNew:ByteArray:=⟨#[110,101,119]⟩
set_option maxHeartbeats 1600000 in
theorem command_new (w:World):Calls Tryz.prog 65 #[.string wNew] w (Ret (.tuple #[.int .i64 (-1),.int .i64 3]) w):=by
  unfold wNew
  go_enter Tryz.func65,Tryz.ntmps65
  go_wp2_with (fail)
  go_ret2
  exact ⟨rfl,Below.refl _ _⟩
def wVertex:ByteArray:=⟨#[118,101,114,116,101,120]⟩
set_option maxHeartbeats 1600000 in
theorem command_vertex (w:World):Calls Tryz.prog 65 #[.string wVertex] w (Ret (.tuple #[.int .i64 1,.int .i64 1]) w):=by
  unfold wVertex
  go_enter Tryz.func65,Tryz.ntmps65
  go_wp2_with (fail)
  go_ret2
  exact ⟨rfl,Below.refl _ _⟩
def wEdge:ByteArray:=⟨#[101,100,103,101]⟩
set_option maxHeartbeats 1600000 in
theorem command_edge (w:World):Calls Tryz.prog 65 #[.string wEdge] w (Ret (.tuple #[.int .i64 3,.int .i64 2]) w):=by
  unfold wEdge
  go_enter Tryz.func65,Tryz.ntmps65
  go_wp2_with (fail)
  go_ret2
  exact ⟨rfl,Below.refl _ _⟩
def wConnected:ByteArray:=⟨#[99,111,110,110,101,99,116,101,100]⟩
set_option maxHeartbeats 1600000 in
theorem command_connected (w:World):Calls Tryz.prog 65 #[.string wConnected] w (Ret (.tuple #[.int .i64 8,.int .i64 2]) w):=by
  unfold wConnected
  go_enter Tryz.func65,Tryz.ntmps65
  go_wp2_with (fail)
  go_ret2
  exact ⟨rfl,Below.refl _ _⟩
def wSize:ByteArray:=⟨#[115,105,122,101]⟩
set_option maxHeartbeats 1600000 in
theorem command_size (w:World):Calls Tryz.prog 65 #[.string wSize] w (Ret (.tuple #[.int .i64 9,.int .i64 1]) w):=by
  unfold wSize
  go_enter Tryz.func65,Tryz.ntmps65
  go_wp2_with (fail)
  go_ret2
  exact ⟨rfl,Below.refl _ _⟩
def wAudit:ByteArray:=⟨#[97,117,100,105,116]⟩
set_option maxHeartbeats 1600000 in
theorem command_audit (w:World):Calls Tryz.prog 65 #[.string wAudit] w (Ret (.tuple #[.int .i64 13,.int .i64 0]) w):=by
  unfold wAudit
  go_enter Tryz.func65,Tryz.ntmps65
  go_wp2_with (fail)
  go_ret2
  exact ⟨rfl,Below.refl _ _⟩
end Go.Proofs.YtppblcbgkadldaaGreatDoor
namespace Go.Proofs.YtppblcbgkadldaaGreatDoor
open Go Go.RowKit
set_option maxRecDepth 100000
attribute [local go_sem] Heavy heavyUpon
def RepD (N L R:Nat) (hs:List (Int × Int)) (H:Option Addr) (hc K:Nat) (Q:List E3 → List S2 → Value → Prop) (w:World) (e:Ending) (w':World):Prop:=
  ∃ E m c S d es ls rep,e=.returned (.tuple #[.agg #[.int .i64 N,.int .i64 L,.int .i64 R,.slice H K hc,.slice E m c,.slice S N d],rep]) ∧ SM w' N L R hs es ls H hc E m c S d ∧ Q es ls rep ∧ Below w.heap.size w w'
def RepS (N L R:Nat) (hs:List (Int × Int)) (H:Option Addr) (hc K:Nat) (Aw:Option Addr) (nw cw:Nat) (ta:Int) (s:ByteArray) (Q:List E3 → List S2 → Value → Prop) (w:World) (e:Ending) (w':World):Prop:=
  ∃ E m c S d es ls rep,e=.returned (.tuple #[.agg #[.int .i64 N,.int .i64 L,.int .i64 R,.slice H (K) hc,.slice E m c,.slice S N d,.slice Aw nw cw,.int .i64 ta,.bool true],.string s]) ∧ SM w' N L R hs es ls H hc E m c S d ∧ Q es ls rep ∧ Below w.heap.size w w'
section
variable {N L R:Nat} {hs:List (Int × Int)} {es:List E3} {ls:List S2} {H:Option Addr} {hc:Nat} {E:Option Addr} {m c:Nat} {S:Option Addr} {d:Nat}
set_option maxHeartbeats 12800000 in
theorem done_ok (Aw:Option Addr) (nw cw:Nat) (ta q a b:Int) (tx s:ByteArray) (Q:List E3 → List S2 → Value → Prop)
    (hDo:∀ W,SM W N L R hs es ls H hc E m c S d → Calls Tryz.prog 7 #[.agg #[.int .i64 N,.int .i64 L,.int .i64 R,.slice H (L * R) hc,.slice E m c,.slice S N d],.agg #[.int .i64 q,.int .u64 a,.int .u64 b,.string tx]] W (RepD N L R hs H hc (L * R) Q W))
    (hT:∀ es' ls' rep,Q es' ls' rep → ∀ W,Calls Tryz.prog 33 #[rep] W (Ret (.string s) W)) (w:World) (hS:SM w N L R hs es ls H hc E m c S d) :
    Calls Tryz.prog 67 #[.agg #[.int .i64 N,.int .i64 L,.int .i64 R,.slice H (L * R) hc,.slice E m c,.slice S N d,.slice Aw nw cw,.int .i64 ta,.bool true],.agg #[.int .i64 q,.int .u64 a,.int .u64 b,.string tx]] w (RepS N L R hs H hc (L * R) Aw nw cw ta s Q w):=by
  have QD:=hide hDo
  have QT:=hide hT
  have B2:=((Blk.new w 88 #[.int .i64 N,.int .i64 L,.int .i64 R,.slice H (L * R) hc,.slice E m c,.slice S N d,.slice Aw nw cw,.int .i64 ta,.bool true]).alloc (.cells #[.int .i64 q,.int .u64 a,.int .u64 b,.string tx] 45)).alloc (.cells #[.int .i64 0,.int .i64 0,.int .i64 0,.slice none 0 0,.slice none 0 0,.slice none 0 0,.slice none 0 0,.int .i64 0,.bool false] 88)
  have B3:=(Blk.new (w.alloc (.cells #[.int .i64 N,.int .i64 L,.int .i64 R,.slice H (L * R) hc,.slice E m c,.slice S N d,.slice Aw nw cw,.int .i64 ta,.bool true] 88)) 45 #[.int .i64 q,.int .u64 a,.int .u64 b,.string tx]).alloc (.cells #[.int .i64 0,.int .i64 0,.int .i64 0,.slice none 0 0,.slice none 0 0,.slice none 0 0,.slice none 0 0,.int .i64 0,.bool false] 88)
  rw [heap_alloc_size] at B3
  have B4:=Blk.new ((w.alloc (.cells #[.int .i64 N,.int .i64 L,.int .i64 R,.slice H (L * R) hc,.slice E m c,.slice S N d,.slice Aw nw cw,.int .i64 ta,.bool true] 88)).alloc (.cells #[.int .i64 q,.int .u64 a,.int .u64 b,.string tx] 45)) 88 #[.int .i64 0,.int .i64 0,.int .i64 0,.slice none 0 0,.slice none 0 0,.slice none 0 0,.slice none 0 0,.int .i64 0,.bool false]
  rw [heap_alloc_size,heap_alloc_size] at B4
  have hb0:=(((Below.refl w.heap.size w).alloc (Nat.le_refl _) (.cells #[.int .i64 N,.int .i64 L,.int .i64 R,.slice H (L * R) hc,.slice E m c,.slice S N d,.slice Aw nw cw,.int .i64 ta,.bool true] 88)).alloc (by simp) (.cells #[.int .i64 q,.int .u64 a,.int .u64 b,.string tx] 45)).alloc (by simp;omega) (.cells #[.int .i64 0,.int .i64 0,.int .i64 0,.slice none 0 0,.slice none 0 0,.slice none 0 0,.slice none 0 0,.int .i64 0,.bool false] 88)
  have HS0:=hide (((hS.alloc (.cells #[.int .i64 N,.int .i64 L,.int .i64 R,.slice H (L * R) hc,.slice E m c,.slice S N d,.slice Aw nw cw,.int .i64 ta,.bool true] 88)).alloc (.cells #[.int .i64 q,.int .u64 a,.int .u64 b,.string tx] 45)).alloc (.cells #[.int .i64 0,.int .i64 0,.int .i64 0,.slice none 0 0,.slice none 0 0,.slice none 0 0,.slice none 0 0,.int .i64 0,.bool false] 88))
  generalize L * R=K at *
  clear hDo hT hS
  go_enter Tryz.func67,Tryz.ntmps67
  go_wp2_with (fail)
  generalize ((w.alloc (.cells #[.int .i64 N,.int .i64 L,.int .i64 R,.slice H (K) hc,.slice E m c,.slice S N d,.slice Aw nw cw,.int .i64 ta,.bool true] 88)).alloc (.cells #[.int .i64 q,.int .u64 a,.int .u64 b,.string tx] 45)).alloc (.cells #[.int .i64 0,.int .i64 0,.int .i64 0,.slice none 0 0,.slice none 0 0,.slice none 0 0,.slice none 0 0,.int .i64 0,.bool false] 88)=W0 at *
  refine (QD.out _ HS0.out).mono ?_
  rintro e w1 ⟨E2,m2,c2,S2,d2,es2,ls2,rep,rfl,G2,Q2,b1⟩
  have hb1:=hb0.trans (b1.mono hb0.size)
  have B21:=B2.below b1 B2.lt
  have B41:=B4.below b1 B4.lt
  have HQ:=hide Q2
  have HS1:=hide G2
  have hn1:=B21.lt
  have hn4:=B41.lt
  have hne1:¬ (w.heap.size=w1.heap.size):=by omega
  clear hb0 B2 B3 B4 HS0 b1 Q2 G2
  (obtain ⟨x0,x1,x2,x3,x4,x5,x6,x7,x8,e0,s0⟩:=(B21).f9)
  have B22:=(se_set6 B21 (Value.int .i64 N) (Value.int .i64 L) (Value.int .i64 R) (Value.slice H K hc) (Value.slice E2 m2 c2) (Value.slice S2 N d2)).alloc (.cells #[.int .i64 N,.int .i64 L,.int .i64 R,.slice H K hc,.slice E2 m2 c2,.slice S2 N d2] 33)
  have B42:=(far6 (g:=w.heap.size) B41 (by omega) (Value.int .i64 N) (Value.int .i64 L) (Value.int .i64 R) (Value.slice H K hc) (Value.slice E2 m2 c2) (Value.slice S2 N d2)).alloc (.cells #[.int .i64 N,.int .i64 L,.int .i64 R,.slice H K hc,.slice E2 m2 c2,.slice S2 N d2] 33)
  have HS2:=hide ((sm_se6 HS1.out B21 (sec_on N L R H K hc E m c S N d Aw nw cw ta true) (Value.int .i64 N) (Value.int .i64 L) (Value.int .i64 R) (Value.slice H K hc) (Value.slice E2 m2 c2) (Value.slice S2 N d2)).alloc (.cells #[.int .i64 N,.int .i64 L,.int .i64 R,.slice H K hc,.slice E2 m2 c2,.slice S2 N d2] 33))
  have hb2':=below_set6 hb1 (Nat.le_refl _) (Value.int .i64 N) (Value.int .i64 L) (Value.int .i64 R) (Value.slice H K hc) (Value.slice E2 m2 c2) (Value.slice S2 N d2)
  have hb2:=hb2'.alloc hb2'.size (.cells #[.int .i64 N,.int .i64 L,.int .i64 R,.slice H K hc,.slice E2 m2 c2,.slice S2 N d2] 33)
  go_wp2_with (fail)
  clear x0 x1 x2 x3 x4 x5 x6 x7 x8 e0 s0 hne1 HS1 hb1 B21 B41 hb2'
  generalize ((((((w1.setCell ⟨w.heap.size,0,none⟩ (Value.int .i64 N)).setCell ⟨w.heap.size,1,none⟩ (Value.int .i64 L)).setCell ⟨w.heap.size,2,none⟩ (Value.int .i64 R)).setCell ⟨w.heap.size,3,none⟩ (Value.slice H K hc)).setCell ⟨w.heap.size,4,none⟩ (Value.slice E2 m2 c2)).setCell ⟨w.heap.size,5,none⟩ (Value.slice S2 N d2)).alloc (.cells #[.int .i64 N,.int .i64 L,.int .i64 R,.slice H K hc,.slice E2 m2 c2,.slice S2 N d2] 33)=W2 at *
  (have hB2:w.heap.size + 1 + 1 ≤ (W2).heap.size:=Nat.le_of_lt (B42).lt;have hl0:w.heap.size < w.heap.size + 1 + 1:=(by omega);(obtain ⟨x0,x1,x2,x3,x4,x5,x6,x7,x8,e0,s0⟩:=(B22).f9);refine wp_region_lexD [2,3] (fun w'=>Below (w.heap.size + 1 + 1) (W2) w') (by kernel_rfl) (by kernel_rfl) (Below.refl _ _).drew ?_;(repeat ((with_reducible refine wpLex_step (fun K hK=>?_));go_simp;first | ((with_reducible refine hK _ _ ?_);clear hK K) | ((with_reducible apply Exists.intro);refine ⟨fun w' hw'=>?_,hK _ _ ?_⟩;(· (have hq:=bcells hw';apply valEq;(· (go_simp;first | done | (with_reducible rfl)));(· ((try go_bits);with_reducible rfl))));clear hK K)));have g0:=(Below.refl (w.heap.size + 1 + 1) (W2)).drew;((with_reducible refine wpLex_step (fun K hK=>?_));go_simp;refine ((QT.out es2 ls2 rep HQ.out _)).mono ?_;rintro e w6 ⟨rfl,hbx⟩;have g6:=g0.trans (hbx.mono hB2);have HS6:=hide (SM.below (HS2).out.drew hbx);have hb6:=(hb2).drew.trans (hbx.mono (show w.heap.size ≤ (W2).drew.heap.size from (hb2).size));have B46:=(show Blk (W2).drew _ _ _ from B42).below hbx (B42).lt;refine ⟨_,rfl,g6,hK _ _ ?_⟩;clear hK K hbx);(obtain ⟨q0,q1,q2,q3,q4,q5,q6,q7,q8,eb,sb⟩:=(B46).f9);((with_reducible refine wpLex_step (fun K hK=>?_));go_simp;refine ⟨below_set9 g6 (Nat.le_refl _) _ _ _ _ _ _ _ _ _,hK _ _ ?_⟩;clear hK K);clear q0 q1 q2 q3 q4 q5 q6 q7 q8 eb sb x0 x1 x2 x3 x4 x5 x6 x7 x8 e0 s0 g0 g6 hB2;(repeat ((with_reducible refine wpLex_step (fun K hK=>?_));go_simp;first | ((with_reducible refine hK _ _ ?_);clear hK K) | ((with_reducible apply Exists.intro);refine ⟨fun w' hw'=>?_,hK _ _ ?_⟩;(· (have hq:=bcells hw';apply valEq;(· (go_simp;first | done | (with_reducible rfl)));(· ((try go_bits);with_reducible rfl))));clear hK K)));refine wpLex_nil (fun _=>?_);have BW:=se_set9 B46 (Value.int .i64 N) (Value.int .i64 L) (Value.int .i64 R) (Value.slice H K hc) (Value.slice E2 m2 c2) (Value.slice S2 N d2) (Value.slice Aw nw cw) (Value.int .i64 ta) (Value.bool true);have SW:=hide (sm_se9 HS6.out B46 (sec_off N none 0 0 none 0 0 none 0 0 none 0 0 0 false) (Value.int .i64 N) (Value.int .i64 L) (Value.int .i64 R) (Value.slice H K hc) (Value.slice E2 m2 c2) (Value.slice S2 N d2) (Value.slice Aw nw cw) (Value.int .i64 ta) (Value.bool true));have hbw:=below_set9 hb6 (show w.heap.size ≤ w.heap.size + 1 + 1 by omega) (Value.int .i64 N) (Value.int .i64 L) (Value.int .i64 R) (Value.slice H K hc) (Value.slice E2 m2 c2) (Value.slice S2 N d2) (Value.slice Aw nw cw) (Value.int .i64 ta) (Value.bool true);clear HS6 B46 hb6;generalize (((((((((w6.setCell ⟨w.heap.size + 1 + 1,0,none⟩ (Value.int .i64 N)).setCell ⟨w.heap.size + 1 + 1,1,none⟩ (Value.int .i64 L)).setCell ⟨w.heap.size + 1 + 1,2,none⟩ (Value.int .i64 R)).setCell ⟨w.heap.size + 1 + 1,3,none⟩ (Value.slice H K hc)).setCell ⟨w.heap.size + 1 + 1,4,none⟩ (Value.slice E2 m2 c2)).setCell ⟨w.heap.size + 1 + 1,5,none⟩ (Value.slice S2 N d2)).setCell ⟨w.heap.size + 1 + 1,6,none⟩ (Value.slice Aw nw cw)).setCell ⟨w.heap.size + 1 + 1,7,none⟩ (Value.int .i64 ta)).setCell ⟨w.heap.size + 1 + 1,8,none⟩ (Value.bool true))=W9 at *;obtain ⟨q0,q1,q2,q3,q4,q5,q6,q7,q8,eb,sb⟩:=BW.f9;go_wp2_with (fail);refine bodyPost_ret (v:=.tuple #[.agg #[.int .i64 N,.int .i64 L,.int .i64 R,.slice H (K) hc,.slice E2 m2 c2,.slice S2 N d2,.slice Aw nw cw,.int .i64 ta,.bool true],.string s]) (by simp [results,Tryz.results67,go_sem,sb,q0,q1,q2,q3,q4,q5,q6,q7,q8]) rfl ?_)
  exact ⟨E2,m2,c2,S2,d2,es2,ls2,rep,rfl,SW.out,HQ.out,hbw⟩
end
end Go.Proofs.YtppblcbgkadldaaGreatDoor
namespace Go.Proofs.YtppblcbgkadldaaGreatDoor
open Go Go.RowKit
set_option maxRecDepth 100000
attribute [local go_sem] Heavy heavyUpon
theorem draw_fixed:drawH [7,1,9,2] (2 * 1) 0=some ([(7,1),(9,2)],4):=by
  have h:∀ x:Int,(x=7 ∨ x=1 ∨ x=9 ∨ x=2) → isLow x=true ∧ low x=x:=by
    rintro x (rfl | rfl | rfl | rfl) <;> (unfold isLow;rw [low_mod (by decide) (by decide)];exact ⟨rfl,rfl⟩)
  have h7:=h 7 (by simp)
  have h1:=h 1 (by simp)
  have h9:=h 9 (by simp)
  have h2:=h 2 (by simp)
  simp [drawH,scan,h7.1,h7.2,h1.1,h1.2,h9.1,h9.2,h2.1,h2.2]
theorem gr_below {w w':World} (h:Below w.heap.size w w') (row:Option Nat):w.grownBy w' row:=⟨h.os,h.tape,h.output,h.size,fun k hk _=>h.block k hk⟩
theorem gr_set {a w:World} {g:Nat} (h:a.grownBy w (some g)) (i:Nat) (v:Value):a.grownBy (w.setCell ⟨g,i,none⟩ v) (some g):=
  ⟨h.os,h.tape,h.output,by simpa using h.size,fun k hk hr=>(heap_setCell_other w ⟨g,i,none⟩ k v (fun e=>hr (by rw [e]))).trans (h.block k hk hr)⟩
theorem gr_set9 {a w:World} {g:Nat} (h:a.grownBy w (some g)) (x0 x1 x2 x3 x4 x5 x6 x7 x8:Value):a.grownBy (((((((((w.setCell ⟨g,0,none⟩ x0).setCell ⟨g,1,none⟩ x1).setCell ⟨g,2,none⟩ x2).setCell ⟨g,3,none⟩ x3).setCell ⟨g,4,none⟩ x4).setCell ⟨g,5,none⟩ x5).setCell ⟨g,6,none⟩ x6).setCell ⟨g,7,none⟩ x7).setCell ⟨g,8,none⟩ x8) (some g):=
  gr_set (gr_set (gr_set (gr_set (gr_set (gr_set (gr_set (gr_set (gr_set h 0 x0) 1 x1) 2 x2) 3 x3) 4 x4) 5 x5) 6 x6) 7 x7) 8 x8
def hsF:List (Int × Int):=[(7,1),(9,2)]
set_option maxHeartbeats 12800000 in
theorem begun_ok (Aw:Option Addr) (nw cw:Nat) (Ra:Option Addr) (rd:Nat) (w:World) (hW:Sl w [] 1 Aw nw cw (ints .u64 [7,1,9,2])) (hA:Sl w [] 1 Ra 3 rd (ints .u64 [3,2,1])) :
    Calls Tryz.prog 69 #[.agg #[.int .i64 0,.int .i64 0,.int .i64 0,.slice none 0 0,.slice none 0 0,.slice none 0 0,.slice Aw nw cw,.int .i64 0,.bool false],.int .i64 (-1),.slice Ra 3 rd] w (fun e w'=>∃ H hc,RepS 3 2 1 hsF H hc 2 Aw nw cw 4 sOk (fun es ls _=>es=[] ∧ ls=List.replicate 3 (false,0)) w e w'):=by
  have QN:Hid (∀ W,Sl W [] 1 Aw nw cw (ints .u64 [7,1,9,2]) → Calls Tryz.prog 5 #[.agg #[.int .i64 3,.int .i64 2,.int .i64 1],.agg #[.slice Aw nw cw,.int .i64 0]] W (RetNew 3 2 1 hsF Aw nw cw 4 2 W)):=hide (fun W h=>new_ok 3 2 1 [7,1,9,2] hsF 4 Aw nw cw W (by decide) (by decide) (by decide) h (by decide) draw_fixed)
  have B3:=(Blk.new w 88 #[.int .i64 0,.int .i64 0,.int .i64 0,.slice none 0 0,.slice none 0 0,.slice none 0 0,.slice Aw nw cw,.int .i64 0,.bool false]).alloc (.cells #[.int .i64 0,.int .i64 0,.int .i64 0,.slice none 0 0,.slice none 0 0,.slice none 0 0,.slice none 0 0,.int .i64 0,.bool false] 88)
  have B6:=Blk.new (w.alloc (.cells #[.int .i64 0,.int .i64 0,.int .i64 0,.slice none 0 0,.slice none 0 0,.slice none 0 0,.slice Aw nw cw,.int .i64 0,.bool false] 88)) 88 #[.int .i64 0,.int .i64 0,.int .i64 0,.slice none 0 0,.slice none 0 0,.slice none 0 0,.slice none 0 0,.int .i64 0,.bool false]
  rw [heap_alloc_size] at B6
  have hb0:=((Below.refl w.heap.size w).alloc (Nat.le_refl _) (.cells #[.int .i64 0,.int .i64 0,.int .i64 0,.slice none 0 0,.slice none 0 0,.slice none 0 0,.slice Aw nw cw,.int .i64 0,.bool false] 88)).alloc (by simp) (.cells #[.int .i64 0,.int .i64 0,.int .i64 0,.slice none 0 0,.slice none 0 0,.slice none 0 0,.slice none 0 0,.int .i64 0,.bool false] 88)
  have HW:=hide (show Sl _ [] 1 Aw nw cw (ints .u64 [7,1,9,2]) from Sl.alloc (Sl.alloc hW (.cells #[.int .i64 0,.int .i64 0,.int .i64 0,.slice none 0 0,.slice none 0 0,.slice none 0 0,.slice Aw nw cw,.int .i64 0,.bool false] 88)) (.cells #[.int .i64 0,.int .i64 0,.int .i64 0,.slice none 0 0,.slice none 0 0,.slice none 0 0,.slice none 0 0,.int .i64 0,.bool false] 88))
  have HA:=hide (show Sl _ [] 1 Ra 3 rd (ints .u64 [3,2,1]) from Sl.alloc (Sl.alloc hA (.cells #[.int .i64 0,.int .i64 0,.int .i64 0,.slice none 0 0,.slice none 0 0,.slice none 0 0,.slice Aw nw cw,.int .i64 0,.bool false] 88)) (.cells #[.int .i64 0,.int .i64 0,.int .i64 0,.slice none 0 0,.slice none 0 0,.slice none 0 0,.slice none 0 0,.int .i64 0,.bool false] 88))
  clear hW hA
  go_enter Tryz.func69,Tryz.ntmps69
  go_wp2_with (fail)
  generalize (w.alloc (.cells #[.int .i64 0,.int .i64 0,.int .i64 0,.slice none 0 0,.slice none 0 0,.slice none 0 0,.slice Aw nw cw,.int .i64 0,.bool false] 88)).alloc (.cells #[.int .i64 0,.int .i64 0,.int .i64 0,.slice none 0 0,.slice none 0 0,.slice none 0 0,.slice none 0 0,.int .i64 0,.bool false] 88)=W0 at *
  have HB3:=hide B3
  have HB6:=hide B6
  clear B3 B6
  go_loopw [20] (fun i wr=>∃ t:Nat,t ≤ 3 ∧ i=.int .i64 t ∧ wr=W0) (fun i _=>3 - (intOf i).toNat)
  case atStart=>exact ⟨0,by omega,rfl,rfl⟩
  case round =>
    obtain ⟨t,ht,rfl,hw⟩:=hrel
    obtain ⟨ad,rfl,had,_,hc0⟩:=(show Sl wr [] 1 Ra 3 rd (ints .u64 [3,2,1]) by rw [hw];exact HA.out).at_ (by omega)
    have c0:wr.cell? ad=some (.int .u64 3):=by have:=hc0 0 _ rfl;rwa [add_zero_] at this
    have c1:wr.cell? ⟨ad.block,ad.off + 1,none⟩=some (.int .u64 2):=by have:=cell_off (i:=0) (j:=1) (hc0 1 _ rfl) (by decide);rwa [add_zero_] at this
    have c2:wr.cell? ⟨ad.block,ad.off + 2,none⟩=some (.int .u64 1):=by have:=cell_off (i:=0) (j:=2) (hc0 2 _ rfl) (by decide);rwa [add_zero_] at this
    clear hc0
    have HWR:=hide hw
    clear hw
    have:t=0 ∨ t=1 ∨ t=2 ∨ t=3:=by omega
    rcases this with rfl | rfl | rfl | rfl
    · go_wp2_with (fail)
      exact ⟨⟨1,by omega,rfl,HWR.out⟩,by simp [intOf]⟩
    · go_wp2_with (fail)
      exact ⟨⟨2,by omega,rfl,HWR.out⟩,by simp [intOf]⟩
    · go_wp2_with (fail)
      exact ⟨⟨3,by omega,rfl,HWR.out⟩,by simp [intOf]⟩
    · go_wp2_with (fail)
      refine wp_region_lexD [] (fun w'=>Below (wr).heap.size (wr) w') (by kernel_rfl) (by kernel_rfl) (Below.refl _ _).drew ?_
      (repeat ((with_reducible refine wpLex_step (fun K hK=>?_));go_simp;first | ((with_reducible refine hK _ _ ?_);clear hK K) | ((with_reducible apply Exists.intro);refine ⟨fun w' hw'=>?_,hK _ _ ?_⟩;(· (have hq:=bcells hw';apply valEq;(· (go_simp;first | done | (with_reducible rfl)));(· ((try go_bits);with_reducible rfl))));clear hK K)))
      refine wpLex_nil (fun g3=>?_)
      have hw:=HWR.out
      subst hw
      clear HWR c0 c1 c2 g3 had HA
      obtain ⟨r0,e0,s0⟩:=HB3.out.facts
      have x6:wr.cell? ⟨w.heap.size,6,none⟩=some (.slice Aw nw cw):=r0 6
      have x7:wr.cell? ⟨w.heap.size,7,none⟩=some (.int .i64 0):=r0 7
      clear r0
      have hne:¬ (w.heap.size=wr.heap.size):=by omega
      have HW2:=hide (show Sl (wr.alloc (.cells #[.int .i64 3,.int .i64 2,.int .i64 1] 23)).drew [] 1 Aw nw cw (ints .u64 [7,1,9,2]) from (Sl.alloc HW.out (.cells #[.int .i64 3,.int .i64 2,.int .i64 1] 23)).drew)
      have hb1:=(hb0.alloc hb0.size (.cells #[.int .i64 3,.int .i64 2,.int .i64 1] 23)).drew
      have B61:=(HB6.out.alloc (.cells #[.int .i64 3,.int .i64 2,.int .i64 1] 23)).drew
      have hlt6:=HB6.out.lt
      go_wp2_with (fail)
      clear x6 x7 e0 s0 hne HB3 HW hb0 HB6
      refine (QN.out _ HW2.out).mono ?_
      rintro e w1 ⟨H,hc,S,d,rfl,hsm,b1⟩
      have HS1:=hide (hsm (by decide) (by decide) (by decide))
      have hb2:=hb1.trans (b1.mono hb1.size)
      have B62:=B61.below b1 B61.lt
      have hlt62:=B62.lt
      clear hsm b1 hb1 B61 HW2 QN
      have B63:=(B62.alloc (.cells #[.int .i64 3,.int .i64 2,.int .i64 1,.slice H 2 hc,.slice none 0 0,.slice S 3 d] 33)).alloc (.cells #[.slice Aw nw cw,.int .i64 4] 35)
      have HS2:=hide ((HS1.out.alloc (.cells #[.int .i64 3,.int .i64 2,.int .i64 1,.slice H 2 hc,.slice none 0 0,.slice S 3 d] 33)).alloc (.cells #[.slice Aw nw cw,.int .i64 4] 35))
      have hb3:=(hb2.alloc hb2.size (.cells #[.int .i64 3,.int .i64 2,.int .i64 1,.slice H 2 hc,.slice none 0 0,.slice S 3 d] 33)).alloc (Nat.le_trans hb2.size (by simp)) (.cells #[.slice Aw nw cw,.int .i64 4] 35)
      have B15:=(Blk.new w1 33 #[.int .i64 3,.int .i64 2,.int .i64 1,.slice H 2 hc,.slice none 0 0,.slice S 3 d]).alloc (.cells #[.slice Aw nw cw,.int .i64 4] 35)
      have B16:=Blk.new (w1.alloc (.cells #[.int .i64 3,.int .i64 2,.int .i64 1,.slice H 2 hc,.slice none 0 0,.slice S 3 d] 33)) 35 #[.slice Aw nw cw,.int .i64 4]
      rw [heap_alloc_size] at B16
      go_wp2_with (fail)
      generalize (w1.alloc (.cells #[.int .i64 3,.int .i64 2,.int .i64 1,.slice H 2 hc,.slice none 0 0,.slice S 3 d] 33)).alloc (.cells #[.slice Aw nw cw,.int .i64 4] 35)=W2 at *
      obtain ⟨r1,e1,s1⟩:=B15.facts
      have y0:W2.cell? ⟨w1.heap.size,0,none⟩=some (.int .i64 3):=r1 0
      have y1:W2.cell? ⟨w1.heap.size,1,none⟩=some (.int .i64 2):=r1 1
      have y2:W2.cell? ⟨w1.heap.size,2,none⟩=some (.int .i64 1):=r1 2
      have y3:W2.cell? ⟨w1.heap.size,3,none⟩=some (.slice H 2 hc):=r1 3
      have y4:W2.cell? ⟨w1.heap.size,4,none⟩=some (.slice none 0 0):=r1 4
      have y5:W2.cell? ⟨w1.heap.size,5,none⟩=some (.slice S 3 d):=r1 5
      obtain ⟨r2,e2,s2⟩:=B16.facts
      have z0:W2.cell? ⟨w1.heap.size + 1,0,none⟩=some (.slice Aw nw cw):=r2 0
      have z1:W2.cell? ⟨w1.heap.size + 1,1,none⟩=some (.int .i64 4):=r2 1
      clear r1 r2
      have m1:¬ (w1.heap.size=w.heap.size + 1):=by omega
      have m2:¬ (w1.heap.size + 1=w.heap.size + 1):=by omega
      have m3:¬ (w1.heap.size=w.heap.size):=by omega
      refine wp_region_lexD [4,5] (fun w'=>World.grownBy (W2) w' (some (w.heap.size + 1))) (by kernel_rfl) (by kernel_rfl) (grown_drew _ _) ?_
      (repeat ((with_reducible refine wpLex_step (fun K hK=>?_));go_simp;first | ((with_reducible refine hK _ _ ?_);clear hK K) | ((with_reducible apply Exists.intro);refine ⟨fun w' hw'=>?_,hK _ _ ?_⟩;(· (have hq:=gcells hw';apply valEq;(· (go_simp;first | done | (with_reducible rfl)));(· ((try go_bits);with_reducible rfl))));clear hK K)))
      have g0:=grown_drew W2 (some (w.heap.size + 1))
      ((with_reducible refine wpLex_step (fun K hK=>?_));go_simp;refine (tell_ok _).mono ?_;rintro e w6 ⟨rfl,hbx⟩;have g6:=g0.trans (gr_below hbx (some (w.heap.size + 1)));have HS6:=hide (SM.below HS2.out.drew hbx);have hb6:=hb3.drew.trans (hbx.mono (show w.heap.size ≤ W2.drew.heap.size from hb3.size));have B46:=(show Blk W2.drew _ _ _ from B63).below hbx B63.lt;refine ⟨_,rfl,g6,hK _ _ ?_⟩;clear hK K hbx)
      clear y0 y1 y2 y3 y4 y5 z0 z1 e1 e2 s1 s2
      (obtain ⟨q0,q1,q2,q3,q4,q5,q6,q7,q8,eb,sb⟩:=(B46).f9)
      ((with_reducible refine wpLex_step (fun K hK=>?_));go_simp;refine ⟨gr_set9 g6 _ _ _ _ _ _ _ _ _,hK _ _ ?_⟩;clear hK K)
      clear q0 q1 q2 q3 q4 q5 q6 q7 q8 eb sb g0 g6 m1 m2 m3 B15 B16 B62 B63 HS2 HS1
      (repeat ((with_reducible refine wpLex_step (fun K hK=>?_));go_simp;first | ((with_reducible refine hK _ _ ?_);clear hK K) | ((with_reducible apply Exists.intro);refine ⟨fun w' hw'=>?_,hK _ _ ?_⟩;(· (have hq:=gcells hw';apply valEq;(· (go_simp;first | done | (with_reducible rfl)));(· ((try go_bits);with_reducible rfl))));clear hK K)))
      refine wpLex_nil (fun _=>?_)
      have BW:=se_set9 B46 (Value.int .i64 3) (Value.int .i64 2) (Value.int .i64 1) (Value.slice H 2 hc) (Value.slice none 0 0) (Value.slice S 3 d) (Value.slice Aw nw cw) (Value.int .i64 4) (Value.bool true)
      have SW:=hide (sm_se9 HS6.out B46 (sec_off 3 none 0 0 none 0 0 none 0 0 none 0 0 0 false) (Value.int .i64 3) (Value.int .i64 2) (Value.int .i64 1) (Value.slice H 2 hc) (Value.slice none 0 0) (Value.slice S 3 d) (Value.slice Aw nw cw) (Value.int .i64 4) (Value.bool true))
      have hbw:=below_set9 hb6 (show w.heap.size ≤ w.heap.size + 1 by omega) (Value.int .i64 3) (Value.int .i64 2) (Value.int .i64 1) (Value.slice H 2 hc) (Value.slice none 0 0) (Value.slice S 3 d) (Value.slice Aw nw cw) (Value.int .i64 4) (Value.bool true)
      clear HS6 B46 hb6
      generalize (((((((((w6.setCell ⟨w.heap.size + 1,0,none⟩ (Value.int .i64 3)).setCell ⟨w.heap.size + 1,1,none⟩ (Value.int .i64 2)).setCell ⟨w.heap.size + 1,2,none⟩ (Value.int .i64 1)).setCell ⟨w.heap.size + 1,3,none⟩ (Value.slice H 2 hc)).setCell ⟨w.heap.size + 1,4,none⟩ (Value.slice none 0 0)).setCell ⟨w.heap.size + 1,5,none⟩ (Value.slice S 3 d)).setCell ⟨w.heap.size + 1,6,none⟩ (Value.slice Aw nw cw)).setCell ⟨w.heap.size + 1,7,none⟩ (Value.int .i64 4)).setCell ⟨w.heap.size + 1,8,none⟩ (Value.bool true))=W9 at *
      obtain ⟨rb,eb,sb⟩:=BW.facts
      have q0:W9.cell? ⟨w.heap.size + 1,0,none⟩=some (.int .i64 3):=rb 0
      have q1:W9.cell? ⟨w.heap.size + 1,1,none⟩=some (.int .i64 2):=rb 1
      have q2:W9.cell? ⟨w.heap.size + 1,2,none⟩=some (.int .i64 1):=rb 2
      have q3:W9.cell? ⟨w.heap.size + 1,3,none⟩=some (.slice H 2 hc):=rb 3
      have q4:W9.cell? ⟨w.heap.size + 1,4,none⟩=some (.slice none 0 0):=rb 4
      have q5:W9.cell? ⟨w.heap.size + 1,5,none⟩=some (.slice S 3 d):=rb 5
      have q6:W9.cell? ⟨w.heap.size + 1,6,none⟩=some (.slice Aw nw cw):=rb 6
      have q7:W9.cell? ⟨w.heap.size + 1,7,none⟩=some (.int .i64 4):=rb 7
      have q8:W9.cell? ⟨w.heap.size + 1,8,none⟩=some (.bool true):=rb 8
      clear rb
      go_wp2_with (fail)
      refine bodyPost_ret (v:=.tuple #[.agg #[.int .i64 3,.int .i64 2,.int .i64 1,.slice H 2 hc,.slice none 0 0,.slice S 3 d,.slice Aw nw cw,.int .i64 4,.bool true],.string sOk]) (by simp [results,Tryz.results69,go_sem,sb,q0,q1,q2,q3,q4,q5,q6,q7,q8]) rfl ?_
      exact ⟨H,hc,none,0,0,S,d,[],_,.bool true,rfl,SW.out,⟨rfl,rfl⟩,hbw⟩
end Go.Proofs.YtppblcbgkadldaaGreatDoor
namespace Go.Proofs.YtppblcbgkadldaaGreatDoor
open Go Go.RowKit
set_option maxRecDepth 100000
attribute [local go_sem] Heavy heavyUpon
def digB (d:Nat):ByteArray:=⟨#[UInt8.ofNat (48 + d)]⟩
theorem iterPos_iter (w:World) (s:ByteArray) (p:Nat):(w.iter s p).iterPos w.heap.size=p:=iterPos_of (World.iter_heap w s p)
set_option maxHeartbeats 3200000 in
theorem number_1 (w:World):Calls Tryz.prog 102 #[.string ⟨#[49]⟩] w (Ret (.tuple #[.int .u64 1,.int .i64 0]) w):=by
  have hsz:(ByteArray.mk #[49]).size=1:=rfl
  have hby:((ByteArray.mk #[49])[0]'(by decide)).toNat=49:=rfl
  have hb1:Below w.heap.size w (w.iter ⟨#[49]⟩ 1):=(Below.refl w.heap.size w).alloc (Nat.le_refl _) (.stringIter ⟨#[49]⟩ 1)
  go_enter Tryz.func102,Tryz.ntmps102
  go_wp2_with (fail)
  go_loopw [] (fun wr=>∃ p:Nat,p ≤ 1 ∧ wr=w.iter ⟨#[49]⟩ p) (fun wr=>1 - wr.iterPos w.heap.size)
  case atStart=>exact ⟨0,by omega,rfl⟩
  case round =>
    obtain ⟨p,hp,rfl⟩:=hrel
    have:p=0 ∨ p=1:=by omega
    rcases this with rfl | rfl
    · have hnx:=fun ty=>run_next_ascii (P:=Tryz.prog) w ⟨#[49]⟩ 0 ty (by decide) (by decide)
      go_wp2_with (fail)
      exact ⟨⟨1,by omega,rfl⟩,by rw [iterPos_iter,iterPos_iter];decide⟩
    · have hnx:=fun ty=>run_next_end (P:=Tryz.prog) w ⟨#[49]⟩ 1 ty (by decide)
      go_wp2_with (fail)
      clear hnx hp
      generalize w.iter ⟨#[49]⟩ 1=W1 at *
      have hb2:Below w.heap.size w (W1.iter ⟨#[49]⟩ 1):=hb1.alloc hb1.size (.stringIter ⟨#[49]⟩ 1)
      go_loopw [6] (fun u wr=>(u=.int .u64 0 ∧ wr=W1.iter ⟨#[49]⟩ 0) ∨ (u=.int .u64 1 ∧ wr=W1.iter ⟨#[49]⟩ 1)) (fun _ wr=>1 - wr.iterPos W1.heap.size)
      case atStart=>exact .inl ⟨rfl,rfl⟩
      case round =>
        rcases hrel with ⟨rfl,rfl⟩ | ⟨rfl,rfl⟩
        · have hnx:=fun ty=>run_next_ascii (P:=Tryz.prog) W1 ⟨#[49]⟩ 0 ty (by decide) (by decide)
          go_wp2_with (fail)
          exact ⟨.inr ⟨by first | trivial | rfl,by first | trivial | rfl⟩,by rw [iterPos_iter,iterPos_iter];decide⟩
        · have hnx:=fun ty=>run_next_end (P:=Tryz.prog) W1 ⟨#[49]⟩ 1 ty (by decide)
          go_wp2_with (fail)
          go_ret2
          exact ⟨rfl,hb2⟩
set_option maxHeartbeats 3200000 in
theorem number_2 (w:World):Calls Tryz.prog 102 #[.string ⟨#[50]⟩] w (Ret (.tuple #[.int .u64 2,.int .i64 0]) w):=by
  have hsz:(ByteArray.mk #[50]).size=1:=rfl
  have hby:((ByteArray.mk #[50])[0]'(by decide)).toNat=50:=rfl
  have hb1:Below w.heap.size w (w.iter ⟨#[50]⟩ 1):=(Below.refl w.heap.size w).alloc (Nat.le_refl _) (.stringIter ⟨#[50]⟩ 1)
  go_enter Tryz.func102,Tryz.ntmps102
  go_wp2_with (fail)
  go_loopw [] (fun wr=>∃ p:Nat,p ≤ 1 ∧ wr=w.iter ⟨#[50]⟩ p) (fun wr=>1 - wr.iterPos w.heap.size)
  case atStart=>exact ⟨0,by omega,rfl⟩
  case round =>
    obtain ⟨p,hp,rfl⟩:=hrel
    have:p=0 ∨ p=1:=by omega
    rcases this with rfl | rfl
    · have hnx:=fun ty=>run_next_ascii (P:=Tryz.prog) w ⟨#[50]⟩ 0 ty (by decide) (by decide)
      go_wp2_with (fail)
      exact ⟨⟨1,by omega,rfl⟩,by rw [iterPos_iter,iterPos_iter];decide⟩
    · have hnx:=fun ty=>run_next_end (P:=Tryz.prog) w ⟨#[50]⟩ 1 ty (by decide)
      go_wp2_with (fail)
      clear hnx hp
      generalize w.iter ⟨#[50]⟩ 1=W1 at *
      have hb2:Below w.heap.size w (W1.iter ⟨#[50]⟩ 1):=hb1.alloc hb1.size (.stringIter ⟨#[50]⟩ 1)
      go_loopw [6] (fun u wr=>(u=.int .u64 0 ∧ wr=W1.iter ⟨#[50]⟩ 0) ∨ (u=.int .u64 2 ∧ wr=W1.iter ⟨#[50]⟩ 1)) (fun _ wr=>1 - wr.iterPos W1.heap.size)
      case atStart=>exact .inl ⟨rfl,rfl⟩
      case round =>
        rcases hrel with ⟨rfl,rfl⟩ | ⟨rfl,rfl⟩
        · have hnx:=fun ty=>run_next_ascii (P:=Tryz.prog) W1 ⟨#[50]⟩ 0 ty (by decide) (by decide)
          go_wp2_with (fail)
          exact ⟨.inr ⟨by first | trivial | rfl,by first | trivial | rfl⟩,by rw [iterPos_iter,iterPos_iter];decide⟩
        · have hnx:=fun ty=>run_next_end (P:=Tryz.prog) W1 ⟨#[50]⟩ 1 ty (by decide)
          go_wp2_with (fail)
          go_ret2
          exact ⟨rfl,hb2⟩
set_option maxHeartbeats 3200000 in
theorem number_3 (w:World):Calls Tryz.prog 102 #[.string ⟨#[51]⟩] w (Ret (.tuple #[.int .u64 3,.int .i64 0]) w):=by
  have hsz:(ByteArray.mk #[51]).size=1:=rfl
  have hby:((ByteArray.mk #[51])[0]'(by decide)).toNat=51:=rfl
  have hb1:Below w.heap.size w (w.iter ⟨#[51]⟩ 1):=(Below.refl w.heap.size w).alloc (Nat.le_refl _) (.stringIter ⟨#[51]⟩ 1)
  go_enter Tryz.func102,Tryz.ntmps102
  go_wp2_with (fail)
  go_loopw [] (fun wr=>∃ p:Nat,p ≤ 1 ∧ wr=w.iter ⟨#[51]⟩ p) (fun wr=>1 - wr.iterPos w.heap.size)
  case atStart=>exact ⟨0,by omega,rfl⟩
  case round =>
    obtain ⟨p,hp,rfl⟩:=hrel
    have:p=0 ∨ p=1:=by omega
    rcases this with rfl | rfl
    · have hnx:=fun ty=>run_next_ascii (P:=Tryz.prog) w ⟨#[51]⟩ 0 ty (by decide) (by decide)
      go_wp2_with (fail)
      exact ⟨⟨1,by omega,rfl⟩,by rw [iterPos_iter,iterPos_iter];decide⟩
    · have hnx:=fun ty=>run_next_end (P:=Tryz.prog) w ⟨#[51]⟩ 1 ty (by decide)
      go_wp2_with (fail)
      clear hnx hp
      generalize w.iter ⟨#[51]⟩ 1=W1 at *
      have hb2:Below w.heap.size w (W1.iter ⟨#[51]⟩ 1):=hb1.alloc hb1.size (.stringIter ⟨#[51]⟩ 1)
      go_loopw [6] (fun u wr=>(u=.int .u64 0 ∧ wr=W1.iter ⟨#[51]⟩ 0) ∨ (u=.int .u64 3 ∧ wr=W1.iter ⟨#[51]⟩ 1)) (fun _ wr=>1 - wr.iterPos W1.heap.size)
      case atStart=>exact .inl ⟨rfl,rfl⟩
      case round =>
        rcases hrel with ⟨rfl,rfl⟩ | ⟨rfl,rfl⟩
        · have hnx:=fun ty=>run_next_ascii (P:=Tryz.prog) W1 ⟨#[51]⟩ 0 ty (by decide) (by decide)
          go_wp2_with (fail)
          exact ⟨.inr ⟨by first | trivial | rfl,by first | trivial | rfl⟩,by rw [iterPos_iter,iterPos_iter];decide⟩
        · have hnx:=fun ty=>run_next_end (P:=Tryz.prog) W1 ⟨#[51]⟩ 1 ty (by decide)
          go_wp2_with (fail)
          go_ret2
          exact ⟨rfl,hb2⟩
set_option maxHeartbeats 3200000 in
theorem number_4 (w:World):Calls Tryz.prog 102 #[.string ⟨#[52]⟩] w (Ret (.tuple #[.int .u64 4,.int .i64 0]) w):=by
  have hsz:(ByteArray.mk #[52]).size=1:=rfl
  have hby:((ByteArray.mk #[52])[0]'(by decide)).toNat=52:=rfl
  have hb1:Below w.heap.size w (w.iter ⟨#[52]⟩ 1):=(Below.refl w.heap.size w).alloc (Nat.le_refl _) (.stringIter ⟨#[52]⟩ 1)
  go_enter Tryz.func102,Tryz.ntmps102
  go_wp2_with (fail)
  go_loopw [] (fun wr=>∃ p:Nat,p ≤ 1 ∧ wr=w.iter ⟨#[52]⟩ p) (fun wr=>1 - wr.iterPos w.heap.size)
  case atStart=>exact ⟨0,by omega,rfl⟩
  case round =>
    obtain ⟨p,hp,rfl⟩:=hrel
    have:p=0 ∨ p=1:=by omega
    rcases this with rfl | rfl
    · have hnx:=fun ty=>run_next_ascii (P:=Tryz.prog) w ⟨#[52]⟩ 0 ty (by decide) (by decide)
      go_wp2_with (fail)
      exact ⟨⟨1,by omega,rfl⟩,by rw [iterPos_iter,iterPos_iter];decide⟩
    · have hnx:=fun ty=>run_next_end (P:=Tryz.prog) w ⟨#[52]⟩ 1 ty (by decide)
      go_wp2_with (fail)
      clear hnx hp
      generalize w.iter ⟨#[52]⟩ 1=W1 at *
      have hb2:Below w.heap.size w (W1.iter ⟨#[52]⟩ 1):=hb1.alloc hb1.size (.stringIter ⟨#[52]⟩ 1)
      go_loopw [6] (fun u wr=>(u=.int .u64 0 ∧ wr=W1.iter ⟨#[52]⟩ 0) ∨ (u=.int .u64 4 ∧ wr=W1.iter ⟨#[52]⟩ 1)) (fun _ wr=>1 - wr.iterPos W1.heap.size)
      case atStart=>exact .inl ⟨rfl,rfl⟩
      case round =>
        rcases hrel with ⟨rfl,rfl⟩ | ⟨rfl,rfl⟩
        · have hnx:=fun ty=>run_next_ascii (P:=Tryz.prog) W1 ⟨#[52]⟩ 0 ty (by decide) (by decide)
          go_wp2_with (fail)
          exact ⟨.inr ⟨by first | trivial | rfl,by first | trivial | rfl⟩,by rw [iterPos_iter,iterPos_iter];decide⟩
        · have hnx:=fun ty=>run_next_end (P:=Tryz.prog) W1 ⟨#[52]⟩ 1 ty (by decide)
          go_wp2_with (fail)
          go_ret2
          exact ⟨rfl,hb2⟩
set_option maxHeartbeats 3200000 in
theorem number_6 (w:World):Calls Tryz.prog 102 #[.string ⟨#[54]⟩] w (Ret (.tuple #[.int .u64 6,.int .i64 0]) w):=by
  have hsz:(ByteArray.mk #[54]).size=1:=rfl
  have hby:((ByteArray.mk #[54])[0]'(by decide)).toNat=54:=rfl
  have hb1:Below w.heap.size w (w.iter ⟨#[54]⟩ 1):=(Below.refl w.heap.size w).alloc (Nat.le_refl _) (.stringIter ⟨#[54]⟩ 1)
  go_enter Tryz.func102,Tryz.ntmps102
  go_wp2_with (fail)
  go_loopw [] (fun wr=>∃ p:Nat,p ≤ 1 ∧ wr=w.iter ⟨#[54]⟩ p) (fun wr=>1 - wr.iterPos w.heap.size)
  case atStart=>exact ⟨0,by omega,rfl⟩
  case round =>
    obtain ⟨p,hp,rfl⟩:=hrel
    have:p=0 ∨ p=1:=by omega
    rcases this with rfl | rfl
    · have hnx:=fun ty=>run_next_ascii (P:=Tryz.prog) w ⟨#[54]⟩ 0 ty (by decide) (by decide)
      go_wp2_with (fail)
      exact ⟨⟨1,by omega,rfl⟩,by rw [iterPos_iter,iterPos_iter];decide⟩
    · have hnx:=fun ty=>run_next_end (P:=Tryz.prog) w ⟨#[54]⟩ 1 ty (by decide)
      go_wp2_with (fail)
      clear hnx hp
      generalize w.iter ⟨#[54]⟩ 1=W1 at *
      have hb2:Below w.heap.size w (W1.iter ⟨#[54]⟩ 1):=hb1.alloc hb1.size (.stringIter ⟨#[54]⟩ 1)
      go_loopw [6] (fun u wr=>(u=.int .u64 0 ∧ wr=W1.iter ⟨#[54]⟩ 0) ∨ (u=.int .u64 6 ∧ wr=W1.iter ⟨#[54]⟩ 1)) (fun _ wr=>1 - wr.iterPos W1.heap.size)
      case atStart=>exact .inl ⟨rfl,rfl⟩
      case round =>
        rcases hrel with ⟨rfl,rfl⟩ | ⟨rfl,rfl⟩
        · have hnx:=fun ty=>run_next_ascii (P:=Tryz.prog) W1 ⟨#[54]⟩ 0 ty (by decide) (by decide)
          go_wp2_with (fail)
          exact ⟨.inr ⟨by first | trivial | rfl,by first | trivial | rfl⟩,by rw [iterPos_iter,iterPos_iter];decide⟩
        · have hnx:=fun ty=>run_next_end (P:=Tryz.prog) W1 ⟨#[54]⟩ 1 ty (by decide)
          go_wp2_with (fail)
          go_ret2
          exact ⟨rfl,hb2⟩
set_option maxHeartbeats 3200000 in
theorem number_8 (w:World):Calls Tryz.prog 102 #[.string ⟨#[56]⟩] w (Ret (.tuple #[.int .u64 8,.int .i64 0]) w):=by
  have hsz:(ByteArray.mk #[56]).size=1:=rfl
  have hby:((ByteArray.mk #[56])[0]'(by decide)).toNat=56:=rfl
  have hb1:Below w.heap.size w (w.iter ⟨#[56]⟩ 1):=(Below.refl w.heap.size w).alloc (Nat.le_refl _) (.stringIter ⟨#[56]⟩ 1)
  go_enter Tryz.func102,Tryz.ntmps102
  go_wp2_with (fail)
  go_loopw [] (fun wr=>∃ p:Nat,p ≤ 1 ∧ wr=w.iter ⟨#[56]⟩ p) (fun wr=>1 - wr.iterPos w.heap.size)
  case atStart=>exact ⟨0,by omega,rfl⟩
  case round =>
    obtain ⟨p,hp,rfl⟩:=hrel
    have:p=0 ∨ p=1:=by omega
    rcases this with rfl | rfl
    · have hnx:=fun ty=>run_next_ascii (P:=Tryz.prog) w ⟨#[56]⟩ 0 ty (by decide) (by decide)
      go_wp2_with (fail)
      exact ⟨⟨1,by omega,rfl⟩,by rw [iterPos_iter,iterPos_iter];decide⟩
    · have hnx:=fun ty=>run_next_end (P:=Tryz.prog) w ⟨#[56]⟩ 1 ty (by decide)
      go_wp2_with (fail)
      clear hnx hp
      generalize w.iter ⟨#[56]⟩ 1=W1 at *
      have hb2:Below w.heap.size w (W1.iter ⟨#[56]⟩ 1):=hb1.alloc hb1.size (.stringIter ⟨#[56]⟩ 1)
      go_loopw [6] (fun u wr=>(u=.int .u64 0 ∧ wr=W1.iter ⟨#[56]⟩ 0) ∨ (u=.int .u64 8 ∧ wr=W1.iter ⟨#[56]⟩ 1)) (fun _ wr=>1 - wr.iterPos W1.heap.size)
      case atStart=>exact .inl ⟨rfl,rfl⟩
      case round =>
        rcases hrel with ⟨rfl,rfl⟩ | ⟨rfl,rfl⟩
        · have hnx:=fun ty=>run_next_ascii (P:=Tryz.prog) W1 ⟨#[56]⟩ 0 ty (by decide) (by decide)
          go_wp2_with (fail)
          exact ⟨.inr ⟨by first | trivial | rfl,by first | trivial | rfl⟩,by rw [iterPos_iter,iterPos_iter];decide⟩
        · have hnx:=fun ty=>run_next_end (P:=Tryz.prog) W1 ⟨#[56]⟩ 1 ty (by decide)
          go_wp2_with (fail)
          go_ret2
          exact ⟨rfl,hb2⟩
end Go.Proofs.YtppblcbgkadldaaGreatDoor
