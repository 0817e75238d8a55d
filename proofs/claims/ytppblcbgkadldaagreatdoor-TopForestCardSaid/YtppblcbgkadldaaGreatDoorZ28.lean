/-
  A part of the proof that the law TopForest returns true for every input and leaves its arguments as they were: Sess, CmpU, HashQ, HashesQ, TiersE.
-/
import Derived.Test.YtppblcbgkadldaaGreatDoorZ06
import Derived.Test.YtppblcbgkadldaaGreatDoorZ10
import Derived.Test.YtppblcbgkadldaaGreatDoorZ22
import Derived.Test.YtppblcbgkadldaaGreatDoorZ26
import Derived.Test.YtppblcbgkadldaaGreatDoorZ27
set_option linter.all false
namespace Go.Proofs.YtppblcbgkadldaaGreatDoor
open Go Go.RowKit
set_option maxRecDepth 100000
def SeC (N:Nat) (cs:Array Value):Prop:=∃ x y z A1 n1 c1 A2 n2 c2 A3 n3 c3 A4 n4 c4 t o,cs=#[.int .i64 x,.int .i64 y,.int .i64 z,.slice A1 n1 c1,.slice A2 n2 c2,.slice A3 n3 c3,.slice A4 n4 c4,.int .i64 t,.bool o] ∧ (x=N ∨ (x=0 ∧ y=0))
theorem sec_no64 {N:Nat} {cs:Array Value} (h:SeC N cs) (i:Nat) (v:Int):cs[i]? ≠ some (.int .u64 v):=by
  obtain ⟨x,y,z,A1,n1,c1,A2,n2,c2,A3,n3,c3,A4,n4,c4,t,o,rfl,_⟩:=h
  match i with
  | 0 | 1 | 2 | 3 | 4 | 5 | 6 | 7 | 8=>intro he;simp at he
  | i + 9=>intro he;simp at he
theorem sec_noedge {N:Nat} {cs:Array Value} (h:SeC N cs) (i:Nat) (e:E3) (he:0 ≤ e.1 ∧ e.1 < e.2.1 ∧ e.2.1 < N):¬ (cs[i]? = some (.int .i64 e.1) ∧ cs[i + 1]? = some (.int .i64 e.2.1) ∧ cs[i + 2]? = some (.int .i64 e.2.2)):=by
  obtain ⟨x,y,z,A1,n1,c1,A2,n2,c2,A3,n3,c3,A4,n4,c4,t,o,rfl,hx⟩:=h
  rintro ⟨h0,h1,h2⟩
  match i with
  | 0=>simp at h0 h1;omega
  | 1=>simp at h2
  | 2 | 7=>simp at h1
  | 3 | 4 | 5 | 6 | 8=>simp at h0
  | i + 9=>simp at h0
theorem sec_on (N:Nat) (x y:Int) (A1:Option Addr) (n1 c1:Nat) (A2:Option Addr) (n2 c2:Nat) (A3:Option Addr) (n3 c3:Nat) (A4:Option Addr) (n4 c4:Nat) (t:Int) (o:Bool):SeC N #[.int .i64 N,.int .i64 x,.int .i64 y,.slice A1 n1 c1,.slice A2 n2 c2,.slice A3 n3 c3,.slice A4 n4 c4,.int .i64 t,.bool o]:=⟨_,_,_,_,_,_,_,_,_,_,_,_,_,_,_,_,_,rfl,.inl rfl⟩
theorem sec_off (N:Nat) (A1:Option Addr) (n1 c1:Nat) (A2:Option Addr) (n2 c2:Nat) (A3:Option Addr) (n3 c3:Nat) (A4:Option Addr) (n4 c4:Nat) (t:Int) (o:Bool):SeC N #[.int .i64 0,.int .i64 0,.int .i64 0,.slice A1 n1 c1,.slice A2 n2 c2,.slice A3 n3 c3,.slice A4 n4 c4,.int .i64 t,.bool o]:=⟨_,_,_,_,_,_,_,_,_,_,_,_,_,_,_,_,_,rfl,.inr ⟨rfl,rfl⟩⟩
section
variable {w w':World} {N L R:Nat} {hs:List (Int × Int)} {es:List E3} {ls:List S2} {H:Option Addr} {hc:Nat} {E:Option Addr} {m c:Nat} {S:Option Addr} {d:Nat}
theorem sm_av3 (h:SM w N L R hs es ls H hc E m c S d) {g:Nat} {t:TypeId} {cs:Array Value} (hB:Blk w g t cs) (hcs:SeC N cs):Sl w [g] 2 H (L * R) hc (hcells hs) ∧ Sl w [g] 3 E m c (ecells es) ∧ Sl w [g] 2 S N d (scells ls):=by
  refine ⟨?_,?_,?_⟩
  · refine ⟨h.g.hm.len,h.g.hm.le,h.g.hm.cap,fun hn=>?_⟩
    obtain ⟨ad,e,hb,hm,hc'⟩:=h.g.hm.at_ hn
    refine ⟨ad,e,hb,?_,hc'⟩
    intro hg
    simp only [List.mem_singleton] at hg
    have hl:0 < hs.length:=by have:=HSl.length h.g.hm;omega
    obtain ⟨ad',e',_,c0,_⟩:=HSl.get h.g.hm hl
    rw [e] at e';injection e' with e';subst e'
    rw [Nat.zero_mul,add_zero_] at c0
    subst hg
    exact sec_no64 hcs _ _ (cell_blk hB c0)
  · refine ⟨h.g.em.len,h.g.em.le,h.g.em.cap,fun hn=>?_⟩
    obtain ⟨ad,e,hb,hm,hc'⟩:=h.g.em.at_ hn
    refine ⟨ad,e,hb,?_,hc'⟩
    intro hg
    simp only [List.mem_singleton] at hg
    have hl:0 < es.length:=by have:=ESl.length h.g.em;omega
    obtain ⟨ad',e',_,_,c0,c1,c2⟩:=ESl.get h.g.em hl
    rw [e] at e';injection e' with e';subst e'
    rw [Nat.zero_mul,add_zero_] at c0 c1 c2
    subst hg
    obtain ⟨h0,h1,h2,_⟩:=right_edge h.g.ge.right (List.getElem_mem hl)
    refine sec_noedge hcs ad.off es[0] ⟨h0,h1,h2⟩ ⟨cell_blk hB c0,?_,?_⟩
    · have:=hB.cell (ad.off + 1);rw [c1] at this;exact this.symm
    · have:=hB.cell (ad.off + 2);rw [c2] at this;exact this.symm
  · refine ⟨h.s.len,h.s.le,h.s.cap,fun hn=>?_⟩
    obtain ⟨ad,e,hb,hm,hc'⟩:=h.s.at_ hn
    refine ⟨ad,e,hb,?_,hc'⟩
    intro hg
    simp only [List.mem_singleton] at hg
    have hl:0 < ls.length:=by have:=SSl.length h.s;omega
    obtain ⟨ad',e',_,_,c1⟩:=SSl.get h.s hl
    rw [e] at e';injection e' with e';subst e'
    rw [Nat.zero_mul,add_zero_] at c1
    subst hg
    exact sec_no64 hcs _ _ (by have:=hB.cell (ad.off + 1);rw [c1] at this;exact this.symm)
theorem sm_sets3 (h:SM w N L R hs es ls H hc E m c S d) {g:Nat} {t:TypeId} {cs:Array Value} (hB:Blk w g t cs) (hcs:SeC N cs) (ps:List (Addr × Value)) (hp:∀ p ∈ ps,p.1.block=g):SM (sets w ps) N L R hs es ls H hc E m c S d:=by
  obtain ⟨h1,h2,h3⟩:=sm_av3 h hB hcs
  exact ⟨⟨h.g.n1,h.g.n2,h.g.l1,h.g.l2,h.g.r1,h.g.r2,h.g.hok,(Sl.sets (by simp) ps w h1 hp).less (by simp),(Sl.sets (by simp) ps w h2 hp).less (by simp),h.g.ge⟩,(Sl.sets (by simp) ps w h3 hp).less (by simp),h.ok,h.used⟩
theorem sm_se6 (h:SM w N L R hs es ls H hc E m c S d) {g:Nat} {t:TypeId} {cs:Array Value} (hB:Blk w g t cs) (hcs:SeC N cs) (x0 x1 x2 x3 x4 x5:Value):SM ((((((w.setCell ⟨g,0,none⟩ x0).setCell ⟨g,1,none⟩ x1).setCell ⟨g,2,none⟩ x2).setCell ⟨g,3,none⟩ x3).setCell ⟨g,4,none⟩ x4).setCell ⟨g,5,none⟩ x5) N L R hs es ls H hc E m c S d:=
  sm_sets3 h hB hcs [(⟨g,0,none⟩,x0),(⟨g,1,none⟩,x1),(⟨g,2,none⟩,x2),(⟨g,3,none⟩,x3),(⟨g,4,none⟩,x4),(⟨g,5,none⟩,x5)] (by simp)
theorem sm_se9 (h:SM w N L R hs es ls H hc E m c S d) {g:Nat} {t:TypeId} {cs:Array Value} (hB:Blk w g t cs) (hcs:SeC N cs) (x0 x1 x2 x3 x4 x5 x6 x7 x8:Value):SM (((((((((w.setCell ⟨g,0,none⟩ x0).setCell ⟨g,1,none⟩ x1).setCell ⟨g,2,none⟩ x2).setCell ⟨g,3,none⟩ x3).setCell ⟨g,4,none⟩ x4).setCell ⟨g,5,none⟩ x5).setCell ⟨g,6,none⟩ x6).setCell ⟨g,7,none⟩ x7).setCell ⟨g,8,none⟩ x8) N L R hs es ls H hc E m c S d:=
  sm_sets3 h hB hcs [(⟨g,0,none⟩,x0),(⟨g,1,none⟩,x1),(⟨g,2,none⟩,x2),(⟨g,3,none⟩,x3),(⟨g,4,none⟩,x4),(⟨g,5,none⟩,x5),(⟨g,6,none⟩,x6),(⟨g,7,none⟩,x7),(⟨g,8,none⟩,x8)] (by simp)
end
theorem se_set6 {w:World} {g:Nat} {t:TypeId} {y0 y1 y2 y3 y4 y5 y6 y7 y8:Value} (h:Blk w g t #[y0,y1,y2,y3,y4,y5,y6,y7,y8]) (x0 x1 x2 x3 x4 x5:Value):Blk ((((((w.setCell ⟨g,0,none⟩ x0).setCell ⟨g,1,none⟩ x1).setCell ⟨g,2,none⟩ x2).setCell ⟨g,3,none⟩ x3).setCell ⟨g,4,none⟩ x4).setCell ⟨g,5,none⟩ x5) g t #[x0,x1,x2,x3,x4,x5,y6,y7,y8]:=by
  have:=(((((h.set_ 0 x0).set_ 1 x1).set_ 2 x2).set_ 3 x3).set_ 4 x4).set_ 5 x5
  simpa using this
theorem se_set9 {w:World} {g:Nat} {t:TypeId} {y0 y1 y2 y3 y4 y5 y6 y7 y8:Value} (h:Blk w g t #[y0,y1,y2,y3,y4,y5,y6,y7,y8]) (x0 x1 x2 x3 x4 x5 x6 x7 x8:Value):Blk (((((((((w.setCell ⟨g,0,none⟩ x0).setCell ⟨g,1,none⟩ x1).setCell ⟨g,2,none⟩ x2).setCell ⟨g,3,none⟩ x3).setCell ⟨g,4,none⟩ x4).setCell ⟨g,5,none⟩ x5).setCell ⟨g,6,none⟩ x6).setCell ⟨g,7,none⟩ x7).setCell ⟨g,8,none⟩ x8) g t #[x0,x1,x2,x3,x4,x5,x6,x7,x8]:=by
  have:=((((((((h.set_ 0 x0).set_ 1 x1).set_ 2 x2).set_ 3 x3).set_ 4 x4).set_ 5 x5).set_ 6 x6).set_ 7 x7).set_ 8 x8
  simpa using this
theorem below_set9 {B:Nat} {w w':World} (h:Below B w w') {g:Nat} (hg:B ≤ g) (x0 x1 x2 x3 x4 x5 x6 x7 x8:Value):Below B w (((((((((w'.setCell ⟨g,0,none⟩ x0).setCell ⟨g,1,none⟩ x1).setCell ⟨g,2,none⟩ x2).setCell ⟨g,3,none⟩ x3).setCell ⟨g,4,none⟩ x4).setCell ⟨g,5,none⟩ x5).setCell ⟨g,6,none⟩ x6).setCell ⟨g,7,none⟩ x7).setCell ⟨g,8,none⟩ x8):=
  ((((((((h.setCell (p:=⟨g,0,none⟩) hg x0).setCell (p:=⟨g,1,none⟩) hg x1).setCell (p:=⟨g,2,none⟩) hg x2).setCell (p:=⟨g,3,none⟩) hg x3).setCell (p:=⟨g,4,none⟩) hg x4).setCell (p:=⟨g,5,none⟩) hg x5).setCell (p:=⟨g,6,none⟩) hg x6).setCell (p:=⟨g,7,none⟩) hg x7).setCell (p:=⟨g,8,none⟩) hg x8
end Go.Proofs.YtppblcbgkadldaaGreatDoor
namespace Go.Proofs.YtppblcbgkadldaaGreatDoor
open Go Go.RowKit
set_option maxRecDepth 100000
attribute [local go_sem] Heavy heavyUpon
theorem isnan_u (x:Int) (w:World):Calls Tryz.prog 117 #[.int .u64 x] w (Ret (.bool false) w):=by
  have hd:(x == x)=true:=by simp
  go_enter Tryz.func117,Tryz.ntmps117
  go_wp2_with (fail)
  go_ret
  exact ⟨rfl,Below.refl _ _⟩
set_option maxHeartbeats 1600000 in
theorem less_u (x y:Int) (w:World):Calls Tryz.prog 141 #[.int .u64 x,.int .u64 y] w (Ret (.bool (decide (x < y))) w):=by
  have QN:=hide isnan_u
  go_enter Tryz.func141,Tryz.ntmps141
  go_wp2_with (fail)
  refine (QN.out x _).mono ?_
  rintro e w1 ⟨rfl,b1⟩
  go_wp2_with (fail)
  go_ret
  exact ⟨rfl,b1⟩
set_option maxHeartbeats 1600000 in
theorem compare_u (x y:Int) (w:World):Calls Tryz.prog 82 #[.int .u64 x,.int .u64 y] w fun e w'=>∃ r:Int,e=.returned (.int .i64 r) ∧ -1 ≤ r ∧ r ≤ 1 ∧ Below w.heap.size w w':=by
  have QN:=hide isnan_u
  rcases Int.lt_trichotomy x y with h | h | h
  · have hd:decide (x < y)=true:=decide_eq_true h
    go_enter Tryz.func82,Tryz.ntmps82
    go_wp2_with (fail)
    refine (QN.out x _).mono ?_
    rintro e w1 ⟨rfl,b1⟩
    go_wp2_with (fail)
    refine (QN.out y _).mono ?_
    rintro e w2 ⟨rfl,b2⟩
    have hb:=b1.trans (b2.mono b1.size)
    go_wp2_with (fail)
    go_ret
    exact ⟨_,rfl,by decide,by decide,hb⟩
  · subst h
    have hd:decide (x < x)=false:=by simp
    go_enter Tryz.func82,Tryz.ntmps82
    go_wp2_with (fail)
    refine (QN.out x _).mono ?_
    rintro e w1 ⟨rfl,b1⟩
    go_wp2_with (fail)
    refine (QN.out x _).mono ?_
    rintro e w2 ⟨rfl,b2⟩
    have hb:=b1.trans (b2.mono b1.size)
    go_wp2_with (fail)
    go_ret
    exact ⟨_,rfl,by decide,by decide,hb⟩
  · have hd:decide (x < y)=false:=by simp;omega
    have hd2:decide (y < x)=true:=decide_eq_true h
    go_enter Tryz.func82,Tryz.ntmps82
    go_wp2_with (fail)
    refine (QN.out x _).mono ?_
    rintro e w1 ⟨rfl,b1⟩
    go_wp2_with (fail)
    refine (QN.out y _).mono ?_
    rintro e w2 ⟨rfl,b2⟩
    have hb:=b1.trans (b2.mono b1.size)
    go_wp2_with (fail)
    go_ret
    exact ⟨_,rfl,by decide,by decide,hb⟩
end Go.Proofs.YtppblcbgkadldaaGreatDoor
namespace Go.Proofs.YtppblcbgkadldaaGreatDoor
open Go Go.RowKit
set_option maxRecDepth 100000
theorem hcells_append (a b:List (Int × Int)):hcells (a ++ b)=hcells a ++ hcells b:=by simp [hcells]
theorem hcells_set {cs:Array Value} {dn:List (Int × Int)} {a b:Int} (hs:dn.length * 2 + 1 < cs.size) (h:∀ x,x < dn.length * 2 → cs[x]? = (hcells dn)[x]?) :
    ∀ x,x < (dn.length + 1) * 2 → ((cs.setIfInBounds (dn.length * 2) (.int .u64 a)).setIfInBounds (dn.length * 2 + 1) (.int .u64 b))[x]? = (hcells (dn ++ [(a,b)]))[x]?:=by
  intro x hx
  rw [hcells_append,Array.getElem?_setIfInBounds,Array.getElem?_setIfInBounds]
  rcases Nat.lt_trichotomy x (dn.length * 2) with h1 | h1 | h1
  · rw [if_neg (by omega),if_neg (by omega),h x h1,List.getElem?_append_left (by rw [hcells_len];exact h1)]
  · subst h1
    rw [if_neg (by omega),if_pos rfl,if_pos (by omega),List.getElem?_append_right (by rw [hcells_len];omega),hcells_len,Nat.sub_self]
    rfl
  · have e:x=dn.length * 2 + 1:=by omega
    subst e
    rw [if_pos rfl,if_pos (by simp;omega),List.getElem?_append_right (by rw [hcells_len];omega),hcells_len,show dn.length * 2 + 1 - dn.length * 2=1 by omega]
    rfl
end Go.Proofs.YtppblcbgkadldaaGreatDoor
namespace Go.Proofs.YtppblcbgkadldaaGreatDoor
open Go Go.RowKit
set_option maxRecDepth 100000
attribute [local go_sem] Heavy heavyUpon
set_option maxHeartbeats 400000 in
theorem hashes_ok (xs:List Int) (M:List Nat) (A:Option Addr) (n c:Nat) (at_ m:Nat) (w:World) (h:at_ ≤ n) (hm:m ≤ 128) (hS:Sl w M 1 A n c (ints .u64 xs)) (hM:∀ b ∈ M,b < w.heap.size) :
    Calls Tryz.prog 12 #[.agg #[.slice A n c,.int .i64 at_],.int .i64 m] w fun e w'=>Below w.heap.size w w' ∧
      (∀ hs k,drawH xs m at_=some (hs,k) → ∃ B d,e=.returned (.tuple #[.slice B m d,.agg #[.slice A n c,.int .i64 k],.int .i64 0]) ∧ Sl w' M 2 B m d (hcells hs)) ∧
      (drawH xs m at_=none → e=.returned (.tuple #[.slice none 0 0,.agg #[.slice A n c,.int .i64 at_],.int .i64 5])):=by
  obtain ⟨i0,hi0,hz0,hz1,hz2⟩:=info_parts hash_info
  have hmk:=fun W=>run_make_rowN (P:=Tryz.prog) 27 79 i0 _ Tryz.underlying27 hi0 hz0 .i64 .i64 m m (Nat.le_refl _) (by rw [hz2];omega) (by omega) W
  rw [hz1] at hmk
  have HD:=hide (show decide (0 ≤ (at_:Int) ∧ (at_:Int) ≤ n)=true by simp;omega)
  have HM:=hide hM
  clear hM hi0 hz0 hz1 hz2
  go_enter Tryz.func12,Tryz.ntmps12
  go_wp2_with (go_at_call 27;refine (right_any A n c at_ _).mono ?_;rw [HD.out];rintro e w1 ⟨rfl,hb⟩;obtain ⟨B0,B1,hz,hbb⟩:=two_new hb;clear hb;obtain ⟨b0,f0,l0⟩:=B0.facts;obtain ⟨b1,f1,l1⟩:=B1.facts)
  have G:=hide (And.intro B0 B1)
  clear B0 B1
  go_loopw [32] (fun i wr=>∃ (j:Nat) (k:Nat) (cs:Array Value) (dn:List (Int × Int)),j ≤ m ∧ k ≤ n ∧ i=.int .i64 j ∧ Below w.heap.size w wr ∧ Blk wr w.heap.size 35 #[.slice A n c,.int .i64 at_] ∧ Blk wr (w.heap.size + 1) 35 #[.slice none 0 0,.int .i64 0]
      ∧ Blk wr w1.heap.size 79 cs ∧ Blk wr (w1.heap.size + 1) 35 #[.slice A n c,.int .i64 k] ∧ Hid (cs.size=m * 2 ∧ dn.length=j ∧ (∀ x,x < j * 2 → cs[x]? = (hcells dn)[x]?) ∧ joined dn (drawH xs (m - j) k)=drawH xs m at_)) (fun i _=>m - (intOf i).toNat)
  case atStart =>
    exact ⟨0,at_,_,[],Nat.zero_le _,h,rfl,(hbb.alloc (by omega) _).alloc (by simp;omega) _,(G.out.1.alloc _).alloc _,(G.out.2.alloc _).alloc _,(Blk.new w1 _ _).alloc _,by simpa using Blk.new (w1.alloc _) 35 _,
      hide ⟨size_madeCells _ _,rfl,fun x hx=>absurd hx (by omega),joined_nil _⟩⟩
  case round =>
    obtain ⟨j,k,cs,dn,hj,hk,rfl,hbr,R0,R1,R2,R3,HR⟩:=hrel
    obtain ⟨r0,e0,s0⟩:=R0.facts
    obtain ⟨r1,e1,s1⟩:=R1.facts
    obtain ⟨r2,e2,s2⟩:=R2.facts
    obtain ⟨r3,e3,s3⟩:=R3.facts
    have hSr:=hS.below hbr
    by_cases hlt:j < m
    · cases hq:scan (xs.drop k) k
      case none =>
        have HF:=hide (drawB_none hq)
        have HN:=hide (show drawH xs m at_=none by rw [← HR.out.2.2.2,show m - j=(m - j - 1) + 1 by omega,drawH_dry1 hq];rfl)
        clear hq
        go_wp2_with (go_at_call 28;refine (below_ok xs M A n c k _ hk hSr).mono ?_;rw [HF.out];rintro e w2 ⟨rfl,hb2⟩;have Q0:=R0.below hb2 s0;have Q1:=R1.below hb2 s1;obtain ⟨q0,p0,t0⟩:=Q0.facts;obtain ⟨q1,p1,t1⟩:=Q1.facts;have hb2':=hbr.trans (hb2.mono hbr.size))
        refine wp_region_lex [3] (fun w'=>∀ o,w'.cell? ⟨w.heap.size,o,none⟩=(w2).cell? ⟨w.heap.size,o,none⟩) (by kernel_rfl) (by kernel_rfl) (by intro o;first | rfl | go_simp) ?_
        ((repeat ((with_reducible refine wpLex_step (fun K hK=>?_));go_simp;first | ((with_reducible refine hK _ _ ?_);clear hK K) | ((with_reducible apply Exists.intro);refine ⟨fun w' hw'=>?_,hK _ _ ?_⟩;(· (apply valEq;(· (go_simp;first | done | (with_reducible rfl)));(· ((try go_bits);with_reducible rfl))));clear hK K)));(try ((with_reducible refine wpLex_step (fun K hK=>?_));go_simp;first | (refine hK _ _ ?_;clear hK K) | (refine ⟨?_,hK _ _ ?_⟩;(· (intro o;go_simp));clear hK K)));(repeat ((with_reducible refine wpLex_step (fun K hK=>?_));go_simp;first | ((with_reducible refine hK _ _ ?_);clear hK K) | ((with_reducible apply Exists.intro);refine ⟨fun w' hw'=>?_,hK _ _ ?_⟩;(· (apply valEq;(· (go_simp;first | done | (with_reducible rfl)));(· ((try go_bits);with_reducible rfl))));clear hK K)));refine wpLex_nil (fun hw=>?_);go_wp2)
        refine bodyPost_ret (v:=.tuple #[.slice none 0 0,.agg #[.slice A n c,.int .i64 at_],.int .i64 5]) (by simp [results,Tryz.results12,go_sem,q1,t1]) rfl ⟨?_,?_,fun _=>rfl⟩
        · (repeat (first | (with_reducible exact hb2') | (with_reducible refine Below.drew ?_) | ((with_reducible refine Below.setCell ?_ ?hside _);(case hside=>first | omega | (simp;done) | (simp;omega))) | ((with_reducible refine Below.alloc ?_ ?hside _);(case hside=>first | omega | (simp;done) | (simp;omega)))))
        · intro hs k' h';rw [HN.out] at h';cases h'
      case some p =>
        obtain ⟨a,k1⟩:=p
        have hk1:=hide (scan_drop_le (by have:=hS.len;simp at this;omega) hq)
        have HF:=hide (drawB_some hq)
        cases hq2:scan (xs.drop k1) k1
        case none =>
          have HF2:=hide (drawB_none hq2)
          have HN:=hide (show drawH xs m at_=none by rw [← HR.out.2.2.2,show m - j=(m - j - 1) + 1 by omega,drawH_dry2 hq hq2];rfl)
          have hkn:k1 ≤ n:=by have:=hS.len;simp at this;have:=hk1.out;omega
          clear hq hq2
          go_wp2_with (fail)
          refine (below_ok xs M A n c k _ hk hSr).mono ?_
          rw [HF.out];rintro e w2 ⟨rfl,hb2⟩
          have Q0:=R0.below hb2 s0;have Q1:=R1.below hb2 s1;obtain ⟨q0,p0,t0⟩:=Q0.facts;obtain ⟨q1,p1,t1⟩:=Q1.facts;have hb2':=hbr.trans (hb2.mono hbr.size)
          go_wp2_with (fail)
          refine (below_ok xs M A n c k1 _ hkn ((hSr.below hb2).alloc _)).mono ?_
          rw [HF2.out];rintro e w3 ⟨rfl,hb3⟩
          obtain ⟨D0,hz3,hb3'⟩:=one_new hb3
          have P0:=(Q0.alloc _).below hb3 (by simp;omega);have P1:=(Q1.alloc _).below hb3 (by simp;omega);obtain ⟨x0,y0,z0⟩:=P0.facts;obtain ⟨x1,y1,z1⟩:=P1.facts
          have hb4:=hb2'.trans (hb3'.mono hb2'.size)
          clear hb3 hb2 hb3'
          go_wp2_with (fail)
          refine wp_region_lex [3] (fun w'=>∀ o,w'.cell? ⟨w.heap.size,o,none⟩=(w3).cell? ⟨w.heap.size,o,none⟩) (by kernel_rfl) (by kernel_rfl) (by intro o;first | rfl | go_simp) ?_
          ((repeat ((with_reducible refine wpLex_step (fun K hK=>?_));go_simp;first | ((with_reducible refine hK _ _ ?_);clear hK K) | ((with_reducible apply Exists.intro);refine ⟨fun w' hw'=>?_,hK _ _ ?_⟩;(· (apply valEq;(· (go_simp;first | done | (with_reducible rfl)));(· ((try go_bits);with_reducible rfl))));clear hK K)));(try ((with_reducible refine wpLex_step (fun K hK=>?_));go_simp;first | (refine hK _ _ ?_;clear hK K) | (refine ⟨?_,hK _ _ ?_⟩;(· (intro o;go_simp));clear hK K)));(repeat ((with_reducible refine wpLex_step (fun K hK=>?_));go_simp;first | ((with_reducible refine hK _ _ ?_);clear hK K) | ((with_reducible apply Exists.intro);refine ⟨fun w' hw'=>?_,hK _ _ ?_⟩;(· (apply valEq;(· (go_simp;first | done | (with_reducible rfl)));(· ((try go_bits);with_reducible rfl))));clear hK K)));refine wpLex_nil (fun hw=>?_);go_wp2)
          refine bodyPost_ret (v:=.tuple #[.slice none 0 0,.agg #[.slice A n c,.int .i64 at_],.int .i64 5]) (by simp [results,Tryz.results12,go_sem,x1,z1]) rfl ⟨?_,?_,fun _=>rfl⟩
          · (repeat (first | (with_reducible exact hb4) | (with_reducible refine Below.drew ?_) | ((with_reducible refine Below.setCell ?_ ?hside _);(case hside=>first | omega | (simp;done) | (simp;omega))) | ((with_reducible refine Below.alloc ?_ ?hside _);(case hside=>first | omega | (simp;done) | (simp;omega)))))
          · intro hs k' h';rw [HN.out] at h';cases h'
        case some p =>
          obtain ⟨b,k2⟩:=p
          have HF2:=hide (drawB_some hq2)
          have hk2:=hide (scan_drop_le hk1.out.2 hq2)
          have HJ:=hide (show joined (dn ++ [(a,b)]) (drawH xs (m - (j + 1)) k2)=drawH xs m at_ by
            rw [← HR.out.2.2.2,show m - j=(m - (j + 1)) + 1 by omega,drawH_step hq hq2])
          have hkn:k1 ≤ n:=by have:=hS.len;simp at this;have:=hk1.out;omega
          have hkn2:k2 ≤ n:=by have:=hS.len;simp at this;have:=hk2.out;omega
          clear hq hq2
          obtain ⟨v0,hv0⟩:∃ v,cs[j * 2]? = some v:=⟨_,Array.getElem?_eq_getElem (by have:=HR.out.1;omega)⟩
          obtain ⟨v1,hv1⟩:∃ v,cs[j * 2 + 1]? = some v:=⟨_,Array.getElem?_eq_getElem (by have:=HR.out.1;omega)⟩
          go_wp2_with (fail)
          refine (below_ok xs M A n c k _ hk hSr).mono ?_
          rw [HF.out];rintro e w2 ⟨rfl,hb2⟩
          have Q2:=R2.below hb2 s2;have Q3:=R3.below hb2 s3;obtain ⟨q2,p2,t2⟩:=Q2.facts;obtain ⟨q3,p3,t3⟩:=Q3.facts;have hb2':=hbr.trans (hb2.mono hbr.size)
          have Q0:=R0.below hb2 s0;have Q1:=R1.below hb2 s1
          have t0:=Q0.lt;have t1:=Q1.lt
          go_wp2_with (fail)
          refine (below_ok xs M A n c k1 _ hkn ((hSr.below hb2).alloc _)).mono ?_
          rw [HF2.out];rintro e w3 ⟨rfl,hb3⟩
          obtain ⟨D0,hz3,hb3'⟩:=one_new hb3
          have P2:=(Q2.alloc _).below hb3 (by simp;omega);have P3:=(Q3.alloc _).below hb3 (by simp;omega);obtain ⟨x2,y2,z2⟩:=P2.facts;obtain ⟨x3,y3,z3⟩:=P3.facts
          have P0:=(Q0.alloc _).below hb3 (by simp;omega);have P1:=(Q1.alloc _).below hb3 (by simp;omega)
          have hb4:=hb2'.trans (hb3'.mono hb2'.size)
          have hSn:=hb4.size
          clear hb3 hb2 hb3'
          go_wp2_with (fail)
          refine ⟨⟨j + 1,k2,(cs.setIfInBounds (j * 2) (.int .u64 a)).setIfInBounds (j * 2 + 1) (.int .u64 b),dn ++ [(a,b)],by omega,hkn2,by go_num,by (repeat (first | (with_reducible exact hb4) | (with_reducible refine Below.drew ?_) | ((with_reducible refine Below.setCell ?_ ?hside _);(case hside=>first | omega | (simp;done) | (simp;omega))) | ((with_reducible refine Below.alloc ?_ ?hside _);(case hside=>first | omega | (simp;done) | (simp;omega))))),?_,?_,?_,?_,hide ⟨by simp [HR.out.1],by simp [HR.out.2.1],?_,HJ.out⟩⟩,by simp [intOf];omega⟩
          · (repeat (first | (with_reducible exact P0) | (with_reducible refine Blk.drew ?_) | (with_reducible refine Blk.alloc ?_ _) | (with_reducible apply Blk.set2) | (with_reducible apply Blk.set3) | ((with_reducible refine Blk.far ?_ ?hside _);(case hside=>first | omega | (simp;done) | (simp;omega))) | (with_reducible refine Blk.set_ ?_ _ _)))
          · (repeat (first | (with_reducible exact P1) | (with_reducible refine Blk.drew ?_) | (with_reducible refine Blk.alloc ?_ _) | (with_reducible apply Blk.set2) | (with_reducible apply Blk.set3) | ((with_reducible refine Blk.far ?_ ?hside _);(case hside=>first | omega | (simp;done) | (simp;omega))) | (with_reducible refine Blk.set_ ?_ _ _)))
          · (repeat (first | (with_reducible exact P2) | (with_reducible refine Blk.drew ?_) | (with_reducible refine Blk.alloc ?_ _) | (with_reducible apply Blk.set2) | (with_reducible apply Blk.set3) | ((with_reducible refine Blk.far ?_ ?hside _);(case hside=>first | omega | (simp;done) | (simp;omega))) | (with_reducible refine Blk.set_ ?_ _ _)))
          · (repeat (first | (with_reducible exact P3) | (with_reducible refine Blk.drew ?_) | (with_reducible refine Blk.alloc ?_ _) | (with_reducible apply Blk.set2) | (with_reducible apply Blk.set3) | ((with_reducible refine Blk.far ?_ ?hside _);(case hside=>first | omega | (simp;done) | (simp;omega))) | (with_reducible refine Blk.set_ ?_ _ _)))
          · have hdn:=HR.out.2.1
            subst hdn
            exact hcells_set (by have:=HR.out.1;omega) HR.out.2.2.1
    · have hjm:j=m:=by omega
      have HN:=hide (show drawH xs m at_=some (dn,k) by rw [← HR.out.2.2.2,hjm,Nat.sub_self];simp [drawH,joined])
      go_wp2
      refine wp_region_lex [3] (fun w'=>∀ o,w'.cell? ⟨w1.heap.size + 1,o,none⟩=(wr).cell? ⟨w1.heap.size + 1,o,none⟩) (by kernel_rfl) (by kernel_rfl) (by intro o;first | rfl | go_simp) ?_
      ((repeat ((with_reducible refine wpLex_step (fun K hK=>?_));go_simp;first | ((with_reducible refine hK _ _ ?_);clear hK K) | ((with_reducible apply Exists.intro);refine ⟨fun w' hw'=>?_,hK _ _ ?_⟩;(· (apply valEq;(· (go_simp;first | done | (with_reducible rfl)));(· ((try go_bits);with_reducible rfl))));clear hK K)));(try ((with_reducible refine wpLex_step (fun K hK=>?_));go_simp;first | (refine hK _ _ ?_;clear hK K) | (refine ⟨?_,hK _ _ ?_⟩;(· (intro o;go_simp));clear hK K)));(repeat ((with_reducible refine wpLex_step (fun K hK=>?_));go_simp;first | ((with_reducible refine hK _ _ ?_);clear hK K) | ((with_reducible apply Exists.intro);refine ⟨fun w' hw'=>?_,hK _ _ ?_⟩;(· (apply valEq;(· (go_simp;first | done | (with_reducible rfl)));(· ((try go_bits);with_reducible rfl))));clear hK K)));refine wpLex_nil (fun hw=>?_);go_wp2)
      refine bodyPost_ret (v:=.tuple #[.slice (some ⟨w1.heap.size,0,none⟩) m m,.agg #[.slice A n c,.int .i64 k],.int .i64 0]) (by simp [results,Tryz.results12,go_sem,r1]) rfl ⟨?_,?_,?_⟩
      · exact ((hbr.setCell (by simp) _).setCell (by simp) _).drew
      · intro hs k' h'
        rw [HN.out] at h'
        injection h' with h'
        injection h' with h1 h2
        subst h1;subst h2
        have R2':=((R2.far (p:=⟨w.heap.size + 1,0,none⟩) (by simp;omega) (.slice A n c)).far (p:=⟨w.heap.size + 1,1,none⟩) (by simp;omega) (.int .i64 k)).drew
        refine ⟨_,_,rfl,Sl.of_blk R2' (by rw [hcells_len,HR.out.2.1,hjm]) (by rw [← hjm];exact HR.out.2.2.1) (fun hm'=>?_) (by unfold maxLen;omega)⟩
        have:=HM.out _ hm'
        omega
      · intro h';rw [HN.out] at h';cases h'
theorem hashes_some {xs:List Int} {M:List Nat} {A:Option Addr} {n c at_ m k:Nat} {hs:List (Int × Int)} {w:World} (hq:drawH xs m at_=some (hs,k)) (h:at_ ≤ n) (hm:m ≤ 128) (hS:Sl w M 1 A n c (ints .u64 xs)) (hM:∀ b ∈ M,b < w.heap.size) :
    Calls Tryz.prog 12 #[.agg #[.slice A n c,.int .i64 at_],.int .i64 m] w fun e w'=>∃ B d,e=.returned (.tuple #[.slice B m d,.agg #[.slice A n c,.int .i64 k],.int .i64 0]) ∧ Sl w' M 2 B m d (hcells hs) ∧ Below w.heap.size w w':=
  (hashes_ok xs M A n c at_ m w h hm hS hM).mono fun _ _ ⟨hb,h1,_⟩=>let ⟨B,d,he,hs⟩:=h1 _ _ hq;⟨B,d,he,hs,hb⟩
theorem hashes_none {xs:List Int} {M:List Nat} {A:Option Addr} {n c at_ m:Nat} {w:World} (hq:drawH xs m at_=none) (h:at_ ≤ n) (hm:m ≤ 128) (hS:Sl w M 1 A n c (ints .u64 xs)) (hM:∀ b ∈ M,b < w.heap.size) :
    Calls Tryz.prog 12 #[.agg #[.slice A n c,.int .i64 at_],.int .i64 m] w fun e w'=>e=.returned (.tuple #[.slice none 0 0,.agg #[.slice A n c,.int .i64 at_],.int .i64 5]) ∧ Below w.heap.size w w':=
  (hashes_ok xs M A n c at_ m w h hm hS hM).mono fun _ _ ⟨hb,_,h2⟩=>⟨h2 hq,hb⟩
end Go.Proofs.YtppblcbgkadldaaGreatDoor
namespace Go.Proofs.YtppblcbgkadldaaGreatDoor
open Go Go.RowKit
set_option maxRecDepth 100000
attribute [local go_sem] Heavy heavyUpon
section
variable {w w':World} {N L R:Nat} {hs:List (Int × Int)} {es:List E3} {H:Option Addr} {hc:Nat} {E:Option Addr} {m c:Nat}
set_option maxHeartbeats 3200000 in
theorem kept_ok (w:World) (hG:GM w N L R hs es H hc E m c) :
    Calls Tryz.prog 42 #[gV N L R H hc E m c] w fun e w'=>∃ A,e=.returned (.slice A N N) ∧ Sl w' [] 1 A N N (ints .i64 (natL (partN N (forN es L)))) ∧ Below w.heap.size w w':=by
  have hml:=hG.m_le
  have n2:=hG.n2
  have QR:=hide (fun W (h:GM W N L R hs es H hc E m c)=>sright_ok W h)
  have QF:=hide (fun W (h:GM W N L R hs es H hc E m c)=>forest_ok es N L [] E m c W h.em (by omega))
  have e1:outF N es L=forestE es L:=by unfold outF;rw [if_pos hG.ge.right]
  rw [e1] at QF
  have hfl:(forestE es L).length ≤ m:=by
    have:=filter_len (tierT L) es es.length
    rw [List.take_length] at this
    have h2:=ESl.length hG.em
    unfold forestE
    omega
  have QO:=hide (fun R d W (h:ESl W [] R (forestE es L).length d (forestE es L))=>of_ok (forestE es L) N (by omega) (hG.ends.forest L) [] R _ d W h (by omega))
  have B0:=Blk.new w 30 #[.int .i64 N,.int .i64 L,.int .i64 R,.slice H (L * R) hc,.slice E m c]
  have hb0:=(Below.refl w.heap.size w).alloc (Nat.le_refl _) (.cells #[.int .i64 N,.int .i64 L,.int .i64 R,.slice H (L * R) hc,.slice E m c] 30)
  have HG0:=hide (hG.alloc (.cells #[.int .i64 N,.int .i64 L,.int .i64 R,.slice H (L * R) hc,.slice E m c] 30))
  unfold gV at QR
  unfold gV
  have HEQ:=hide (show partN N (endsE (forestE es L))=partN N (forN es L) from rfl)
  rw [HEQ.out] at QO
  generalize partN N (forN es L)=PT at *
  generalize L * R=K at *
  clear hG e1 hfl HEQ
  go_enter Tryz.func42,Tryz.ntmps42
  go_wp2_with (fail)
  generalize w.alloc (.cells #[.int .i64 N,.int .i64 L,.int .i64 R,.slice H K hc,.slice E m c] 30)=W0 at *
  refine (QR.out _ HG0.out).mono ?_
  rintro e w1 ⟨rfl,b1⟩
  have hb1:=hb0.trans (b1.mono hb0.size)
  have HG1:=hide (HG0.out.below b1)
  have B1:=B0.below b1 B0.lt
  clear b1 B0 HG0 hb0
  (obtain ⟨x0,x1,x2,x3,x4,e0,s0⟩:=(B1).f5)
  go_wp2_with (fail)
  refine wp_region_lexD [11,12] (fun w'=>Below (w1).heap.size (w1) w') (by kernel_rfl) (by kernel_rfl) (Below.refl _ _).drew ?_
  (repeat ((with_reducible refine wpLex_step (fun K hK=>?_));go_simp;first | ((with_reducible refine hK _ _ ?_);clear hK K) | ((with_reducible apply Exists.intro);refine ⟨fun w' hw'=>?_,hK _ _ ?_⟩;(· (have hq:=bcells hw';apply valEq;(· (go_simp;first | done | (with_reducible rfl)));(· ((try go_bits);with_reducible rfl))));clear hK K)))
  ((with_reducible refine wpLex_step (fun K hK=>?_));go_simp;refine (QF.out _ HG1.out.drew).mono ?_;rintro e w3 ⟨R3,d3,rfl,S3,hbx⟩;have g3:=((Below.refl (w1).heap.size w1).drew).trans (hbx.mono ((Below.refl (w1).heap.size w1).drew).size);have HS3:=hide S3;refine ⟨_,rfl,g3,hK _ _ ?_⟩;clear hK K hbx)
  (repeat ((with_reducible refine wpLex_step (fun K hK=>?_));go_simp;first | ((with_reducible refine hK _ _ ?_);clear hK K) | ((with_reducible apply Exists.intro);refine ⟨fun w' hw'=>?_,hK _ _ ?_⟩;(· (have hq:=bcells hw';apply valEq;(· (go_simp;first | done | (with_reducible rfl)));(· ((try go_bits);with_reducible rfl))));clear hK K)))
  ((with_reducible refine wpLex_step (fun K hK=>?_));go_simp;refine (QO.out _ _ _ HS3.out).mono ?_;rintro e w4 ⟨R4,rfl,S4,hbx⟩;have g4:=(g3).trans (hbx.mono (g3).size);have HS4:=hide S4;refine ⟨_,rfl,g4,hK _ _ ?_⟩;clear hK K hbx)
  (repeat ((with_reducible refine wpLex_step (fun K hK=>?_));go_simp;first | ((with_reducible refine hK _ _ ?_);clear hK K) | ((with_reducible apply Exists.intro);refine ⟨fun w' hw'=>?_,hK _ _ ?_⟩;(· (have hq:=bcells hw';apply valEq;(· (go_simp;first | done | (with_reducible rfl)));(· ((try go_bits);with_reducible rfl))));clear hK K)))
  refine wpLex_nil (fun _=>?_)
  have hb9:=hb1.trans (g4.mono hb1.size)
  go_wp2_with (fail)
  go_ret
  exact ⟨_,rfl,HS4.out,hb9⟩
theorem ge_nil {N L:Nat} (hN:N ≤ 1024):GE N L []:=⟨rightE_iff.2 ⟨by omega,by simp,List.Pairwise.nil⟩,by simp,acyc_nil N⟩
theorem build_graph (W:World) (n l r:Int) (A:Option Addr) (k d:Nat):(Instr.build 30 #[(0,.agg #[.int .i64 n,.int .i64 l,.int .i64 r]),(1,.slice A k d)]).run Tryz.prog W=.ok (.agg #[.int .i64 n,.int .i64 l,.int .i64 r,.slice A k d,.slice none 0 0]) W:=by kernel_rfl
set_option maxHeartbeats 6400000 in
theorem tnew_ok (N L R:Nat) (hs:List (Int × Int)) (A:Option Addr) (d:Nat) (w:World) (hN:1 ≤ N ∧ N ≤ 1024) (hL:1 ≤ L ∧ L ≤ 16) (hR:1 ≤ R ∧ R ≤ 8) (hok:∀ h ∈ hs,HOK h) (hS:HSl w A (L * R) d hs) :
    Calls Tryz.prog 13 #[.agg #[.int .i64 N,.int .i64 L,.int .i64 R],.slice A (L * R) d] w fun e w'=>∃ H hc,e=.returned (.tuple #[.agg #[.int .i64 N,.int .i64 L,.int .i64 R,.slice H (L * R) hc,.slice none 0 0],.int .i64 0]) ∧ GW w' N L R hs [] H hc none 0 0 ∧ Below w.heap.size w w':=by
  have hlr:L * R ≤ 16 * 8:=Nat.mul_le_mul hL.2 hR.2
  have QR:=hide (fun W H hc (h:GW W N L R hs [] H hc none 0 0)=>sright_wide W h)
  have QC:=hide (fun W (h:HSl W A (L * R) d hs)=>cloneH_ok (hcells hs) [] A (L * R) d W h hcells_one (by omega))
  have HGM:=hide (fun W H hc (h:Sl W [] 2 H (L * R) hc (hcells hs))=>(show GW W N L R hs [] H hc none 0 0 from ⟨hN.1,hN.2,hL.1,hL.2,hR.1,hR.2,hok,h,Sl.nil_ _ _ _,ge_nil (by omega),by omega⟩))
  have hbd:=fun W A k d=>build_graph W N L R A k d
  have B1:=Blk.new (w.alloc (.cells #[.int .i64 N,.int .i64 L,.int .i64 R] 23)) 30 #[.int .i64 0,.int .i64 0,.int .i64 0,.slice none 0 0,.slice none 0 0]
  rw [heap_alloc_size] at B1
  have hb0:=((Below.refl w.heap.size w).alloc (Nat.le_refl _) (.cells #[.int .i64 N,.int .i64 L,.int .i64 R] 23)).alloc (by simp) (.cells #[.int .i64 0,.int .i64 0,.int .i64 0,.slice none 0 0,.slice none 0 0] 30)
  have B0:=(Blk.new w 23 #[.int .i64 N,.int .i64 L,.int .i64 R]).alloc (.cells #[.int .i64 0,.int .i64 0,.int .i64 0,.slice none 0 0,.slice none 0 0] 30)
  have HS0:=hide (show HSl _ A (L * R) d hs from Sl.alloc (Sl.alloc hS (.cells #[.int .i64 N,.int .i64 L,.int .i64 R] 23)) (.cells #[.int .i64 0,.int .i64 0,.int .i64 0,.slice none 0 0,.slice none 0 0] 30))
  unfold gV at QR
  generalize L * R=K at *
  clear hS hok
  go_enter Tryz.func13,Tryz.ntmps13
  go_wp2_with (fail)
  have HB1:=hide B1
  generalize (w.alloc (.cells #[.int .i64 N,.int .i64 L,.int .i64 R] 23)).alloc (.cells #[.int .i64 0,.int .i64 0,.int .i64 0,.slice none 0 0,.slice none 0 0] 30)=W0 at *
  obtain ⟨r0,e0,s0⟩:=B0.facts
  have x0:W0.cell? ⟨w.heap.size,0,none⟩=some (.int .i64 N):=r0 0
  have x1:W0.cell? ⟨w.heap.size,1,none⟩=some (.int .i64 L):=r0 1
  have x2:W0.cell? ⟨w.heap.size,2,none⟩=some (.int .i64 R):=r0 2
  clear r0 B1 B0
  refine wp_region_plan (.ops [0,1] (.two 2 (.ops [3,4,5] .nil) 4 (.ops [2,3,5] .nil))) [2,4,5] (fun w'=>Below (W0).heap.size (W0) w') (by kernel_rfl) (by kernel_rfl) (Below.refl _ _).drew ?_
  simp only [Plan.ops,List.foldr]
  (repeat ((refine wpPlan_step (by rfl) (fun K hK=>?_));go_simp;first | ((with_reducible refine hK _ _ ?_);clear hK K) | ((with_reducible apply Exists.intro);refine ⟨fun w' hw'=>?_,hK _ _ ?_⟩;(· (have hq:=bcells hw';apply valEq;(· (go_simp;first | done | (with_reducible rfl)));(· ((try go_bits);with_reducible rfl))));clear hK K)))
  refine wpPlan_two ?_ ?_
  · ((refine wpPlan_step (by rfl) (fun K hK=>?_));go_simp;refine (QC.out _ HS0.out.drew).mono ?_;rintro e w2 ⟨H,hc,rfl,own,hbx⟩;have g2:=((Below.refl (W0).heap.size W0).drew).trans (hbx.mono ((Below.refl (W0).heap.size W0).drew).size);have HO:=hide (Sl.of_own own (M:=[]) (by simp));refine ⟨_,rfl,g2,hK _ _ ?_⟩;clear hK K hbx)
    (repeat ((refine wpPlan_step (by rfl) (fun K hK=>?_));go_simp;first | ((with_reducible refine hK _ _ ?_);clear hK K) | ((with_reducible apply Exists.intro);refine ⟨fun w' hw'=>?_,hK _ _ ?_⟩;(· (have hq:=bcells hw';apply valEq;(· (go_simp;first | done | (with_reducible rfl)));(· ((try go_bits);with_reducible rfl))));clear hK K)))
    ((refine wpPlan_step (by rfl) (fun K hK=>?_));go_simp;first | (refine hK _ _ ?_;clear hK K) | (refine ⟨?_,hK _ _ ?_⟩;(· (exact g2.alloc g2.size _));clear hK K))
    ((refine wpPlan_step (by rfl) (fun K hK=>?_));go_simp;first | (refine hK _ _ ?_;clear hK K) | (refine ⟨?_,hK _ _ ?_⟩;(· (exact g2.alloc g2.size _));clear hK K))
    refine wpPlan_nil (fun g4=>?_)
    have BW:=Blk.new w2 30 #[.int .i64 N,.int .i64 L,.int .i64 R,.slice H K hc,.slice none 0 0]
    have GW:=(HGM.out _ _ _ HO.out).alloc (.cells #[.int .i64 N,.int .i64 L,.int .i64 R,.slice H K hc,.slice none 0 0] 30)
    have hbw:=hb0.trans (g4.mono hb0.size)
    have BR:=hide (HB1.out.below g4 HB1.out.lt)
    generalize w2.alloc (.cells #[.int .i64 N,.int .i64 L,.int .i64 R,.slice H K hc,.slice none 0 0] 30)=W4 at *
    generalize w2.heap.size=g at *
    clear x0 x1 x2 e0 s0 g2 g4 own HO hb0 HB1 HS0
    (have HGw:=hide GW;have BGg:=BW;clear GW BW QC;obtain ⟨x0,x1,x2,x3,x4,e0,s0⟩:=BGg.f5;go_wp2_with (fail);clear x0 x1 x2 x3 x4 e0 s0;refine (QR.out _ _ _ HGw.out).mono ?_;rintro e w5 ⟨rfl,b5⟩;have hb5:=hbw.trans (b5.mono hbw.size);have BG5:=BGg.below b5 BGg.lt;have B15:=BR.out.below b5 BR.out.lt;have HG5:=hide (HGw.out.below b5);clear b5 hbw BGg BR HGw;obtain ⟨x0,x1,x2,x3,x4,e0,s0⟩:=BG5.f5;(obtain ⟨q0,q1,q2,q3,q4,eb,sb⟩:=(B15).f5;have Z:=hide (five_z (B15) (.int .i64 N) (.int .i64 L) (.int .i64 R) (.slice H K hc) (.slice none 0 0));go_wp2_with (fail);refine bodyPost_ret (v:=.tuple #[.agg #[.int .i64 N,.int .i64 L,.int .i64 R,.slice H K hc,.slice none 0 0],.int .i64 0]) (by simp [results,Tryz.results13,go_sem,Z.out.1,Z.out.2.1,Z.out.2.2.1,Z.out.2.2.2.1,Z.out.2.2.2.2]) rfl ?_);exact ⟨H,hc,rfl,HG5.out.set5 B15 (gcells_z N) _ _ _ _ _,below_set5 hb5 (by simp) _ _ _ _ _⟩)
  · have gA:=(Below.refl (W0).heap.size W0).drew.alloc (Nat.le_refl _) (.cells #[.int .i64 0,.int .i64 0,.int .i64 0,.slice none 0 0,.slice none 0 0] 30)
    have BA:Blk (W0.drew.alloc (.cells #[.int .i64 0,.int .i64 0,.int .i64 0,.slice none 0 0,.slice none 0 0] 30)) W0.heap.size 30 #[.int .i64 0,.int .i64 0,.int .i64 0,.slice none 0 0,.slice none 0 0]:=Blk.new W0.drew _ _
    ((refine wpPlan_step (by rfl) (fun K hK=>?_));go_simp;first | (refine hK _ _ ?_;clear hK K) | (refine ⟨?_,hK _ _ ?_⟩;(· (exact gA));clear hK K))
    ((refine wpPlan_step (by rfl) (fun K hK=>?_));go_simp;refine (QC.out _ (Sl.alloc HS0.out.drew _)).mono ?_;rintro e w2 ⟨H,hc,rfl,own,hbx⟩;have g2:=(gA).trans (hbx.mono (gA).size);have HO:=hide (Sl.of_own own (M:=[]) (by simp));have BP:=BA.below hbx BA.lt;refine ⟨_,rfl,g2,hK _ _ ?_⟩;clear hK K hbx)
    (repeat ((refine wpPlan_step (by rfl) (fun K hK=>?_));go_simp;first | ((with_reducible refine hK _ _ ?_);clear hK K) | ((with_reducible apply Exists.intro);refine ⟨fun w' hw'=>?_,hK _ _ ?_⟩;(· (have hq:=bcells hw';apply valEq;(· (go_simp;first | done | (with_reducible rfl)));(· ((try go_bits);with_reducible rfl))));clear hK K)))
    obtain ⟨rq,eq1,sq1⟩:=BP.facts
    have d0:=rq 0
    have d1:=rq 1
    have d2:=rq 2
    have d3:=rq 3
    have d4:=rq 4
    clear rq
    ((refine wpPlan_step (by rfl) (fun K hK=>?_));go_simp;first | (refine hK _ _ ?_;clear hK K) | (refine ⟨?_,hK _ _ ?_⟩;(· (exact below_set5 g2 (Nat.le_refl _) _ _ _ _ _));clear hK K))
    refine wpPlan_nil (fun g4=>?_)
    have BW:=Blk.set5 BP (.int .i64 N) (.int .i64 L) (.int .i64 R) (.slice H K hc) (.slice none 0 0)
    have GW:=(HGM.out _ _ _ HO.out).set5 BP (gcells_z N) (.int .i64 N) (.int .i64 L) (.int .i64 R) (.slice H K hc) (.slice none 0 0)
    have hbw:=hb0.trans (g4.mono hb0.size)
    have BR:=hide (HB1.out.below g4 HB1.out.lt)
    generalize (((((w2.setCell ⟨W0.heap.size,0,none⟩ (Value.int .i64 N)).setCell ⟨W0.heap.size,1,none⟩ (Value.int .i64 L)).setCell ⟨W0.heap.size,2,none⟩ (Value.int .i64 R)).setCell ⟨W0.heap.size,3,none⟩ (Value.slice H K hc)).setCell ⟨W0.heap.size,4,none⟩ (Value.slice none 0 0))=W4 at *
    clear x0 x1 x2 e0 s0 g2 g4 own HO hb0 HB1 HS0 d0 d1 d2 d3 d4 eq1 sq1 BP BA gA
    generalize W0.heap.size=g at *
    (have HGw:=hide GW;have BGg:=BW;clear GW BW QC;obtain ⟨x0,x1,x2,x3,x4,e0,s0⟩:=BGg.f5;go_wp2_with (fail);clear x0 x1 x2 x3 x4 e0 s0;refine (QR.out _ _ _ HGw.out).mono ?_;rintro e w5 ⟨rfl,b5⟩;have hb5:=hbw.trans (b5.mono hbw.size);have BG5:=BGg.below b5 BGg.lt;have B15:=BR.out.below b5 BR.out.lt;have HG5:=hide (HGw.out.below b5);clear b5 hbw BGg BR HGw;obtain ⟨x0,x1,x2,x3,x4,e0,s0⟩:=BG5.f5;(obtain ⟨q0,q1,q2,q3,q4,eb,sb⟩:=(B15).f5;have Z:=hide (five_z (B15) (.int .i64 N) (.int .i64 L) (.int .i64 R) (.slice H K hc) (.slice none 0 0));go_wp2_with (fail);refine bodyPost_ret (v:=.tuple #[.agg #[.int .i64 N,.int .i64 L,.int .i64 R,.slice H K hc,.slice none 0 0],.int .i64 0]) (by simp [results,Tryz.results13,go_sem,Z.out.1,Z.out.2.1,Z.out.2.2.1,Z.out.2.2.2.1,Z.out.2.2.2.2]) rfl ?_);exact ⟨H,hc,rfl,HG5.out.set5 B15 (gcells_z N) _ _ _ _ _,below_set5 hb5 (by simp) _ _ _ _ _⟩)
end
end Go.Proofs.YtppblcbgkadldaaGreatDoor
