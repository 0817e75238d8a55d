/-
  A part of the proof that the law TopForest returns true for every input and leaves its arguments as they were: Keys, CmpP, InsP.
-/
import Derived.Test.YtppblcbgkadldaaGreatDoorZ02
import Derived.Test.YtppblcbgkadldaaGreatDoorZ03
import Derived.Test.YtppblcbgkadldaaGreatDoorZ10
import Derived.Test.YtppblcbgkadldaaGreatDoorZ22
import Derived.Test.YtppblcbgkadldaaGreatDoorZ23
import Derived.Test.YtppblcbgkadldaaGreatDoorZ27
import Derived.Test.YtppblcbgkadldaaGreatDoorZ28
import Derived.Test.YtppblcbgkadldaaGreatDoorZ29
import Derived.BigRegion
import Derived.Laws.OwnMore
set_option linter.all false
namespace Go.Proofs.YtppblcbgkadldaaGreatDoor
open Go Go.RowKit
set_option maxRecDepth 100000
attribute [local go_sem] Heavy heavyUpon
section
variable {w w':World} {N L R:Nat} {hs:List (Int × Int)} {es:List E3} {ls:List S2} {H:Option Addr} {hc:Nat} {E:Option Addr} {m c:Nat} {S:Option Addr} {d:Nat}
def RetK (Kb:List Nat) (l:List Int) (w:World) (e:Ending) (w':World):Prop:=∃ A k l',e=.returned (.slice A l'.length k) ∧ Sl w' Kb 1 A l'.length k (ints .u64 l') ∧ l'.Perm l ∧ l'.Pairwise (· ≤ ·) ∧ Below w.heap.size w w'
set_option maxHeartbeats 6400000 in
theorem keys_ok (Kb:List Nat) (vs:List Nat) (hv:∀ v ∈ vs,v < N) (Av:Option Addr) (cv:Nat) (w:World) (hS:SM w N L R hs es ls H hc E m c S d) (hV:Sl w [] 1 Av vs.length cv (ints .i64 (natL vs))) (hn:vs.length ≤ 12) (hKb:∀ k ∈ Kb,k < w.heap.size) :
    Calls Tryz.prog 45 #[sV N L R H hc E m c S d,.slice Av vs.length cv] w (RetK Kb (keysN ls vs) w):=by
  obtain ⟨ie,hie,hze,he1,he2⟩:=info_parts u64_info
  have B0:=Blk.new w 33 #[.int .i64 N,.int .i64 L,.int .i64 R,.slice H (L * R) hc,.slice E m c,.slice S N d]
  have hb0:=(Below.refl w.heap.size w).alloc (Nat.le_refl _) (.cells #[.int .i64 N,.int .i64 L,.int .i64 R,.slice H (L * R) hc,.slice E m c,.slice S N d] 33)
  have HS0:=hide (hS.alloc (.cells #[.int .i64 N,.int .i64 L,.int .i64 R,.slice H (L * R) hc,.slice E m c,.slice S N d] 33))
  have HV0:=hide (show Sl _ [] 1 Av vs.length cv (ints .i64 (natL vs)) from Sl.alloc hV (.cells #[.int .i64 N,.int .i64 L,.int .i64 R,.slice H (L * R) hc,.slice E m c,.slice S N d] 33))
  have HSL:=hide (SSl.length hS.s)
  have HVV:=hide hv
  have hNN:=hS.g.n2
  unfold sV
  generalize L * R=K at *
  have HKB:=hide hKb
  clear hS hV hv hKb
  go_enter Tryz.func45,Tryz.ntmps45
  go_wp2_with (fail)
  have HB0:=hide B0
  clear B0
  generalize w.alloc (.cells #[.int .i64 N,.int .i64 L,.int .i64 R,.slice H K hc,.slice E m c,.slice S N d] 33)=w1 at *
  have O0:=hide (World.ownsRow_nil w1 w1.heap.size 43 1)
  have hz1:=hide hb0.size
  go_loopw [5,10] (fun a i wr=>∃ (k y:Nat) (Ao:Option Addr) (co:Nat),k ≤ vs.length ∧ i=.int .i64 k ∧ a=.slice Ao y co ∧ Hid (y=(keysN ls (vs.take k)).length) ∧ Below w.heap.size w wr ∧ Hid (Below w1.heap.size w1 wr) ∧ Hid (wr.ownsRow w1.heap.size 43 1 (.slice Ao y co) y (ints .u64 (keysN ls (vs.take k))))) (fun _ i _=>vs.length - (intOf i).toNat)
  case atStart=>exact ⟨0,0,none,0,Nat.zero_le _,rfl,rfl,hide rfl,hb0,hide (Below.refl _ _),O0⟩
  case round =>
    clear O0 hb0
    obtain ⟨k,y,Ao,co,hk,rfl,rfl,HY,hbr,HBB,HO⟩:=hrel
    by_cases hlt:k < vs.length
    · have HSr:=HS0.out.below HBB.out
      obtain ⟨ad,rfl,had,_,hc0⟩:=(HV0.out.below HBB.out).at_ (by omega)
      have hnl:k < (natL vs).length:=by simpa [natL] using hlt
      have c0:=hc0 _ _ (ints_get hnl)
      have hvk:=HVV.out _ (List.getElem_mem hlt)
      have e0:(natL vs)[k]=((vs[k]:Nat):Int):=by simp [natL]
      rw [e0] at c0
      have HK:=hide (keysN_step ls vs hlt)
      have hyl:y ≤ k:=by
        have h1:=HY.out
        have h2:=keysN_len ls (vs.take k)
        rw [List.length_take] at h2
        omega
      generalize vs[k]=v at *
      have hvl:v < ls.length:=by have:=HSL.out;omega
      obtain ⟨a2,rfl,ha2,d0,d1⟩:=SSl.get HSr.s hvl
      have hu:usedN ls v=ls[v].1:=by simp [usedN,List.getD_eq_getElem?_getD,List.getElem?_eq_getElem hvl]
      have hk2:keyN ls v=ls[v].2:=by simp [keyN,List.getD_eq_getElem?_getD,List.getElem?_eq_getElem hvl]
      rw [← hu] at d0
      rw [← hk2] at d1
      generalize keyN ls v=key at *
      have BR:=HB0.out.below HBB.out HB0.out.lt
      obtain ⟨r0,e0',s0⟩:=BR.facts
      have x5:wr.cell? ⟨w.heap.size,5,none⟩=some (.slice (some a2) N d):=r0 5
      clear r0 hc0 e0 hu hk2 BR
      generalize usedN ls v=b at *
      cases b with
      | true =>
        have HF:=hide (show keysN ls (vs.take (k + 1))=keysN ls (vs.take k) ++ [key] by rw [HK.out,if_pos rfl])
        clear HK HSr
        have szr:=hbr.size
        have szw:=HBB.out.size
        (go_wp2_with (at_builtin;refine stopAt ?_);refine stopGo ?_)
        have N2:=u1_new wr key
        have O2:=HO.out.alloc (.cells #[.int .u64 key] 43)
        have hb3:=hbr.alloc hbr.size (.cells #[.int .u64 key] 43)
        have HB3:=hide (HBB.out.alloc HBB.out.size (.cells #[.int .u64 key] 43))
        refine wpList_append_sl _ rfl (.tmp 20) (.tmp 27) _ rfl w1.heap.size 43 ie _ 1 8 Tryz.underlying24 hie hze he1 he2 rfl (by omega) (.slice Ao y co) y _ rfl O2 [] _ 1 1 (ints .u64 [key]) rfl N2 ints_one (by simp only [maxLen];omega) (by omega) (by first | omega | (simp;omega)) ?_
        intro A5 c5 w5 own5 g5 _
        have hg5:=below_grown O2 g5 (Nat.le_refl _) HB3.out.size
        have HB5:=hide (HB3.out.trans hg5)
        have hb5:=hb3.trans (hg5.mono hz1.out)
        rw [← ints_append,← HF.out] at own5
        have OW5:=hide own5
        have HY5:=hide (show y + 1=(keysN ls (vs.take (k + 1))).length by rw [HF.out,List.length_append,HY.out];rfl)
        clear own5 g5 hg5 O2 N2 c0 d0 d1 x5 e0' s0 HB3 hb3 HBB hbr
        go_wp2_with (fail)
        exact ⟨⟨k + 1,y + 1,A5,c5,by omega,by go_num,rfl,HY5,hb5,HB5,OW5⟩,by simp [intOf];omega⟩
      | false =>
        have HF:=hide (show keysN ls (vs.take (k + 1))=keysN ls (vs.take k) by rw [HK.out,if_neg (by decide),List.append_nil])
        clear HK HSr
        go_wp2_with (fail)
        exact ⟨⟨k + 1,y,Ao,co,by omega,by go_num,rfl,hide (by rw [HF.out];exact HY.out),hbr,HBB,hide (by rw [HF.out];exact HO.out)⟩,by simp [intOf];omega⟩
    · obtain rfl:k=vs.length:=by omega
      have HTA:=hide (show keysN ls (vs.take vs.length)=keysN ls vs by rw [List.take_length])
      have HYL:=hide (show y ≤ 12 by have h1:=HY.out;have h2:=keysN_len ls vs;rw [HTA.out] at h1;omega)
      rw [HTA.out] at HO HY
      by_cases hy:y=0
      · subst hy
        have HE:=hide (List.eq_nil_of_length_eq_zero HY.out.symm)
        go_wp2_with (fail)
        refine (sort_nil _ _ _).mono ?_
        rintro e w9 ⟨rfl,rfl⟩
        go_wp2_with (fail)
        go_ret
        rw [HE.out]
        exact ⟨Ao,co,[],rfl,own_sl (by have:=HO.out;rw [HE.out] at this;exact this) Kb (fun k hk=>Nat.lt_of_lt_of_le (HKB.out k hk) hz1.out),List.Perm.refl _,List.Pairwise.nil,hbr⟩
      · obtain ⟨g,cap,hv2,hg1,hg2⟩:=HO.out.form (by omega)
        injection hv2 with hv1 hv2 hv3
        subst hv1 hv3
        have HU:=hide (show URow wr w1.heap.size g y co (keysN ls vs) from ⟨HO.out,HY.out.symm⟩)
        clear HO
        go_wp2_with (fail)
        refine (sort_u w1.heap.size g y co _ _ HU.out hg1 hg2 HYL.out).mono ?_
        rintro e w9 ⟨l',rfl,U9,P9,S9,b9⟩
        have hb9:=hbr.trans (b9.mono hz1.out)
        have HU9:=hide U9
        have HP9:=hide (And.intro P9 (sorted_pair (by rw [U9.2];exact S9)))
        clear U9 P9 S9 b9
        go_wp2_with (fail)
        go_ret
        exact ⟨some ⟨g,0,none⟩,co,l',by rw [HU9.out.2];rfl,by rw [HU9.out.2];exact own_sl HU9.out.1 Kb (fun k hk=>Nat.lt_of_lt_of_le (HKB.out k hk) hz1.out),HP9.out.1,HP9.out.2,hb9⟩
end
end Go.Proofs.YtppblcbgkadldaaGreatDoor
namespace Go.Proofs.YtppblcbgkadldaaGreatDoor
open Go Go.RowKit
set_option maxRecDepth 100000
attribute [local go_sem] Heavy heavyUpon
def RetI (w:World) (e:Ending) (w':World):Prop:=∃ r:Int,e=.returned (.int .i64 r) ∧ Below w.heap.size w w'
set_option maxHeartbeats 1600000 in
theorem or_any (l:List Int) (A:Option Addr) (n c:Nat) (w:World) (hS:Sl w [] 1 A n c (ints .i64 l)) :
    Calls Tryz.prog 81 #[.slice A n c] w (RetI w):=by
  have HL:=hide (show l.length=n by have:=hS.len;simpa using this)
  have hcap:n ≤ maxLen:=Nat.le_trans hS.le hS.cap
  unfold maxLen at hcap
  go_enter Tryz.func81,Tryz.ntmps81
  go_wp2_with (fail)
  go_loopw [8] (fun i wr=>∃ j:Nat,j ≤ n ∧ i=.int .i64 j ∧ Below w.heap.size w wr) (fun i _=>n - (intOf i).toNat)
  case atStart=>exact ⟨0,Nat.zero_le _,rfl,Below.refl _ _⟩
  case round =>
    obtain ⟨j,hj,rfl,hbr⟩:=hrel
    have hSr:=hS.below hbr
    by_cases hlt:j < n
    · have hlj:j < l.length:=by have:=HL.out;omega
      obtain ⟨a1,rfl,_,_,hc1⟩:=hSr.at_ (by omega)
      have c1:=hc1 _ _ (ints_get hlj)
      clear hc1
      generalize l[j]=x at *
      by_cases hx:x=0
      · subst hx
        go_wp2_with (fail)
        exact ⟨⟨j + 1,by omega,by go_num,hbr⟩,by simp [intOf];omega⟩
      · go_wp2_with (fail)
        go_ret
        exact ⟨x,rfl,hbr⟩
    · obtain rfl:j=n:=by omega
      go_wp2_with (fail)
      go_ret
      exact ⟨0,rfl,hbr⟩
def cmpP:Value:=.func (.func 80) #[] #[]
set_option maxHeartbeats 3200000 in
theorem cmpp_any (a b p q:Int) (w:World):Calls Tryz.prog 80 #[.agg #[.int .u64 a,.int .u64 b],.agg #[.int .u64 p,.int .u64 q]] w (RetI w):=by
  have QC:=hide compare_u
  have B0:=Blk.new w 51 #[.int .u64 a,.int .u64 b]
  have hb0:=(Below.refl w.heap.size w).alloc (Nat.le_refl _) (.cells #[.int .u64 a,.int .u64 b] 51)
  have B0':=B0.alloc (.cells #[.int .u64 p,.int .u64 q] 51)
  have B1:=Blk.new (w.alloc (.cells #[.int .u64 a,.int .u64 b] 51)) 51 #[.int .u64 p,.int .u64 q]
  rw [heap_alloc_size] at B1
  have hb1:=hb0.alloc (by simp) (.cells #[.int .u64 p,.int .u64 q] 51)
  clear B0 hb0
  go_enter Tryz.func80,Tryz.ntmps80
  go_wp2_with (fail)
  generalize (w.alloc (.cells #[.int .u64 a,.int .u64 b] 51)).alloc (.cells #[.int .u64 p,.int .u64 q] 51)=W0 at *
  obtain ⟨r0,e0,s0⟩:=B0'.facts
  obtain ⟨r1,e1,s1⟩:=B1.facts
  have x0:W0.cell? ⟨w.heap.size,0,none⟩=some (.int .u64 a):=r0 0
  have x1:W0.cell? ⟨w.heap.size,1,none⟩=some (.int .u64 b):=r0 1
  have y0:W0.cell? ⟨w.heap.size + 1,0,none⟩=some (.int .u64 p):=r1 0
  have y1:W0.cell? ⟨w.heap.size + 1,1,none⟩=some (.int .u64 q):=r1 1
  clear r0 r1
  refine wp_region_lexD [4,9,10,11] (fun w'=>Below (W0).heap.size (W0) w') (by kernel_rfl) (by kernel_rfl) (Below.refl _ _).drew ?_
  (repeat ((with_reducible refine wpLex_step (fun K hK=>?_));go_simp;first | ((with_reducible refine hK _ _ ?_);clear hK K) | ((with_reducible apply Exists.intro);refine ⟨fun w' hw'=>?_,hK _ _ ?_⟩;(· (have hq:=bcells hw';apply valEq;(· (go_simp;first | done | (with_reducible rfl)));(· ((try go_bits);with_reducible rfl))));clear hK K)))
  ((with_reducible refine wpLex_step (fun K hK=>?_));go_simp;refine (QC.out a p _).mono ?_;rintro e w3 ⟨r3,rfl,_,_,hbx⟩;have g3:=((Below.refl (W0).heap.size W0).drew).trans (hbx.mono ((Below.refl (W0).heap.size W0).drew).size);skip;refine ⟨_,rfl,g3,hK _ _ ?_⟩;clear hK K hbx)
  (repeat ((with_reducible refine wpLex_step (fun K hK=>?_));go_simp;first | ((with_reducible refine hK _ _ ?_);clear hK K) | ((with_reducible apply Exists.intro);refine ⟨fun w' hw'=>?_,hK _ _ ?_⟩;(· (have hq:=bcells hw';apply valEq;(· (go_simp;first | done | (with_reducible rfl)));(· ((try go_bits);with_reducible rfl))));clear hK K)))
  ((with_reducible refine wpLex_step (fun K hK=>?_));go_simp;refine (QC.out b q _).mono ?_;rintro e w4 ⟨r4,rfl,_,_,hbx⟩;have g4:=(g3).trans (hbx.mono (g3).size);skip;refine ⟨_,rfl,g4,hK _ _ ?_⟩;clear hK K hbx)
  (repeat ((with_reducible refine wpLex_step (fun K hK=>?_));go_simp;first | ((with_reducible refine hK _ _ ?_);clear hK K) | ((with_reducible apply Exists.intro);refine ⟨fun w' hw'=>?_,hK _ _ ?_⟩;(· (have hq:=bcells hw';apply valEq;(· (go_simp;first | done | (with_reducible rfl)));(· ((try go_bits);with_reducible rfl))));clear hK K)))
  (with_reducible refine wpLex_step (fun K hK=>?_))
  go_simp
  refine ⟨g4.alloc g4.size (.cells #[.int .i64 r3,.int .i64 r4] 3),hK _ _ ?_⟩
  clear hK K
  have N4:=hide (show Sl (w4.alloc (.cells #[.int .i64 r3,.int .i64 r4] 3)) [] 1 (some ⟨w4.heap.size,0,none⟩) 2 2 (ints .i64 [r3,r4]) from Sl.of_blk (Blk.new w4 3 #[.int .i64 r3,.int .i64 r4]) rfl (fun x hx=>by match x,hx with | 0,_ | 1,_=>rfl) (by simp) (by unfold maxLen;omega))
  have g5:=g4.alloc g4.size (.cells #[.int .i64 r3,.int .i64 r4] 3)
  generalize w4.alloc (.cells #[.int .i64 r3,.int .i64 r4] 3)=w5 at *
  ((with_reducible refine wpLex_step (fun K hK=>?_));go_simp;refine (or_any _ _ _ _ _ N4.out).mono ?_;rintro e w6 ⟨r6,rfl,hbx⟩;have g6:=(g5).trans (hbx.mono (g5).size);skip;refine ⟨_,rfl,g6,hK _ _ ?_⟩;clear hK K hbx)
  (repeat ((with_reducible refine wpLex_step (fun K hK=>?_));go_simp;first | ((with_reducible refine hK _ _ ?_);clear hK K) | ((with_reducible apply Exists.intro);refine ⟨fun w' hw'=>?_,hK _ _ ?_⟩;(· (have hq:=bcells hw';apply valEq;(· (go_simp;first | done | (with_reducible rfl)));(· ((try go_bits);with_reducible rfl))));clear hK K)))
  refine wpLex_nil (fun _=>?_)
  have hb9:=hb1.trans (g6.mono hb1.size)
  go_wp2_with (fail)
  go_ret
  exact ⟨r6,rfl,hb9⟩
end Go.Proofs.YtppblcbgkadldaaGreatDoor
namespace Go.Proofs.YtppblcbgkadldaaGreatDoor
open Go Go.RowKit
set_option maxRecDepth 100000
attribute [local go_sem] Heavy heavyUpon
def PRow (W:World) (B g n d:Nat) (l:List (Int × Int)):Prop:=W.ownsRow B 51 2 (.slice (some ⟨g,0,none⟩) n d) n (hcells l) ∧ l.length=n
theorem hcells_lset:∀ (l:List (Int × Int)) (j:Nat) (a b:Int),((hcells l).set (j * 2) (.int .u64 a)).set (j * 2 + 1) (.int .u64 b)=hcells (l.set j (a,b))
  | [],_,_,_=>rfl
  | x :: l,0,a,b=>rfl
  | x :: l,j + 1,a,b=>by
    have e:hcells (x :: l)=.int .u64 x.1 :: .int .u64 x.2 :: hcells l:=rfl
    have e2:hcells ((x :: l).set (j + 1) (a,b))=.int .u64 x.1 :: .int .u64 x.2 :: hcells (l.set j (a,b)):=rfl
    rw [e,e2,show (j + 1) * 2=j * 2 + 1 + 1 by omega,List.set_cons_succ,List.set_cons_succ,List.set_cons_succ,List.set_cons_succ,hcells_lset]
section
variable {W:World} {B g n d:Nat} {l:List (Int × Int)}
theorem PRow.got (h:PRow W B g n d l) {j:Nat} (hj:j < n):W.cell? ⟨g,j * 2,none⟩=some (.int .u64 (l.getD j (0,0)).1) ∧ W.cell? ⟨g,j * 2 + 1,none⟩=some (.int .u64 (l.getD j (0,0)).2) ∧ W.frozen? ⟨g,j * 2,none⟩=false ∧ W.frozen? ⟨g,j * 2 + 1,none⟩=false:=by
  have hl:j < l.length:=by have:=h.2;omega
  have c0:=h.1.cellAt (j * 2) (by omega)
  have c1:=h.1.cellAt (j * 2 + 1) (by omega)
  rw [hcells_get0 l j hl] at c0
  rw [hcells_get1 l j hl] at c1
  rw [List.getD_eq_getElem?_getD,List.getElem?_eq_getElem hl]
  exact ⟨c0,c1,h.1.frozenAt _,h.1.frozenAt _⟩
theorem PRow.put (h:PRow W B g n d l) (j:Nat) (a b:Int):PRow ((W.setCell ⟨g,j * 2,none⟩ (.int .u64 a)).setCell ⟨g,j * 2 + 1,none⟩ (.int .u64 b)) B g n d (l.set j (a,b)):=by
  refine ⟨?_,by rw [List.length_set];exact h.2⟩
  have h1:=((h.1.stored (j * 2) (.int .u64 a)).1.stored (j * 2 + 1) (.int .u64 b)).1
  rw [hcells_lset] at h1
  exact h1
theorem PRow.below {W':World} (h:PRow W B g n d l) (hb:Below W.heap.size W W'):PRow W' B g n d l:=⟨own_below h.1 hb,h.2⟩
end
theorem swap_perm {α:Type} {l:List α} {j k:Nat} {x y z:α} (hj:j < l.length) (hk:k < l.length) (hx:l.getD j z=x) (hy:l.getD k z=y):((l.set j y).set k x).Perm l:=by
  rw [List.getD_eq_getElem?_getD,List.getElem?_eq_getElem hj,Option.getD_some] at hx
  rw [List.getD_eq_getElem?_getD,List.getElem?_eq_getElem hk,Option.getD_some] at hy
  rw [← hx,← hy]
  exact List.set_set_perm hj hk
set_option maxRecDepth 100000 in
set_option maxHeartbeats 6400000 in
theorem insort_p (B g n d:Nat) (l:List (Int × Int)) (w:World) (hR:PRow w B g n d l) (hB:B ≤ g) (hg:g < w.heap.size) (hn:n ≤ 1000) :
    Calls Tryz.prog 146 #[.slice (some ⟨g,0,none⟩) n d,.int .i64 0,.int .i64 n,cmpP] w fun e w'=>∃ l',e=.returned (.tuple #[]) ∧ PRow w' B g n d l' ∧ l'.Perm l ∧ Below B w w':=by
  have QC:=hide cmpp_any
  have HR:=hide hR
  clear hR
  unfold cmpP
  go_enter Tryz.func146,Tryz.ntmps146
  go_wp2_with (fail)
  go_loopw [8] (fun u wr=>∃ (i:Nat) (l':List (Int × Int)),u=.int .i64 i ∧ 1 ≤ i ∧ i ≤ n + 1 ∧ Hid (PRow wr B g n d l') ∧ Hid (l'.Perm l) ∧ Below B w wr) (fun u _=>n + 1 - (intOf u).toNat)
  case atStart=>exact ⟨1,l,by go_num,by omega,by omega,HR,hide (List.Perm.refl _),Below.refl _ _⟩
  case round =>
    obtain ⟨i,l1,rfl,hi1,hin,HU,HP,hbr⟩:=hrel
    by_cases hlt:i < n
    · go_wp2_with (fail)
      go_loopw [9] (fun u wr=>∃ (j:Nat) (l':List (Int × Int)),u=.int .i64 j ∧ j ≤ i ∧ Hid (PRow wr B g n d l') ∧ Hid (l'.Perm l) ∧ Below B w wr) (fun u _=>(intOf u).toNat)
      case atStart=>exact ⟨i,l1,rfl,Nat.le_refl _,HU,HP,hbr⟩
      case round =>
        clear HU HP hbr
        obtain ⟨j,l2,rfl,hji,HU,HH,hbr⟩:=hrel
        have szr:=hbr.size
        have hgr:g < wr.heap.size:=Nat.lt_of_lt_of_le hg szr
        by_cases hj0:0 < j
        · obtain ⟨k,hk⟩:∃ k,k=j - 1:=⟨_,rfl⟩
          have e1:(j:Int) - 1=(k:Int):=by omega
          have hjn:j < n:=by omega
          have hkn:k < n:=by omega
          have hg0:(0:Int) < (j:Int):=by omega
          obtain ⟨c0,c1,fz0,fz1⟩:=HU.out.got hjn
          obtain ⟨d0,d1,fy0,fy1⟩:=HU.out.got hkn
          have HX:=hide (And.intro (show j < l2.length by have:=HU.out.2;omega) (show k < l2.length by have:=HU.out.2;omega))
          have HXX:=hide (show ∀ x y,l2.getD j (0,0)=x → l2.getD k (0,0)=y → ((l2.set j y).set k x).Perm l from fun x y h1 h2=>(swap_perm HX.out.1 HX.out.2 h1 h2).trans HH.out)
          have HSW:=hide (show ∀ W (x0 x1 y0 y1:Int),PRow W B g n d l2 → PRow ((((W.setCell ⟨g,j * 2,none⟩ (.int .u64 y0)).setCell ⟨g,j * 2 + 1,none⟩ (.int .u64 y1)).setCell ⟨g,k * 2,none⟩ (.int .u64 x0)).setCell ⟨g,k * 2 + 1,none⟩ (.int .u64 x1)) B g n d ((l2.set j (y0,y1)).set k (x0,x1)) from fun W x0 x1 y0 y1 h=>(h.put j y0 y1).put k x0 x1)
          obtain ⟨x,hx⟩:∃ x,l2.getD j (0,0)=x:=⟨_,rfl⟩
          obtain ⟨y,hy⟩:∃ y,l2.getD k (0,0)=y:=⟨_,rfl⟩
          have HPM:=hide (HXX.out x y hx hy)
          have HG:=hide (And.intro hx hy)
          rw [hx] at c0 c1
          rw [hy] at d0 d1
          obtain ⟨x0,x1⟩:=x
          obtain ⟨y0,y1⟩:=y
          simp only [] at c0 c1 d0 d1
          clear hx hy HX HXX
          have HK:=hide hk
          clear hk
          go_wp2_with (fail)
          refine wp_region_lexD [14] (fun w'=>Below (wr).heap.size (wr) w') (by kernel_rfl) (by kernel_rfl) (Below.refl _ _).drew ?_
          (repeat ((with_reducible refine wpLex_step (fun K hK=>?_));go_simp;first | ((with_reducible refine hK _ _ ?_);clear hK K) | ((with_reducible apply Exists.intro);refine ⟨fun w' hw'=>?_,hK _ _ ?_⟩;(· (have hq:=bcells hw';apply valEq;(· (go_simp;first | done | (with_reducible rfl)));(· ((try go_bits);with_reducible rfl))));clear hK K)))
          ((with_reducible refine wpLex_step (fun K hK=>?_));go_simp;refine (QC.out x0 x1 y0 y1 _).mono ?_;rintro e w3 ⟨r3,rfl,hbx⟩;have g3:=((Below.refl (wr).heap.size wr).drew).trans (hbx.mono ((Below.refl (wr).heap.size wr).drew).size);skip;refine ⟨_,rfl,g3,hK _ _ ?_⟩;clear hK K hbx)
          (repeat ((with_reducible refine wpLex_step (fun K hK=>?_));go_simp;first | ((with_reducible refine hK _ _ ?_);clear hK K) | ((with_reducible apply Exists.intro);refine ⟨fun w' hw'=>?_,hK _ _ ?_⟩;(· (have hq:=bcells hw';apply valEq;(· (go_simp;first | done | (with_reducible rfl)));(· ((try go_bits);with_reducible rfl))));clear hK K)))
          refine wpLex_nil (fun _=>?_)
          have HU3:=hide (show PRow w3 B g n d l2 from HU.out.below g3)
          have hb3:=hbr.trans (g3.mono (show B ≤ wr.heap.size by omega))
          by_cases hr:r3 < 0
          · obtain ⟨p0,p1,z0,z1⟩:=HU3.out.got hjn
            obtain ⟨q0,q1,u0,u1⟩:=HU3.out.got hkn
            rw [HG.out.1] at p0 p1
            rw [HG.out.2] at q0 q1
            simp only [] at p0 p1 q0 q1
            have p0':w3.drew.cell? ⟨g,j * 2,none⟩=some (.int .u64 x0):=p0
            have p1':w3.drew.cell? ⟨g,j * 2 + 1,none⟩=some (.int .u64 x1):=p1
            have q0':w3.drew.cell? ⟨g,k * 2,none⟩=some (.int .u64 y0):=q0
            have q1':w3.drew.cell? ⟨g,k * 2 + 1,none⟩=some (.int .u64 y1):=q1
            have z0':w3.drew.frozen? ⟨g,j * 2,none⟩=false:=z0
            have z1':w3.drew.frozen? ⟨g,j * 2 + 1,none⟩=false:=z1
            have u0':w3.drew.frozen? ⟨g,k * 2,none⟩=false:=u0
            have u1':w3.drew.frozen? ⟨g,k * 2 + 1,none⟩=false:=u1
            have HU4:=hide (show PRow ((((w3.setCell ⟨g,j * 2,none⟩ (.int .u64 y0)).setCell ⟨g,j * 2 + 1,none⟩ (.int .u64 y1)).setCell ⟨g,k * 2,none⟩ (.int .u64 x0)).setCell ⟨g,k * 2 + 1,none⟩ (.int .u64 x1)).drew B g n d ((l2.set j (y0,y1)).set k (x0,x1)) from HSW.out w3 x0 x1 y0 y1 HU3.out)
            have hb4:=hide ((((hb3.setCell (p:=⟨g,j * 2,none⟩) hB (.int .u64 y0)).setCell (p:=⟨g,j * 2 + 1,none⟩) hB (.int .u64 y1)).setCell (p:=⟨g,k * 2,none⟩) hB (.int .u64 x0)).setCell (p:=⟨g,k * 2 + 1,none⟩) hB (.int .u64 x1)).drew
            clear c0 c1 d0 d1 fz0 fz1 fy0 fy1 HU HSW hb3 g3 hbr szr hgr HU3 HG HH
            go_wp2_with (fail)
            go_big_region
            all_goals go_wp2
            exact ⟨⟨k,_,rfl,by have:=HK.out;omega,HU4,HPM,hb4.out⟩,by have:=HK.out;simp [intOf];omega⟩
          · have HL2:=hide HH.out
            clear HU HSW g3 hbr szr hgr HG HH HPM c0 c1 d0 d1
            go_wp2_with (fail)
            exact ⟨⟨i + 1,l2,by go_num,by omega,by omega,HU3,HL2,hb3⟩,by simp [intOf];omega⟩
        · obtain rfl:j=0:=by omega
          go_wp2_with (fail)
          refine wp_region_lexD [14] (fun w'=>Below (wr).heap.size (wr) w') (by kernel_rfl) (by kernel_rfl) (Below.refl _ _).drew ?_
          (repeat ((with_reducible refine wpLex_step (fun K hK=>?_));go_simp;first | ((with_reducible refine hK _ _ ?_);clear hK K) | ((with_reducible apply Exists.intro);refine ⟨fun w' hw'=>?_,hK _ _ ?_⟩;(· (have hq:=bcells hw';apply valEq;(· (go_simp;first | done | (with_reducible rfl)));(· ((try go_bits);with_reducible rfl))));clear hK K)))
          refine wpLex_nil (fun g3=>?_)
          have HU3:=hide (show PRow wr.drew B g n d l2 from HU.out)
          have hb3:=hbr.drew
          clear HU hbr
          go_wp2_with (fail)
          exact ⟨⟨i + 1,l2,by go_num,by omega,by omega,HU3,HH,hb3⟩,by simp [intOf];omega⟩
    · go_wp2_with (fail)
      go_end0
      exact ⟨l1,rfl,HU.out,HP.out,hbr⟩
set_option maxHeartbeats 3200000 in
theorem pdq_p (B g n d:Nat) (l:List (Int × Int)) (lim:Int) (w:World) (hR:PRow w B g n d l) (hB:B ≤ g) (hg:g < w.heap.size) (hn:n ≤ 12) :
    Calls Tryz.prog 116 #[.slice (some ⟨g,0,none⟩) n d,.int .i64 0,.int .i64 n,.int .i64 lim,cmpP] w fun e w'=>∃ l',e=.returned (.tuple #[]) ∧ PRow w' B g n d l' ∧ l'.Perm l ∧ Below B w w':=by
  have QI:=hide (insort_p B g n d l w hR hB hg (by omega))
  have hd:decide ((n:Int) ≤ 12)=true:=by simp;omega
  unfold cmpP at *
  clear hR hB hg
  go_enter Tryz.func116,Tryz.ntmps116
  go_wp2_with (fail)
  have HW:=hide (show Below w.heap.size w w from Below.refl _ _)
  go_loopw [1,2] (fun x y wr=>wr=w ∧ x=.int .i64 0 ∧ y=.int .i64 n) (fun _ _ _=>0)
  case atStart=>exact ⟨rfl,rfl,rfl⟩
  case round =>
    obtain ⟨rfl,rfl,rfl⟩:=hrel
    go_wp2_with (fail)
    refine QI.out.mono ?_
    rintro e w1 ⟨l',rfl,h⟩
    have HH:=hide h
    clear h
    go_wp2_with (fail)
    refine bodyPost_ret (v:=.tuple #[]) (results_none (by kernel_rfl) _ _ _) rfl ?_
    exact ⟨l',rfl,HH.out⟩
set_option maxHeartbeats 3200000 in
theorem sort_p (B g n d:Nat) (l:List (Int × Int)) (w:World) (hR:PRow w B g n d l) (hB:B ≤ g) (hg:g < w.heap.size) (hn:n ≤ 12) :
    Calls Tryz.prog 79 #[.slice (some ⟨g,0,none⟩) n d,cmpP] w fun e w'=>∃ l',e=.returned (.tuple #[]) ∧ PRow w' B g n d l' ∧ l'.Perm l ∧ Below B w w':=by
  have QP:=hide (fun lim W (h:PRow W B g n d l) (hg:g < W.heap.size)=>pdq_p B g n d l lim W h hB hg hn)
  have QL:=hide (fun W=>Tryz.bits_Len (n:Int) W (by omega) (by omega))
  have HR:=hide hR
  have HBG:=hide (And.intro hB hg)
  unfold cmpP at *
  clear hR hB hg
  go_enter Tryz.func79,Tryz.ntmps79
  go_wp2_with (fail)
  refine (QL.out _).mono ?_
  rintro e w1 ⟨rfl,rfl⟩
  go_wp2_with (fail)
  refine (QP.out _ _ HR.out HBG.out.2).mono ?_
  rintro e w2 ⟨l',rfl,h⟩
  have HH:=hide h
  clear h
  go_wp2_with (fail)
  go_end0
  exact ⟨l',rfl,HH.out⟩
set_option maxHeartbeats 3200000 in
theorem insortp_nil (A:Option Addr) (d:Nat) (w:World) :
    Calls Tryz.prog 146 #[.slice A 0 d,.int .i64 0,.int .i64 0,cmpP] w fun e w'=>e=.returned (.tuple #[]) ∧ w'=w:=by
  unfold cmpP
  go_enter Tryz.func146,Tryz.ntmps146
  go_wp2_with (fail)
  go_loopw [8] (fun u wr=>u=.int .i64 1 ∧ wr=w) (fun _ _=>0)
  case atStart=>exact ⟨rfl,rfl⟩
  case round =>
    obtain ⟨rfl,rfl⟩:=hrel
    go_wp2_with (fail)
    go_end0
    exact ⟨rfl,rfl⟩
set_option maxHeartbeats 3200000 in
theorem pdqp_nil (A:Option Addr) (d:Nat) (lim:Int) (w:World) :
    Calls Tryz.prog 116 #[.slice A 0 d,.int .i64 0,.int .i64 0,.int .i64 lim,cmpP] w fun e w'=>e=.returned (.tuple #[]) ∧ w'=w:=by
  have QI:=hide (insortp_nil A d w)
  unfold cmpP at *
  go_enter Tryz.func116,Tryz.ntmps116
  go_wp2_with (fail)
  go_loopw [1,2] (fun x y wr=>wr=w ∧ x=.int .i64 0 ∧ y=.int .i64 0) (fun _ _ _=>0)
  case atStart=>exact ⟨rfl,rfl,rfl⟩
  case round =>
    obtain ⟨rfl,rfl,rfl⟩:=hrel
    go_wp2_with (fail)
    refine QI.out.mono ?_
    rintro e w1 ⟨rfl,rfl⟩
    go_wp2_with (fail)
    refine bodyPost_ret (v:=.tuple #[]) (results_none (by kernel_rfl) _ _ _) rfl ?_
    exact ⟨rfl,rfl⟩
set_option maxHeartbeats 3200000 in
theorem sortp_nil (A:Option Addr) (d:Nat) (w:World) :
    Calls Tryz.prog 79 #[.slice A 0 d,cmpP] w fun e w'=>e=.returned (.tuple #[]) ∧ w'=w:=by
  have QP:=hide (fun lim W=>pdqp_nil A d lim W)
  have QL:=hide (fun W=>Tryz.bits_Len 0 W (by omega) (by omega))
  unfold cmpP at *
  go_enter Tryz.func79,Tryz.ntmps79
  go_wp2_with (fail)
  refine (QL.out _).mono ?_
  rintro e w1 ⟨rfl,rfl⟩
  go_wp2_with (fail)
  refine (QP.out _ _).mono ?_
  rintro e w2 ⟨rfl,rfl⟩
  go_wp2_with (fail)
  go_end0
  exact ⟨rfl,rfl⟩
end Go.Proofs.YtppblcbgkadldaaGreatDoor
