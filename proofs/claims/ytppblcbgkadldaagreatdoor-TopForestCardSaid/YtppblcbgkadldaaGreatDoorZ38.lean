/-
  A part of the proof that the law TopForest returns true for every input and leaves its arguments as they were: Reach, ChgA, ChgB.
-/
import Derived.Test.YtppblcbgkadldaaGreatDoorZ37
set_option linter.all false
namespace Go.Proofs.YtppblcbgkadldaaGreatDoor
open Go Go.RowKit
set_option maxRecDepth 100000
attribute [local go_sem] Heavy heavyUpon
def RRow (W:World) (B g n d:Nat) (l:List Int):Prop:=W.ownsRow B 43 1 (.slice (some ⟨g,0,none⟩) n d) n (ints .u64 l) ∧ l.length=n ∧ g < W.heap.size
theorem RRow.below {W W':World} {B g n d:Nat} {l:List Int} (h:RRow W B g n d l) (hb:Below W.heap.size W W'):RRow W' B g n d l:=⟨own_below h.1 hb,h.2.1,Nat.lt_of_lt_of_le h.2.2 hb.size⟩
section
variable {w w':World} {ks:List Int} {ps:List (Int × Int)} {A:Option Addr} {m c:Nat} {B:Option Addr} {b d:Nat}
def RetRe (ps:List (Int × Int)) (a:Int) (w:World) (e:Ending) (w':World):Prop:=∃ R n d l,e=.returned (.slice R n d) ∧ Sl w' [] 1 R n d (ints .u64 l) ∧ l.Nodup ∧ l.Pairwise (· ≤ ·) ∧ (∀ b,b ∈ l ↔ RK ps a b) ∧ Below w.heap.size w w'
set_option maxHeartbeats 12800000 in
theorem reach_ok (N:Nat) (a:Int) (w:World) (hM:MM w ks ps A m c B b d) (hP:PU ps) (hb:b ≤ 100) :
    Calls Tryz.prog 11 #[mV N A m c B b d,.int .u64 a] w (RetRe ps a w):=by
  obtain ⟨ie,hie,hze,he1,he2⟩:=info_parts u64_info
  have HL:=hide (show ps.length=b from hM.p.length)
  have QN:=hide (fun Kb x W (h:MM W ks ps A m c B b d) (hK:∀ k ∈ Kb,k < W.heap.size)=>neark_ok Kb N x W h hP (by omega) hK)
  have QR:=hide (fun l A n c W (h:Sl W [] 1 A n c (ints .u64 l)) (hn:n ≤ 1000)=>rising_ok [] l A n c W h hn (by simp))
  have B0:=Blk.new w 42 #[.int .i64 N,.slice A m c,.slice B b d]
  have hb0:=(Below.refl w.heap.size w).alloc (Nat.le_refl _) (.cells #[.int .i64 N,.slice A m c,.slice B b d] 42)
  have HM:=hide (hM.alloc (.cells #[.int .i64 N,.slice A m c,.slice B b d] 42))
  unfold mV at QN
  unfold mV
  clear hM hP
  go_enter Tryz.func11,Tryz.ntmps11
  go_wp2_with (fail)
  generalize hWb:w.alloc (.cells #[.int .i64 N,.slice A m c,.slice B b d] 42)=Wb at *
  have hzb:Wb.heap.size=w.heap.size + 1:=by rw [← hWb,heap_alloc_size]
  clear hWb
  have HO0:=hide (show RRow (Wb.alloc (.cells #[.int .u64 a] 43)) Wb.heap.size (w.heap.size + 1) 1 1 [a] from (by rw [← hzb];exact ⟨World.ownsRow_lit (base:=Wb.heap.size) (e:=43) (size:=1) Wb #[.int .u64 a] 1 (Nat.le_refl _) (by unfold maxLen;omega) rfl,rfl,by simp⟩))
  have HB0:=hide B0
  have hz0:=hide hb0.size
  have hb1:=hb0.alloc hb0.size (.cells #[.int .u64 a] 43)
  have HBB1:=hide ((Below.refl Wb.heap.size Wb).alloc (Nat.le_refl _) (.cells #[.int .u64 a] 43))
  clear B0 hb0
  go_loopw [5,6] (fun x u wr=>∃ (i n g co:Nat) (l:List Int),i ≤ n ∧ u=.int .i64 i ∧ x=.slice (some ⟨g,0,none⟩) n co ∧ Hid (RI ps a l i) ∧ Hid (RRow wr Wb.heap.size g n co l) ∧ Below w.heap.size w wr ∧ Hid (Below Wb.heap.size Wb wr)) (fun _ u _=>2 * b + 2 - (intOf u).toNat)
  case atStart=>exact ⟨0,1,_,1,[a],by omega,rfl,rfl,hide (ri_start ps a),HO0,hb1,HBB1⟩
  case round =>
    clear hb1 HBB1 HO0
    obtain ⟨i,n,g,co,l,hi,rfl,rfl,HI,HO,hbr,HBB⟩:=hrel
    obtain ⟨w0,hw0⟩:∃ w0,w0=wr:=⟨_,rfl⟩
    subst hw0
    have hnb:n ≤ 2 * b + 1:=by
      have h1:=rk_len HI.out.nd HI.out.rk
      have h2:=HO.out.2.1
      have h3:=HL.out
      omega
    by_cases hlt:i < n
    · obtain ⟨r0,e0,s0⟩:=(HB0.out.below HBB.out HB0.out.lt).facts
      have x0:w0.cell? ⟨w.heap.size,0,none⟩=some (.int .i64 N):=r0 0
      have x1:w0.cell? ⟨w.heap.size,1,none⟩=some (.slice A m c):=r0 1
      have x2:w0.cell? ⟨w.heap.size,2,none⟩=some (.slice B b d):=r0 2
      clear r0
      have hil:i < l.length:=by have:=HO.out.2.1;omega
      have c0:=HO.out.1.cellAt i (by omega)
      rw [ints_get hil] at c0
      have HJ:=hide (fun ns hn=>rj_start (ns:=ns) HI.out hil hn)
      generalize l[i]=x at *
      have hgs:=HO.out.2.2
      go_wp2_with (fail)
      refine wp_region_lexD [5] (fun w'=>Below (w0).heap.size (w0) w') (by kernel_rfl) (by kernel_rfl) (Below.refl _ _).drew ?_
      (repeat ((with_reducible refine wpLex_step (fun K hK=>?_));go_simp;first | ((with_reducible refine hK _ _ ?_);clear hK K) | ((with_reducible apply Exists.intro);refine ⟨fun w' hw'=>?_,hK _ _ ?_⟩;(· (have hq:=bcells hw';apply valEq;(· (go_simp;first | done | (with_reducible rfl)));(· ((try go_bits);with_reducible rfl))));clear hK K)))
      ((with_reducible refine wpLex_step (fun K hK=>?_));go_simp;refine (QN.out [g] x _ (HM.out.below HBB.out).drew (by simpa using hgs)).mono ?_;rintro e w1 ⟨R1,d1,rfl,S1,hbx⟩;have g1:=((Below.refl (w0).heap.size w0).drew).trans (hbx.mono ((Below.refl (w0).heap.size w0).drew).size);have HS1:=hide S1;refine ⟨_,rfl,g1,hK _ _ ?_⟩;clear hK K hbx)
      (repeat ((with_reducible refine wpLex_step (fun K hK=>?_));go_simp;first | ((with_reducible refine hK _ _ ?_);clear hK K) | ((with_reducible apply Exists.intro);refine ⟨fun w' hw'=>?_,hK _ _ ?_⟩;(· (have hq:=bcells hw';apply valEq;(· (go_simp;first | done | (with_reducible rfl)));(· ((try go_bits);with_reducible rfl))));clear hK K)))
      refine wpLex_nil (fun _=>?_)
      have hb1:=hbr.trans (g1.mono hbr.size)
      have HBB1:=hide (HBB.out.trans (g1.mono HBB.out.size))
      have HO1:=hide (HO.out.below g1)
      have HN:=hide (sortA_perm (nearK ps x))
      have HJ1:=hide (HJ.out _ (sortA_perm (nearK ps x)))
      have HNL:=hide (sortA_len (nearK ps x))
      generalize sortA (nearK ps x)=ns at *
      generalize (nearK ps x).length=m2 at *
      clear x0 x1 x2 e0 s0 c0 HJ S1 HO hbr HBB g1 hgs
      go_wp2_with (fail)
      go_loopw [5,8] (fun x5 u wr=>∃ (k n g co:Nat) (l:List Int),k ≤ m2 ∧ u=.int .i64 k ∧ x5=.slice (some ⟨g,0,none⟩) n co ∧ Hid (RJ ps a l i x ns k) ∧ Hid (RRow wr Wb.heap.size g n co l) ∧ Hid (Sl wr [g] 1 R1 m2 d1 (ints .u64 ns)) ∧ Below w.heap.size w wr ∧ Hid (Below Wb.heap.size Wb wr)) (fun _ u _=>m2 - (intOf u).toNat)
      case atStart=>exact ⟨0,n,g,co,l,Nat.zero_le _,rfl,rfl,HJ1,HO1,HS1,hb1,HBB1⟩
      case round =>
        clear hb1 HBB1 HO1 HJ1 HS1 HI
        obtain ⟨k,n,g,co,l,hk,rfl,rfl,HJ,HO,HS,hbr,HBB⟩:=hrel
        have hnb:n ≤ 2 * b + 1:=by
          have h1:=rk_len HJ.out.nd HJ.out.rk
          have h2:=HO.out.2.1
          have h3:=HL.out
          omega
        have hm2:m2 ≤ 100:=by
          have h1:=HN.out.length_eq
          have h2:=nearK_len ps x
          have h3:=HL.out
          have h4:=HNL.out
          omega
        by_cases hlt2:k < m2
        · have hkl:k < ns.length:=by have:=HNL.out;omega
          obtain ⟨a2,rfl,ha2,_,hc2⟩:=HS.out.at_ (by omega)
          have c2:=hc2 _ _ (ints_get hkl)
          have k2:(a2.add k).block < wr.heap.size:=by rw [block_of_add];exact ha2
          have HSK:=hide (fun hm=>rj_skip HJ.out hkl hm)
          have HAD:=hide (fun hm=>rj_add HJ.out hkl hm)
          clear hc2
          generalize ns[k]=y at *
          have HSL:=hide (own_sl HO.out.1 [] (by simp))
          have szr:=hbr.size
          go_wp2_with (fail)
          refine (find_ok l y _ n co _ HSL.out).mono ?_
          rintro e w5 ⟨rfl,b5⟩
          have hb5:=hbr.trans (b5.mono szr)
          have HB5:=hide (HBB.out.trans (b5.mono HBB.out.size))
          have HO5:=hide (HO.out.below b5)
          have HS5:=hide (Sl.below HS.out b5)
          have c5:=(b5.cell k2).trans c2
          have k5:=Nat.lt_of_lt_of_le k2 b5.size
          have HMM:=hide (idxK_mem (l:=l) (x:=y))
          generalize idxP (keyP y) l=r at *
          clear HO HS hbr HBB b5 c2 k2 HSL
          by_cases hr:0 ≤ r
          · have HJ2:=hide (HSK.out (HMM.out.1 hr))
            clear HSK HAD HMM HJ
            go_wp2_with (fail)
            exact ⟨⟨k + 1,n,g,co,l,by omega,by go_num,rfl,HJ2,HO5,HS5,hb5,HB5⟩,by simp [intOf];omega⟩
          · have HJ2:=hide (HAD.out (fun h=>hr (HMM.out.2 h)))
            clear HSK HAD HMM HJ
            have O6L:=hide HO5.out.2.1
            have O6:=hide (HO5.out.1.alloc (.cells #[.int .u64 y] 43))
            have hb6:=hide (hb5.alloc hb5.size (.cells #[.int .u64 y] 43))
            have HB6:=hide (HB5.out.alloc HB5.out.size (.cells #[.int .u64 y] 43))
            have HS6:=hide (Sl.alloc HS5.out (.cells #[.int .u64 y] 43))
            have N6:=u1_new w5 y
            (go_wp2_with (at_builtin;refine stopAt ?_);refine stopGo ?_)
            generalize w5.alloc (.cells #[.int .u64 y] 43)=w6 at *
            refine wpList_append_sl _ rfl (.tmp 36) (.tmp 41) _ rfl Wb.heap.size 43 ie _ 1 8 Tryz.underlying24 hie hze he1 he2 rfl (by omega) (.slice (some ⟨g,0,none⟩) n co) n _ rfl O6.out [] _ 1 1 (ints .u64 [y]) rfl N6 ints_one (by simp only [maxLen];omega) (by omega) HB6.out.size ?_
            intro A7 c7 w7 own7 g7 hob
            obtain ⟨g',cap',hv,hg1,hg2⟩:=own7.form (by omega)
            injection hv with hA hA2 hA3
            subst hA hA3
            simp only [Value.ownBlock,Option.some.injEq] at hob
            have HB7:=hide (HB6.out.trans (below_grown O6.out g7 (Nat.le_refl _) HB6.out.size))
            have hb7:=hb6.out.trans ((below_grown O6.out g7 (Nat.le_refl _) HB6.out.size).mono hz0.out)
            have HS7:=hide (((HS6.out.add (Nat.le_refl w6.heap.size)).grown g7 (fun q hq=>by simp only [Value.ownBlock,Option.some.injEq] at hq;subst hq;simp)).less (M':=[g']) (by intro z hz;rw [List.mem_singleton.1 hz];rcases hob with h1 | h1 <;> (rw [h1];simp)))
            rw [← ints_append] at own7
            have HO7:=hide (show RRow w7 Wb.heap.size g' (n + 1) c7 (l ++ [y]) from ⟨own7,by rw [List.length_append,O6L.out];rfl,hg2⟩)
            clear own7 g7 hob O6 hb6 HB6 HS6 N6 hb5 HB5 HO5 HS5
            go_wp2_with (fail)
            exact ⟨⟨k + 1,n + 1,g',c7,l ++ [y],by omega,by go_num,rfl,HJ2,HO7,HS7,hb7,HB7⟩,by simp [intOf];omega⟩
        · obtain rfl:k=m2:=by omega
          have HE:=hide (rj_end (show RJ ps a l i x ns ns.length by have:=HJ.out;rwa [← HNL.out] at this))
          have hin:i + 1 ≤ n:=by
            have h1:=HJ.out.at_
            rcases Nat.lt_or_ge i l.length with h2 | h2
            · have:=HO.out.2.1;omega
            · rw [List.getElem?_eq_none h2] at h1;cases h1
          clear HJ
          go_wp2_with (fail)
          exact ⟨⟨i + 1,n,g,co,l,hin,by go_num,rfl,HE,HO,hbr,HBB⟩,by simp [intOf];omega⟩
    · obtain rfl:i=n:=by omega
      have HQ:=hide (fun b=>ri_end (show RI ps a l l.length by have:=HI.out;rwa [← HO.out.2.1] at this) b)
      have HND:=hide HI.out.nd
      have HS:=hide (own_sl HO.out.1 [] (by simp))
      go_wp2_with (fail)
      refine (QR.out l _ _ _ _ HS.out (by omega)).mono ?_
      rintro e w9 ⟨R,dd,rfl,S9,b9⟩
      have hb9:=hbr.trans (b9.mono hbr.size)
      have HS9:=hide S9
      clear S9
      go_wp2_with (fail)
      go_ret
      exact ⟨R,_,dd,sortA l,rfl,HS9.out,(sortA_perm l).nodup_iff.2 HND.out,sortA_sorted l,fun b=>(sortA_perm l).mem_iff.trans (HQ.out b),hb9⟩
end
end Go.Proofs.YtppblcbgkadldaaGreatDoor
namespace Go.Proofs.YtppblcbgkadldaaGreatDoor
open Go Go.RowKit
set_option maxRecDepth 100000
attribute [local go_sem] Heavy heavyUpon
theorem chM_1 (N:Int) (ks:List Int) (ps:List (Int × Int)) (a b:Int):chM N ks ps 1 a b=if 0 ≤ idxP (keyP a) ks then (ks,ps,4) else if N ≤ ks.length then (ks,ps,10) else (ks ++ [a],ps,0):=by
  unfold chM;rw [if_pos rfl]
theorem chM_2 (N:Int) (ks:List Int) (ps:List (Int × Int)) (a b:Int):chM N ks ps 2 a b=if idxP (keyP a) ks < 0 then (ks,ps,7) else if 0 < (nearK ps a).length then (ks,ps,11) else (ks.take (idxP (keyP a) ks).toNat ++ ks.drop ((idxP (keyP a) ks).toNat + 1),ps,0):=by
  unfold chM
  rw [if_neg (by decide)]
  by_cases h:idxP (keyP a) ks < 0
  · rw [if_pos (.inl h),if_pos h]
  · rw [if_neg (by omega),if_neg h,if_pos rfl]
theorem chM_3 (N:Int) (ks:List Int) (ps:List (Int × Int)) (a b:Int):chM N ks ps 3 a b=if idxP (keyP a) ks < 0 ∨ idxP (keyP b) ks < 0 then (ks,ps,7) else if a=b then (ks,ps,8) else if 0 ≤ idxP (pairP (kp a b)) ps then (ks,ps,4) else (ks,ps ++ [kp a b],0):=by
  unfold chM
  rw [if_neg (by decide)]
  by_cases h:idxP (keyP a) ks < 0 ∨ idxP (keyP b) ks < 0
  · rw [if_pos (h.imp id fun h=>⟨by decide,h⟩),if_pos h]
  · rw [if_neg (by omega),if_neg h,if_neg (by decide),if_neg (by decide)]
theorem chM_4 (N:Int) (ks:List Int) (ps:List (Int × Int)) (a b:Int):chM N ks ps 4 a b=if idxP (keyP a) ks < 0 ∨ idxP (keyP b) ks < 0 then (ks,ps,7) else if idxP (pairP (kp a b)) ps < 0 then (ks,ps,9) else (ks,ps.take (idxP (pairP (kp a b)) ps).toNat ++ ps.drop ((idxP (pairP (kp a b)) ps).toNat + 1),0):=by
  unfold chM
  rw [if_neg (by decide)]
  by_cases h:idxP (keyP a) ks < 0 ∨ idxP (keyP b) ks < 0
  · rw [if_pos (h.imp id fun h=>⟨by decide,h⟩),if_pos h]
  · rw [if_neg (by omega),if_neg h,if_neg (by decide),if_pos rfl]
theorem three_z {w:World} {g:Nat} {t:TypeId} {x0 x1 x2:Value} (h:Blk w g t #[x0,x1,x2]) (a b e:Value) :
    (w.setCell ⟨g,0,none⟩ a).cell? ⟨g,0,none⟩=some a ∧ ((w.setCell ⟨g,0,none⟩ a).setCell ⟨g,1,none⟩ b).cell? ⟨g,1,none⟩=some b ∧ (((w.setCell ⟨g,0,none⟩ a).setCell ⟨g,1,none⟩ b).setCell ⟨g,2,none⟩ e).cell? ⟨g,2,none⟩=some e:=
  ⟨(h.set_ 0 a).cell 0,((h.set_ 0 a).set_ 1 b).cell 1,(((h.set_ 0 a).set_ 1 b).set_ 2 e).cell 2⟩
structure MO (w:World) (g:Nat) (ks:List Int) (ps:List (Int × Int)) (A:Option Addr) (a c:Nat) (B:Option Addr) (b d:Nat):Prop where
  k:Sl w [g] 1 A a c (ints .u64 ks)
  p:Sl w [g] 2 B b d (hcells ps)
section
variable {w w':World} {g:Nat} {ks:List Int} {ps:List (Int × Int)} {A:Option Addr} {m c:Nat} {B:Option Addr} {b d:Nat}
theorem MO.below (h:MO w g ks ps A m c B b d) (hb:Below w.heap.size w w'):MO w' g ks ps A m c B b d:=⟨h.k.below hb,h.p.below hb⟩
theorem MO.alloc (h:MO w g ks ps A m c B b d) (o:Obj):MO (w.alloc o) g ks ps A m c B b d:=⟨Sl.alloc h.k o,Sl.alloc h.p o⟩
theorem MO.drew (h:MO w g ks ps A m c B b d):MO w.drew g ks ps A m c B b d:=⟨Sl.drew h.k,Sl.drew h.p⟩
theorem MO.mm (h:MO w g ks ps A m c B b d):MM w ks ps A m c B b d:=⟨h.k.less (by simp),h.p.less (by simp)⟩
theorem MO.set3 (h:MO w g ks ps A m c B b d) (x y z:Value):MO (((w.setCell ⟨g,0,none⟩ x).setCell ⟨g,1,none⟩ y).setCell ⟨g,2,none⟩ z) g ks ps A m c B b d:=
  ⟨((h.k.setCell (p:=⟨g,0,none⟩) (by simp) x).setCell (p:=⟨g,1,none⟩) (by simp) y).setCell (p:=⟨g,2,none⟩) (by simp) z,
   ((h.p.setCell (p:=⟨g,0,none⟩) (by simp) x).setCell (p:=⟨g,1,none⟩) (by simp) y).setCell (p:=⟨g,2,none⟩) (by simp) z⟩
theorem below_set3 {B:Nat} {w w':World} (h:Below B w w') {g:Nat} (hg:B ≤ g) (x y z:Value):Below B w (((w'.setCell ⟨g,0,none⟩ x).setCell ⟨g,1,none⟩ y).setCell ⟨g,2,none⟩ z):=
  ((h.setCell (p:=⟨g,0,none⟩) hg x).setCell (p:=⟨g,1,none⟩) hg y).setCell (p:=⟨g,2,none⟩) hg z
theorem MM.off (h:MM w ks ps A m c B b d) (o1 o2:Obj):MO ((w.alloc o1).alloc o2) (w.heap.size + 1) ks ps A m c B b d:=by
  have e:(w.alloc o1).heap.size=w.heap.size + 1:=heap_alloc_size _ _
  have h1:=Sl.new (Sl.alloc h.k o1) o2
  have h2:=Sl.new (Sl.alloc h.p o1) o2
  rw [e] at h1 h2
  exact ⟨h1,h2⟩
def RetM (N:Nat) (r:List Int × List (Int × Int) × Int) (w:World) (e:Ending) (w':World):Prop:=
  ∃ A m c B b d,e=.returned (.tuple #[mV N A m c B b d,.int .i64 r.2.2]) ∧ MM w' r.1 r.2.1 A m c B b d ∧ Below w.heap.size w w'
set_option maxHeartbeats 12800000 in
theorem change1_ok (N:Nat) (a y:Int) (w:World) (hM:MM w ks ps A m c B b d) (hm:m ≤ 100) :
    Calls Tryz.prog 8 #[mV N A m c B b d,.int .i64 1,.int .u64 a,.int .u64 y] w (RetM N (chM N ks ps 1 a y) w):=by
  (generalize hC:chM N ks ps 1 a y=rr;rw [chM_1] at hC;have HC:=hide hC;clear hC;obtain ⟨ie,hie,hze,he1,he2⟩:=info_parts u64_info;have HKL:=hide (show ks.length=m by have:=hM.k.len;simpa using this);have HPL:=hide (show ps.length=b from hM.p.length);have HM:=hide (hM.off (.cells #[.int .i64 N,.slice A m c,.slice B b d] 42) (.cells #[.int .i64 0,.slice none 0 0,.slice none 0 0] 42));have B0:=hide ((Blk.new w 42 #[.int .i64 N,.slice A m c,.slice B b d]).alloc (.cells #[.int .i64 0,.slice none 0 0,.slice none 0 0] 42));have B1:=Blk.new (w.alloc (.cells #[.int .i64 N,.slice A m c,.slice B b d] 42)) 42 #[.int .i64 0,.slice none 0 0,.slice none 0 0];rw [heap_alloc_size] at B1;replace B1:=hide B1;have hb:=((Below.refl w.heap.size w).alloc (Nat.le_refl _) (.cells #[.int .i64 N,.slice A m c,.slice B b d] 42)).alloc (by simp) (.cells #[.int .i64 0,.slice none 0 0,.slice none 0 0] 42);unfold mV;clear hM;go_enter Tryz.func8,Tryz.ntmps8;go_wp2_with (fail);generalize (w.alloc (.cells #[.int .i64 N,.slice A m c,.slice B b d] 42)).alloc (.cells #[.int .i64 0,.slice none 0 0,.slice none 0 0] 42)=W0 at *)
  refine (find_ok ks a _ _ _ _ HM.out.mm.k).mono ?_
  rintro e w1 ⟨rfl,b1⟩
  (replace hb:=hb.trans (b1.mono hb.size);replace HM:=hide (HM.out.below b1);replace B0:=hide (B0.out.below b1 B0.out.lt);replace B1:=hide (B1.out.below b1 B1.out.lt);clear b1)
  generalize idxP (keyP a) ks=r at *
  by_cases hr:0 ≤ r
  · obtain rfl:rr=(ks,ps,4):=by rw [← HC.out,if_pos hr]
    ((obtain ⟨x0,x1,x2,e0,s0⟩:=B0.out.f3;obtain ⟨q0,q1,q2,eb,sb⟩:=B1.out.f3);have Z:=hide (three_z B1.out (.int .i64 N) (.slice A m c) (.slice B b d));go_wp2_with (fail);refine bodyPost_ret (v:=.tuple #[mV N A m c B b d,.int .i64 4]) (by simp [results,Tryz.results8,go_sem,mV,Z.out.1,Z.out.2.1,Z.out.2.2]) rfl ?_;exact ⟨A,m,c,B,b,d,rfl,(HM.out.set3 _ _ _).mm,below_set3 hb (by omega) _ _ _⟩)
  · by_cases hn:(N:Int) ≤ (ks.length:Int)
    · obtain rfl:rr=(ks,ps,10):=by rw [← HC.out,if_neg hr,if_pos hn]
      have hnm:(N:Int) ≤ (m:Int):=by have:=HKL.out;omega
      ((obtain ⟨x0,x1,x2,e0,s0⟩:=B0.out.f3;obtain ⟨q0,q1,q2,eb,sb⟩:=B1.out.f3);have Z:=hide (three_z B1.out (.int .i64 N) (.slice A m c) (.slice B b d));go_wp2_with (fail);refine bodyPost_ret (v:=.tuple #[mV N A m c B b d,.int .i64 10]) (by simp [results,Tryz.results8,go_sem,mV,Z.out.1,Z.out.2.1,Z.out.2.2]) rfl ?_;exact ⟨A,m,c,B,b,d,rfl,(HM.out.set3 _ _ _).mm,below_set3 hb (by omega) _ _ _⟩)
    · obtain rfl:rr=(ks ++ [a],ps,0):=by rw [← HC.out,if_neg hr,if_neg hn]
      have hnm:¬ (N:Int) ≤ (m:Int):=by have:=HKL.out;omega
      (obtain ⟨x0,x1,x2,e0,s0⟩:=B0.out.f3;obtain ⟨q0,q1,q2,eb,sb⟩:=B1.out.f3)
      have O0:=hide (World.ownsRow_nil w1 w1.heap.size 43 1)
      have N0:=hide HM.out.mm.k
      (go_wp2_with (at_builtin;refine stopAt ?_);refine stopGo ?_)
      refine wpList_append_sl _ rfl (.tmp 32) (.tmp 34) _ rfl w1.heap.size 43 ie _ 1 8 Tryz.underlying24 hie hze he1 he2 rfl (by omega) (.slice none 0 0) 0 _ rfl O0.out [] _ m c _ rfl N0.out ints_one (by simp only [maxLen];omega) (by omega) (Nat.le_refl _) ?_
      intro A2 c2 w2 own2 g2 _
      simp only [Nat.zero_add,List.nil_append] at own2
      have G2:=below_grown O0.out g2 (Nat.le_refl _) (Nat.le_refl _)
      have O2:=hide own2
      clear own2 g2 O0 N0 x0 x1 x2 q0 q1 q2 e0 s0 eb sb
      (obtain ⟨x0,x1,x2,e0,s0⟩:=(B0.out.below G2 B0.out.lt).f3)
      go_wp2_with (fail)
      (have hl0:w.heap.size < w.heap.size + 1:=Nat.lt_succ_self _;have hB8:w.heap.size + 1 ≤ (w2).heap.size:=Nat.le_trans (Nat.le_of_lt B1.out.lt) (G2).size;refine wp_region_lexD [4,5,9] (fun w'=>Below (w.heap.size + 1) (w2) w') (by kernel_rfl) (by kernel_rfl) (Below.refl _ _).drew ?_;(repeat ((with_reducible refine wpLex_step (fun K hK=>?_));go_simp;first | ((with_reducible refine hK _ _ ?_);clear hK K) | ((with_reducible apply Exists.intro);refine ⟨fun w' hw'=>?_,hK _ _ ?_⟩;(· (have hq:=bcells hw';apply valEq;(· (go_simp;first | done | (with_reducible rfl)));(· ((try go_bits);with_reducible rfl))));clear hK K)));have g0:=(Below.refl (w.heap.size + 1) (w2)).drew)
      have gA:=g0.alloc hB8 (.cells #[.int .u64 a] 43)
      have O3:=hide (show ((w2.alloc (.cells #[.int .u64 a] 43)).drew).ownsRow _ _ _ _ _ _ from O2.out.alloc (.cells #[.int .u64 a] 43))
      have N3:=hide (Sl.drew (u1_new w2 a))
      have G3:=(G2.alloc G2.size (.cells #[.int .u64 a] 43)).drew
      ((with_reducible refine wpLex_step (fun K hK=>?_));go_simp;refine ⟨gA,hK _ _ ?_⟩;clear hK K)
      have gA2:Below (w.heap.size + 1) w2 (w2.alloc (.cells #[.int .u64 a] 43)).drew:=gA
      generalize (w2.alloc (.cells #[.int .u64 a] 43)).drew=w3 at *
      refine wpLex_append_sl _ rfl (by rfl) (.tmp 38) (.tmp 40) _ rfl w1.heap.size 43 ie _ 1 8 Tryz.underlying24 hie hze he1 he2 rfl (by omega) (.slice A2 m c2) m _ rfl O3.out [] _ 1 1 (ints .u64 [a]) rfl N3.out ints_one (by simp only [maxLen];omega) (by omega) G3.size ?_
      intro A4 c4 w4 own4 g4 _
      have G4:=below_grown O3.out g4 (Nat.le_refl _) G3.size
      have gB:=gA2.trans (G4.mono (Nat.le_of_lt B1.out.lt))
      replace G4:=G3.trans G4
      refine ⟨gB,?_⟩
      rw [← ints_append] at own4
      have hlt1:=B1.out.lt
      have S4:=hide (Sl.of_own own4 (M:=[w.heap.size + 1]) (fun kk hkk=>by rw [List.mem_singleton.1 hkk];exact hlt1))
      (replace hb:=hb.trans (G4.mono hb.size);replace HM:=hide (HM.out.below G4);replace B0:=hide (B0.out.below G4 B0.out.lt);replace B1:=hide (B1.out.below G4 B1.out.lt);clear G4)
      clear own4 g4 O2 O3 N3 G2 G3 gA gA2 g0 hlt1
      (obtain ⟨q0,q1,q2,eb,sb⟩:=B1.out.f3;(repeat ((with_reducible refine wpLex_step (fun K hK=>?_));go_simp;first | ((with_reducible refine hK _ _ ?_);clear hK K) | ((with_reducible apply Exists.intro);refine ⟨fun w' hw'=>?_,hK _ _ ?_⟩;(· (have hq:=bcells hw';apply valEq;(· (go_simp;first | done | (with_reducible rfl)));(· ((try go_bits);with_reducible rfl))));clear hK K)));((with_reducible refine wpLex_step (fun K hK=>?_));go_simp;refine ⟨below_set3 gB (Nat.le_refl _) _ _ _,hK _ _ ?_⟩;clear hK K);clear q0 q1 q2 eb sb x0 x1 x2 e0 s0;(repeat ((with_reducible refine wpLex_step (fun K hK=>?_));go_simp;first | ((with_reducible refine hK _ _ ?_);clear hK K) | ((with_reducible apply Exists.intro);refine ⟨fun w' hw'=>?_,hK _ _ ?_⟩;(· (have hq:=bcells hw';apply valEq;(· (go_simp;first | done | (with_reducible rfl)));(· ((try go_bits);with_reducible rfl))));clear hK K)));refine wpLex_nil (fun _=>?_);have BW:=Blk.set3 (x:=.int .i64 N) (y:=.slice A4 (m + 1) c4) (z:=.slice B b d) B1.out;have MW:=hide (MO.set3 (MO.mk S4.out HM.out.p) (.int .i64 N) (.slice A4 (m + 1) c4) (.slice B b d));have hbw:=below_set3 hb (show w.heap.size ≤ w.heap.size + 1 by omega) (.int .i64 N) (.slice A4 (m + 1) c4) (.slice B b d);clear B0 B1 HM hb;generalize (((w4.setCell ⟨w.heap.size + 1,0,none⟩ (Value.int .i64 N)).setCell ⟨w.heap.size + 1,1,none⟩ (Value.slice A4 (m + 1) c4)).setCell ⟨w.heap.size + 1,2,none⟩ (Value.slice B b d))=W9 at *;obtain ⟨q0,q1,q2,eb,sb⟩:=BW.f3;go_wp2_with (fail);refine bodyPost_ret (v:=.tuple #[mV N A4 (m + 1) c4 B b d,.int .i64 0]) (by simp [results,Tryz.results8,go_sem,mV,q0,q1,q2]) rfl ?_;exact ⟨_,_,_,_,_,_,rfl,MW.out.mm,hbw⟩)
end
end Go.Proofs.YtppblcbgkadldaaGreatDoor
namespace Go.Proofs.YtppblcbgkadldaaGreatDoor
open Go Go.RowKit
set_option maxRecDepth 100000
attribute [local go_sem] Heavy heavyUpon
attribute [local go_sem ↓] usl_hi usl_lo
section
variable {w w':World} {g:Nat} {ks:List Int} {ps:List (Int × Int)} {A:Option Addr} {m c:Nat} {B:Option Addr} {b d:Nat}
set_option maxHeartbeats 12800000 in
theorem change2_ok (N:Nat) (a y:Int) (w:World) (hM:MM w ks ps A m c B b d) (hm:m ≤ 100) (hP:PU ps) (hbb:b ≤ 100) :
    Calls Tryz.prog 8 #[mV N A m c B b d,.int .i64 2,.int .u64 a,.int .u64 y] w (RetM N (chM N ks ps 2 a y) w):=by
  have QN:=hide (fun W (h:MM W ks ps A m c B b d)=>neark_ok [] N a W h hP (by omega) (by simp))
  have HAT:=hide (fun h=>idxP_at (p:=keyP a) (l:=ks) h)
  clear hP
  unfold mV at QN
  (generalize hC:chM N ks ps 2 a y=rr;rw [chM_2] at hC;have HC:=hide hC;clear hC;obtain ⟨ie,hie,hze,he1,he2⟩:=info_parts u64_info;have HKL:=hide (show ks.length=m by have:=hM.k.len;simpa using this);have HPL:=hide (show ps.length=b from hM.p.length);have HM:=hide (hM.off (.cells #[.int .i64 N,.slice A m c,.slice B b d] 42) (.cells #[.int .i64 0,.slice none 0 0,.slice none 0 0] 42));have B0:=hide ((Blk.new w 42 #[.int .i64 N,.slice A m c,.slice B b d]).alloc (.cells #[.int .i64 0,.slice none 0 0,.slice none 0 0] 42));have B1:=Blk.new (w.alloc (.cells #[.int .i64 N,.slice A m c,.slice B b d] 42)) 42 #[.int .i64 0,.slice none 0 0,.slice none 0 0];rw [heap_alloc_size] at B1;replace B1:=hide B1;have hb:=((Below.refl w.heap.size w).alloc (Nat.le_refl _) (.cells #[.int .i64 N,.slice A m c,.slice B b d] 42)).alloc (by simp) (.cells #[.int .i64 0,.slice none 0 0,.slice none 0 0] 42);unfold mV;clear hM;go_enter Tryz.func8,Tryz.ntmps8;go_wp2_with (fail);generalize (w.alloc (.cells #[.int .i64 N,.slice A m c,.slice B b d] 42)).alloc (.cells #[.int .i64 0,.slice none 0 0,.slice none 0 0] 42)=W0 at *)
  refine (find_ok ks a _ _ _ _ HM.out.mm.k).mono ?_
  rintro e w1 ⟨rfl,b1⟩
  (replace hb:=hb.trans (b1.mono hb.size);replace HM:=hide (HM.out.below b1);replace B0:=hide (B0.out.below b1 B0.out.lt);replace B1:=hide (B1.out.below b1 B1.out.lt);clear b1)
  generalize idxP (keyP a) ks=r at *
  by_cases hr:r < 0
  · obtain rfl:rr=(ks,ps,7):=by rw [← HC.out,if_pos hr]
    ((obtain ⟨x0,x1,x2,e0,s0⟩:=B0.out.f3;obtain ⟨q0,q1,q2,eb,sb⟩:=B1.out.f3);have Z:=hide (three_z B1.out (.int .i64 N) (.slice A m c) (.slice B b d));go_wp2_with (fail);refine bodyPost_ret (v:=.tuple #[mV N A m c B b d,.int .i64 7]) (by simp [results,Tryz.results8,go_sem,mV,Z.out.1,Z.out.2.1,Z.out.2.2]) rfl ?_;exact ⟨A,m,c,B,b,d,rfl,(HM.out.set3 _ _ _).mm,below_set3 hb (by omega) _ _ _⟩)
  · obtain ⟨i,rfl,hi,_⟩:=HAT.out (by omega)
    have him:i < m:=by have:=HKL.out;omega
    clear HAT
    (obtain ⟨x0,x1,x2,e0,s0⟩:=B0.out.f3;obtain ⟨q0,q1,q2,eb,sb⟩:=B1.out.f3)
    go_wp2_with (fail)
    clear x0 x1 x2 q0 q1 q2 e0 s0 eb sb
    refine (QN.out _ HM.out.mm).mono ?_
    rintro e w2 ⟨R2,d2,rfl,S2,b2⟩
    (replace hb:=hb.trans (b2.mono hb.size);replace HM:=hide (HM.out.below b2);replace B0:=hide (B0.out.below b2 B0.out.lt);replace B1:=hide (B1.out.below b2 B1.out.lt);clear b2)
    generalize (nearK ps a).length=z at *
    clear S2 QN
    by_cases hz:0 < z
    · obtain rfl:rr=(ks,ps,11):=by rw [← HC.out,if_neg (by omega:¬ (i:Int) < 0),if_pos hz]
      ((obtain ⟨x0,x1,x2,e0,s0⟩:=B0.out.f3;obtain ⟨q0,q1,q2,eb,sb⟩:=B1.out.f3);have Z:=hide (three_z B1.out (.int .i64 N) (.slice A m c) (.slice B b d));go_wp2_with (fail);refine bodyPost_ret (v:=.tuple #[mV N A m c B b d,.int .i64 11]) (by simp [results,Tryz.results8,go_sem,mV,Z.out.1,Z.out.2.1,Z.out.2.2]) rfl ?_;exact ⟨A,m,c,B,b,d,rfl,(HM.out.set3 _ _ _).mm,below_set3 hb (by omega) _ _ _⟩)
    · obtain rfl:rr=(ks.take i ++ ks.drop (i + 1),ps,0):=by rw [← HC.out,if_neg (by omega:¬ (i:Int) < 0),if_neg hz];rfl
      (obtain ⟨x0,x1,x2,e0,s0⟩:=B0.out.f3;obtain ⟨q0,q1,q2,eb,sb⟩:=B1.out.f3)
      have O0:=hide (World.ownsRow_nil w2 w2.heap.size 43 1)
      have N0:=hide (u_head HM.out.k (Nat.le_of_lt him))
      have hcc:=HM.out.k.le
      have hcc2:i ≤ c:=by omega
      (go_wp2_with (at_builtin;refine stopAt ?_);refine stopGo ?_)
      refine wpList_append_sl _ rfl (.tmp 67) (.tmp 71) _ rfl w2.heap.size 43 ie _ 1 8 Tryz.underlying24 hie hze he1 he2 rfl (by omega) (.slice none 0 0) 0 _ rfl O0.out [] _ i c _ rfl N0.out ints_one (by simp only [maxLen];omega) (by omega) (Nat.le_refl _) ?_
      intro A2 c2 w3 own2 g2 _
      simp only [Nat.zero_add,List.nil_append] at own2
      have G2:=below_grown O0.out g2 (Nat.le_refl _) (Nat.le_refl _)
      have O2:=hide own2
      clear own2 g2 O0 N0 x0 x1 x2 q0 q1 q2 e0 s0 eb sb
      (obtain ⟨x0,x1,x2,e0,s0⟩:=(B0.out.below G2 B0.out.lt).f3)
      have i0:(0:Int) ≤ (i:Int) + 1:=by omega
      have i1:(i:Int) + 1 ≤ (m:Int):=by omega
      have i2:((i:Int) + 1).toNat=i + 1:=by omega
      go_wp2_with (fail)
      (have hl0:w.heap.size < w.heap.size + 1:=Nat.lt_succ_self _;have hB8:w.heap.size + 1 ≤ (w3).heap.size:=Nat.le_trans (Nat.le_of_lt B1.out.lt) (G2).size;refine wp_region_lexD [8,12] (fun w'=>Below (w.heap.size + 1) (w3) w') (by kernel_rfl) (by kernel_rfl) (Below.refl _ _).drew ?_;(repeat ((with_reducible refine wpLex_step (fun K hK=>?_));go_simp;first | ((with_reducible refine hK _ _ ?_);clear hK K) | ((with_reducible apply Exists.intro);refine ⟨fun w' hw'=>?_,hK _ _ ?_⟩;(· (have hq:=bcells hw';apply valEq;(· (go_simp;first | done | (with_reducible rfl)));(· ((try go_bits);with_reducible rfl))));clear hK K)));have g0:=(Below.refl (w.heap.size + 1) (w3)).drew)
      have O3:=hide (show w3.drew.ownsRow _ _ _ _ _ _ from O2.out)
      have G3:=G2.drew
      have N3:=hide (u_tail (Sl.below HM.out.k G3) (show i + 1 ≤ m by omega))
      generalize w3.drew=w4 at *
      refine wpLex_append_sl _ rfl (by rfl) (.tmp 75) (.tmp 80) _ rfl w2.heap.size 43 ie _ 1 8 Tryz.underlying24 hie hze he1 he2 rfl (by omega) (.slice A2 i c2) i _ rfl O3.out [] _ (m - (i + 1)) _ _ rfl N3.out ints_one (by simp only [maxLen];omega) (by omega) G3.size ?_
      intro A4 c4 w5 own4 g4 _
      have G4:=below_grown O3.out g4 (Nat.le_refl _) G3.size
      have gB:=g0.trans (G4.mono (Nat.le_of_lt B1.out.lt))
      replace G4:=G3.trans G4
      refine ⟨gB,?_⟩
      rw [← ints_append] at own4
      have hlt1:=B1.out.lt
      have S4:=hide (Sl.of_own own4 (M:=[w.heap.size + 1]) (fun kk hkk=>by rw [List.mem_singleton.1 hkk];exact hlt1))
      (replace hb:=hb.trans (G4.mono hb.size);replace HM:=hide (HM.out.below G4);replace B0:=hide (B0.out.below G4 B0.out.lt);replace B1:=hide (B1.out.below G4 B1.out.lt);clear G4)
      clear own4 g4 O2 O3 N3 G2 G3 g0 hlt1
      (obtain ⟨q0,q1,q2,eb,sb⟩:=B1.out.f3;(repeat ((with_reducible refine wpLex_step (fun K hK=>?_));go_simp;first | ((with_reducible refine hK _ _ ?_);clear hK K) | ((with_reducible apply Exists.intro);refine ⟨fun w' hw'=>?_,hK _ _ ?_⟩;(· (have hq:=bcells hw';apply valEq;(· (go_simp;first | done | (with_reducible rfl)));(· ((try go_bits);with_reducible rfl))));clear hK K)));((with_reducible refine wpLex_step (fun K hK=>?_));go_simp;refine ⟨below_set3 gB (Nat.le_refl _) _ _ _,hK _ _ ?_⟩;clear hK K);clear q0 q1 q2 eb sb x0 x1 x2 e0 s0;(repeat ((with_reducible refine wpLex_step (fun K hK=>?_));go_simp;first | ((with_reducible refine hK _ _ ?_);clear hK K) | ((with_reducible apply Exists.intro);refine ⟨fun w' hw'=>?_,hK _ _ ?_⟩;(· (have hq:=bcells hw';apply valEq;(· (go_simp;first | done | (with_reducible rfl)));(· ((try go_bits);with_reducible rfl))));clear hK K)));refine wpLex_nil (fun _=>?_);have BW:=Blk.set3 (x:=.int .i64 N) (y:=.slice A4 (i + (m - (i + 1))) c4) (z:=.slice B b d) B1.out;have MW:=hide (MO.set3 (MO.mk S4.out HM.out.p) (.int .i64 N) (.slice A4 (i + (m - (i + 1))) c4) (.slice B b d));have hbw:=below_set3 hb (show w.heap.size ≤ w.heap.size + 1 by omega) (.int .i64 N) (.slice A4 (i + (m - (i + 1))) c4) (.slice B b d);clear B0 B1 HM hb;generalize (((w5.setCell ⟨w.heap.size + 1,0,none⟩ (Value.int .i64 N)).setCell ⟨w.heap.size + 1,1,none⟩ (Value.slice A4 (i + (m - (i + 1))) c4)).setCell ⟨w.heap.size + 1,2,none⟩ (Value.slice B b d))=W9 at *;obtain ⟨q0,q1,q2,eb,sb⟩:=BW.f3;go_wp2_with (fail);refine bodyPost_ret (v:=.tuple #[mV N A4 (i + (m - (i + 1))) c4 B b d,.int .i64 0]) (by simp [results,Tryz.results8,go_sem,mV,q0,q1,q2]) rfl ?_;exact ⟨_,_,_,_,_,_,rfl,MW.out.mm,hbw⟩)
end
end Go.Proofs.YtppblcbgkadldaaGreatDoor
