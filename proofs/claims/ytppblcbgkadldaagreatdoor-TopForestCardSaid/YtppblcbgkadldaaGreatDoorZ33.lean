/-
  A part of the proof that the law TopForest returns true for every input and leaves its arguments as they were: Equal, IdxE.
-/
import Derived.Test.YtppblcbgkadldaaGreatDoorZ30
import Derived.Test.YtppblcbgkadldaaGreatDoorZ32
set_option linter.all false
namespace Go.Proofs.YtppblcbgkadldaaGreatDoor
open Go Go.RowKit
set_option maxRecDepth 100000
attribute [local go_sem] Heavy heavyUpon
theorem take_eq_step {α:Type} {l m:List α} {k:Nat} (hl:k < l.length) (hm:k < m.length) (h:l.take k=m.take k) (he:l[k]=m[k]):l.take (k + 1)=m.take (k + 1):=by
  rw [List.take_succ_eq_append_getElem hl,List.take_succ_eq_append_getElem hm,h,he]
set_option maxHeartbeats 1600000 in
theorem equal_ok (l m:List Int) (A B:Option Addr) (n c k d:Nat) (w:World) (hA:Sl w [] 1 A n c (ints .i64 l)) (hB:Sl w [] 1 B k d (ints .i64 m)) :
    Calls Tryz.prog 83 #[.slice A n c,.slice B k d] w (Ret (.bool (decide (l=m))) w):=by
  have HL:=hide (show l.length=n by have:=hA.len;simpa using this)
  have HM:=hide (show m.length=k by have:=hB.len;simpa using this)
  have hcap:n ≤ maxLen:=Nat.le_trans hA.le hA.cap
  unfold maxLen at hcap
  by_cases hnk:n=k
  · subst hnk
    have hd:((n:Int) != (n:Int))=false:=by simp
    go_enter Tryz.func83,Tryz.ntmps83
    go_wp2_with (fail)
    go_loopw [13] (fun i wr=>∃ j:Nat,j ≤ n ∧ i=.int .i64 j ∧ Below w.heap.size w wr ∧ Hid (l.take j=m.take j)) (fun i _=>n - (intOf i).toNat)
    case atStart=>exact ⟨0,Nat.zero_le _,rfl,Below.refl _ _,hide rfl⟩
    case round =>
      obtain ⟨j,hj,rfl,hbr,HT⟩:=hrel
      have hAr:=hA.below hbr
      have hBr:=hB.below hbr
      by_cases hlt:j < n
      · have hlj:j < l.length:=by have:=HL.out;omega
        have hmj:j < m.length:=by have:=HM.out;omega
        obtain ⟨a1,rfl,ha1,_,hc1⟩:=hAr.at_ (by omega)
        obtain ⟨a2,rfl,ha2,_,hc2⟩:=hBr.at_ (by omega)
        have c1:=hc1 _ _ (ints_get hlj)
        have c2:=hc2 _ _ (ints_get hmj)
        have HS:=hide (take_eq_step hlj hmj HT.out)
        have HN:=hide (show l[j] ≠ m[j] → decide (l=m)=false from fun h=>decide_eq_false (fun e=>h (by subst e;rfl)))
        have k1:(a1.add j).block < wr.heap.size:=by rw [block_of_add];exact ha1
        have k2:(a2.add j).block < wr.heap.size:=by rw [block_of_add];exact ha2
        clear hc1 hc2
        generalize l[j]=x at *
        generalize m[j]=y at *
        by_cases hxy:x=y
        · subst hxy
          have hd:(x != x)=false:=by simp
          have HT2:=hide (HS.out rfl)
          clear HS HN
          go_wp2_with (fail)
          refine wp_region_lexD [] (fun w'=>Below (wr).heap.size (wr) w') (by kernel_rfl) (by kernel_rfl) (Below.refl _ _).drew ?_
          (repeat ((with_reducible refine wpLex_step (fun K hK=>?_));go_simp;first | ((with_reducible refine hK _ _ ?_);clear hK K) | ((with_reducible apply Exists.intro);refine ⟨fun w' hw'=>?_,hK _ _ ?_⟩;(· (have hq:=bcells hw';apply valEq;(· (go_simp;first | done | (with_reducible rfl)));(· ((try go_bits);with_reducible rfl))));clear hK K)))
          refine wpLex_nil (fun g3=>?_)
          go_wp2_with (fail)
          exact ⟨⟨j + 1,by omega,by go_num,hbr.drew,HT2⟩,by simp [intOf];omega⟩
        · have HF:=hide (HN.out hxy)
          have hd:(x != y)=true:=by simp [hxy]
          clear HS HN
          go_wp2_with (fail)
          refine wp_region_lexD [] (fun w'=>Below (wr).heap.size (wr) w') (by kernel_rfl) (by kernel_rfl) (Below.refl _ _).drew ?_
          (repeat ((with_reducible refine wpLex_step (fun K hK=>?_));go_simp;first | ((with_reducible refine hK _ _ ?_);clear hK K) | ((with_reducible apply Exists.intro);refine ⟨fun w' hw'=>?_,hK _ _ ?_⟩;(· (have hq:=bcells hw';apply valEq;(· (go_simp;first | done | (with_reducible rfl)));(· ((try go_bits);with_reducible rfl))));clear hK K)))
          refine wpLex_nil (fun g3=>?_)
          go_wp2_with (fail)
          go_ret
          exact ⟨by rw [HF.out];rfl,hbr.drew⟩
      · obtain rfl:j=n:=by omega
        have HF:=hide (show decide (l=m)=true from decide_eq_true (by have:=HT.out;rwa [List.take_of_length_le (by rw [HL.out];exact Nat.le_refl _),List.take_of_length_le (by rw [HM.out];exact Nat.le_refl _)] at this))
        go_wp2_with (fail)
        go_ret
        exact ⟨by rw [HF.out];rfl,hbr⟩
  · have HF:=hide (show decide (l=m)=false from decide_eq_false (fun e=>hnk (by subst e;exact HL.out.symm.trans HM.out)))
    have hne:((n:Int) != (k:Int))=true:=by simp;omega
    go_enter Tryz.func83,Tryz.ntmps83
    go_wp2_with (fail)
    go_ret
    exact ⟨by rw [HF.out];rfl,Below.refl _ _⟩
section
variable {w w':World} {N L R:Nat} {hs:List (Int × Int)} {es:List E3} {H:Option Addr} {hc:Nat} {E:Option Addr} {m c:Nat}
set_option maxHeartbeats 3200000 in
theorem exact_ok (w:World) (hG:GM w N L R hs es H hc E m c) :
    Calls Tryz.prog 50 #[gV N L R H hc E m c] w (Ret (.bool (decide (natL (partN N (forN es L))=natL (partN N (endsE es))))) w):=by
  have hml:=hG.m_le
  have n2:=hG.n2
  have QR:=hide (fun W (h:GM W N L R hs es H hc E m c)=>sright_ok W h)
  have QK:=hide (fun W (h:GM W N L R hs es H hc E m c)=>kept_ok W h)
  have QS:=hide (fun W (h:GM W N L R hs es H hc E m c)=>so_ok W h)
  have B0:=Blk.new w 30 #[.int .i64 N,.int .i64 L,.int .i64 R,.slice H (L * R) hc,.slice E m c]
  have hb0:=(Below.refl w.heap.size w).alloc (Nat.le_refl _) (.cells #[.int .i64 N,.int .i64 L,.int .i64 R,.slice H (L * R) hc,.slice E m c] 30)
  have HG0:=hide (hG.alloc (.cells #[.int .i64 N,.int .i64 L,.int .i64 R,.slice H (L * R) hc,.slice E m c] 30))
  unfold gV at QR QK QS
  unfold gV
  generalize natL (partN N (forN es L))=PK at *
  generalize natL (partN N (endsE es))=PT at *
  generalize L * R=K at *
  clear hG
  go_enter Tryz.func50,Tryz.ntmps50
  go_wp2_with (fail)
  generalize w.alloc (.cells #[.int .i64 N,.int .i64 L,.int .i64 R,.slice H K hc,.slice E m c] 30)=W0 at *
  (obtain ⟨x0,x1,x2,x3,x4,e0,s0⟩:=(B0).f5)
  refine wp_region_lexD [1,4,6,7] (fun w'=>Below (W0).heap.size (W0) w') (by kernel_rfl) (by kernel_rfl) (Below.refl _ _).drew ?_
  (repeat ((with_reducible refine wpLex_step (fun K hK=>?_));go_simp;first | ((with_reducible refine hK _ _ ?_);clear hK K) | ((with_reducible apply Exists.intro);refine ⟨fun w' hw'=>?_,hK _ _ ?_⟩;(· (have hq:=bcells hw';apply valEq;(· (go_simp;first | done | (with_reducible rfl)));(· ((try go_bits);with_reducible rfl))));clear hK K)))
  ((with_reducible refine wpLex_step (fun K hK=>?_));go_simp;refine (QR.out _ HG0.out.drew).mono ?_;rintro e w3 ⟨rfl,hbx⟩;have g3:=((Below.refl (W0).heap.size W0).drew).trans (hbx.mono ((Below.refl (W0).heap.size W0).drew).size);refine ⟨_,rfl,g3,hK _ _ ?_⟩;clear hK K hbx)
  (repeat ((with_reducible refine wpLex_step (fun K hK=>?_));go_simp;first | ((with_reducible refine hK _ _ ?_);clear hK K) | ((with_reducible apply Exists.intro);refine ⟨fun w' hw'=>?_,hK _ _ ?_⟩;(· (have hq:=bcells hw';apply valEq;(· (go_simp;first | done | (with_reducible rfl)));(· ((try go_bits);with_reducible rfl))));clear hK K)))
  ((with_reducible refine wpLex_step (fun K hK=>?_));go_simp;refine (QK.out _ (HG0.out.below g3)).mono ?_;rintro e w4 ⟨R4,rfl,S4,hbx⟩;have g4:=(g3).trans (hbx.mono (g3).size);have HS4:=hide S4;refine ⟨_,rfl,g4,hK _ _ ?_⟩;clear hK K hbx)
  (repeat ((with_reducible refine wpLex_step (fun K hK=>?_));go_simp;first | ((with_reducible refine hK _ _ ?_);clear hK K) | ((with_reducible apply Exists.intro);refine ⟨fun w' hw'=>?_,hK _ _ ?_⟩;(· (have hq:=bcells hw';apply valEq;(· (go_simp;first | done | (with_reducible rfl)));(· ((try go_bits);with_reducible rfl))));clear hK K)))
  ((with_reducible refine wpLex_step (fun K hK=>?_));go_simp;refine (QS.out _ (HG0.out.below g4)).mono ?_;rintro e w5 ⟨R5,rfl,S5,hbx⟩;have g5:=(g4).trans (hbx.mono (g4).size);have HS5:=hide S5;have HK5:=hide (Sl.below HS4.out hbx);refine ⟨_,rfl,g5,hK _ _ ?_⟩;clear hK K hbx)
  (repeat ((with_reducible refine wpLex_step (fun K hK=>?_));go_simp;first | ((with_reducible refine hK _ _ ?_);clear hK K) | ((with_reducible apply Exists.intro);refine ⟨fun w' hw'=>?_,hK _ _ ?_⟩;(· (have hq:=bcells hw';apply valEq;(· (go_simp;first | done | (with_reducible rfl)));(· ((try go_bits);with_reducible rfl))));clear hK K)))
  ((with_reducible refine wpLex_step (fun K hK=>?_));go_simp;refine (equal_ok _ _ _ _ _ _ _ _ _ HK5.out HS5.out).mono ?_;rintro e w6 ⟨rfl,hbx⟩;have g6:=(g5).trans (hbx.mono (g5).size);refine ⟨_,rfl,g6,hK _ _ ?_⟩;clear hK K hbx)
  (repeat ((with_reducible refine wpLex_step (fun K hK=>?_));go_simp;first | ((with_reducible refine hK _ _ ?_);clear hK K) | ((with_reducible apply Exists.intro);refine ⟨fun w' hw'=>?_,hK _ _ ?_⟩;(· (have hq:=bcells hw';apply valEq;(· (go_simp;first | done | (with_reducible rfl)));(· ((try go_bits);with_reducible rfl))));clear hK K)))
  refine wpLex_nil (fun _=>?_)
  have hb9:=hb0.trans (g6.mono hb0.size)
  go_wp2_with (fail)
  go_ret
  exact ⟨rfl,hb9⟩
end
end Go.Proofs.YtppblcbgkadldaaGreatDoor
namespace Go.Proofs.YtppblcbgkadldaaGreatDoor
open Go Go.RowKit
set_option maxRecDepth 100000
attribute [local go_sem] Heavy heavyUpon
section
variable {w w':World} {N L R:Nat} {hs:List (Int × Int)} {es:List E3} {ls:List S2} {H:Option Addr} {hc:Nat} {E:Option Addr} {m c:Nat} {S:Option Addr} {d:Nat}
def RetA (T:TypeId) (P:Value → World → Prop) (w:World) (e:Ending) (w':World):Prop:=∃ x,e=.returned (.iface T x) ∧ P x w' ∧ Below w.heap.size w w'
def IsV (v:Value) (x:Value) (_:World):Prop:=x=v
def IsKeys (Kb:List Nat) (l:List Int) (x:Value) (W:World):Prop:=∃ A k l',x=.slice A l'.length k ∧ Sl W Kb 1 A l'.length k (ints .u64 l') ∧ l'.Perm l ∧ l'.Pairwise (· ≤ ·)
def IsPs (Kb:List Nat) (l:List (Int × Int)) (x:Value) (W:World):Prop:=∃ A k l',x=.slice A l'.length k ∧ Sl W Kb 2 A l'.length k (hcells l') ∧ l'.Perm l
set_option maxHeartbeats 6400000 in
theorem answer_8 (Kb:List Nat) (u v:Nat) (hu:u < N) (hv:v < N) (w:World) (hS:SM w N L R hs es ls H hc E m c S d) (hKb:∀ k ∈ Kb,k < w.heap.size) :
    Calls Tryz.prog 20 #[sV N L R H hc E m c S d,.int .i64 8,.int .i64 u,.int .i64 v] w (RetA 4 (IsV (.bool (decide ((partN N (forN es L)).getD u 0=(partN N (forN es L)).getD v 0)))) w):=by
  generalize hgu:(partN N (forN es L)).getD u 0=gu
  generalize hgv:(partN N (forN es L)).getD v 0=gv
  replace hgu:=hide hgu
  replace hgv:=hide hgv
  (have n1:=hS.g.n1;have n2:=hS.g.n2;have QK:=hide (fun W (h:GM W N L R hs es H hc E m c)=>kept_ok W h);have HPR:=hide (partN_ps (forN_ok hS.g.ge.right L)).pr;have HPN:=hide (partN_ps (forN_ok hS.g.ge.right L)).len;have HKB:=hide hKb;have B0:=Blk.new w 33 #[.int .i64 N,.int .i64 L,.int .i64 R,.slice H (L * R) hc,.slice E m c,.slice S N d];have hb0:=(Below.refl w.heap.size w).alloc (Nat.le_refl _) (.cells #[.int .i64 N,.int .i64 L,.int .i64 R,.slice H (L * R) hc,.slice E m c,.slice S N d] 33);have HS0:=hide (hS.alloc (.cells #[.int .i64 N,.int .i64 L,.int .i64 R,.slice H (L * R) hc,.slice E m c,.slice S N d] 33));unfold gV at QK;unfold sV;generalize partN N (forN es L)=PT at *;generalize hKE:L * R=K at *;replace hKE:=hide hKE;have HKE:=hKE;clear hKE hS hKb;go_enter Tryz.func20,Tryz.ntmps20;go_wp2_with (fail);generalize w.alloc (.cells #[.int .i64 N,.int .i64 L,.int .i64 R,.slice H K hc,.slice E m c,.slice S N d] 33)=W0 at *;(obtain ⟨x0,x1,x2,x3,x4,x5,e0,s0⟩:=(B0).f6);go_wp2_with (fail);clear x0 x1 x2 x3 x4 x5 e0 s0;refine (QK.out _ HS0.out.g).mono ?_;rintro e w1 ⟨A1,rfl,S1,b1⟩;have hb1:=hb0.trans (b1.mono hb0.size);have HS1:=hide (HS0.out.below b1);have B1:=B0.below b1 B0.lt;have hz0:=hide hb0.size;clear b1 B0 HS0 hb0;(obtain ⟨x0,x1,x2,x3,x4,x5,e0,s0⟩:=(B1).f6))
  obtain ⟨a1,rfl,ha1,_,hc1⟩:=S1.at_ (by omega)
  have hup:u < PT.length:=by have:=HPN.out;omega
  have hvp:v < PT.length:=by have:=HPN.out;omega
  have c1:=hc1 _ _ (natL_get hup)
  have c2:=hc1 _ _ (natL_get hvp)
  rw [show PT[u]=gu by rw [← hgu.out];simp [List.getD_eq_getElem?_getD,List.getElem?_eq_getElem hup]] at c1
  rw [show PT[v]=gv by rw [← hgv.out];simp [List.getD_eq_getElem?_getD,List.getElem?_eq_getElem hvp]] at c2
  have k1:(a1.add u).block < w1.heap.size:=by rw [block_of_add];exact ha1
  have k2:(a1.add v).block < w1.heap.size:=by rw [block_of_add];exact ha1
  clear hc1
  go_wp2_with (fail)
  refine wp_region_lexD [] (fun w'=>Below (w1).heap.size (w1) w') (by kernel_rfl) (by kernel_rfl) (Below.refl _ _).drew ?_
  (repeat ((with_reducible refine wpLex_step (fun K hK=>?_));go_simp;first | ((with_reducible refine hK _ _ ?_);clear hK K) | ((with_reducible apply Exists.intro);refine ⟨fun w' hw'=>?_,hK _ _ ?_⟩;(· (have hq:=bcells hw';apply valEq;(· (go_simp;first | done | (with_reducible rfl)));(· ((try go_bits);with_reducible rfl))));clear hK K)))
  refine wpLex_nil (fun g3=>?_)
  go_wp2_with (fail)
  have HD:=hide (show ((gu:Int) == (gv:Int))=decide (gu=gv) by rw [Bool.eq_iff_iff,beq_iff_eq,decide_eq_true_iff];omega)
  go_ret
  exact ⟨_,rfl,by rw [IsV,HD.out],hb1.drew⟩
set_option maxHeartbeats 6400000 in
theorem answer_9 (Kb:List Nat) (u v:Nat) (hu:u < N) (w:World) (hS:SM w N L R hs es ls H hc E m c S d) (hKb:∀ k ∈ Kb,k < w.heap.size) :
    Calls Tryz.prog 20 #[sV N L R H hc E m c S d,.int .i64 9,.int .i64 u,.int .i64 v] w (RetA 3 (IsV (.int .i64 ((keysN ls (classN (partN N (forN es L)) u N)).length:Nat))) w):=by
  (have n1:=hS.g.n1;have n2:=hS.g.n2;have QK:=hide (fun W (h:GM W N L R hs es H hc E m c)=>kept_ok W h);have HPR:=hide (partN_ps (forN_ok hS.g.ge.right L)).pr;have HPN:=hide (partN_ps (forN_ok hS.g.ge.right L)).len;have HKB:=hide hKb;have B0:=Blk.new w 33 #[.int .i64 N,.int .i64 L,.int .i64 R,.slice H (L * R) hc,.slice E m c,.slice S N d];have hb0:=(Below.refl w.heap.size w).alloc (Nat.le_refl _) (.cells #[.int .i64 N,.int .i64 L,.int .i64 R,.slice H (L * R) hc,.slice E m c,.slice S N d] 33);have HS0:=hide (hS.alloc (.cells #[.int .i64 N,.int .i64 L,.int .i64 R,.slice H (L * R) hc,.slice E m c,.slice S N d] 33));unfold gV at QK;unfold sV;generalize partN N (forN es L)=PT at *;generalize hKE:L * R=K at *;replace hKE:=hide hKE;have HKE:=hKE;clear hKE hS hKb;go_enter Tryz.func20,Tryz.ntmps20;go_wp2_with (fail);generalize w.alloc (.cells #[.int .i64 N,.int .i64 L,.int .i64 R,.slice H K hc,.slice E m c,.slice S N d] 33)=W0 at *;(obtain ⟨x0,x1,x2,x3,x4,x5,e0,s0⟩:=(B0).f6);go_wp2_with (fail);clear x0 x1 x2 x3 x4 x5 e0 s0;refine (QK.out _ HS0.out.g).mono ?_;rintro e w1 ⟨A1,rfl,S1,b1⟩;have hb1:=hb0.trans (b1.mono hb0.size);have HS1:=hide (HS0.out.below b1);have B1:=B0.below b1 B0.lt;have hz0:=hide hb0.size;clear b1 B0 HS0 hb0;(obtain ⟨x0,x1,x2,x3,x4,x5,e0,s0⟩:=(B1).f6))
  have HVL:=hide (show ∀ x ∈ classN PT u N,x < N from fun x hx=>List.mem_range.1 (List.mem_filter.1 hx).1)
  have HCL:=hide (classN_le PT u N)
  have HPC:=hide (fun W A (h:Sl W [] 1 A N N (ints .i64 (natL PT)))=>pclass_ok PT HPR.out u A N N W h hu (by omega))
  have QY:=hide (fun W A dd (h:SM W N L R hs es ls H hc E m c S d) (h2:Sl W [] 1 A (classN PT u N).length dd (ints .i64 (natL (classN PT u N)))) (h3:∀ k ∈ Kb,k < W.heap.size)=>keys_ok Kb (classN PT u N) HVL.out A dd W h h2 (by have:=HCL.out;have:=HS1.out.g.n2;omega) h3)
  have HS1':=hide S1
  have HKW:=hide (show ∀ W,Below w1.heap.size w1 W → ∀ k ∈ Kb,k < W.heap.size from fun W h k hk=>Nat.lt_of_lt_of_le (HKB.out k hk) (Nat.le_trans hb1.size h.size))
  unfold sV at QY
  rw [HKE.out] at QY
  generalize classN PT u N=CL at *
  clear S1
  go_wp2_with (fail)
  refine wp_region_lexD [3,4] (fun w'=>Below (w1).heap.size (w1) w') (by kernel_rfl) (by kernel_rfl) (Below.refl _ _).drew ?_
  (repeat ((with_reducible refine wpLex_step (fun K hK=>?_));go_simp;first | ((with_reducible refine hK _ _ ?_);clear hK K) | ((with_reducible apply Exists.intro);refine ⟨fun w' hw'=>?_,hK _ _ ?_⟩;(· (have hq:=bcells hw';apply valEq;(· (go_simp;first | done | (with_reducible rfl)));(· ((try go_bits);with_reducible rfl))));clear hK K)))
  ((with_reducible refine wpLex_step (fun K hK=>?_));go_simp;refine (HPC.out _ _ HS1'.out.drew).mono ?_;rintro e w3 ⟨R3,d3,rfl,S3,hbx⟩;have g3:=((Below.refl (w1).heap.size w1).drew).trans (hbx.mono ((Below.refl (w1).heap.size w1).drew).size);have HS3:=hide S3;refine ⟨_,rfl,g3,hK _ _ ?_⟩;clear hK K hbx)
  (repeat ((with_reducible refine wpLex_step (fun K hK=>?_));go_simp;first | ((with_reducible refine hK _ _ ?_);clear hK K) | ((with_reducible apply Exists.intro);refine ⟨fun w' hw'=>?_,hK _ _ ?_⟩;(· (have hq:=bcells hw';apply valEq;(· (go_simp;first | done | (with_reducible rfl)));(· ((try go_bits);with_reducible rfl))));clear hK K)))
  ((with_reducible refine wpLex_step (fun K hK=>?_));go_simp;refine (QY.out _ _ _ (HS1.out.below g3) HS3.out (HKW.out _ g3)).mono ?_;rintro e w4 ⟨A4,k4,l4,rfl,S4,P4,O4,hbx⟩;have g4:=(g3).trans (hbx.mono (g3).size);have HS4:=hide S4;have HP4:=hide (And.intro P4 O4);refine ⟨_,rfl,g4,hK _ _ ?_⟩;clear hK K hbx)
  (repeat ((with_reducible refine wpLex_step (fun K hK=>?_));go_simp;first | ((with_reducible refine hK _ _ ?_);clear hK K) | ((with_reducible apply Exists.intro);refine ⟨fun w' hw'=>?_,hK _ _ ?_⟩;(· (have hq:=bcells hw';apply valEq;(· (go_simp;first | done | (with_reducible rfl)));(· ((try go_bits);with_reducible rfl))));clear hK K)))
  refine wpLex_nil (fun _=>?_)
  have hb9:=hb1.trans (g4.mono hb1.size)
  go_wp2_with (fail)
  go_ret
  exact ⟨_,rfl,by rw [IsV,HP4.out.1.length_eq],hb9⟩
set_option maxHeartbeats 6400000 in
theorem answer_11 (Kb:List Nat) (u v:Nat) (hu:u < N) (w:World) (hS:SM w N L R hs es ls H hc E m c S d) (hKb:∀ k ∈ Kb,k < w.heap.size) :
    Calls Tryz.prog 20 #[sV N L R H hc E m c S d,.int .i64 11,.int .i64 u,.int .i64 v] w (RetA 24 (IsKeys Kb (keysN ls (classN (partN N (forN es L)) u N))) w):=by
  (have n1:=hS.g.n1;have n2:=hS.g.n2;have QK:=hide (fun W (h:GM W N L R hs es H hc E m c)=>kept_ok W h);have HPR:=hide (partN_ps (forN_ok hS.g.ge.right L)).pr;have HPN:=hide (partN_ps (forN_ok hS.g.ge.right L)).len;have HKB:=hide hKb;have B0:=Blk.new w 33 #[.int .i64 N,.int .i64 L,.int .i64 R,.slice H (L * R) hc,.slice E m c,.slice S N d];have hb0:=(Below.refl w.heap.size w).alloc (Nat.le_refl _) (.cells #[.int .i64 N,.int .i64 L,.int .i64 R,.slice H (L * R) hc,.slice E m c,.slice S N d] 33);have HS0:=hide (hS.alloc (.cells #[.int .i64 N,.int .i64 L,.int .i64 R,.slice H (L * R) hc,.slice E m c,.slice S N d] 33));unfold gV at QK;unfold sV;generalize partN N (forN es L)=PT at *;generalize hKE:L * R=K at *;replace hKE:=hide hKE;have HKE:=hKE;clear hKE hS hKb;go_enter Tryz.func20,Tryz.ntmps20;go_wp2_with (fail);generalize w.alloc (.cells #[.int .i64 N,.int .i64 L,.int .i64 R,.slice H K hc,.slice E m c,.slice S N d] 33)=W0 at *;(obtain ⟨x0,x1,x2,x3,x4,x5,e0,s0⟩:=(B0).f6);go_wp2_with (fail);clear x0 x1 x2 x3 x4 x5 e0 s0;refine (QK.out _ HS0.out.g).mono ?_;rintro e w1 ⟨A1,rfl,S1,b1⟩;have hb1:=hb0.trans (b1.mono hb0.size);have HS1:=hide (HS0.out.below b1);have B1:=B0.below b1 B0.lt;have hz0:=hide hb0.size;clear b1 B0 HS0 hb0;(obtain ⟨x0,x1,x2,x3,x4,x5,e0,s0⟩:=(B1).f6))
  have HVL:=hide (show ∀ x ∈ classN PT u N,x < N from fun x hx=>List.mem_range.1 (List.mem_filter.1 hx).1)
  have HCL:=hide (classN_le PT u N)
  have HPC:=hide (fun W A (h:Sl W [] 1 A N N (ints .i64 (natL PT)))=>pclass_ok PT HPR.out u A N N W h hu (by omega))
  have QY:=hide (fun W A dd (h:SM W N L R hs es ls H hc E m c S d) (h2:Sl W [] 1 A (classN PT u N).length dd (ints .i64 (natL (classN PT u N)))) (h3:∀ k ∈ Kb,k < W.heap.size)=>keys_ok Kb (classN PT u N) HVL.out A dd W h h2 (by have:=HCL.out;have:=HS1.out.g.n2;omega) h3)
  have HS1':=hide S1
  have HKW:=hide (show ∀ W,Below w1.heap.size w1 W → ∀ k ∈ Kb,k < W.heap.size from fun W h k hk=>Nat.lt_of_lt_of_le (HKB.out k hk) (Nat.le_trans hb1.size h.size))
  unfold sV at QY
  rw [HKE.out] at QY
  generalize classN PT u N=CL at *
  clear S1
  go_wp2_with (fail)
  refine wp_region_lexD [3,4] (fun w'=>Below (w1).heap.size (w1) w') (by kernel_rfl) (by kernel_rfl) (Below.refl _ _).drew ?_
  (repeat ((with_reducible refine wpLex_step (fun K hK=>?_));go_simp;first | ((with_reducible refine hK _ _ ?_);clear hK K) | ((with_reducible apply Exists.intro);refine ⟨fun w' hw'=>?_,hK _ _ ?_⟩;(· (have hq:=bcells hw';apply valEq;(· (go_simp;first | done | (with_reducible rfl)));(· ((try go_bits);with_reducible rfl))));clear hK K)))
  ((with_reducible refine wpLex_step (fun K hK=>?_));go_simp;refine (HPC.out _ _ HS1'.out.drew).mono ?_;rintro e w3 ⟨R3,d3,rfl,S3,hbx⟩;have g3:=((Below.refl (w1).heap.size w1).drew).trans (hbx.mono ((Below.refl (w1).heap.size w1).drew).size);have HS3:=hide S3;refine ⟨_,rfl,g3,hK _ _ ?_⟩;clear hK K hbx)
  (repeat ((with_reducible refine wpLex_step (fun K hK=>?_));go_simp;first | ((with_reducible refine hK _ _ ?_);clear hK K) | ((with_reducible apply Exists.intro);refine ⟨fun w' hw'=>?_,hK _ _ ?_⟩;(· (have hq:=bcells hw';apply valEq;(· (go_simp;first | done | (with_reducible rfl)));(· ((try go_bits);with_reducible rfl))));clear hK K)))
  ((with_reducible refine wpLex_step (fun K hK=>?_));go_simp;refine (QY.out _ _ _ (HS1.out.below g3) HS3.out (HKW.out _ g3)).mono ?_;rintro e w4 ⟨A4,k4,l4,rfl,S4,P4,O4,hbx⟩;have g4:=(g3).trans (hbx.mono (g3).size);have HS4:=hide S4;have HP4:=hide (And.intro P4 O4);refine ⟨_,rfl,g4,hK _ _ ?_⟩;clear hK K hbx)
  (repeat ((with_reducible refine wpLex_step (fun K hK=>?_));go_simp;first | ((with_reducible refine hK _ _ ?_);clear hK K) | ((with_reducible apply Exists.intro);refine ⟨fun w' hw'=>?_,hK _ _ ?_⟩;(· (have hq:=bcells hw';apply valEq;(· (go_simp;first | done | (with_reducible rfl)));(· ((try go_bits);with_reducible rfl))));clear hK K)))
  refine wpLex_nil (fun _=>?_)
  have hb9:=hb1.trans (g4.mono hb1.size)
  go_wp2_with (fail)
  go_ret
  exact ⟨_,rfl,⟨A4,k4,l4,rfl,HS4.out,HP4.out.1,HP4.out.2⟩,hb9⟩
set_option maxHeartbeats 6400000 in
theorem answer_12 (Kb:List Nat) (u v:Nat) (w:World) (hS:SM w N L R hs es ls H hc E m c S d) (hKb:∀ k ∈ Kb,k < w.heap.size) :
    Calls Tryz.prog 20 #[sV N L R H hc E m c S d,.int .i64 12,.int .i64 u,.int .i64 v] w (RetA 40 (IsPs Kb ((forestE es L).map (pairL ls))) w):=by
  (have n1:=hS.g.n1;have n2:=hS.g.n2;have QK:=hide (fun W (h:GM W N L R hs es H hc E m c)=>kept_ok W h);have HPR:=hide (partN_ps (forN_ok hS.g.ge.right L)).pr;have HPN:=hide (partN_ps (forN_ok hS.g.ge.right L)).len;have HKB:=hide hKb;have B0:=Blk.new w 33 #[.int .i64 N,.int .i64 L,.int .i64 R,.slice H (L * R) hc,.slice E m c,.slice S N d];have hb0:=(Below.refl w.heap.size w).alloc (Nat.le_refl _) (.cells #[.int .i64 N,.int .i64 L,.int .i64 R,.slice H (L * R) hc,.slice E m c,.slice S N d] 33);have HS0:=hide (hS.alloc (.cells #[.int .i64 N,.int .i64 L,.int .i64 R,.slice H (L * R) hc,.slice E m c,.slice S N d] 33));unfold gV at QK;unfold sV;generalize partN N (forN es L)=PT at *;generalize hKE:L * R=K at *;replace hKE:=hide hKE;have HKE:=hKE;clear hKE hS hKb;go_enter Tryz.func20,Tryz.ntmps20;go_wp2_with (fail);generalize w.alloc (.cells #[.int .i64 N,.int .i64 L,.int .i64 R,.slice H K hc,.slice E m c,.slice S N d] 33)=W0 at *;(obtain ⟨x0,x1,x2,x3,x4,x5,e0,s0⟩:=(B0).f6);go_wp2_with (fail);clear x0 x1 x2 x3 x4 x5 e0 s0;refine (QK.out _ HS0.out.g).mono ?_;rintro e w1 ⟨A1,rfl,S1,b1⟩;have hb1:=hb0.trans (b1.mono hb0.size);have HS1:=hide (HS0.out.below b1);have B1:=B0.below b1 B0.lt;have hz0:=hide hb0.size;clear b1 B0 HS0 hb0;(obtain ⟨x0,x1,x2,x3,x4,x5,e0,s0⟩:=(B1).f6))
  have QY:=hide (fun W (h:SM W N L R hs es ls H hc E m c S d) (h3:∀ k ∈ Kb,k < W.heap.size)=>iforest_ok Kb W h h3)
  have HKW:=hide (show ∀ k ∈ Kb,k < w1.heap.size from fun k hk=>Nat.lt_of_lt_of_le (HKB.out k hk) hb1.size)
  unfold sV at QY
  rw [HKE.out] at QY
  clear S1
  go_wp2_with (fail)
  refine (QY.out _ HS1.out HKW.out).mono ?_
  rintro e w4 ⟨A4,k4,l4,rfl,S4,P4,b4⟩
  have HS4:=hide S4
  have HP4:=hide P4
  have hb9:=hb1.trans (b4.mono hb1.size)
  clear S4 P4
  go_wp2_with (fail)
  go_ret
  exact ⟨_,rfl,⟨A4,k4,l4,rfl,HS4.out,HP4.out⟩,hb9⟩
set_option maxHeartbeats 6400000 in
theorem answer_13 (Kb:List Nat) (u v:Nat) (w:World) (hS:SM w N L R hs es ls H hc E m c S d) (hKb:∀ k ∈ Kb,k < w.heap.size) :
    Calls Tryz.prog 20 #[sV N L R H hc E m c S d,.int .i64 13,.int .i64 u,.int .i64 v] w (RetA 4 (IsV (.bool (decide (natL (partN N (forN es L))=natL (partN N (endsE es)))))) w):=by
  have QX:=hide (fun W (h:GM W N L R hs es H hc E m c)=>exact_ok W h)
  unfold gV at QX
  generalize natL (partN N (endsE es))=PE at *
  (have n1:=hS.g.n1;have n2:=hS.g.n2;have QK:=hide (fun W (h:GM W N L R hs es H hc E m c)=>kept_ok W h);have HPR:=hide (partN_ps (forN_ok hS.g.ge.right L)).pr;have HPN:=hide (partN_ps (forN_ok hS.g.ge.right L)).len;have HKB:=hide hKb;have B0:=Blk.new w 33 #[.int .i64 N,.int .i64 L,.int .i64 R,.slice H (L * R) hc,.slice E m c,.slice S N d];have hb0:=(Below.refl w.heap.size w).alloc (Nat.le_refl _) (.cells #[.int .i64 N,.int .i64 L,.int .i64 R,.slice H (L * R) hc,.slice E m c,.slice S N d] 33);have HS0:=hide (hS.alloc (.cells #[.int .i64 N,.int .i64 L,.int .i64 R,.slice H (L * R) hc,.slice E m c,.slice S N d] 33));unfold gV at QK;unfold sV;generalize partN N (forN es L)=PT at *;generalize hKE:L * R=K at *;replace hKE:=hide hKE;have HKE:=hKE;clear hKE hS hKb;go_enter Tryz.func20,Tryz.ntmps20;go_wp2_with (fail);generalize w.alloc (.cells #[.int .i64 N,.int .i64 L,.int .i64 R,.slice H K hc,.slice E m c,.slice S N d] 33)=W0 at *;(obtain ⟨x0,x1,x2,x3,x4,x5,e0,s0⟩:=(B0).f6);go_wp2_with (fail);clear x0 x1 x2 x3 x4 x5 e0 s0;refine (QK.out _ HS0.out.g).mono ?_;rintro e w1 ⟨A1,rfl,S1,b1⟩;have hb1:=hb0.trans (b1.mono hb0.size);have HS1:=hide (HS0.out.below b1);have B1:=B0.below b1 B0.lt;have hz0:=hide hb0.size;clear b1 B0 HS0 hb0;(obtain ⟨x0,x1,x2,x3,x4,x5,e0,s0⟩:=(B1).f6))
  clear S1
  go_wp2_with (fail)
  refine (QX.out _ HS1.out.g).mono ?_
  rintro e w4 ⟨rfl,b4⟩
  have hb9:=hb1.trans (b4.mono hb1.size)
  go_wp2_with (fail)
  go_ret
  exact ⟨_,rfl,rfl,hb9⟩
end
end Go.Proofs.YtppblcbgkadldaaGreatDoor
