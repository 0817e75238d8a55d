/-
  A part of the proof that the law TopForest returns true for every input and leaves its arguments as they were: Few, LawB, Asserts, LawC.
-/
import Derived.Test.YtppblcbgkadldaaGreatDoorZ28
import Derived.Test.YtppblcbgkadldaaGreatDoorZ29
import Derived.Test.YtppblcbgkadldaaGreatDoorZ36
import Derived.Test.YtppblcbgkadldaaGreatDoorZ39
set_option linter.all false
namespace Go.Proofs.YtppblcbgkadldaaGreatDoor
open Go Go.RowKit
set_option maxRecDepth 100000
attribute [local go_sem] Heavy heavyUpon
attribute [local go_sem ↓] csl_hi csl_lo
set_option maxHeartbeats 3200000 in
theorem few_ok (n l r:Int) (cs:List Cmd) (A:Option Addr) (m c:Nat) (w:World) (hS:CSl w A m c cs) :
    Calls Tryz.prog 4 #[.agg #[.int .i64 n,.int .i64 l,.int .i64 r],.slice A m c,.int .i64 30] w fun e w'=>∃ q:Int,e=.returned (.int .i64 q) ∧ (q = -1 ∨ (n ≤ 10 ∧ l ≤ 4 ∧ r ≤ 3 ∧ q=(min m 30:Nat))) ∧ Below w.heap.size w w':=by
  have HL:=hide hS.length
  have B0:=Blk.new w 23 #[.int .i64 n,.int .i64 l,.int .i64 r]
  have hb0:=(Below.refl w.heap.size w).alloc (Nat.le_refl _) (.cells #[.int .i64 n,.int .i64 l,.int .i64 r] 23)
  have HS0:=hide (show CSl _ A m c cs from Sl.alloc hS (.cells #[.int .i64 n,.int .i64 l,.int .i64 r] 23))
  have hmc:=hS.le
  clear hS
  by_cases h1:10 < n
  · go_enter Tryz.func4,Tryz.ntmps4
    go_wp2_with (fail)
    go_ret
    exact ⟨-1,rfl,.inl rfl,hb0⟩
  · by_cases h2:4 < l
    · go_enter Tryz.func4,Tryz.ntmps4
      go_wp2_with (fail)
      go_ret
      exact ⟨-1,rfl,.inl rfl,hb0⟩
    · by_cases h3:3 < r
      · go_enter Tryz.func4,Tryz.ntmps4
        go_wp2_with (fail)
        go_ret
        exact ⟨-1,rfl,.inl rfl,hb0⟩
      · have hmin:min (m:Int) 30=((min m 30:Nat):Int):=by omega
        have HHD:=hide (fun W (h:CSl W A m c cs)=>CSl.head h (Nat.min_le_left m 30))
        have hk:=hide (show min m 30 ≤ 30 from Nat.min_le_right _ _)
        have hkm:=hide (show min m 30 ≤ m from Nat.min_le_left _ _)
        generalize min m 30=k at *
        have hk30:=hk.out
        have hkc:(k:Int) ≤ (c:Int):=by have:=hkm.out;omega
        go_enter Tryz.func4,Tryz.ntmps4
        go_wp2_with (fail)
        generalize w.alloc (.cells #[.int .i64 n,.int .i64 l,.int .i64 r] 23)=W0 at *
        have HC:=hide (HHD.out _ HS0.out)
        have HCL:=hide (HC.out).length
        go_loopw [31] (fun i wr=>∃ j:Nat,j ≤ k ∧ i=.int .i64 j ∧ Below w.heap.size w wr ∧ Hid (Below W0.heap.size W0 wr)) (fun i _=>k - (intOf i).toNat)
        case atStart=>exact ⟨0,Nat.zero_le _,rfl,hb0,hide (Below.refl _ _)⟩
        case round =>
          clear hb0
          obtain ⟨j,hj,rfl,hbr,HBB⟩:=hrel
          by_cases hlt:j < k
          · have hjl:j < (cs.take k).length:=by have:=HCL.out;omega
            obtain ⟨ad,rfl,had,c0,c1,c2,c3⟩:=CSl.get (CSl.below HC.out HBB.out) hjl
            generalize (cs.take k)[j]=x at *
            obtain ⟨q,a,b,tx⟩:=x
            simp only [] at c0 c1 c2 c3
            have hb1:=hbr.alloc hbr.size (.cells #[.int .i64 q,.int .u64 a,.int .u64 b,.string tx] 45)
            have HB1:=hide (HBB.out.alloc HBB.out.size (.cells #[.int .i64 q,.int .u64 a,.int .u64 b,.string tx] 45))
            by_cases ht:1000 < tx.size
            · go_wp2_with (fail)
              go_ret
              exact ⟨-1,rfl,.inl rfl,hb1⟩
            · go_wp2_with (fail)
              exact ⟨⟨j + 1,by omega,by go_num,hb1,HB1⟩,by simp [intOf];omega⟩
          · obtain rfl:j=k:=by omega
            go_wp2_with (fail)
            go_ret
            exact ⟨(j:Int),rfl,.inr ⟨by omega,by omega,by omega,rfl⟩,hbr⟩
end Go.Proofs.YtppblcbgkadldaaGreatDoor
namespace Go.Proofs.YtppblcbgkadldaaGreatDoor
open Go Go.RowKit
set_option maxRecDepth 100000
attribute [local go_sem] Heavy heavyUpon
attribute [local go_sem ↓] csl_hi csl_lo
def AwakeIs:Prop:=∀ W,Calls Tryz.prog 6 #[] W (Ret (.bool true) W)
set_option maxHeartbeats 12800000 in
theorem law_err (QA:AwakeIs) (n l r code:Int) (hcode:code ≠ 0) (A:Option Addr) (k c:Nat) (cs:List Cmd) (B:Option Addr) (m d:Nat) (w:World) (hC:CSl w B m d cs)
    (hN:∀ W,Below w.heap.size w W → Calls Tryz.prog 5 #[.agg #[.int .i64 n,.int .i64 l,.int .i64 r],.agg #[.slice A k c,.int .i64 0]] W (Ret (ZW A k c code) W)) :
    Calls Tryz.prog 3 #[.agg #[.int .i64 n,.int .i64 l,.int .i64 r],.slice A k c,.slice B m d] w (Ret (.bool true) w):=by
  have QN:=hide hN
  have QF:=hide (fun W (h:CSl W B m d cs)=>few_ok n l r cs B m d W h)
  have HA:=hide (show ∀ W,Calls Tryz.prog 6 #[] W (Ret (.bool true) W) from QA)
  have B0:=Blk.new w 23 #[.int .i64 n,.int .i64 l,.int .i64 r]
  have hb0:=(Below.refl w.heap.size w).alloc (Nat.le_refl _) (.cells #[.int .i64 n,.int .i64 l,.int .i64 r] 23)
  have HC:=hide (show CSl _ B m d cs from Sl.alloc hC (.cells #[.int .i64 n,.int .i64 l,.int .i64 r] 23))
  have hcd:(code != 0)=true:=by simpa using hcode
  unfold ZW at QN
  clear hN hC QA hcode
  go_enter Tryz.func3,Tryz.ntmps3
  go_wp2_with (fail)
  generalize w.alloc (.cells #[.int .i64 n,.int .i64 l,.int .i64 r] 23)=W0 at *
  refine (QF.out _ HC.out).mono ?_
  rintro e w1 ⟨q,rfl,_,b1⟩
  have hb1:=hb0.trans (b1.mono hb0.size)
  have B1:=B0.below b1 B0.lt
  clear b1 B0 hb0 HC
  obtain ⟨r0,e0,s0⟩:=B1.facts
  have x0:w1.cell? ⟨w.heap.size,0,none⟩=some (.int .i64 n):=r0 0
  have x1:w1.cell? ⟨w.heap.size,1,none⟩=some (.int .i64 l):=r0 1
  have x2:w1.cell? ⟨w.heap.size,2,none⟩=some (.int .i64 r):=r0 2
  clear r0
  go_wp2_with (fail)
  refine (QN.out _ hb1).mono ?_
  rintro e w2 ⟨rfl,b2⟩
  have hb2:=hb1.trans (b2.mono hb1.size)
  have hb3:=(hb2.alloc hb2.size (.cells #[.int .i64 0,.int .i64 0,.int .i64 0,.slice none 0 0,.slice none 0 0,.slice none 0 0] 33)).alloc (Nat.le_trans hb2.size (by simp)) (.cells #[.slice A k c,.int .i64 0] 35)
  clear x0 x1 x2 e0 s0 b2 hb1 B1 hb2
  by_cases hq:q < 0
  · go_wp2_with (fail)
    refine (HA.out _).mono ?_
    rintro e w3 ⟨rfl,b3⟩
    have hb9:=hb3.trans (b3.mono hb3.size)
    go_wp2_with (fail)
    go_ret
    exact ⟨rfl,hb9⟩
  · go_wp2_with (fail)
    refine (HA.out _).mono ?_
    rintro e w3 ⟨rfl,b3⟩
    have hb9:=hb3.trans (b3.mono hb3.size)
    go_wp2_with (fail)
    go_ret
    exact ⟨rfl,hb9⟩
theorem law_bad (QA:AwakeIs) (n l r:Int) (A:Option Addr) (k c:Nat) (cs:List Cmd) (B:Option Addr) (m d:Nat) (w:World) (hC:CSl w B m d cs) (h:¬ ((1 ≤ n ∧ n ≤ 1024) ∧ (1 ≤ l ∧ l ≤ 16) ∧ (1 ≤ r ∧ r ≤ 8))) :
    Calls Tryz.prog 3 #[.agg #[.int .i64 n,.int .i64 l,.int .i64 r],.slice A k c,.slice B m d] w (Ret (.bool true) w):=
  law_err QA n l r 1 (by decide) A k c cs B m d w hC (fun W _=>new_bad n l r A k c W h)
theorem law_dry (QA:AwakeIs) (N L R:Nat) (xs:List Int) (A:Option Addr) (k c:Nat) (cs:List Cmd) (B:Option Addr) (m d:Nat) (w:World) (hC:CSl w B m d cs) (hW:Sl w [] 1 A k c (ints .u64 xs)) (hN:1 ≤ N ∧ N ≤ 1024) (hL:1 ≤ L ∧ L ≤ 16) (hR:1 ≤ R ∧ R ≤ 8) (hq:drawH xs (L * R) 0=none) :
    Calls Tryz.prog 3 #[.agg #[.int .i64 N,.int .i64 L,.int .i64 R],.slice A k c,.slice B m d] w (Ret (.bool true) w):=
  law_err QA N L R 5 (by decide) A k c cs B m d w hC (fun W hb=>new_dry N L R xs A k c W hN hL hR (hW.below hb) hq)
end Go.Proofs.YtppblcbgkadldaaGreatDoor
namespace Go.Proofs.YtppblcbgkadldaaGreatDoor
open Go Go.RowKit
set_option maxRecDepth 100000
theorem as_ps (v:Value) (W:World):(Instr.typeAssert (.iface 40 v) 20 40 true).run Tryz.prog W=.ok (.tuple #[v,.bool true]) W:=by kernel_rfl
theorem as_us (v:Value) (W:World):(Instr.typeAssert (.iface 24 v) 20 24 true).run Tryz.prog W=.ok (.tuple #[v,.bool true]) W:=by kernel_rfl
end Go.Proofs.YtppblcbgkadldaaGreatDoor
namespace Go.Proofs.YtppblcbgkadldaaGreatDoor
open Go Go.RowKit
set_option maxRecDepth 100000
attribute [local go_sem] Heavy heavyUpon
attribute [local go_sem ↓] csl_hi csl_lo as_ps as_us
set_option maxHeartbeats 25600000 in
theorem law_ok (QA:AwakeIs) (N L R:Nat) (xs:List Int) (hs:List (Int × Int)) (kw:Nat) (A:Option Addr) (n c:Nat) (cs:List Cmd) (hcw:∀ x ∈ cs,IsW x.2.1 ∧ IsW x.2.2.1) (B:Option Addr) (m d:Nat) (w:World) (hC:CSl w B m d cs) (hW:Sl w [] 1 A n c (ints .u64 xs)) (hx:∀ x ∈ xs,0 ≤ x ∧ x < 18446744073709551616) (hN:1 ≤ N ∧ N ≤ 1024) (hL:1 ≤ L ∧ L ≤ 16) (hR:1 ≤ R ∧ R ≤ 8) (hq:drawH xs (L * R) 0=some (hs,kw)) :
    Calls Tryz.prog 3 #[.agg #[.int .i64 N,.int .i64 L,.int .i64 R],.slice A n c,.slice B m d] w (Ret (.bool true) w):=by
  have QN:=hide (fun W (h:Sl W [] 1 A n c (ints .u64 xs))=>new_ok N L R xs hs kw A n c W hN hL hR h hx hq)
  have QF:=hide (fun W (h:CSl W B m d cs)=>few_ok N L R cs B m d W h)
  have HA:=hide (show ∀ W,Calls Tryz.prog 6 #[] W (Ret (.bool true) W) from QA)
  have QD:=hide (fun (es:List E3) (ls:List S2) (H:Option Addr) (hc:Nat) (E:Option Addr) (m c:Nat) (S:Option Addr) (d:Nat) (ks:List Int) (ps:List (Int × Int)) (q a b:Int) (tx:ByteArray) (hq:1 ≤ q ∧ q ≤ 4) (hI:MI ls es ks ps) (W:World) (hS:SM W N L R hs es ls H hc E m c S d)=>do_step q a b tx hq hI W hS)
  have QFO:=hide (fun (es:List E3) (ls:List S2) (H:Option Addr) (hc:Nat) (E:Option Addr) (m c:Nat) (S:Option Addr) (d:Nat) (tx:ByteArray) (W:World) (hS:SM W N L R hs es ls H hc E m c S d)=>ask_forest tx W hS)
  have QME:=hide (fun (es:List E3) (ls:List S2) (H:Option Addr) (hc:Nat) (E:Option Addr) (m c:Nat) (S:Option Addr) (d:Nat) (a:Int) (u:Nat) (hu:IsSlot ls a u) (tx:ByteArray) (W:World) (hS:SM W N L R hs es ls H hc E m c S d)=>ask_members hu tx W hS)
  have QC:=hide (fun (ks:List Int) (ps:List (Int × Int)) (A:Option Addr) (a c:Nat) (B:Option Addr) (b d:Nat) (q x y:Int) (hq:1 ≤ q ∧ q ≤ 4) (W:World) (hM:MM W ks ps A a c B b d) (ha:a ≤ 100) (hb:b ≤ 100) (hP:PU ps)=>ch_step N q x y hq W hM ha hb hP)
  have QH:=hide (fun (ks:List Int) (ps:List (Int × Int)) (A:Option Addr) (a c:Nat) (B:Option Addr) (b d:Nat) (x y:Int) (W:World) (hM:MM W ks ps A a c B b d)=>has_ok N x y W hM)
  have QRE:=hide (fun (ks:List Int) (ps:List (Int × Int)) (A:Option Addr) (a c:Nat) (B:Option Addr) (b d:Nat) (x:Int) (W:World) (hM:MM W ks ps A a c B b d) (hP:PU ps) (hb:b ≤ 100)=>reach_ok N x W hM hP hb)
  unfold sV at QD QFO QME
  unfold mV at QC QH QRE
  have HHD:=hide (fun W (h:CSl W B m d cs)=>CSl.head h (Nat.min_le_left m 30))
  have HCW:=hide (show ∀ x ∈ cs.take (min m 30),IsW x.2.1 ∧ IsW x.2.2.1 from fun x hx=>hcw x (List.mem_of_mem_take hx))
  have hmd:=hC.le
  have hk30:min m 30 ≤ 30:=Nat.min_le_right _ _
  have hkm:min m 30 ≤ m:=Nat.min_le_left _ _
  have B0:=Blk.new w 23 #[.int .i64 N,.int .i64 L,.int .i64 R]
  have hb0:=(Below.refl w.heap.size w).alloc (Nat.le_refl _) (.cells #[.int .i64 N,.int .i64 L,.int .i64 R] 23)
  have HC:=hide (show CSl _ B m d cs from Sl.alloc hC (.cells #[.int .i64 N,.int .i64 L,.int .i64 R] 23))
  have HW:=hide (show Sl _ [] 1 A n c (ints .u64 xs) from Sl.alloc hW (.cells #[.int .i64 N,.int .i64 L,.int .i64 R] 23))
  clear hC hW hx hq hcw QA hN hL hR
  generalize L * R=K at *
  generalize min m 30=kq at *
  go_enter Tryz.func3,Tryz.ntmps3
  go_wp2_with (fail)
  generalize w.alloc (.cells #[.int .i64 N,.int .i64 L,.int .i64 R] 23)=W0 at *
  refine (QF.out _ HC.out).mono ?_
  rintro e w1 ⟨q,rfl,hqq,b1⟩
  have HQ:=hide hqq
  have hb1:=hb0.trans (b1.mono hb0.size)
  have B1:=B0.below b1 B0.lt
  have HW1:=hide (HW.out.below b1)
  have HC1:=hide (CSl.below HC.out b1)
  clear b1 B0 hb0 HC HW hqq
  obtain ⟨r0,e0,s0⟩:=B1.facts
  have x0:w1.cell? ⟨w.heap.size,0,none⟩=some (.int .i64 N):=r0 0
  have x1:w1.cell? ⟨w.heap.size,1,none⟩=some (.int .i64 L):=r0 1
  have x2:w1.cell? ⟨w.heap.size,2,none⟩=some (.int .i64 R):=r0 2
  clear r0
  go_wp2_with (fail)
  refine (QN.out _ HW1.out).mono ?_
  rintro e w2 ⟨H,hc,S,dd,rfl,hsm,b2⟩
  have HSM:=hide hsm
  have hb2:=hb1.trans (b2.mono hb1.size)
  have hlt2:w.heap.size < w2.heap.size:=Nat.lt_of_lt_of_le B1.lt b2.size
  have B2:=B1.below b2 B1.lt
  have HC2:=hide (CSl.below HC1.out b2)
  clear x0 x1 x2 e0 s0 b2 hb1 B1 HC1 HW1 hsm QN QF
  by_cases hqn:q = -1
  · subst hqn
    have hb3:=(hb2.alloc hb2.size (.cells #[.int .i64 N,.int .i64 L,.int .i64 R,.slice H K hc,.slice none 0 0,.slice S N dd] 33)).alloc (Nat.le_trans hb2.size (by simp)) (.cells #[.slice A n c,.int .i64 kw] 35)
    clear B2
    go_wp2_with (fail)
    refine (HA.out _).mono ?_
    rintro e w3 ⟨rfl,b3⟩
    have hb9:=hb3.trans (b3.mono hb3.size)
    go_wp2_with (fail)
    go_ret
    exact ⟨rfl,hb9⟩
  · obtain ⟨n10,l4,r3,rfl⟩:=HQ.out.resolve_left hqn
    have HS2:=hide (HSM.out (by omega) (by omega) (by omega))
    clear HSM HQ hqn
    have hq0:¬ ((kq:Nat):Int) < 0:=by omega
    have hkd:((kq:Nat):Int) ≤ (d:Int):=by omega
    obtain ⟨r0,e0,s0⟩:=B2.facts
    have x0:w2.cell? ⟨w.heap.size,0,none⟩=some (.int .i64 N):=r0 0
    have hne:¬ (w.heap.size=w2.heap.size):=by omega
    have hne2:¬ (w.heap.size=w2.heap.size + 1):=by omega
    have hne3:¬ (w.heap.size=w2.heap.size + 1 + 1):=by omega
    clear r0
    go_wp2_with (fail)
    clear x0 e0 s0 hne hne2 hne3
    have B8:=((Blk.new w2 33 #[.int .i64 N,.int .i64 L,.int .i64 R,.slice H K hc,.slice none 0 0,.slice S N dd]).alloc (.cells #[.slice A n c,.int .i64 kw] 35)).alloc (.cells #[.int .i64 N,.slice none 0 0,.slice none 0 0] 42)
    have B11:=Blk.new ((w2.alloc (.cells #[.int .i64 N,.int .i64 L,.int .i64 R,.slice H K hc,.slice none 0 0,.slice S N dd] 33)).alloc (.cells #[.slice A n c,.int .i64 kw] 35)) 42 #[.int .i64 N,.slice none 0 0,.slice none 0 0]
    rw [heap_alloc_size,heap_alloc_size] at B11
    have HS3:=hide (((HS2.out.alloc (.cells #[.int .i64 N,.int .i64 L,.int .i64 R,.slice H K hc,.slice none 0 0,.slice S N dd] 33)).alloc (.cells #[.slice A n c,.int .i64 kw] 35)).alloc (.cells #[.int .i64 N,.slice none 0 0,.slice none 0 0] 42))
    have hb3:=((hb2.alloc hb2.size (.cells #[.int .i64 N,.int .i64 L,.int .i64 R,.slice H K hc,.slice none 0 0,.slice S N dd] 33)).alloc (Nat.le_trans hb2.size (by simp)) (.cells #[.slice A n c,.int .i64 kw] 35)).alloc (Nat.le_trans hb2.size (by simp;omega)) (.cells #[.int .i64 N,.slice none 0 0,.slice none 0 0] 42)
    have G3:=((((Below.refl w2.heap.size w2).alloc (Nat.le_refl _) (.cells #[.int .i64 N,.int .i64 L,.int .i64 R,.slice H K hc,.slice none 0 0,.slice S N dd] 33)).alloc (by simp) (.cells #[.slice A n c,.int .i64 kw] 35)).alloc (by simp;omega) (.cells #[.int .i64 N,.slice none 0 0,.slice none 0 0] 42))
    generalize ((w2.alloc (.cells #[.int .i64 N,.int .i64 L,.int .i64 R,.slice H K hc,.slice none 0 0,.slice S N dd] 33)).alloc (.cells #[.slice A n c,.int .i64 kw] 35)).alloc (.cells #[.int .i64 N,.slice none 0 0,.slice none 0 0] 42)=W3 at *
    have HL0:=hide (show LI N [] (List.replicate N (false,0)) [] [] from ⟨MI.start N,(fun k hk=>by cases hk),(fun p hp=>by cases hp)⟩)
    have HM0:=hide (show MM W3 [] [] none 0 0 none 0 0 from ⟨Sl.nil_ _ _ _,Sl.nil_ _ _ _⟩)
    have HB8:=hide B8
    have HB11:=hide B11
    have HCH:=hide (HHD.out _ HC2.out)
    have HCL:=hide (HCH.out).length
    have HB2:=hide B2
    clear hb2 HS2 B8 B11 HC2 HHD B2
    obtain ⟨g8,hg8⟩:∃ g,g=w2.heap.size:=⟨_,rfl⟩
    rw [← hg8] at HB8 HB11 G3 hlt2
    have hlt8:=hlt2
    rw [← hg8]
    have HG8:=hide hg8
    clear hg8
    generalize cs.take kq=cq at *
    have h8ne:¬ (g8=g8 + 1 + 1):=by omega
    have h8ne2:¬ (g8 + 1 + 1=g8):=by omega
    go_loopw [50] (fun i wr=>∃ (j:Nat) (E:Option Addr) (me ce:Nat) (S:Option Addr) (d:Nat) (es:List E3) (ls:List S2) (ks:List Int) (ps:List (Int × Int)) (Ka:Option Addr) (ka kc:Nat) (Pa:Option Addr) (pa pc:Nat),j ≤ kq ∧ i=.int .i64 j ∧ Below w.heap.size w wr ∧ Hid (Below g8 w2 wr) ∧ Hid (Blk wr g8 33 #[.int .i64 N,.int .i64 L,.int .i64 R,.slice H K hc,.slice E me ce,.slice S N d]) ∧ Hid (Blk wr (g8 + 1 + 1) 42 #[.int .i64 N,.slice Ka ka kc,.slice Pa pa pc]) ∧ Hid (SM wr N L R hs es ls H hc E me ce S d) ∧ Hid (MM wr ks ps Ka ka kc Pa pa pc) ∧ Hid (LI N es ls ks ps)) (fun i _=>kq - (intOf i).toNat)
    case atStart=>exact ⟨0,none,0,0,S,dd,[],_,[],[],none,0,0,none,0,0,Nat.zero_le _,rfl,hb3,hide G3,HB8,HB11,HS3,HM0,HL0⟩
    case round =>
      clear hb3 G3 HB8 HB11 HS3 HM0 HL0
      obtain ⟨j,E,me,ce,S,d,es,ls,ks,ps,Ka,ka,kc,Pa,pa,pc,hj,rfl,hbr,HBB,HB8,HB11,HS,HM,HL⟩:=hrel
      by_cases hlt:j < kq
      · have hjl:j < cq.length:=by have:=HCL.out;omega
        obtain ⟨ad,rfl,had,c0,c1,c2,c3⟩:=CSl.get (show CSl wr _ _ _ _ from Sl.below HCH.out (by rw [← HG8.out];exact HBB.out)) hjl
        have hw:=HCW.out _ (List.getElem_mem hjl)
        generalize cq[j]=x at *
        obtain ⟨q,a,b,tx⟩:=x
        simp only [] at c0 c1 c2 c3 hw
        have hbx:=hbr.alloc hbr.size (.cells #[.int .i64 q,.int .u64 a,.int .u64 b,.string tx] 45)
        have n8:=HB8.out.lt
        have n11:=HB11.out.lt
        by_cases hq1:q < 1
        · go_wp2_with (fail)
          refine (HA.out _).mono ?_
          rintro e w3 ⟨rfl,b3⟩
          have hb9:=hbx.trans (b3.mono hbx.size)
          go_wp2_with (fail)
          go_ret
          exact ⟨rfl,hb9⟩
        · by_cases hq4:4 < q
          · go_wp2_with (fail)
            refine (HA.out _).mono ?_
            rintro e w3 ⟨rfl,b3⟩
            have hb9:=hbx.trans (b3.mono hbx.size)
            go_wp2_with (fail)
            go_ret
            exact ⟨rfl,hb9⟩
          · have HQQ:=hide (show 1 ≤ q ∧ q ≤ 4 by omega)
            have m8:¬ (g8=wr.heap.size):=by omega
            have m8':¬ (wr.heap.size=g8):=by omega
            have m11:¬ (g8 + 1 + 1=wr.heap.size):=by omega
            have m11':¬ (wr.heap.size=g8 + 1 + 1):=by omega
            obtain ⟨r0,e0,s0⟩:=HB8.out.facts
            have x0:wr.cell? ⟨g8,0,none⟩=some (.int .i64 N):=r0 0
            have x1:wr.cell? ⟨g8,1,none⟩=some (.int .i64 L):=r0 1
            have x2:wr.cell? ⟨g8,2,none⟩=some (.int .i64 R):=r0 2
            have x3:wr.cell? ⟨g8,3,none⟩=some (.slice H K hc):=r0 3
            have x4:wr.cell? ⟨g8,4,none⟩=some (.slice E me ce):=r0 4
            have x5:wr.cell? ⟨g8,5,none⟩=some (.slice S N d):=r0 5
            clear r0
            have B13:=hide (Blk.new wr 45 #[.int .i64 q,.int .u64 a,.int .u64 b,.string tx])
            have HSx:=hide (HS.out.alloc (.cells #[.int .i64 q,.int .u64 a,.int .u64 b,.string tx] 45))
            go_wp2_with (fail)
            clear x0 x1 x2 x3 x4 x5 e0 s0 c0 c1 c2 c3
            refine (QD.out es ls H hc E me ce S d ks ps q a b tx HQQ.out HL.out.mi _ HSx.out).mono ?_
            rintro e w5 ⟨E2,m2,c2,S2,d2,es2,ls2,code,rfl,G2,P2,b5⟩
            have hb5:=hbx.trans (b5.mono hbx.size)
            have HBB5:=hide ((HBB.out.alloc (Nat.le_of_lt n8) (.cells #[.int .i64 q,.int .u64 a,.int .u64 b,.string tx] 45)).trans (b5.mono (by rw [heap_alloc_size];omega)))
            have HB85:=hide ((HB8.out.alloc (.cells #[.int .i64 q,.int .u64 a,.int .u64 b,.string tx] 45)).below b5 (HB8.out.alloc (.cells #[.int .i64 q,.int .u64 a,.int .u64 b,.string tx] 45)).lt)
            have HB115:=hide ((HB11.out.alloc (.cells #[.int .i64 q,.int .u64 a,.int .u64 b,.string tx] 45)).below b5 (HB11.out.alloc (.cells #[.int .i64 q,.int .u64 a,.int .u64 b,.string tx] 45)).lt)
            have HB135:=hide (B13.out.below b5 B13.out.lt)
            have HM5:=hide ((HM.out.alloc (.cells #[.int .i64 q,.int .u64 a,.int .u64 b,.string tx] 45)).below b5)
            have HS5:=hide G2
            have HL5:=hide (HL.out.step HQQ.out hw.1 hw.2 P2)
            have HLN:=hide (HL.out.lens HS.out)
            clear G2 P2 b5 hbx HBB HB8 HB11 B13 HM HS HSx hbr
            obtain ⟨r0,e0,s0⟩:=HB85.out.facts
            have x0:w5.cell? ⟨g8,0,none⟩=some (.int .i64 N):=r0 0
            have x1:w5.cell? ⟨g8,1,none⟩=some (.int .i64 L):=r0 1
            have x2:w5.cell? ⟨g8,2,none⟩=some (.int .i64 R):=r0 2
            have x3:w5.cell? ⟨g8,3,none⟩=some (.slice H K hc):=r0 3
            have x4:w5.cell? ⟨g8,4,none⟩=some (.slice E me ce):=r0 4
            have x5:w5.cell? ⟨g8,5,none⟩=some (.slice S N d):=r0 5
            clear r0
            obtain ⟨r1,e1,s1⟩:=HB115.out.facts
            have y0:w5.cell? ⟨g8 + 1 + 1,0,none⟩=some (.int .i64 N):=r1 0
            have y1:w5.cell? ⟨g8 + 1 + 1,1,none⟩=some (.slice Ka ka kc):=r1 1
            have y2:w5.cell? ⟨g8 + 1 + 1,2,none⟩=some (.slice Pa pa pc):=r1 2
            clear r1
            obtain ⟨r2,e2,s2⟩:=HB135.out.facts
            have z0:w5.cell? ⟨wr.heap.size,0,none⟩=some (.int .i64 q):=r2 0
            have z1:w5.cell? ⟨wr.heap.size,1,none⟩=some (.int .u64 a):=r2 1
            have z2:w5.cell? ⟨wr.heap.size,2,none⟩=some (.int .u64 b):=r2 2
            clear r2
            have HB86:=hide (Blk.set6 HB85.out (Value.int .i64 N) (Value.int .i64 L) (Value.int .i64 R) (Value.slice H K hc) (Value.slice E2 m2 c2) (Value.slice S2 N d2))
            have HS6:=hide (HS5.out.set6 HB85.out (scells_n N L R H hc K E me ce S N d) (Value.int .i64 N) (Value.int .i64 L) (Value.int .i64 R) (Value.slice H K hc) (Value.slice E2 m2 c2) (Value.slice S2 N d2))
            have HB116:=hide (far6 HB115.out h8ne2 (Value.int .i64 N) (Value.int .i64 L) (Value.int .i64 R) (Value.slice H K hc) (Value.slice E2 m2 c2) (Value.slice S2 N d2))
            have HM6:=hide (mm_set6 HM5.out HB85.out (scells_n N L R H hc K E me ce S N d) (Value.int .i64 N) (Value.int .i64 L) (Value.int .i64 R) (Value.slice H K hc) (Value.slice E2 m2 c2) (Value.slice S2 N d2))
            have hb6:=hide (below_set6 hb5 (Nat.le_of_lt hlt8) (Value.int .i64 N) (Value.int .i64 L) (Value.int .i64 R) (Value.slice H K hc) (Value.slice E2 m2 c2) (Value.slice S2 N d2))
            have HBB6:=hide (below_set6 HBB5.out (Nat.le_refl _) (Value.int .i64 N) (Value.int .i64 L) (Value.int .i64 R) (Value.slice H K hc) (Value.slice E2 m2 c2) (Value.slice S2 N d2))
            go_wp2_with (fail)
            clear x0 x1 x2 x3 x4 x5 e0 s0 y0 y1 y2 e1 s1 z0 z1 z2 e2 s2 HS5 HM5 hb5 HBB5 HB85 HB115 HB135 m8 m8' m11 m11' n8 n11
            generalize ((((((w5.setCell ⟨g8,0,none⟩ (Value.int .i64 N)).setCell ⟨g8,1,none⟩ (Value.int .i64 L)).setCell ⟨g8,2,none⟩ (Value.int .i64 R)).setCell ⟨g8,3,none⟩ (Value.slice H K hc)).setCell ⟨g8,4,none⟩ (Value.slice E2 m2 c2)).setCell ⟨g8,5,none⟩ (Value.slice S2 N d2))=W6 at *
            have hka:ka ≤ 100:=by have h1:=HLN.out.1;have h2:=HM6.out.k.len;simp at h2;omega
            have hpa:pa ≤ 100:=by have h1:=HLN.out.2;have h2:=HM6.out.p.length;omega
            refine (QC.out ks ps Ka ka kc Pa pa pc q a b HQQ.out _ HM6.out hka hpa HL.out.pu).mono ?_
            rintro e w7 ⟨K2,k2,kc2,P2,p2,pc2,rfl,M7,b7⟩
            have hl6:=HB86.out.lt
            have hb7:=hb6.out.trans (b7.mono hb6.out.size)
            have HBB7:=hide (HBB6.out.trans (b7.mono (Nat.le_of_lt hl6)))
            have HB87:=hide (HB86.out.below b7 HB86.out.lt)
            have HB117:=hide (HB116.out.below b7 HB116.out.lt)
            have HS7:=hide (HS6.out.below b7)
            have HM7:=hide M7
            clear M7 b7 hl6 hb6 HBB6 HB86 HB116 HS6 HM6 hka hpa
            obtain ⟨r1,e1,s1⟩:=HB117.out.facts
            have y0:w7.cell? ⟨g8 + 1 + 1,0,none⟩=some (.int .i64 N):=r1 0
            have y1:w7.cell? ⟨g8 + 1 + 1,1,none⟩=some (.slice Ka ka kc):=r1 1
            have y2:w7.cell? ⟨g8 + 1 + 1,2,none⟩=some (.slice Pa pa pc):=r1 2
            clear r1
            have hb8:=below_set3 hb7 (show w.heap.size ≤ g8 + 1 + 1 by omega) (Value.int .i64 N) (Value.slice K2 k2 kc2) (Value.slice P2 p2 pc2)
            have HBB8:=hide (below_set3 HBB7.out (show g8 ≤ g8 + 1 + 1 by omega) (Value.int .i64 N) (Value.slice K2 k2 kc2) (Value.slice P2 p2 pc2))
            have HB88:=hide (far3 HB87.out h8ne (Value.int .i64 N) (Value.slice K2 k2 kc2) (Value.slice P2 p2 pc2))
            have HB118:=hide (set3_blk HB117.out (Value.int .i64 N) (Value.slice K2 k2 kc2) (Value.slice P2 p2 pc2))
            have HS8:=hide (sm_setm HS7.out HB117.out (nc_model _ _ _ _ _ _ _) (Value.int .i64 N) (Value.slice K2 k2 kc2) (Value.slice P2 p2 pc2))
            have HM8:=hide (mm_set3 HM7.out HB117.out (nc_model _ _ _ _ _ _ _) (Value.int .i64 N) (Value.slice K2 k2 kc2) (Value.slice P2 p2 pc2))
            unfold mV
            go_wp2_with (fail)
            exact ⟨⟨j + 1,E2,m2,c2,S2,d2,es2,ls2,_,_,K2,k2,kc2,P2,p2,pc2,by omega,by go_num,hb8,HBB8,HB88,HB118,HS8,HM8,HL5⟩,by simp [intOf];omega⟩
      · obtain rfl:j=kq:=by omega
        have n8:=HB8.out.lt
        have n11:=HB11.out.lt
        obtain ⟨r0,e0,s0⟩:=HB8.out.facts
        have x0:wr.cell? ⟨g8,0,none⟩=some (.int .i64 N):=r0 0
        have x1:wr.cell? ⟨g8,1,none⟩=some (.int .i64 L):=r0 1
        have x2:wr.cell? ⟨g8,2,none⟩=some (.int .i64 R):=r0 2
        have x3:wr.cell? ⟨g8,3,none⟩=some (.slice H K hc):=r0 3
        have x4:wr.cell? ⟨g8,4,none⟩=some (.slice E me ce):=r0 4
        have x5:wr.cell? ⟨g8,5,none⟩=some (.slice S N d):=r0 5
        clear r0
        go_wp2_with (fail)
        clear x0 x1 x2 x3 x4 x5 e0 s0
        refine (QFO.out es ls H hc E me ce S d _ _ HS.out).mono ?_
        rintro e w5 ⟨x,rfl,P5,HS5,b5⟩
        obtain ⟨PA,pk,pl,rfl,S5,hpl⟩:=P5
        have hb5:=hbr.trans (b5.mono hbr.size)
        have hB8:=HB8.out.below b5 HB8.out.lt
        have hB11:=HB11.out.below b5 HB11.out.lt
        have hB3:=(HB2.out.below HBB.out hlt8).below b5 (by omega)
        have hM5:=HM.out.below b5
        have hLN:=HL.out.lens HS.out
        have hpm:ps.length=me:=by have h1:=HL.out.mi.p.length_eq;rw [List.length_map] at h1;rw [h1];exact ESl.length HS.out.g.em
        have hpl100:pl.length ≤ 100:=by
          have h1:=hpl.length_eq
          rw [List.length_map] at h1
          have h2:=List.length_filter_le (tierT (L:Int)) es
          have h3:=ESl.length HS.out.g.em
          have h4:=HS.out.g.m_le
          unfold forestE at h1
          omega
        have HPU:=hide (show PU pl from fun p hp=>by
          obtain ⟨e,he,rfl⟩:=List.mem_map.1 (hpl.mem_iff.1 hp)
          have h1:=HL.out.mi.p.mem_iff.2 (List.mem_map_of_mem (f:=pairL ls) (List.mem_filter.1 he).1)
          exact HL.out.pu _ h1)
        have HFH:=hide (forest_has HL.out.mi hpl)
        have HPL:=hide hpl
        have HPS:=hide (show HSl w5 PA pl.length pk pl from S5.less (by simp))
        have HS9:=hide HS5
        have HM9:=hide hM5
        have HLN:=hide hLN
        obtain ⟨r1,e1,s1⟩:=hB11.facts
        have y0:w5.cell? ⟨g8 + 1 + 1,0,none⟩=some (.int .i64 N):=r1 0
        have y1:w5.cell? ⟨g8 + 1 + 1,1,none⟩=some (.slice Ka ka kc):=r1 1
        clear r1
        obtain ⟨r0,e0,s0⟩:=hB3.facts
        have x0:w5.cell? ⟨w.heap.size,0,none⟩=some (.int .i64 N):=r0 0
        clear r0
        have m8:¬ (g8=w5.heap.size):=by omega
        have m11:¬ (g8 + 1 + 1=w5.heap.size):=by omega
        have m3:¬ (w.heap.size=w5.heap.size):=by omega
        have HB89:=hide hB8
        have HB119:=hide hB11
        have hg85:g8 < w5.heap.size:=hB8.lt
        have HBB9:=hide (HBB.out.trans (b5.mono (Nat.le_of_lt n8)))
        clear S5 hpl HS5 hM5 hLN hB8 hB11 hB3 hpm HBB HB8 HB11 HS HM b5 n8 n11
        go_wp2_with (fail)
        have HB86:=hide ((HB89.out.alloc (.cells #[.int .i64 N,.int .i64 L,.int .i64 R,.slice H K hc,.slice E me ce,.slice S N d] 33)).alloc (.cells #[.int .i64 N,.slice Ka ka kc,.slice PA pl.length pk] 42))
        have HB116:=hide ((HB119.out.alloc (.cells #[.int .i64 N,.int .i64 L,.int .i64 R,.slice H K hc,.slice E me ce,.slice S N d] 33)).alloc (.cells #[.int .i64 N,.slice Ka ka kc,.slice PA pl.length pk] 42))
        have B18:=Blk.new (w5.alloc (.cells #[.int .i64 N,.int .i64 L,.int .i64 R,.slice H K hc,.slice E me ce,.slice S N d] 33)) 42 #[.int .i64 N,.slice Ka ka kc,.slice PA pl.length pk]
        rw [heap_alloc_size] at B18
        have HB18:=hide B18
        have HS6:=hide ((HS9.out.alloc (.cells #[.int .i64 N,.int .i64 L,.int .i64 R,.slice H K hc,.slice E me ce,.slice S N d] 33)).alloc (.cells #[.int .i64 N,.slice Ka ka kc,.slice PA pl.length pk] 42))
        have HM6:=hide ((HM9.out.alloc (.cells #[.int .i64 N,.int .i64 L,.int .i64 R,.slice H K hc,.slice E me ce,.slice S N d] 33)).alloc (.cells #[.int .i64 N,.slice Ka ka kc,.slice PA pl.length pk] 42))
        have HPS6:=hide (show HSl _ PA pl.length pk pl from Sl.alloc (Sl.alloc HPS.out (.cells #[.int .i64 N,.int .i64 L,.int .i64 R,.slice H K hc,.slice E me ce,.slice S N d] 33)) (.cells #[.int .i64 N,.slice Ka ka kc,.slice PA pl.length pk] 42))
        have hb6:=(hb5.alloc hb5.size (.cells #[.int .i64 N,.int .i64 L,.int .i64 R,.slice H K hc,.slice E me ce,.slice S N d] 33)).alloc (Nat.le_trans hb5.size (by simp)) (.cells #[.int .i64 N,.slice Ka ka kc,.slice PA pl.length pk] 42)
        clear x0 y0 y1 e0 s0 e1 s1 m8 m11 m3 HB89 HB119 B18 HS9 HM9 HPS hb5 HBB9 hbr hg85
        generalize (w5.alloc (.cells #[.int .i64 N,.int .i64 L,.int .i64 R,.slice H K hc,.slice E me ce,.slice S N d] 33)).alloc (.cells #[.int .i64 N,.slice Ka ka kc,.slice PA pl.length pk] 42)=W6 at *
        generalize w5.heap.size=g5 at *
        have HL3:=hide (show Below w.heap.size w W6 from hb6)
        go_loopw [102] (fun i wr=>∃ (t:Nat),t ≤ pl.length ∧ i=.int .i64 t ∧ Below w.heap.size w wr ∧ Hid (Below W6.heap.size W6 wr)) (fun i _=>pl.length - (intOf i).toNat)
        case atStart=>exact ⟨0,Nat.zero_le _,rfl,hb6,hide (Below.refl _ _)⟩
        case round =>
          clear hb6
          obtain ⟨t,ht,rfl,hbr,HBB⟩:=hrel
          obtain ⟨r1,e1,s1⟩:=(HB116.out.below HBB.out HB116.out.lt).facts
          have y0:wr.cell? ⟨g8 + 1 + 1,0,none⟩=some (.int .i64 N):=r1 0
          have y1:wr.cell? ⟨g8 + 1 + 1,1,none⟩=some (.slice Ka ka kc):=r1 1
          have y2:wr.cell? ⟨g8 + 1 + 1,2,none⟩=some (.slice Pa pa pc):=r1 2
          clear r1
          by_cases hlt:t < pl.length
          · obtain ⟨ad,rfl,had,c0,c1⟩:=HSl.get (HPS6.out.below HBB.out) hlt
            have HF:=hide (decide_eq_true (HFH.out _ (List.getElem_mem hlt)))
            generalize pl[t]=p at *
            obtain ⟨p0,p1⟩:=p
            simp only [] at c0 c1 HF
            have hbp:=hbr.alloc hbr.size (.cells #[.int .u64 (p0),.int .u64 (p1)] 51)
            have HBP:=hide (HBB.out.alloc HBB.out.size (.cells #[.int .u64 (p0),.int .u64 (p1)] 51))
            have HMP:=hide ((HM6.out.below HBB.out).alloc (.cells #[.int .u64 (p0),.int .u64 (p1)] 51))
            have m11:¬ (g8 + 1 + 1=wr.heap.size):=by omega
            go_wp2_with (fail)
            refine (QH.out ks ps Ka ka kc Pa pa pc p0 p1 _ HMP.out).mono ?_
            rw [HF.out]
            rintro e w7 ⟨rfl,b7⟩
            have hb7:=hbp.trans (b7.mono hbp.size)
            have HB7:=hide (HBP.out.trans (b7.mono HBP.out.size))
            clear y0 y1 y2 e1 s1 c0 c1 b7 hbp HBP m11
            go_wp2_with (fail)
            exact ⟨⟨t + 1,by omega,by go_num,hb7,HB7⟩,by simp [intOf];omega⟩
          · obtain rfl:t=pl.length:=by omega
            clear y2
            go_wp2_with (fail)
            clear y0 y1 e1 s1
            go_loopw [117] (fun i wr=>∃ (t:Nat),t ≤ ka ∧ i=.int .i64 t ∧ Below w.heap.size w wr ∧ Hid (Below W6.heap.size W6 wr)) (fun i _=>ka - (intOf i).toNat)
            case atStart=>exact ⟨0,Nat.zero_le _,rfl,hbr,HBB⟩
            case round =>
              clear hbr HBB
              obtain ⟨t,ht,rfl,hbr,HBB⟩:=hrel
              by_cases hlt:t < ka
              · have hkl:t < ks.length:=by have h2:=HM6.out.k.len;simp at h2;omega
                have hka:ka ≤ 100:=by have h1:=HLN.out.1;have h2:=HM6.out.k.len;simp at h2;omega
                obtain ⟨ad,rfl,had,_,hc0⟩:=(Sl.below HM6.out.k HBB.out).at_ (by omega)
                have c0:=hc0 _ _ (ints_get hkl)
                have hmem:=HL.out.mi.k.mem_iff.1 (List.getElem_mem hkl)
                rw [mem_usedL] at hmem
                have HSLOT:=hide hmem
                clear hc0 hmem
                generalize ks[t]=kx at *
                obtain ⟨r0,e0,s0⟩:=(HB86.out.below HBB.out HB86.out.lt).facts
                have x0:wr.cell? ⟨g8,0,none⟩=some (.int .i64 N):=r0 0
                have x1:wr.cell? ⟨g8,1,none⟩=some (.int .i64 L):=r0 1
                have x2:wr.cell? ⟨g8,2,none⟩=some (.int .i64 R):=r0 2
                have x3:wr.cell? ⟨g8,3,none⟩=some (.slice H K hc):=r0 3
                have x4:wr.cell? ⟨g8,4,none⟩=some (.slice E me ce):=r0 4
                have x5:wr.cell? ⟨g8,5,none⟩=some (.slice S N d):=r0 5
                clear r0
                go_wp2_with (fail)
                clear x0 x1 x2 x3 x4 x5 e0 s0 c0
                obtain ⟨u,hu⟩:=HSLOT.out
                have HU:=hide hu
                clear hu
                have HSr:=hide (HS6.out.below HBB.out)
                refine (QME.out es ls H hc E me ce S d kx u HU.out _ _ HSr.out).mono ?_
                rintro e w7 ⟨x,rfl,P7,HS7,b7⟩
                obtain ⟨GA,gk,gl,rfl,S7,hgp,hgs⟩:=P7
                have hb7:=hbr.trans (b7.mono hbr.size)
                have HB7:=hide (HBB.out.trans (b7.mono HBB.out.size))
                have HG7:=hide (show Sl w7 [] 1 GA gl.length gk (ints .u64 gl) from S7.less (by simp))
                have HGP:=hide (And.intro hgp hgs)
                clear S7 hgp hgs HS7 b7 HSr hbr HBB
                obtain ⟨r1,e1,s1⟩:=(HB18.out.below HB7.out HB18.out.lt).facts
                have y0:w7.cell? ⟨g5 + 1,0,none⟩=some (.int .i64 N):=r1 0
                have y1:w7.cell? ⟨g5 + 1,1,none⟩=some (.slice (some ad) ka kc):=r1 1
                have y2:w7.cell? ⟨g5 + 1,2,none⟩=some (.slice PA pl.length pk):=r1 2
                clear r1
                have HMT:=hide (show MM w7 ks pl (some ad) ka kc PA pl.length pk from ⟨Sl.below HM6.out.k HB7.out,HPS6.out.below HB7.out⟩)
                go_wp2_with (fail)
                clear y0 y1 y2 e1 s1
                refine (QRE.out ks pl (some ad) ka kc PA pl.length pk kx _ HMT.out HPU.out hpl100).mono ?_
                rintro e w8 ⟨RA,rn,rd,rl,rfl,S8,rnd,rso,rmem,b8⟩
                have hb8:=hb7.trans (b8.mono hb7.size)
                have HB8:=hide (HB7.out.trans (b8.mono HB7.out.size))
                have HR8:=hide S8
                have HG8':=hide (Sl.below HG7.out b8)
                have HEQ:=hide (members_reach HS6.out.g.ge.right HS6.out.ok (SSl.length HS6.out.s) HS6.out.used HU.out HPL.out HGP.out.1 HGP.out.2 rnd rso rmem)
                clear S8 rnd rso rmem b8 HB7 HG7 HMT hb7
                go_wp2_with (fail)
                have hdq:decide (gl=rl)=true:=decide_eq_true HEQ.out
                refine (same_ok gl rl _ _ _ _ _ _ _ HG8'.out HR8.out).mono ?_
                rw [hdq]
                rintro e w9 ⟨rfl,b9⟩
                have hb9:=hb8.trans (b9.mono hb8.size)
                have HB9:=hide (HB8.out.trans (b9.mono HB8.out.size))
                clear b9 hb8 HB8 HR8 HG8' HEQ hdq
                go_wp2_with (fail)
                exact ⟨⟨t + 1,by omega,by go_num,hb9,HB9⟩,by simp [intOf];omega⟩
              · obtain rfl:t=ka:=by omega
                go_wp2_with (fail)
                refine (HA.out _).mono ?_
                rintro e w3 ⟨rfl,b3⟩
                have hb9:=hbr.trans (b3.mono hbr.size)
                go_wp2_with (fail)
                go_ret
                exact ⟨rfl,hb9⟩
end Go.Proofs.YtppblcbgkadldaaGreatDoor
