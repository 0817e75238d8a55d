/-
  A part of the proof that the law TopForest returns true for every input and leaves its arguments as they were: NewA, NewB, InsU, SortW, SortN, PKeys.
-/
import Derived.Test.YtppblcbgkadldaaGreatDoorZ02
import Derived.Test.YtppblcbgkadldaaGreatDoorZ03
import Derived.Test.YtppblcbgkadldaaGreatDoorZ10
import Derived.Test.YtppblcbgkadldaaGreatDoorZ22
import Derived.Test.YtppblcbgkadldaaGreatDoorZ26
import Derived.Test.YtppblcbgkadldaaGreatDoorZ27
import Derived.Test.YtppblcbgkadldaaGreatDoorZ28
import Derived.BigRegion
import Derived.Laws.OwnMore
set_option linter.all false
namespace Go.Proofs.YtppblcbgkadldaaGreatDoor
open Go Go.RowKit
set_option maxRecDepth 100000
attribute [local go_sem] Heavy heavyUpon
def ZW (A:Option Addr) (k c:Nat) (code:Int):Value:=.tuple #[.agg #[.int .i64 0,.int .i64 0,.int .i64 0,.slice none 0 0,.slice none 0 0,.slice none 0 0],.agg #[.slice A k c,.int .i64 0],.int .i64 code]
set_option maxHeartbeats 6400000 in
theorem new_bad1 (n l r:Int) (A:Option Addr) (k c:Nat) (w:World) (h:n < 1) :
    Calls Tryz.prog 5 #[.agg #[.int .i64 n,.int .i64 l,.int .i64 r],.agg #[.slice A k c,.int .i64 0]] w (Ret (ZW A k c 1) w):=by
  have hb:=hide (((((Below.refl w.heap.size w).alloc (Nat.le_refl _) (.cells #[.int .i64 n,.int .i64 l,.int .i64 r] 23)).alloc (by simp) (.cells #[.slice A k c,.int .i64 0] 35)).alloc (by simp;omega) (.cells #[.int .i64 0,.int .i64 0,.int .i64 0,.slice none 0 0,.slice none 0 0,.slice none 0 0] 33)).alloc (by simp;omega) (.cells #[.slice A k c,.int .i64 0] 35)).drew
  go_enter Tryz.func5,Tryz.ntmps5
  go_wp2_with (fail)
  go_big_region
  all_goals go_wp2
  refine bodyPost_ret (v:=ZW A k c 1) (by simp [results,Tryz.results5,go_sem,ZW]) rfl ?_
  exact ⟨rfl,hb.out⟩
set_option maxHeartbeats 6400000 in
theorem new_bad2 (n l r:Int) (A:Option Addr) (k c:Nat) (w:World) (p0:¬ n < 1) (h:1024 < n) :
    Calls Tryz.prog 5 #[.agg #[.int .i64 n,.int .i64 l,.int .i64 r],.agg #[.slice A k c,.int .i64 0]] w (Ret (ZW A k c 1) w):=by
  have hb:=hide (((((Below.refl w.heap.size w).alloc (Nat.le_refl _) (.cells #[.int .i64 n,.int .i64 l,.int .i64 r] 23)).alloc (by simp) (.cells #[.slice A k c,.int .i64 0] 35)).alloc (by simp;omega) (.cells #[.int .i64 0,.int .i64 0,.int .i64 0,.slice none 0 0,.slice none 0 0,.slice none 0 0] 33)).alloc (by simp;omega) (.cells #[.slice A k c,.int .i64 0] 35)).drew
  go_enter Tryz.func5,Tryz.ntmps5
  go_wp2_with (fail)
  go_big_region
  all_goals go_wp2
  refine bodyPost_ret (v:=ZW A k c 1) (by simp [results,Tryz.results5,go_sem,ZW]) rfl ?_
  exact ⟨rfl,hb.out⟩
set_option maxHeartbeats 6400000 in
theorem new_bad3 (n l r:Int) (A:Option Addr) (k c:Nat) (w:World) (p0:¬ n < 1) (p1:¬ 1024 < n) (h:l < 1) :
    Calls Tryz.prog 5 #[.agg #[.int .i64 n,.int .i64 l,.int .i64 r],.agg #[.slice A k c,.int .i64 0]] w (Ret (ZW A k c 1) w):=by
  have hb:=hide (((((Below.refl w.heap.size w).alloc (Nat.le_refl _) (.cells #[.int .i64 n,.int .i64 l,.int .i64 r] 23)).alloc (by simp) (.cells #[.slice A k c,.int .i64 0] 35)).alloc (by simp;omega) (.cells #[.int .i64 0,.int .i64 0,.int .i64 0,.slice none 0 0,.slice none 0 0,.slice none 0 0] 33)).alloc (by simp;omega) (.cells #[.slice A k c,.int .i64 0] 35)).drew
  go_enter Tryz.func5,Tryz.ntmps5
  go_wp2_with (fail)
  go_big_region
  all_goals go_wp2
  refine bodyPost_ret (v:=ZW A k c 1) (by simp [results,Tryz.results5,go_sem,ZW]) rfl ?_
  exact ⟨rfl,hb.out⟩
set_option maxHeartbeats 6400000 in
theorem new_bad4 (n l r:Int) (A:Option Addr) (k c:Nat) (w:World) (p0:¬ n < 1) (p1:¬ 1024 < n) (p2:¬ l < 1) (h:16 < l) :
    Calls Tryz.prog 5 #[.agg #[.int .i64 n,.int .i64 l,.int .i64 r],.agg #[.slice A k c,.int .i64 0]] w (Ret (ZW A k c 1) w):=by
  have hb:=hide (((((Below.refl w.heap.size w).alloc (Nat.le_refl _) (.cells #[.int .i64 n,.int .i64 l,.int .i64 r] 23)).alloc (by simp) (.cells #[.slice A k c,.int .i64 0] 35)).alloc (by simp;omega) (.cells #[.int .i64 0,.int .i64 0,.int .i64 0,.slice none 0 0,.slice none 0 0,.slice none 0 0] 33)).alloc (by simp;omega) (.cells #[.slice A k c,.int .i64 0] 35)).drew
  go_enter Tryz.func5,Tryz.ntmps5
  go_wp2_with (fail)
  go_big_region
  all_goals go_wp2
  refine bodyPost_ret (v:=ZW A k c 1) (by simp [results,Tryz.results5,go_sem,ZW]) rfl ?_
  exact ⟨rfl,hb.out⟩
set_option maxHeartbeats 6400000 in
theorem new_bad5 (n l r:Int) (A:Option Addr) (k c:Nat) (w:World) (p0:¬ n < 1) (p1:¬ 1024 < n) (p2:¬ l < 1) (p3:¬ 16 < l) (h:r < 1) :
    Calls Tryz.prog 5 #[.agg #[.int .i64 n,.int .i64 l,.int .i64 r],.agg #[.slice A k c,.int .i64 0]] w (Ret (ZW A k c 1) w):=by
  have hb:=hide (((((Below.refl w.heap.size w).alloc (Nat.le_refl _) (.cells #[.int .i64 n,.int .i64 l,.int .i64 r] 23)).alloc (by simp) (.cells #[.slice A k c,.int .i64 0] 35)).alloc (by simp;omega) (.cells #[.int .i64 0,.int .i64 0,.int .i64 0,.slice none 0 0,.slice none 0 0,.slice none 0 0] 33)).alloc (by simp;omega) (.cells #[.slice A k c,.int .i64 0] 35)).drew
  go_enter Tryz.func5,Tryz.ntmps5
  go_wp2_with (fail)
  go_big_region
  all_goals go_wp2
  refine bodyPost_ret (v:=ZW A k c 1) (by simp [results,Tryz.results5,go_sem,ZW]) rfl ?_
  exact ⟨rfl,hb.out⟩
set_option maxHeartbeats 6400000 in
theorem new_bad6 (n l r:Int) (A:Option Addr) (k c:Nat) (w:World) (p0:¬ n < 1) (p1:¬ 1024 < n) (p2:¬ l < 1) (p3:¬ 16 < l) (p4:¬ r < 1) (h:8 < r) :
    Calls Tryz.prog 5 #[.agg #[.int .i64 n,.int .i64 l,.int .i64 r],.agg #[.slice A k c,.int .i64 0]] w (Ret (ZW A k c 1) w):=by
  have hb:=hide (((((Below.refl w.heap.size w).alloc (Nat.le_refl _) (.cells #[.int .i64 n,.int .i64 l,.int .i64 r] 23)).alloc (by simp) (.cells #[.slice A k c,.int .i64 0] 35)).alloc (by simp;omega) (.cells #[.int .i64 0,.int .i64 0,.int .i64 0,.slice none 0 0,.slice none 0 0,.slice none 0 0] 33)).alloc (by simp;omega) (.cells #[.slice A k c,.int .i64 0] 35)).drew
  go_enter Tryz.func5,Tryz.ntmps5
  go_wp2_with (fail)
  go_big_region
  all_goals go_wp2
  refine bodyPost_ret (v:=ZW A k c 1) (by simp [results,Tryz.results5,go_sem,ZW]) rfl ?_
  exact ⟨rfl,hb.out⟩
theorem new_bad (n l r:Int) (A:Option Addr) (k c:Nat) (w:World) (h:¬ ((1 ≤ n ∧ n ≤ 1024) ∧ (1 ≤ l ∧ l ≤ 16) ∧ (1 ≤ r ∧ r ≤ 8))) :
    Calls Tryz.prog 5 #[.agg #[.int .i64 n,.int .i64 l,.int .i64 r],.agg #[.slice A k c,.int .i64 0]] w (Ret (ZW A k c 1) w):=by
  by_cases h1:n < 1
  · exact new_bad1 n l r A k c w h1
  · by_cases h2:1024 < n
    · exact new_bad2 n l r A k c w h1 h2
    · by_cases h3:l < 1
      · exact new_bad3 n l r A k c w h1 h2 h3
      · by_cases h4:16 < l
        · exact new_bad4 n l r A k c w h1 h2 h3 h4
        · by_cases h5:r < 1
          · exact new_bad5 n l r A k c w h1 h2 h3 h4 h5
          · by_cases h6:8 < r
            · exact new_bad6 n l r A k c w h1 h2 h3 h4 h5 h6
            · exact absurd ⟨⟨by omega,by omega⟩,⟨by omega,by omega⟩,by omega,by omega⟩ h
end Go.Proofs.YtppblcbgkadldaaGreatDoor
namespace Go.Proofs.YtppblcbgkadldaaGreatDoor
open Go Go.RowKit
set_option maxRecDepth 100000
attribute [local go_sem] Heavy heavyUpon
theorem scan_nn:∀ {l:List Int} {k:Nat} {v:Int} {k':Nat},(∀ x ∈ l,0 ≤ x ∧ x < 18446744073709551616) → scan l k=some (v,k') → 0 ≤ v:=by
  intro l
  induction l with
  | nil=>intro k v k' _ h;simp [scan] at h
  | cons x l ih =>
    intro k v k' hx h
    cases hl:isLow x
    · rw [scan_no hl] at h;exact ih (fun y hy=>hx y (List.mem_cons_of_mem _ hy)) h
    · rw [scan_yes hl] at h
      injection h with h
      injection h with h1 h2
      rw [← h1]
      have:=hx x List.mem_cons_self
      exact (low_bounds this.1 this.2).1
theorem drawH_hok {xs:List Int} (hx:∀ x ∈ xs,0 ≤ x ∧ x < 18446744073709551616):∀ {m k:Nat} {l:List (Int × Int)} {k':Nat},drawH xs m k=some (l,k') → ∀ h ∈ l,HOK h:=by
  intro m
  induction m with
  | zero=>intro k l k' h;simp only [drawH,Option.some.injEq,Prod.mk.injEq] at h;rw [← h.1];simp
  | succ m ih =>
    intro k l k' h
    rw [drawH] at h
    cases h1:scan (xs.drop k) k with
    | none=>rw [h1] at h;cases h
    | some p =>
      obtain ⟨a,k1⟩:=p
      rw [h1] at h
      simp only [] at h
      cases h2:scan (xs.drop k1) k1 with
      | none=>rw [h2] at h;cases h
      | some p =>
        obtain ⟨b,k2⟩:=p
        rw [h2] at h
        simp only [] at h
        cases h3:drawH xs m k2 with
        | none=>rw [h3] at h;cases h
        | some p =>
          obtain ⟨l',k3⟩:=p
          rw [h3] at h
          simp only [Option.some.injEq,Prod.mk.injEq] at h
          rw [← h.1]
          intro x hm
          rcases List.mem_cons.1 hm with rfl | hm
          · exact ⟨scan_nn (fun y hy=>hx y (List.mem_of_mem_drop hy)) h1,scan_lt h1,scan_nn (fun y hy=>hx y (List.mem_of_mem_drop hy)) h2,scan_lt h2⟩
          · exact ih h3 x hm
set_option maxHeartbeats 6400000 in
theorem new_dry (N L R:Nat) (xs:List Int) (A:Option Addr) (n c:Nat) (w:World) (hN:1 ≤ N ∧ N ≤ 1024) (hL:1 ≤ L ∧ L ≤ 16) (hR:1 ≤ R ∧ R ≤ 8) (hW:Sl w [] 1 A n c (ints .u64 xs)) (hq:drawH xs (L * R) 0=none) :
    Calls Tryz.prog 5 #[.agg #[.int .i64 N,.int .i64 L,.int .i64 R],.agg #[.slice A n c,.int .i64 0]] w (Ret (ZW A n c 5) w):=by
  (have hlr:L * R ≤ 16 * 8:=Nat.mul_le_mul hL.2 hR.2;have hmul:(L:Int) * (R:Int)=((L * R:Nat):Int):=(by simp);have B0:=(((Blk.new w 23 #[.int .i64 N,.int .i64 L,.int .i64 R]).alloc (.cells #[.slice A n c,.int .i64 0] 35)).alloc (.cells #[.int .i64 0,.int .i64 0,.int .i64 0,.slice none 0 0,.slice none 0 0,.slice none 0 0] 33)).alloc (.cells #[.slice none 0 0,.int .i64 0] 35);have B1:=((Blk.new (w.alloc (.cells #[.int .i64 N,.int .i64 L,.int .i64 R] 23)) 35 #[.slice A n c,.int .i64 0]).alloc (.cells #[.int .i64 0,.int .i64 0,.int .i64 0,.slice none 0 0,.slice none 0 0,.slice none 0 0] 33)).alloc (.cells #[.slice none 0 0,.int .i64 0] 35);rw [heap_alloc_size] at B1;have B2:=(Blk.new ((w.alloc (.cells #[.int .i64 N,.int .i64 L,.int .i64 R] 23)).alloc (.cells #[.slice A n c,.int .i64 0] 35)) 33 #[.int .i64 0,.int .i64 0,.int .i64 0,.slice none 0 0,.slice none 0 0,.slice none 0 0]).alloc (.cells #[.slice none 0 0,.int .i64 0] 35);rw [heap_alloc_size,heap_alloc_size] at B2;have B3:=Blk.new (((w.alloc (.cells #[.int .i64 N,.int .i64 L,.int .i64 R] 23)).alloc (.cells #[.slice A n c,.int .i64 0] 35)).alloc (.cells #[.int .i64 0,.int .i64 0,.int .i64 0,.slice none 0 0,.slice none 0 0,.slice none 0 0] 33)) 35 #[.slice none 0 0,.int .i64 0];rw [heap_alloc_size,heap_alloc_size,heap_alloc_size] at B3;have hb0:=((((Below.refl w.heap.size w).alloc (Nat.le_refl _) (.cells #[.int .i64 N,.int .i64 L,.int .i64 R] 23)).alloc (by simp) (.cells #[.slice A n c,.int .i64 0] 35)).alloc (by simp;omega) (.cells #[.int .i64 0,.int .i64 0,.int .i64 0,.slice none 0 0,.slice none 0 0,.slice none 0 0] 33)).alloc (by simp;omega) (.cells #[.slice none 0 0,.int .i64 0] 35);have HW:=hide (show Sl _ [] 1 A n c (ints .u64 xs) from Sl.alloc (Sl.alloc (Sl.alloc (Sl.alloc hW (.cells #[.int .i64 N,.int .i64 L,.int .i64 R] 23)) (.cells #[.slice A n c,.int .i64 0] 35)) (.cells #[.int .i64 0,.int .i64 0,.int .i64 0,.slice none 0 0,.slice none 0 0,.slice none 0 0] 33)) (.cells #[.slice none 0 0,.int .i64 0] 35));clear hW)
  have QH:=hide (fun W (h:Sl W [] 1 A n c (ints .u64 xs))=>hashes_none (w:=W) hq (by omega) (by omega) h (by simp))
  clear hq
  generalize L * R=K at *
  (go_enter Tryz.func5,Tryz.ntmps5;go_wp2_with (fail);generalize (((w.alloc (.cells #[.int .i64 N,.int .i64 L,.int .i64 R] 23)).alloc (.cells #[.slice A n c,.int .i64 0] 35)).alloc (.cells #[.int .i64 0,.int .i64 0,.int .i64 0,.slice none 0 0,.slice none 0 0,.slice none 0 0] 33)).alloc (.cells #[.slice none 0 0,.int .i64 0] 35)=W0 at *)
  refine (QH.out _ HW.out).mono ?_
  rintro e w1 ⟨rfl,b1⟩
  have hb1:=(hb0.trans (b1.mono hb0.size)).alloc (Nat.le_trans hb0.size b1.size) (.cells #[.slice A n c,.int .i64 0] 35)
  have B11:=(B1.below b1 B1.lt).alloc (.cells #[.slice A n c,.int .i64 0] 35)
  have B21:=(B2.below b1 B2.lt).alloc (.cells #[.slice A n c,.int .i64 0] 35)
  have B31:=(B3.below b1 B3.lt).alloc (.cells #[.slice A n c,.int .i64 0] 35)
  clear b1 B0 B1 B2 B3 HW QH hb0
  go_wp2_with (fail)
  generalize w1.alloc (.cells #[.slice A n c,.int .i64 0] 35)=w2 at *
  (obtain ⟨y0,y1,e1,s1⟩:=B11.f2;obtain ⟨q0,q1,q2,q3,q4,q5,eb,sb⟩:=B21.f6;obtain ⟨t0,t1,ec,sc⟩:=B31.f2)
  go_big_region
  all_goals go_wp2
  clear y0 y1 e1 s1 q0 q1 q2 q3 q4 q5 eb sb t0 t1 ec sc
  (have BB:=two_boxes B21 B31 (Value.int .i64 0) (Value.int .i64 0) (Value.int .i64 0) (Value.slice none 0 0) (Value.slice none 0 0) (Value.slice none 0 0) (Value.slice A n c) (Value.int .i64 0);have hb9:=(((below_set6 hb1 (show w.heap.size ≤ w.heap.size + 1 + 1 by omega) (Value.int .i64 0) (Value.int .i64 0) (Value.int .i64 0) (Value.slice none 0 0) (Value.slice none 0 0) (Value.slice none 0 0)).setCell (p:=⟨w.heap.size + 1 + 1 + 1,0,none⟩) (show w.heap.size ≤ w.heap.size + 1 + 1 + 1 by omega) (Value.slice A n c)).setCell (p:=⟨w.heap.size + 1 + 1 + 1,1,none⟩) (show w.heap.size ≤ w.heap.size + 1 + 1 + 1 by omega) (Value.int .i64 0)).drew;clear hb1;obtain ⟨BU,BV⟩:=BB;have BU2:=BU.drew;have BV2:=BV.drew;clear BU BV;generalize ((((((((w2.setCell ⟨w.heap.size + 1 + 1,0,none⟩ (Value.int .i64 0)).setCell ⟨w.heap.size + 1 + 1,1,none⟩ (Value.int .i64 0)).setCell ⟨w.heap.size + 1 + 1,2,none⟩ (Value.int .i64 0)).setCell ⟨w.heap.size + 1 + 1,3,none⟩ (Value.slice none 0 0)).setCell ⟨w.heap.size + 1 + 1,4,none⟩ (Value.slice none 0 0)).setCell ⟨w.heap.size + 1 + 1,5,none⟩ (Value.slice none 0 0)).setCell ⟨w.heap.size + 1 + 1 + 1,0,none⟩ (Value.slice A n c)).setCell ⟨w.heap.size + 1 + 1 + 1,1,none⟩ (Value.int .i64 0)).drew=W9 at *;obtain ⟨q0,q1,q2,q3,q4,q5,eb,sb⟩:=BU2.f6;obtain ⟨t0,t1,ec,sc⟩:=BV2.f2)
  refine bodyPost_ret (v:=ZW A n c 5) (by simp [results,Tryz.results5,go_sem,ZW,q0,q1,q2,q3,q4,q5,t0,t1]) rfl ?_
  exact ⟨rfl,hb9⟩
theorem sok_new (n:Nat):SOK (List.replicate n ((false,0):S2)):=by
  refine ⟨fun x hx _=>by rw [(List.mem_replicate.1 hx).2],fun i j hi hj h1 _ _=>?_⟩
  rw [List.getElem_replicate] at h1
  cases h1
def RetNew (N L R:Nat) (hs:List (Int × Int)) (A:Option Addr) (n c k K:Nat) (w:World) (e:Ending) (w':World):Prop:=
  ∃ H hc S d,e=.returned (.tuple #[.agg #[.int .i64 N,.int .i64 L,.int .i64 R,.slice H K hc,.slice none 0 0,.slice S N d],.agg #[.slice A n c,.int .i64 k],.int .i64 0]) ∧ (N ≤ 10 → L ≤ 4 → R ≤ 3 → SM w' N L R hs [] (List.replicate N (false,0)) H hc none 0 0 S d) ∧ Below w.heap.size w w'
set_option maxHeartbeats 12800000 in
theorem new_ok (N L R:Nat) (xs:List Int) (hs:List (Int × Int)) (k:Nat) (A:Option Addr) (n c:Nat) (w:World) (hN:1 ≤ N ∧ N ≤ 1024) (hL:1 ≤ L ∧ L ≤ 16) (hR:1 ≤ R ∧ R ≤ 8) (hW:Sl w [] 1 A n c (ints .u64 xs)) (hx:∀ x ∈ xs,0 ≤ x ∧ x < 18446744073709551616) (hq:drawH xs (L * R) 0=some (hs,k)) :
    Calls Tryz.prog 5 #[.agg #[.int .i64 N,.int .i64 L,.int .i64 R],.agg #[.slice A n c,.int .i64 0]] w (RetNew N L R hs A n c k (L * R) w):=by
  (have hlr:L * R ≤ 16 * 8:=Nat.mul_le_mul hL.2 hR.2;have hmul:(L:Int) * (R:Int)=((L * R:Nat):Int):=(by simp);have B0:=(((Blk.new w 23 #[.int .i64 N,.int .i64 L,.int .i64 R]).alloc (.cells #[.slice A n c,.int .i64 0] 35)).alloc (.cells #[.int .i64 0,.int .i64 0,.int .i64 0,.slice none 0 0,.slice none 0 0,.slice none 0 0] 33)).alloc (.cells #[.slice none 0 0,.int .i64 0] 35);have B1:=((Blk.new (w.alloc (.cells #[.int .i64 N,.int .i64 L,.int .i64 R] 23)) 35 #[.slice A n c,.int .i64 0]).alloc (.cells #[.int .i64 0,.int .i64 0,.int .i64 0,.slice none 0 0,.slice none 0 0,.slice none 0 0] 33)).alloc (.cells #[.slice none 0 0,.int .i64 0] 35);rw [heap_alloc_size] at B1;have B2:=(Blk.new ((w.alloc (.cells #[.int .i64 N,.int .i64 L,.int .i64 R] 23)).alloc (.cells #[.slice A n c,.int .i64 0] 35)) 33 #[.int .i64 0,.int .i64 0,.int .i64 0,.slice none 0 0,.slice none 0 0,.slice none 0 0]).alloc (.cells #[.slice none 0 0,.int .i64 0] 35);rw [heap_alloc_size,heap_alloc_size] at B2;have B3:=Blk.new (((w.alloc (.cells #[.int .i64 N,.int .i64 L,.int .i64 R] 23)).alloc (.cells #[.slice A n c,.int .i64 0] 35)).alloc (.cells #[.int .i64 0,.int .i64 0,.int .i64 0,.slice none 0 0,.slice none 0 0,.slice none 0 0] 33)) 35 #[.slice none 0 0,.int .i64 0];rw [heap_alloc_size,heap_alloc_size,heap_alloc_size] at B3;have hb0:=((((Below.refl w.heap.size w).alloc (Nat.le_refl _) (.cells #[.int .i64 N,.int .i64 L,.int .i64 R] 23)).alloc (by simp) (.cells #[.slice A n c,.int .i64 0] 35)).alloc (by simp;omega) (.cells #[.int .i64 0,.int .i64 0,.int .i64 0,.slice none 0 0,.slice none 0 0,.slice none 0 0] 33)).alloc (by simp;omega) (.cells #[.slice none 0 0,.int .i64 0] 35);have HW:=hide (show Sl _ [] 1 A n c (ints .u64 xs) from Sl.alloc (Sl.alloc (Sl.alloc (Sl.alloc hW (.cells #[.int .i64 N,.int .i64 L,.int .i64 R] 23)) (.cells #[.slice A n c,.int .i64 0] 35)) (.cells #[.int .i64 0,.int .i64 0,.int .i64 0,.slice none 0 0,.slice none 0 0,.slice none 0 0] 33)) (.cells #[.slice none 0 0,.int .i64 0] 35));clear hW)
  have QH:=hide (fun W (h:Sl W [] 1 A n c (ints .u64 xs))=>hashes_some (w:=W) hq (by omega) (by omega) h (by simp))
  have QT:=hide (fun B d W (h:HSl W B (L * R) d hs)=>tnew_ok N L R hs B d W hN hL hR (drawH_hok hx hq) h)
  have QV:=hide (fun W=>newV_ok N hN.1 hN.2 W)
  have QS:=hide (show ∀ W H hc S d,GW W N L R hs [] H hc none 0 0 → SSl W S N d (List.replicate N (false,0)) → N ≤ 10 → L ≤ 4 → R ≤ 3 → SM W N L R hs [] (List.replicate N (false,0)) H hc none 0 0 S d from fun W H hc S d g s a b c=>⟨⟨g.n1,a,g.l1,b,g.r1,c,g.hok,g.hm,g.em,g.ge⟩,s,sok_new N,by simp⟩)
  clear hq hx
  generalize L * R=K at *
  (go_enter Tryz.func5,Tryz.ntmps5;go_wp2_with (fail);generalize (((w.alloc (.cells #[.int .i64 N,.int .i64 L,.int .i64 R] 23)).alloc (.cells #[.slice A n c,.int .i64 0] 35)).alloc (.cells #[.int .i64 0,.int .i64 0,.int .i64 0,.slice none 0 0,.slice none 0 0,.slice none 0 0] 33)).alloc (.cells #[.slice none 0 0,.int .i64 0] 35)=W0 at *)
  refine (QH.out _ HW.out).mono ?_
  rintro e w1 ⟨B,dd,rfl,S1,b1⟩
  have HB1:=hide (Sl.alloc S1 (.cells #[.slice A n c,.int .i64 (k:Nat)] 35))
  have hb1:=(hb0.trans (b1.mono hb0.size)).alloc (Nat.le_trans hb0.size b1.size) (.cells #[.slice A n c,.int .i64 (k:Nat)] 35)
  have B01:=(B0.below b1 B0.lt).alloc (.cells #[.slice A n c,.int .i64 (k:Nat)] 35)
  have B21:=(B2.below b1 B2.lt).alloc (.cells #[.slice A n c,.int .i64 (k:Nat)] 35)
  have B31:=(B3.below b1 B3.lt).alloc (.cells #[.slice A n c,.int .i64 (k:Nat)] 35)
  have B41:=Blk.new w1 35 #[.slice A n c,.int .i64 k]
  have hg1:w.heap.size + 1 + 1 + 1 < w1.heap.size:=Nat.lt_of_lt_of_le B3.lt b1.size
  obtain ⟨r0,e0,s0⟩:=(B0.below b1 B0.lt).facts
  have x0:w1.cell? ⟨w.heap.size,0,none⟩=some (.int .i64 N):=r0 0
  have x1:w1.cell? ⟨w.heap.size,1,none⟩=some (.int .i64 L):=r0 1
  have x2:w1.cell? ⟨w.heap.size,2,none⟩=some (.int .i64 R):=r0 2
  have hne1:¬ (w.heap.size=w1.heap.size):=by omega
  clear r0
  clear b1 B0 B1 B2 B3 HW QH hb0 S1
  go_wp2_with (fail)
  clear x0 x1 x2 e0 s0 hne1
  generalize w1.alloc (.cells #[.slice A n c,.int .i64 (k:Nat)] 35)=w2 at *
  generalize w1.heap.size=g1 at *
  refine (QT.out _ _ _ HB1.out).mono ?_
  rintro e w3 ⟨H,hc,rfl,G3,b3⟩
  have HG3:=hide (G3.alloc (.cells #[.int .i64 N,.int .i64 L,.int .i64 R,.slice H K hc,.slice none 0 0] 30))
  have hb3:=(hb1.trans (b3.mono hb1.size)).alloc (Nat.le_trans hb1.size b3.size) (.cells #[.int .i64 N,.int .i64 L,.int .i64 R,.slice H K hc,.slice none 0 0] 30)
  have B23:=(B21.below b3 B21.lt).alloc (.cells #[.int .i64 N,.int .i64 L,.int .i64 R,.slice H K hc,.slice none 0 0] 30)
  have B33:=(B31.below b3 B31.lt).alloc (.cells #[.int .i64 N,.int .i64 L,.int .i64 R,.slice H K hc,.slice none 0 0] 30)
  have B43:=(B41.below b3 B41.lt).alloc (.cells #[.int .i64 N,.int .i64 L,.int .i64 R,.slice H K hc,.slice none 0 0] 30)
  have B53:=Blk.new w3 30 #[.int .i64 N,.int .i64 L,.int .i64 R,.slice H K hc,.slice none 0 0]
  have hg3:w.heap.size + 1 + 1 + 1 < w3.heap.size:=Nat.lt_of_lt_of_le B31.lt b3.size
  obtain ⟨r0,e0,s0⟩:=(B01.below b3 B01.lt).facts
  have x0:w3.cell? ⟨w.heap.size,0,none⟩=some (.int .i64 N):=r0 0
  have hne1:¬ (w.heap.size=w3.heap.size):=by omega
  clear r0 b3 B01 B21 B31 B41 HB1 QT hb1 G3
  go_wp2_with (fail)
  clear x0 e0 s0 hne1
  generalize w3.alloc (.cells #[.int .i64 N,.int .i64 L,.int .i64 R,.slice H K hc,.slice none 0 0] 30)=w4 at *
  generalize w3.heap.size=g3 at *
  refine (QV.out _).mono ?_
  rintro e w5 ⟨S,d,rfl,S5,b5⟩
  have hb5:=hb3.trans (b5.mono hb3.size)
  have HSM:=hide (QS.out _ H hc S d (HG3.out.below b5) S5)
  have B21:=B23.below b5 B23.lt
  have B31:=B33.below b5 B33.lt
  have B11:=B43.below b5 B43.lt
  have B51:=B53.below b5 B53.lt
  clear HG3 hb3 B23 B33 B43 B53 b5 S5 QV QS
  go_wp2_with (fail)
  obtain ⟨rb,eb,sb⟩:=B21.facts
  have q0:w5.cell? ⟨w.heap.size + 1 + 1,0,none⟩=some (.int .i64 0):=rb 0
  have q1:w5.cell? ⟨w.heap.size + 1 + 1,1,none⟩=some (.int .i64 0):=rb 1
  have q2:w5.cell? ⟨w.heap.size + 1 + 1,2,none⟩=some (.int .i64 0):=rb 2
  have q3:w5.cell? ⟨w.heap.size + 1 + 1,3,none⟩=some (.slice none 0 0):=rb 3
  have q4:w5.cell? ⟨w.heap.size + 1 + 1,4,none⟩=some (.slice none 0 0):=rb 4
  have q5:w5.cell? ⟨w.heap.size + 1 + 1,5,none⟩=some (.slice none 0 0):=rb 5
  clear rb
  obtain ⟨rc,ec,sc⟩:=B31.facts
  have t0:w5.cell? ⟨w.heap.size + 1 + 1 + 1,0,none⟩=some (.slice none 0 0):=rc 0
  have t1:w5.cell? ⟨w.heap.size + 1 + 1 + 1,1,none⟩=some (.int .i64 0):=rc 1
  clear rc
  obtain ⟨rd,ed,sd⟩:=B11.facts
  have y0:w5.cell? ⟨g1,0,none⟩=some (.slice A n c):=rd 0
  have y1:w5.cell? ⟨g1,1,none⟩=some (.int .i64 (k:Nat)):=rd 1
  clear rd
  obtain ⟨rf,ef,sf⟩:=B51.facts
  have z0:w5.cell? ⟨g3,0,none⟩=some (.int .i64 N):=rf 0
  have z1:w5.cell? ⟨g3,1,none⟩=some (.int .i64 L):=rf 1
  have z2:w5.cell? ⟨g3,2,none⟩=some (.int .i64 R):=rf 2
  have z3:w5.cell? ⟨g3,3,none⟩=some (.slice H K hc):=rf 3
  have z4:w5.cell? ⟨g3,4,none⟩=some (.slice none 0 0):=rf 4
  clear rf
  have n1:¬ (w.heap.size + 1 + 1=g1):=by omega
  have n2:¬ (w.heap.size + 1 + 1 + 1=g1):=by omega
  have n3:¬ (w.heap.size + 1 + 1=g3):=by omega
  have n4:¬ (w.heap.size + 1 + 1 + 1=g3):=by omega
  have n5:¬ (g1=w.heap.size + 1 + 1):=by omega
  have n6:¬ (g1=w.heap.size + 1 + 1 + 1):=by omega
  have n7:¬ (g3=w.heap.size + 1 + 1):=by omega
  have n8:¬ (g3=w.heap.size + 1 + 1 + 1):=by omega
  clear hg1 hg3
  go_big_region
  all_goals go_wp2
  clear y0 y1 ed sd q0 q1 q2 q3 q4 q5 eb sb t0 t1 ec sc z0 z1 z2 z3 z4 ef sf n1 n2 n3 n4 n5 n6 n7 n8 B11 B51
  have HSM2:=hide (show N ≤ 10 → L ≤ 4 → R ≤ 3 → SM _ N L R hs [] (List.replicate N (false,0)) H hc none 0 0 S d from fun a b c'=>(sm_setw ((HSM.out a b c').set6 B21 (scells_z N) (Value.int .i64 N) (Value.int .i64 L) (Value.int .i64 R) (Value.slice H K hc) (Value.slice none 0 0) (Value.slice S N d)) (far6 B31 (by omega) (Value.int .i64 N) (Value.int .i64 L) (Value.int .i64 R) (Value.slice H K hc) (Value.slice none 0 0) (Value.slice S N d)) (nc_words none 0 0 0) (Value.slice A n c) (Value.int .i64 (k:Nat))).drew)
  have hb1:=hb5
  clear hb5 HSM
  (have BB:=two_boxes B21 B31 (Value.int .i64 N) (Value.int .i64 L) (Value.int .i64 R) (Value.slice H K hc) (Value.slice none 0 0) (Value.slice S N d) (Value.slice A n c) (Value.int .i64 (k:Nat));have hb9:=(((below_set6 hb1 (show w.heap.size ≤ w.heap.size + 1 + 1 by omega) (Value.int .i64 N) (Value.int .i64 L) (Value.int .i64 R) (Value.slice H K hc) (Value.slice none 0 0) (Value.slice S N d)).setCell (p:=⟨w.heap.size + 1 + 1 + 1,0,none⟩) (show w.heap.size ≤ w.heap.size + 1 + 1 + 1 by omega) (Value.slice A n c)).setCell (p:=⟨w.heap.size + 1 + 1 + 1,1,none⟩) (show w.heap.size ≤ w.heap.size + 1 + 1 + 1 by omega) (Value.int .i64 (k:Nat))).drew;clear hb1;obtain ⟨BU,BV⟩:=BB;have BU2:=BU.drew;have BV2:=BV.drew;clear BU BV;generalize ((((((((w5.setCell ⟨w.heap.size + 1 + 1,0,none⟩ (Value.int .i64 N)).setCell ⟨w.heap.size + 1 + 1,1,none⟩ (Value.int .i64 L)).setCell ⟨w.heap.size + 1 + 1,2,none⟩ (Value.int .i64 R)).setCell ⟨w.heap.size + 1 + 1,3,none⟩ (Value.slice H K hc)).setCell ⟨w.heap.size + 1 + 1,4,none⟩ (Value.slice none 0 0)).setCell ⟨w.heap.size + 1 + 1,5,none⟩ (Value.slice S N d)).setCell ⟨w.heap.size + 1 + 1 + 1,0,none⟩ (Value.slice A n c)).setCell ⟨w.heap.size + 1 + 1 + 1,1,none⟩ (Value.int .i64 (k:Nat))).drew=W9 at *;obtain ⟨q0,q1,q2,q3,q4,q5,eb,sb⟩:=BU2.f6;obtain ⟨t0,t1,ec,sc⟩:=BV2.f2)
  refine bodyPost_ret (v:=.tuple #[.agg #[.int .i64 N,.int .i64 L,.int .i64 R,.slice H K hc,.slice none 0 0,.slice S N d],.agg #[.slice A n c,.int .i64 k],.int .i64 0]) (by simp [results,Tryz.results5,go_sem,q0,q1,q2,q3,q4,q5,t0,t1]) rfl ?_
  exact ⟨H,hc,S,d,rfl,HSM2.out,hb9⟩
end Go.Proofs.YtppblcbgkadldaaGreatDoor
namespace Go.Proofs.YtppblcbgkadldaaGreatDoor
open Go Go.RowKit
set_option maxRecDepth 100000
attribute [local go_sem] Heavy heavyUpon
def URow (W:World) (B g n d:Nat) (l:List Int):Prop:=W.ownsRow B 43 1 (.slice (some ⟨g,0,none⟩) n d) n (ints .u64 l) ∧ l.length=n
set_option maxRecDepth 100000 in
set_option maxHeartbeats 6400000 in
theorem insort_u (B g n d:Nat) (l:List Int) (w:World) (hR:URow w B g n d l) (hB:B ≤ g) (hg:g < w.heap.size) (hn:n ≤ 1000) :
    Calls Tryz.prog 135 #[.slice (some ⟨g,0,none⟩) n d,.int .i64 0,.int .i64 n] w fun e w'=>∃ l',e=.returned (.tuple #[]) ∧ URow w' B g n d l' ∧ l'.Perm l ∧ SortedTo l' n ∧ Below B w w':=by
  have QL:=hide less_u
  have HR:=hide hR
  clear hR
  go_enter Tryz.func135,Tryz.ntmps135
  go_wp2_with (fail)
  go_loopw [6] (fun u wr=>∃ (i:Nat) (l':List Int),u=.int .i64 i ∧ 1 ≤ i ∧ i ≤ n + 1 ∧ Hid (URow wr B g n d l') ∧ Hid (l'.Perm l ∧ SortedTo l' i) ∧ Below B w wr) (fun u _=>n + 1 - (intOf u).toNat)
  case atStart=>exact ⟨1,l,by go_num,by omega,by omega,HR,hide ⟨List.Perm.refl _,fun p q h1 h2=>by omega⟩,Below.refl _ _⟩
  case round =>
    obtain ⟨i,l1,rfl,hi1,hin,HU,HP,hbr⟩:=hrel
    by_cases hlt:i < n
    · have HH:=hide (show l1.Perm l ∧ HoleAt l1 i i from ⟨HP.out.1,hole_start HP.out.2⟩)
      clear HP
      go_wp2_with (fail)
      go_loopw [7] (fun u wr=>∃ (j:Nat) (l':List Int),u=.int .i64 j ∧ j ≤ i ∧ Hid (URow wr B g n d l') ∧ Hid (l'.Perm l ∧ HoleAt l' i j) ∧ Below B w wr) (fun u _=>(intOf u).toNat)
      case atStart=>exact ⟨i,l1,rfl,Nat.le_refl _,HU,HH,hbr⟩
      case round =>
        clear HU HH hbr
        obtain ⟨j,l2,rfl,hji,HU,HH,hbr⟩:=hrel
        have szr:=hbr.size
        have hgr:g < wr.heap.size:=Nat.lt_of_lt_of_le hg szr
        by_cases hj0:0 < j
        · have hjl:j < l2.length:=by have:=HU.out.2;omega
          have hjl2:j - 1 < l2.length:=by omega
          have c0:=HU.out.1.cellAt j (by omega)
          have d0:=HU.out.1.cellAt (j - 1) (by omega)
          have fz:=HU.out.1.frozenAt j
          have fz2:=HU.out.1.frozenAt (j - 1)
          rw [ints_getD' hjl] at c0
          rw [ints_getD' hjl2] at d0
          have QX:=hide (fun W=>QL.out (l2.getD j 0) (l2.getD (j - 1) 0) W)
          have i0:(0:Int) ≤ (j:Int) - 1:=by omega
          have i0':(1:Int) ≤ (j:Int):=by omega
          have i1:(j:Int) - 1 < (n:Int):=by omega
          have i2:((j:Int) - 1).toNat=j - 1:=by omega
          have g0:(0:Int) < (j:Int):=by omega
          have g1:(j:Int) < (n:Int):=by omega
          have HL:=hide (show ¬ l2.getD j 0 < l2.getD (j - 1) 0 → l2.Perm l ∧ SortedTo l2 (i + 1) from fun h=>⟨HH.out.1,hole_end HH.out.2 hji (.inr h)⟩)
          have HS:=hide (show l2.getD j 0 < l2.getD (j - 1) 0 → (swapI l2 j).Perm l ∧ HoleAt (swapI l2 j) i (j - 1) from fun h=>⟨(swapI_perm hj0 hjl).trans HH.out.1,hole_step HH.out.2 hj0 hji (by have:=HU.out.2;omega) h⟩)
          have HJ:=hide (And.intro hjl hjl2)
          by_cases hl:l2.getD j 0 < l2.getD (j - 1) 0
          · have hd:decide (l2.getD j 0 < l2.getD (j - 1) 0)=true:=decide_eq_true hl
            have HS2:=hide (HS.out hl)
            have HSW:=hide (show ∀ W,URow W B g n d l2 → URow ((W.setCell ⟨g,j,none⟩ (.int .u64 (l2.getD (j - 1) 0))).setCell ⟨g,j - 1,none⟩ (.int .u64 (l2.getD j 0))) B g n d (swapI l2 j) from fun W h=>by
              refine ⟨?_,by rw [swapI_len];exact h.2⟩
              have h1:=(h.1.stored j (.int .u64 (l2.getD (j - 1) 0))).1
              have h2:=(h1.stored (j - 1) (.int .u64 (l2.getD j 0))).1
              rw [ints_lset,ints_lset] at h2
              exact h2)
            generalize swapI l2 j=l3 at *
            rw [hd] at QX
            obtain ⟨xj,hxj⟩:∃ x,l2.getD j 0=x:=⟨_,rfl⟩
            obtain ⟨xk,hxk⟩:∃ x,l2.getD (j - 1) 0=x:=⟨_,rfl⟩
            rw [hxj,hxk] at QX hd HSW
            rw [hxj] at c0
            rw [hxk] at d0
            have HXJ:=hide hxj
            have HXK:=hide hxk
            clear HH HL HS hl hjl hjl2 hxj hxk
            go_wp2_with (fail)
            refine wp_region_lexD [13] (fun w'=>Below (wr).heap.size (wr) w') (by kernel_rfl) (by kernel_rfl) (Below.refl _ _).drew ?_
            (repeat ((with_reducible refine wpLex_step (fun K hK=>?_));go_simp;first | ((with_reducible refine hK _ _ ?_);clear hK K) | ((with_reducible apply Exists.intro);refine ⟨fun w' hw'=>?_,hK _ _ ?_⟩;(· (have hq:=bcells hw';apply valEq;(· (go_simp;first | done | (with_reducible rfl)));(· ((try go_bits);with_reducible rfl))));clear hK K)))
            ((with_reducible refine wpLex_step (fun K hK=>?_));go_simp;refine (QX.out _).mono ?_;rintro e w3 ⟨rfl,hbx⟩;have g3:=((Below.refl (wr).heap.size wr).drew).trans (hbx.mono ((Below.refl (wr).heap.size wr).drew).size);refine ⟨_,rfl,g3,hK _ _ ?_⟩;clear hK K hbx)
            (repeat ((with_reducible refine wpLex_step (fun K hK=>?_));go_simp;first | ((with_reducible refine hK _ _ ?_);clear hK K) | ((with_reducible apply Exists.intro);refine ⟨fun w' hw'=>?_,hK _ _ ?_⟩;(· (have hq:=bcells hw';apply valEq;(· (go_simp;first | done | (with_reducible rfl)));(· ((try go_bits);with_reducible rfl))));clear hK K)))
            refine wpLex_nil (fun _=>?_)
            have HU3:=hide (show URow w3 B g n d l2 from ⟨own_below HU.out.1 g3,HU.out.2⟩)
            have hb3:=hbr.trans (g3.mono (show B ≤ wr.heap.size by omega))
            have p0:=HU3.out.1.cellAt j (by have:=HJ.out;omega)
            have p1:=HU3.out.1.cellAt (j - 1) (by have:=HJ.out;omega)
            rw [ints_getD' HJ.out.1,HXJ.out] at p0
            rw [ints_getD' HJ.out.2,HXK.out] at p1
            have p0':w3.drew.cell? ⟨g,j,none⟩=some (.int .u64 xj):=p0
            have p1':w3.drew.cell? ⟨g,j - 1,none⟩=some (.int .u64 xk):=p1
            have z0:=HU3.out.1.frozenAt j
            have z1:=HU3.out.1.frozenAt (j - 1)
            have z0':w3.drew.frozen? ⟨g,j,none⟩=false:=z0
            have z1':w3.drew.frozen? ⟨g,j - 1,none⟩=false:=z1
            have HU4:=hide (show URow ((w3.setCell ⟨g,j,none⟩ (.int .u64 xk)).setCell ⟨g,j - 1,none⟩ (.int .u64 xj)).drew B g n d l3 from HSW.out w3 HU3.out)
            have hb4:=hide ((hb3.setCell (p:=⟨g,j,none⟩) hB (.int .u64 xk)).setCell (p:=⟨g,j - 1,none⟩) hB (.int .u64 xj)).drew
            clear c0 d0 fz fz2 HU HSW hb3 g3 hbr szr hgr
            go_wp2_with (fail)
            go_big_region
            all_goals go_wp2
            exact ⟨⟨j - 1,l3,by congr 1;omega,by omega,HU4,HS2,hb4.out⟩,by simp [intOf];omega⟩
          · have hd:decide (l2.getD j 0 < l2.getD (j - 1) 0)=false:=decide_eq_false hl
            have HL2:=hide (HL.out hl)
            rw [hd] at QX
            generalize l2.getD j 0=xj at *
            generalize l2.getD (j - 1) 0=xk at *
            clear HH HL HS hl hjl hjl2
            go_wp2_with (fail)
            refine wp_region_lexD [13] (fun w'=>Below (wr).heap.size (wr) w') (by kernel_rfl) (by kernel_rfl) (Below.refl _ _).drew ?_
            (repeat ((with_reducible refine wpLex_step (fun K hK=>?_));go_simp;first | ((with_reducible refine hK _ _ ?_);clear hK K) | ((with_reducible apply Exists.intro);refine ⟨fun w' hw'=>?_,hK _ _ ?_⟩;(· (have hq:=bcells hw';apply valEq;(· (go_simp;first | done | (with_reducible rfl)));(· ((try go_bits);with_reducible rfl))));clear hK K)))
            ((with_reducible refine wpLex_step (fun K hK=>?_));go_simp;refine (QX.out _).mono ?_;rintro e w3 ⟨rfl,hbx⟩;have g3:=((Below.refl (wr).heap.size wr).drew).trans (hbx.mono ((Below.refl (wr).heap.size wr).drew).size);refine ⟨_,rfl,g3,hK _ _ ?_⟩;clear hK K hbx)
            (repeat ((with_reducible refine wpLex_step (fun K hK=>?_));go_simp;first | ((with_reducible refine hK _ _ ?_);clear hK K) | ((with_reducible apply Exists.intro);refine ⟨fun w' hw'=>?_,hK _ _ ?_⟩;(· (have hq:=bcells hw';apply valEq;(· (go_simp;first | done | (with_reducible rfl)));(· ((try go_bits);with_reducible rfl))));clear hK K)))
            refine wpLex_nil (fun _=>?_)
            have HU3:=hide (show URow w3 B g n d l2 from ⟨own_below HU.out.1 g3,HU.out.2⟩)
            have hb3:=hbr.trans (g3.mono (show B ≤ wr.heap.size by omega))
            clear c0 d0 fz fz2 HU g3 hbr szr hgr
            go_wp2_with (fail)
            exact ⟨⟨i + 1,l2,by go_num,by omega,by omega,HU3,HL2,hb3⟩,by simp [intOf];omega⟩
        · obtain rfl:j=0:=by omega
          have HE:=hide (show l2.Perm l ∧ SortedTo l2 (i + 1) from ⟨HH.out.1,hole_end HH.out.2 hji (.inl rfl)⟩)
          clear HH
          go_wp2_with (fail)
          refine wp_region_lexD [13] (fun w'=>Below (wr).heap.size (wr) w') (by kernel_rfl) (by kernel_rfl) (Below.refl _ _).drew ?_
          (repeat ((with_reducible refine wpLex_step (fun K hK=>?_));go_simp;first | ((with_reducible refine hK _ _ ?_);clear hK K) | ((with_reducible apply Exists.intro);refine ⟨fun w' hw'=>?_,hK _ _ ?_⟩;(· (have hq:=bcells hw';apply valEq;(· (go_simp;first | done | (with_reducible rfl)));(· ((try go_bits);with_reducible rfl))));clear hK K)))
          refine wpLex_nil (fun g3=>?_)
          have HU3:=hide (show URow wr.drew B g n d l2 from HU.out)
          have hb3:=hbr.drew
          clear HU hbr
          go_wp2_with (fail)
          exact ⟨⟨i + 1,l2,by go_num,by omega,by omega,HU3,HE,hb3⟩,by simp [intOf];omega⟩
    · have HF:=hide (show l1.Perm l ∧ SortedTo l1 n from ⟨HP.out.1,fun p q h1 h2=>HP.out.2 p q h1 (by omega)⟩)
      clear HP
      go_wp2_with (fail)
      go_end0
      exact ⟨l1,rfl,HU.out,HF.out.1,HF.out.2,hbr⟩
end Go.Proofs.YtppblcbgkadldaaGreatDoor
namespace Go.Proofs.YtppblcbgkadldaaGreatDoor
open Go Go.RowKit
set_option maxRecDepth 100000
attribute [local go_sem] Heavy heavyUpon
set_option maxHeartbeats 3200000 in
theorem pdq_u (B g n d:Nat) (l:List Int) (lim:Int) (w:World) (hR:URow w B g n d l) (hB:B ≤ g) (hg:g < w.heap.size) (hn:n ≤ 12) :
    Calls Tryz.prog 113 #[.slice (some ⟨g,0,none⟩) n d,.int .i64 0,.int .i64 n,.int .i64 lim] w fun e w'=>∃ l',e=.returned (.tuple #[]) ∧ URow w' B g n d l' ∧ l'.Perm l ∧ SortedTo l' n ∧ Below B w w':=by
  have QI:=hide (insort_u B g n d l w hR hB hg (by omega))
  have hd:decide ((n:Int) ≤ 12)=true:=by simp;omega
  clear hR hB hg
  go_enter Tryz.func113,Tryz.ntmps113
  go_wp2_with (fail)
  have HW:=hide (show Below w.heap.size w w from Below.refl _ _)
  go_loopw [1,2] (fun x y wr=>wr=w ∧ x=.int .i64 0 ∧ y=.int .i64 n) (fun _ _ _=>0)
  case atStart=>exact ⟨rfl,rfl,rfl⟩
  case round =>
    obtain ⟨rfl,rfl,rfl⟩:=hrel
    go_wp2_with (fail)
    refine QI.out.mono ?_
    rintro e w1 ⟨l',rfl,h⟩
    have HH:=hide h
    clear h
    go_wp2_with (fail)
    refine bodyPost_ret (v:=.tuple #[]) (results_none (by kernel_rfl) _ _ _) rfl ?_
    exact ⟨l',rfl,HH.out⟩
set_option maxHeartbeats 3200000 in
theorem sort_u (B g n d:Nat) (l:List Int) (w:World) (hR:URow w B g n d l) (hB:B ≤ g) (hg:g < w.heap.size) (hn:n ≤ 12) :
    Calls Tryz.prog 75 #[.slice (some ⟨g,0,none⟩) n d] w fun e w'=>∃ l',e=.returned (.tuple #[]) ∧ URow w' B g n d l' ∧ l'.Perm l ∧ SortedTo l' n ∧ Below B w w':=by
  have QP:=hide (fun lim W (h:URow W B g n d l) (hg:g < W.heap.size)=>pdq_u B g n d l lim W h hB hg hn)
  have QL:=hide (fun W=>Tryz.bits_Len (n:Int) W (by omega) (by omega))
  have HR:=hide hR
  have HBG:=hide (And.intro hB hg)
  clear hR hB hg
  go_enter Tryz.func75,Tryz.ntmps75
  go_wp2_with (fail)
  refine (QL.out _).mono ?_
  rintro e w1 ⟨rfl,rfl⟩
  go_wp2_with (fail)
  refine (QP.out _ _ HR.out HBG.out.2).mono ?_
  rintro e w2 ⟨l',rfl,h⟩
  have HH:=hide h
  clear h
  go_wp2_with (fail)
  go_end0
  exact ⟨l',rfl,HH.out⟩
end Go.Proofs.YtppblcbgkadldaaGreatDoor
namespace Go.Proofs.YtppblcbgkadldaaGreatDoor
open Go Go.RowKit
set_option maxRecDepth 100000
attribute [local go_sem] Heavy heavyUpon
set_option maxHeartbeats 3200000 in
theorem insort_nil (A:Option Addr) (d:Nat) (w:World) :
    Calls Tryz.prog 135 #[.slice A 0 d,.int .i64 0,.int .i64 0] w fun e w'=>e=.returned (.tuple #[]) ∧ w'=w:=by
  go_enter Tryz.func135,Tryz.ntmps135
  go_wp2_with (fail)
  go_loopw [6] (fun u wr=>u=.int .i64 1 ∧ wr=w) (fun _ _=>0)
  case atStart=>exact ⟨rfl,rfl⟩
  case round =>
    obtain ⟨rfl,rfl⟩:=hrel
    go_wp2_with (fail)
    go_end0
    exact ⟨rfl,rfl⟩
set_option maxHeartbeats 3200000 in
theorem pdq_nil (A:Option Addr) (d:Nat) (lim:Int) (w:World) :
    Calls Tryz.prog 113 #[.slice A 0 d,.int .i64 0,.int .i64 0,.int .i64 lim] w fun e w'=>e=.returned (.tuple #[]) ∧ w'=w:=by
  have QI:=hide (insort_nil A d w)
  go_enter Tryz.func113,Tryz.ntmps113
  go_wp2_with (fail)
  go_loopw [1,2] (fun x y wr=>wr=w ∧ x=.int .i64 0 ∧ y=.int .i64 0) (fun _ _ _=>0)
  case atStart=>exact ⟨rfl,rfl,rfl⟩
  case round =>
    obtain ⟨rfl,rfl,rfl⟩:=hrel
    go_wp2_with (fail)
    refine QI.out.mono ?_
    rintro e w1 ⟨rfl,rfl⟩
    go_wp2_with (fail)
    refine bodyPost_ret (v:=.tuple #[]) (results_none (by kernel_rfl) _ _ _) rfl ?_
    exact ⟨rfl,rfl⟩
set_option maxHeartbeats 3200000 in
theorem sort_nil (A:Option Addr) (d:Nat) (w:World) :
    Calls Tryz.prog 75 #[.slice A 0 d] w fun e w'=>e=.returned (.tuple #[]) ∧ w'=w:=by
  have QP:=hide (fun lim W=>pdq_nil A d lim W)
  have QL:=hide (fun W=>Tryz.bits_Len 0 W (by omega) (by omega))
  go_enter Tryz.func75,Tryz.ntmps75
  go_wp2_with (fail)
  refine (QL.out _).mono ?_
  rintro e w1 ⟨rfl,rfl⟩
  go_wp2_with (fail)
  refine (QP.out _ _).mono ?_
  rintro e w2 ⟨rfl,rfl⟩
  go_wp2_with (fail)
  go_end0
  exact ⟨rfl,rfl⟩
end Go.Proofs.YtppblcbgkadldaaGreatDoor
namespace Go.Proofs.YtppblcbgkadldaaGreatDoor
open Go Go.RowKit
set_option maxRecDepth 100000
def usedN (ls:List S2) (v:Nat):Bool:=(ls.getD v (false,0)).1
def keyN (ls:List S2) (v:Nat):Int:=(ls.getD v (false,0)).2
def keysN (ls:List S2) (vs:List Nat):List Int:=(vs.filter (usedN ls)).map (keyN ls)
theorem keysN_step (ls:List S2) (vs:List Nat) {k:Nat} (hk:k < vs.length):keysN ls (vs.take (k + 1))=keysN ls (vs.take k) ++ (if usedN ls vs[k]=true then [keyN ls vs[k]] else []):=by
  unfold keysN
  rw [filter_step (usedN ls) vs hk,List.map_append]
  split <;> simp
theorem keysN_len (ls:List S2) (vs:List Nat):(keysN ls vs).length ≤ vs.length:=by
  unfold keysN
  rw [List.length_map]
  exact List.length_filter_le _ _
end Go.Proofs.YtppblcbgkadldaaGreatDoor
