/-
  A part of the proof that the law TopForest returns true for every input and leaves its arguments as they were: IdxC.
-/
import Derived.Test.YtppblcbgkadldaaGreatDoorZ27
set_option linter.all false
namespace Go.Proofs.YtppblcbgkadldaaGreatDoor
open Go Go.RowKit
set_option maxRecDepth 100000
attribute [local go_sem] Heavy heavyUpon
theorem sok_add {l:List S2} {key:Int} (h:SOK l) (hn:¬ ∃ i,IsSlot l key i) (v:Nat):SOK (l.set v (true,key)):=by
  refine ⟨fun x hx h0=>?_,fun i j hi hj h1 h2 he=>?_⟩
  · rcases List.mem_or_eq_of_mem_set hx with hx | rfl
    · exact h.zero x hx h0
    · cases h0
  · rw [List.length_set] at hi hj
    rw [List.getElem_set] at h1 h2 he
    rw [List.getElem_set] at he
    by_cases e1:v=i <;> by_cases e2:v=j
    · omega
    · exfalso
      rw [if_pos e1,if_neg e2] at he
      rw [if_neg e2] at h2
      exact hn ⟨j,hj,Prod.ext h2 he.symm⟩
    · exfalso
      rw [if_neg e1,if_pos e2] at he
      rw [if_neg e1] at h1
      exact hn ⟨i,hi,Prod.ext h1 he⟩
    · rw [if_neg e1,if_neg e2] at he
      rw [if_neg e1] at h1
      rw [if_neg e2] at h2
      exact h.one i j hi hj h1 h2 he
theorem sok_rem {l:List S2} (h:SOK l) (v:Nat):SOK (l.set v (false,0)):=by
  refine ⟨fun x hx h0=>?_,fun i j hi hj h1 h2 he=>?_⟩
  · rcases List.mem_or_eq_of_mem_set hx with hx | rfl
    · exact h.zero x hx h0
    · rfl
  · rw [List.length_set] at hi hj
    rw [List.getElem_set] at h1 h2 he
    rw [List.getElem_set] at he
    by_cases e1:v=i
    · rw [if_pos e1] at h1;cases h1
    · by_cases e2:v=j
      · rw [if_pos e2] at h2;cases h2
      · rw [if_neg e1,if_neg e2] at he
        rw [if_neg e1] at h1
        rw [if_neg e2] at h2
        exact h.one i j hi hj h1 h2 he
theorem used_add {l:List S2} {key:Int} {v:Nat} {x:Int} (h:usedB l x):usedB (l.set v (true,key)) x:=by
  obtain ⟨h1,h2⟩:=h
  refine ⟨by rw [List.length_set];exact h1,?_⟩
  rw [List.getElem_set]
  split
  · rfl
  · exact h2
theorem used_rem {l:List S2} {v:Nat} {x:Int} (h:usedB l x) (hx:x.toNat ≠ v):usedB (l.set v (false,0)) x:=by
  obtain ⟨h1,h2⟩:=h
  refine ⟨by rw [List.length_set];exact h1,?_⟩
  rw [List.getElem_set,if_neg (Ne.symm hx)]
  exact h2
theorem near_none {N u:Nat} {es:List E3} (hr:rightE N es=true) (hu:u < N) (h:outN N es u=[]):∀ e ∈ es,e.1 ≠ u ∧ e.2.1 ≠ u:=by
  intro e he
  unfold outN at h
  rw [hr,inN_nat hu,if_pos (by rfl)] at h
  unfold nearI at h
  have:=List.flatMap_eq_nil_iff.1 h e he
  unfold nearOf at this
  constructor
  · intro h1
    rw [if_pos h1.symm] at this
    cases this
  · intro h1
    split at this
    · cases this
    · rw [if_pos h1.symm] at this;cases this
theorem same_mem {l l':List E3} (h:SameE l l') {e:E3} (he:e ∈ l'):∃ t,(e.1,e.2.1,t) ∈ l:=by
  unfold SameE at h
  have:(e.1,e.2.1) ∈ l'.map (fun e=>(e.1,e.2.1)):=List.mem_map.2 ⟨e,he,rfl⟩
  rw [h] at this
  obtain ⟨d,hd,hde⟩:=List.mem_map.1 this
  injection hde with h1 h2
  exact ⟨d.2.2,by rw [← h1,← h2];exact hd⟩
theorem used_ins {N u v:Nat} {es es':List E3} {ls:List S2} {code:Int} (h:PIns N u v es es' code) (hus:∀ e ∈ es,usedB ls e.1 ∧ usedB ls e.2.1) (hu:usedB ls u) (hv:usedB ls v):∀ e ∈ es',usedB ls e.1 ∧ usedB ls e.2.1:=by
  intro e he
  by_cases hc:code=0
  · obtain ⟨t,ht⟩:=same_mem (h.2.2 hc).1 he
    rcases insE_mem.1 ht with h1 | h1
    · unfold edgeE at h1
      split at h1
      · injection h1 with h2 h3
        injection h3 with h3 _
        rw [h2,h3];exact ⟨hu,hv⟩
      · injection h1 with h2 h3
        injection h3 with h3 _
        rw [h2,h3];exact ⟨hv,hu⟩
    · have:=hus (e.1,e.2.1,t) h1;exact this
  · rw [h.2.1 hc] at he
    exact hus e he
theorem used_del {N u v:Nat} {es es':List E3} {ls:List S2} {code:Int} (h:PDel N u v es es' code) (hus:∀ e ∈ es,usedB ls e.1 ∧ usedB ls e.2.1):∀ e ∈ es',usedB ls e.1 ∧ usedB ls e.2.1:=by
  intro e he
  by_cases hc:code=0
  · obtain ⟨t,ht⟩:=same_mem (h.2.2 hc) he
    by_cases hf:0 ≤ findI es u v 0
    · obtain ⟨i,_,hi,_,hd,_⟩:=find_spec es u v 0 (Int.le_refl _) hf
      rw [hd] at ht
      rcases List.mem_append.1 ht with h1 | h1
      · have:=hus (e.1,e.2.1,t) (List.mem_of_mem_take h1);exact this
      · have:=hus (e.1,e.2.1,t) (List.mem_of_mem_drop h1);exact this
    · exfalso
      have h0:=h.1
      unfold remE at h0
      rw [if_neg hf] at h0
      split at h0 <;> (rw [hc] at h0;simp at h0)
  · rw [h.2.1 hc] at he
    exact hus e he
theorem slot_used {ls:List S2} {a:Int} {u:Nat} (h:IsSlot ls a u):usedB ls u:=by
  obtain ⟨h1,h2⟩:=h
  exact ⟨by simpa using h1,by simp [h2]⟩
def ChAdd (a:Int) (es:List E3) (ls:List S2) (es':List E3) (ls':List S2) (code:Int):Prop:=
  es'=es ∧ (((∃ i,IsSlot ls a i) ∧ code=4 ∧ ls'=ls) ∨ (¬ (∃ i,IsSlot ls a i) ∧ (∀ x ∈ ls,x.1=true) ∧ code=10 ∧ ls'=ls) ∨ (¬ (∃ i,IsSlot ls a i) ∧ code=0 ∧ ∃ v,∃ h:v < ls.length,(ls[v].1=false ∧ ∀ (j:Nat) (hj:j < ls.length),j < v → ls[j].1=true) ∧ ls'=ls.set v (true,a)))
def ChDrop (N u:Nat) (es:List E3) (ls:List S2) (es':List E3) (ls':List S2) (code:Int):Prop:=
  es'=es ∧ ((outN N es u ≠ [] ∧ code=11 ∧ ls'=ls) ∨ (outN N es u=[] ∧ code=0 ∧ ls'=ls.set u (false,0)))
def ChIns (N u v:Nat) (es:List E3) (ls:List S2) (es':List E3) (ls':List S2) (code:Int):Prop:=ls'=ls ∧ PIns N u v es es' code
def ChDel (N u v:Nat) (es:List E3) (ls:List S2) (es':List E3) (ls':List S2) (code:Int):Prop:=ls'=ls ∧ ((u=v ∧ code=9 ∧ es'=es) ∨ (u ≠ v ∧ PDel N u v es es' code))
section
variable {w w':World} {N L R:Nat} {hs:List (Int × Int)} {es:List E3} {ls:List S2} {H:Option Addr} {hc:Nat} {E:Option Addr} {m c:Nat} {S:Option Addr} {d:Nat}
def RetSC (N L R:Nat) (hs:List (Int × Int)) (H:Option Addr) (hc K:Nat) (P:List E3 → List S2 → Int → Prop) (w:World) (e:Ending) (w':World):Prop:=
  ∃ E m c S d es ls code,e=.returned (.tuple #[.agg #[.int .i64 N,.int .i64 L,.int .i64 R,.slice H K hc,.slice E m c,.slice S N d],.int .i64 code]) ∧ SM w' N L R hs es ls H hc E m c S d ∧ P es ls code ∧ Below w.heap.size w w'
set_option maxHeartbeats 6400000 in
theorem change_1 (a b:Int) (tx:ByteArray) (u v:Nat) (w:World) (hS:SM w N L R hs es ls H hc E m c S d) :
    Calls Tryz.prog 21 #[sV N L R H hc E m c S d,.agg #[.int .i64 1,.int .u64 a,.int .u64 b,.string tx],.int .i64 u,.int .i64 v] w (RetSC N L R hs H hc (L * R) (ChAdd a es ls) w):=by
  have n1:=hS.g.n1
  have n2:=hS.g.n2
  have QV:=hide (fun W (h:SM W N L R hs es ls H hc E m c S d)=>vadd_ok ls h.ok a S N d W h.s n1 (by omega))
  (have hne2:w.heap.size + 1 + 1 ≠ w.heap.size:=(by omega);have hne3:¬ (w.heap.size=w.heap.size + 1 + 1):=(by omega);have B0:=((Blk.new w 33 #[.int .i64 N,.int .i64 L,.int .i64 R,.slice H (L * R) hc,.slice E m c,.slice S N d]).alloc (.cells #[.int .i64 1,.int .u64 a,.int .u64 b,.string tx] 45)).alloc (.cells #[.int .i64 0,.int .i64 0,.int .i64 0,.slice none 0 0,.slice none 0 0,.slice none 0 0] 33);have B1:=(Blk.new (w.alloc (.cells #[.int .i64 N,.int .i64 L,.int .i64 R,.slice H (L * R) hc,.slice E m c,.slice S N d] 33)) 45 #[.int .i64 1,.int .u64 a,.int .u64 b,.string tx]).alloc (.cells #[.int .i64 0,.int .i64 0,.int .i64 0,.slice none 0 0,.slice none 0 0,.slice none 0 0] 33);rw [heap_alloc_size] at B1;have B2:=Blk.new ((w.alloc (.cells #[.int .i64 N,.int .i64 L,.int .i64 R,.slice H (L * R) hc,.slice E m c,.slice S N d] 33)).alloc (.cells #[.int .i64 1,.int .u64 a,.int .u64 b,.string tx] 45)) 33 #[.int .i64 0,.int .i64 0,.int .i64 0,.slice none 0 0,.slice none 0 0,.slice none 0 0];rw [heap_alloc_size,heap_alloc_size] at B2;have hb0:=(((Below.refl w.heap.size w).alloc (Nat.le_refl _) (.cells #[.int .i64 N,.int .i64 L,.int .i64 R,.slice H (L * R) hc,.slice E m c,.slice S N d] 33)).alloc (by simp) (.cells #[.int .i64 1,.int .u64 a,.int .u64 b,.string tx] 45)).alloc (by simp;omega) (.cells #[.int .i64 0,.int .i64 0,.int .i64 0,.slice none 0 0,.slice none 0 0,.slice none 0 0] 33);have HS0:=hide (((hS.alloc (.cells #[.int .i64 N,.int .i64 L,.int .i64 R,.slice H (L * R) hc,.slice E m c,.slice S N d] 33)).alloc (.cells #[.int .i64 1,.int .u64 a,.int .u64 b,.string tx] 45)).alloc (.cells #[.int .i64 0,.int .i64 0,.int .i64 0,.slice none 0 0,.slice none 0 0,.slice none 0 0] 33));have hsz:=HS0.out.s;unfold sV;generalize hK:L * R=K at *;clear hS hsz;go_enter Tryz.func21,Tryz.ntmps21;go_wp2_with (fail))
  generalize ((w.alloc (.cells #[.int .i64 N,.int .i64 L,.int .i64 R,.slice H K hc,.slice E m c,.slice S N d] 33)).alloc (.cells #[.int .i64 1,.int .u64 a,.int .u64 b,.string tx] 45)).alloc (.cells #[.int .i64 0,.int .i64 0,.int .i64 0,.slice none 0 0,.slice none 0 0,.slice none 0 0] 33)=W0 at *
  refine (QV.out _ HS0.out).mono ?_
  rintro e w1 ⟨hcase,b1⟩
  have hb1:=hb0.trans (b1.mono hb0.size)
  have B01:=B0.below b1 B0.lt
  have B21:=B2.below b1 B2.lt
  have HS1:=HS0.out.below b1
  clear hb0 B0 B1 B2 HS0
  rcases hcase with ⟨hi,rfl⟩ | ⟨hn,hall,rfl⟩ | ⟨hn,vv,R1,d1,hvl,hvf,rfl,S1⟩
  · ((obtain ⟨x0,x1,x2,x3,x4,x5,e0,s0⟩:=(B01).f6);have zz:(w1.setCell ⟨w.heap.size,5,none⟩ (.slice S N d)).cell? ⟨w.heap.size,5,none⟩=some (.slice S N d):=(B01.set_ 5 (.slice S N d)).cell 5;have B21s:=B21.far (p:=⟨w.heap.size,5,none⟩) (by show w.heap.size + 1 + 1 ≠ w.heap.size;omega) (.slice S N d);have HSF:=hide ((SM.set1 HS1 B01 (scells_n _ _ _ _ _ _ _ _ _ _ _ _) 5 (.slice S N d)).set6 B21s (scells_z N) (.int .i64 N) (.int .i64 L) (.int .i64 R) (.slice H K hc) (.slice E m c) (.slice S N d));have HBF:=hide (below_set6 (hb1.setCell (p:=⟨w.heap.size,5,none⟩) (Nat.le_refl _) (.slice S N d)) (g:=w.heap.size + 1 + 1) (by omega) (.int .i64 N) (.int .i64 L) (.int .i64 R) (.slice H K hc) (.slice E m c) (.slice S N d));have HPF:=hide (show ChAdd a es ls es ls 4 from ⟨rfl,.inl ⟨hi,rfl,rfl⟩⟩);(obtain ⟨q0,q1,q2,q3,q4,q5,eb,sb⟩:=(B21).f6;have Z:=hide (six_z (B21s) (.int .i64 N) (.int .i64 L) (.int .i64 R) (.slice H K hc) (.slice E m c) (.slice S N d));go_wp2_with (fail);refine bodyPost_ret (v:=.tuple #[.agg #[.int .i64 N,.int .i64 L,.int .i64 R,.slice H K hc,.slice E m c,.slice S N d],.int .i64 4]) (by simp [results,Tryz.results21,go_sem,Z.out.1,Z.out.2.1,Z.out.2.2.1,Z.out.2.2.2.1,Z.out.2.2.2.2.1,Z.out.2.2.2.2.2]) rfl ?_);exact ⟨E,m,c,S,d,_,_,4,rfl,HSF.out,HPF.out,HBF.out⟩)
  · ((obtain ⟨x0,x1,x2,x3,x4,x5,e0,s0⟩:=(B01).f6);have zz:(w1.setCell ⟨w.heap.size,5,none⟩ (.slice S N d)).cell? ⟨w.heap.size,5,none⟩=some (.slice S N d):=(B01.set_ 5 (.slice S N d)).cell 5;have B21s:=B21.far (p:=⟨w.heap.size,5,none⟩) (by show w.heap.size + 1 + 1 ≠ w.heap.size;omega) (.slice S N d);have HSF:=hide ((SM.set1 HS1 B01 (scells_n _ _ _ _ _ _ _ _ _ _ _ _) 5 (.slice S N d)).set6 B21s (scells_z N) (.int .i64 N) (.int .i64 L) (.int .i64 R) (.slice H K hc) (.slice E m c) (.slice S N d));have HBF:=hide (below_set6 (hb1.setCell (p:=⟨w.heap.size,5,none⟩) (Nat.le_refl _) (.slice S N d)) (g:=w.heap.size + 1 + 1) (by omega) (.int .i64 N) (.int .i64 L) (.int .i64 R) (.slice H K hc) (.slice E m c) (.slice S N d));have HPF:=hide (show ChAdd a es ls es ls 10 from ⟨rfl,.inr (.inl ⟨hn,hall,rfl,rfl⟩)⟩);(obtain ⟨q0,q1,q2,q3,q4,q5,eb,sb⟩:=(B21).f6;have Z:=hide (six_z (B21s) (.int .i64 N) (.int .i64 L) (.int .i64 R) (.slice H K hc) (.slice E m c) (.slice S N d));go_wp2_with (fail);refine bodyPost_ret (v:=.tuple #[.agg #[.int .i64 N,.int .i64 L,.int .i64 R,.slice H K hc,.slice E m c,.slice S N d],.int .i64 10]) (by simp [results,Tryz.results21,go_sem,Z.out.1,Z.out.2.1,Z.out.2.2.1,Z.out.2.2.2.1,Z.out.2.2.2.2.1,Z.out.2.2.2.2.2]) rfl ?_);exact ⟨E,m,c,S,d,_,_,10,rfl,HSF.out,HPF.out,HBF.out⟩)
  · have HS2:SM w1 N L R hs es (ls.set vv (true,a)) H hc E m c R1 d1:=⟨HS1.g,S1,sok_add HS1.ok hn vv,fun e he=>⟨used_add (HS1.used e he).1,used_add (HS1.used e he).2⟩⟩
    ((obtain ⟨x0,x1,x2,x3,x4,x5,e0,s0⟩:=(B01).f6);have zz:(w1.setCell ⟨w.heap.size,5,none⟩ (.slice R1 N d1)).cell? ⟨w.heap.size,5,none⟩=some (.slice R1 N d1):=(B01.set_ 5 (.slice R1 N d1)).cell 5;have B21s:=B21.far (p:=⟨w.heap.size,5,none⟩) (by show w.heap.size + 1 + 1 ≠ w.heap.size;omega) (.slice R1 N d1);have HSF:=hide ((SM.set1 HS2 B01 (scells_n _ _ _ _ _ _ _ _ _ _ _ _) 5 (.slice R1 N d1)).set6 B21s (scells_z N) (.int .i64 N) (.int .i64 L) (.int .i64 R) (.slice H K hc) (.slice E m c) (.slice R1 N d1));have HBF:=hide (below_set6 (hb1.setCell (p:=⟨w.heap.size,5,none⟩) (Nat.le_refl _) (.slice R1 N d1)) (g:=w.heap.size + 1 + 1) (by omega) (.int .i64 N) (.int .i64 L) (.int .i64 R) (.slice H K hc) (.slice E m c) (.slice R1 N d1));have HPF:=hide (show ChAdd a es ls es (ls.set vv (true,a)) 0 from ⟨rfl,.inr (.inr ⟨hn,rfl,vv,hvl,hvf,rfl⟩)⟩);(obtain ⟨q0,q1,q2,q3,q4,q5,eb,sb⟩:=(B21).f6;have Z:=hide (six_z (B21s) (.int .i64 N) (.int .i64 L) (.int .i64 R) (.slice H K hc) (.slice E m c) (.slice R1 N d1));go_wp2_with (fail);refine bodyPost_ret (v:=.tuple #[.agg #[.int .i64 N,.int .i64 L,.int .i64 R,.slice H K hc,.slice E m c,.slice R1 N d1],.int .i64 0]) (by simp [results,Tryz.results21,go_sem,Z.out.1,Z.out.2.1,Z.out.2.2.1,Z.out.2.2.2.1,Z.out.2.2.2.2.1,Z.out.2.2.2.2.2]) rfl ?_);exact ⟨E,m,c,R1,d1,_,_,0,rfl,HSF.out,HPF.out,HBF.out⟩)
set_option maxHeartbeats 6400000 in
theorem change_2 (a b:Int) (tx:ByteArray) (u v:Nat) (hu:IsSlot ls a u) (w:World) (hS:SM w N L R hs es ls H hc E m c S d) :
    Calls Tryz.prog 21 #[sV N L R H hc E m c S d,.agg #[.int .i64 2,.int .u64 a,.int .u64 b,.string tx],.int .i64 u,.int .i64 v] w (RetSC N L R hs H hc (L * R) (ChDrop N u es ls) w):=by
  have n1:=hS.g.n1
  have n2:=hS.g.n2
  have huN:u < N:=by obtain ⟨h,_⟩:=hu;have:=SSl.length hS.s;omega
  have QD:=hide (fun W (h:SM W N L R hs es ls H hc E m c S d)=>degree_ok u W h)
  have QV:=hide (fun W (h:SM W N L R hs es ls H hc E m c S d)=>vremove_ok ls h.ok a S N d W h.s n1 (by omega))
  have HNN:=hide (fun h=>near_none (u:=u) hS.g.ge.right huN h)
  have HGEZ:=hide hS.g.ge.right
  unfold sV at QD
  generalize hO:outN N es u=O at *
  (have hne2:w.heap.size + 1 + 1 ≠ w.heap.size:=(by omega);have hne3:¬ (w.heap.size=w.heap.size + 1 + 1):=(by omega);have B0:=((Blk.new w 33 #[.int .i64 N,.int .i64 L,.int .i64 R,.slice H (L * R) hc,.slice E m c,.slice S N d]).alloc (.cells #[.int .i64 2,.int .u64 a,.int .u64 b,.string tx] 45)).alloc (.cells #[.int .i64 0,.int .i64 0,.int .i64 0,.slice none 0 0,.slice none 0 0,.slice none 0 0] 33);have B1:=(Blk.new (w.alloc (.cells #[.int .i64 N,.int .i64 L,.int .i64 R,.slice H (L * R) hc,.slice E m c,.slice S N d] 33)) 45 #[.int .i64 2,.int .u64 a,.int .u64 b,.string tx]).alloc (.cells #[.int .i64 0,.int .i64 0,.int .i64 0,.slice none 0 0,.slice none 0 0,.slice none 0 0] 33);rw [heap_alloc_size] at B1;have B2:=Blk.new ((w.alloc (.cells #[.int .i64 N,.int .i64 L,.int .i64 R,.slice H (L * R) hc,.slice E m c,.slice S N d] 33)).alloc (.cells #[.int .i64 2,.int .u64 a,.int .u64 b,.string tx] 45)) 33 #[.int .i64 0,.int .i64 0,.int .i64 0,.slice none 0 0,.slice none 0 0,.slice none 0 0];rw [heap_alloc_size,heap_alloc_size] at B2;have hb0:=(((Below.refl w.heap.size w).alloc (Nat.le_refl _) (.cells #[.int .i64 N,.int .i64 L,.int .i64 R,.slice H (L * R) hc,.slice E m c,.slice S N d] 33)).alloc (by simp) (.cells #[.int .i64 2,.int .u64 a,.int .u64 b,.string tx] 45)).alloc (by simp;omega) (.cells #[.int .i64 0,.int .i64 0,.int .i64 0,.slice none 0 0,.slice none 0 0,.slice none 0 0] 33);have HS0:=hide (((hS.alloc (.cells #[.int .i64 N,.int .i64 L,.int .i64 R,.slice H (L * R) hc,.slice E m c,.slice S N d] 33)).alloc (.cells #[.int .i64 2,.int .u64 a,.int .u64 b,.string tx] 45)).alloc (.cells #[.int .i64 0,.int .i64 0,.int .i64 0,.slice none 0 0,.slice none 0 0,.slice none 0 0] 33));have hsz:=HS0.out.s;unfold sV;generalize hK:L * R=K at *;clear hS hsz;go_enter Tryz.func21,Tryz.ntmps21;go_wp2_with (fail))
  generalize ((w.alloc (.cells #[.int .i64 N,.int .i64 L,.int .i64 R,.slice H K hc,.slice E m c,.slice S N d] 33)).alloc (.cells #[.int .i64 2,.int .u64 a,.int .u64 b,.string tx] 45)).alloc (.cells #[.int .i64 0,.int .i64 0,.int .i64 0,.slice none 0 0,.slice none 0 0,.slice none 0 0] 33)=W0 at *
  refine (QD.out _ HS0.out).mono ?_
  rintro e w0 ⟨rfl,b0⟩
  have hb1:=hb0.trans (b0.mono hb0.size)
  have B01:=B0.below b0 B0.lt
  have B11:=B1.below b0 B1.lt
  have B21:=B2.below b0 B2.lt
  have HS1:=HS0.out.below b0
  clear hb0 B0 B1 B2 HS0 b0 QD
  by_cases hz:O=[]
  · have hd:decide (0 < O.length)=false:=by rw [hz];rfl
    have y1:w0.cell? ⟨w.heap.size + 1,1,none⟩=some (.int .u64 a):=B11.cell 1
    (obtain ⟨x0,x1,x2,x3,x4,x5,e0,s0⟩:=(B01).f6)
    go_wp2_with (fail)
    clear x0 x1 x2 x3 x4 x5 e0 s0 y1
    refine (QV.out _ HS1).mono ?_
    rintro e w1 ⟨hcase,b1⟩
    have hb2:=hb1.trans (b1.mono hb1.size)
    have B02:=B01.below b1 B01.lt
    have B22:=B21.below b1 B21.lt
    have HS2:=HS1.below b1
    clear hb1 B01 B11 B21 HS1
    have hb1:=hb2
    have B01:=B02
    have B21:=B22
    rcases hcase with ⟨hn,_⟩ | ⟨vv,R1,d1,hvv,rfl,S1⟩
    · exact absurd ⟨u,hu⟩ hn
    · obtain rfl:vv=u:=by
        obtain ⟨h1,h2⟩:=hvv
        obtain ⟨h3,h4⟩:=hu
        exact HS2.ok.one vv u h1 h3 (by rw [h2]) (by rw [h4]) (by rw [h2,h4])
      have HS3:SM w1 N L R hs es (ls.set vv (false,0)) H hc E m c R1 d1:=⟨HS2.g,S1,sok_rem HS2.ok vv,fun e he=>by
        have h1:=HNN.out hz e he
        have h2:=right_edge HGEZ.out he
        exact ⟨used_rem (HS2.used e he).1 (by omega),used_rem (HS2.used e he).2 (by omega)⟩⟩
      clear hb2 B02 B22
      ((obtain ⟨x0,x1,x2,x3,x4,x5,e0,s0⟩:=(B01).f6);have zz:(w1.setCell ⟨w.heap.size,5,none⟩ (.slice R1 N d1)).cell? ⟨w.heap.size,5,none⟩=some (.slice R1 N d1):=(B01.set_ 5 (.slice R1 N d1)).cell 5;have B21s:=B21.far (p:=⟨w.heap.size,5,none⟩) (by show w.heap.size + 1 + 1 ≠ w.heap.size;omega) (.slice R1 N d1);have HSF:=hide ((SM.set1 HS3 B01 (scells_n _ _ _ _ _ _ _ _ _ _ _ _) 5 (.slice R1 N d1)).set6 B21s (scells_z N) (.int .i64 N) (.int .i64 L) (.int .i64 R) (.slice H K hc) (.slice E m c) (.slice R1 N d1));have HBF:=hide (below_set6 (hb1.setCell (p:=⟨w.heap.size,5,none⟩) (Nat.le_refl _) (.slice R1 N d1)) (g:=w.heap.size + 1 + 1) (by omega) (.int .i64 N) (.int .i64 L) (.int .i64 R) (.slice H K hc) (.slice E m c) (.slice R1 N d1));have HPF:=hide (show ChDrop N vv es ls es (ls.set vv (false,0)) 0 from ⟨rfl,.inr ⟨hO.trans hz,rfl,rfl⟩⟩);(obtain ⟨q0,q1,q2,q3,q4,q5,eb,sb⟩:=(B21).f6;have Z:=hide (six_z (B21s) (.int .i64 N) (.int .i64 L) (.int .i64 R) (.slice H K hc) (.slice E m c) (.slice R1 N d1));go_wp2_with (fail);refine bodyPost_ret (v:=.tuple #[.agg #[.int .i64 N,.int .i64 L,.int .i64 R,.slice H K hc,.slice E m c,.slice R1 N d1],.int .i64 0]) (by simp [results,Tryz.results21,go_sem,Z.out.1,Z.out.2.1,Z.out.2.2.1,Z.out.2.2.2.1,Z.out.2.2.2.2.1,Z.out.2.2.2.2.2]) rfl ?_);exact ⟨E,m,c,R1,d1,_,_,0,rfl,HSF.out,HPF.out,HBF.out⟩)
  · have hd:decide (0 < O.length)=true:=decide_eq_true (List.length_pos_iff.2 hz)
    have HSF:=hide (HS1.set6 B21 (scells_z N) (.int .i64 N) (.int .i64 L) (.int .i64 R) (.slice H K hc) (.slice E m c) (.slice S N d))
    have HBF:=hide (below_set6 hb1 (g:=w.heap.size + 1 + 1) (by omega) (.int .i64 N) (.int .i64 L) (.int .i64 R) (.slice H K hc) (.slice E m c) (.slice S N d))
    have HPF:=hide (show ChDrop N u es ls es ls 11 from ⟨rfl,.inl ⟨fun h=>hz (hO.symm.trans h),rfl,rfl⟩⟩)
    (obtain ⟨x0,x1,x2,x3,x4,x5,e0,s0⟩:=(B01).f6)
    (obtain ⟨q0,q1,q2,q3,q4,q5,eb,sb⟩:=(B21).f6;have Z:=hide (six_z (B21) (.int .i64 N) (.int .i64 L) (.int .i64 R) (.slice H K hc) (.slice E m c) (.slice S N d));go_wp2_with (fail);refine bodyPost_ret (v:=.tuple #[.agg #[.int .i64 N,.int .i64 L,.int .i64 R,.slice H K hc,.slice E m c,.slice S N d],.int .i64 11]) (by simp [results,Tryz.results21,go_sem,Z.out.1,Z.out.2.1,Z.out.2.2.1,Z.out.2.2.2.1,Z.out.2.2.2.2.1,Z.out.2.2.2.2.2]) rfl ?_)
    exact ⟨E,m,c,S,d,_,_,11,rfl,HSF.out,HPF.out,HBF.out⟩
set_option maxHeartbeats 6400000 in
theorem change_3 (a b:Int) (tx:ByteArray) (u v:Nat) (hu:IsSlot ls a u) (hv:IsSlot ls b v) (w:World) (hS:SM w N L R hs es ls H hc E m c S d) :
    Calls Tryz.prog 21 #[sV N L R H hc E m c S d,.agg #[.int .i64 3,.int .u64 a,.int .u64 b,.string tx],.int .i64 u,.int .i64 v] w (RetSC N L R hs H hc (L * R) (ChIns N u v es ls) w):=by
  have n1:=hS.g.n1
  have n2:=hS.g.n2
  have huN:u < N:=by obtain ⟨h,_⟩:=hu;have:=SSl.length hS.s;omega
  have hvN:v < N:=by obtain ⟨h,_⟩:=hv;have:=SSl.length hS.s;omega
  have QT:=hide (fun W (h:SM W N L R hs es ls H hc E m c S d)=>tinsert_ok u v huN hvN W h.g)
  unfold gV at QT
  (have hne2:w.heap.size + 1 + 1 ≠ w.heap.size:=(by omega);have hne3:¬ (w.heap.size=w.heap.size + 1 + 1):=(by omega);have B0:=((Blk.new w 33 #[.int .i64 N,.int .i64 L,.int .i64 R,.slice H (L * R) hc,.slice E m c,.slice S N d]).alloc (.cells #[.int .i64 3,.int .u64 a,.int .u64 b,.string tx] 45)).alloc (.cells #[.int .i64 0,.int .i64 0,.int .i64 0,.slice none 0 0,.slice none 0 0,.slice none 0 0] 33);have B1:=(Blk.new (w.alloc (.cells #[.int .i64 N,.int .i64 L,.int .i64 R,.slice H (L * R) hc,.slice E m c,.slice S N d] 33)) 45 #[.int .i64 3,.int .u64 a,.int .u64 b,.string tx]).alloc (.cells #[.int .i64 0,.int .i64 0,.int .i64 0,.slice none 0 0,.slice none 0 0,.slice none 0 0] 33);rw [heap_alloc_size] at B1;have B2:=Blk.new ((w.alloc (.cells #[.int .i64 N,.int .i64 L,.int .i64 R,.slice H (L * R) hc,.slice E m c,.slice S N d] 33)).alloc (.cells #[.int .i64 3,.int .u64 a,.int .u64 b,.string tx] 45)) 33 #[.int .i64 0,.int .i64 0,.int .i64 0,.slice none 0 0,.slice none 0 0,.slice none 0 0];rw [heap_alloc_size,heap_alloc_size] at B2;have hb0:=(((Below.refl w.heap.size w).alloc (Nat.le_refl _) (.cells #[.int .i64 N,.int .i64 L,.int .i64 R,.slice H (L * R) hc,.slice E m c,.slice S N d] 33)).alloc (by simp) (.cells #[.int .i64 3,.int .u64 a,.int .u64 b,.string tx] 45)).alloc (by simp;omega) (.cells #[.int .i64 0,.int .i64 0,.int .i64 0,.slice none 0 0,.slice none 0 0,.slice none 0 0] 33);have HS0:=hide (((hS.alloc (.cells #[.int .i64 N,.int .i64 L,.int .i64 R,.slice H (L * R) hc,.slice E m c,.slice S N d] 33)).alloc (.cells #[.int .i64 3,.int .u64 a,.int .u64 b,.string tx] 45)).alloc (.cells #[.int .i64 0,.int .i64 0,.int .i64 0,.slice none 0 0,.slice none 0 0,.slice none 0 0] 33));have hsz:=HS0.out.s;unfold sV;generalize hK:L * R=K at *;clear hS hsz;go_enter Tryz.func21,Tryz.ntmps21;go_wp2_with (fail))
  generalize ((w.alloc (.cells #[.int .i64 N,.int .i64 L,.int .i64 R,.slice H K hc,.slice E m c,.slice S N d] 33)).alloc (.cells #[.int .i64 3,.int .u64 a,.int .u64 b,.string tx] 45)).alloc (.cells #[.int .i64 0,.int .i64 0,.int .i64 0,.slice none 0 0,.slice none 0 0,.slice none 0 0] 33)=W0 at *
  refine (QT.out _ HS0.out).mono ?_
  rintro e w1 ⟨E2,m2,c2,es2,code,rfl,G2,P2,b1⟩
  have hb1:=hb0.trans (b1.mono hb0.size)
  have B01:=B0.below b1 B0.lt
  have B21:=B2.below b1 B2.lt
  have HS1:=HS0.out.below b1
  have HS2:SM w1 N L R hs es2 ls H hc E2 m2 c2 S d:=⟨G2,HS1.s,HS1.ok,used_ins P2 HS1.used (slot_used hu) (slot_used hv)⟩
  clear hb0 B0 B1 B2 HS0 b1 G2 HS1
  ((obtain ⟨x0,x1,x2,x3,x4,x5,e0,s0⟩:=(B01).f6);obtain ⟨z0,z1,z2,z3,z4⟩:=five_z6 B01 (.int .i64 N) (.int .i64 L) (.int .i64 R) (.slice H K hc) (.slice E2 m2 c2);have B21s:=((((B21.far (p:=⟨w.heap.size,0,none⟩) hne2 (.int .i64 N)).far (p:=⟨w.heap.size,1,none⟩) hne2 (.int .i64 L)).far (p:=⟨w.heap.size,2,none⟩) hne2 (.int .i64 R)).far (p:=⟨w.heap.size,3,none⟩) hne2 (.slice H K hc)).far (p:=⟨w.heap.size,4,none⟩) hne2 (.slice E2 m2 c2);have HSF:=hide ((SM.set5 HS2 B01 (scells_n _ _ _ _ _ _ _ _ _ _ _ _) (.int .i64 N) (.int .i64 L) (.int .i64 R) (.slice H K hc) (.slice E2 m2 c2)).set6 B21s (scells_z N) (.int .i64 N) (.int .i64 L) (.int .i64 R) (.slice H K hc) (.slice E2 m2 c2) (.slice S N d));have HBF:=hide (below_set6 (below_set5 hb1 (g:=w.heap.size) (Nat.le_refl _) (.int .i64 N) (.int .i64 L) (.int .i64 R) (.slice H K hc) (.slice E2 m2 c2)) (g:=w.heap.size + 1 + 1) (by omega) (.int .i64 N) (.int .i64 L) (.int .i64 R) (.slice H K hc) (.slice E2 m2 c2) (.slice S N d));have HPF:=hide (show ChIns N u v es ls es2 ls code from ⟨rfl,P2⟩);(obtain ⟨q0,q1,q2,q3,q4,q5,eb,sb⟩:=(B21).f6;have Z:=hide (six_z (B21s) (.int .i64 N) (.int .i64 L) (.int .i64 R) (.slice H K hc) (.slice E2 m2 c2) (.slice S N d));go_wp2_with (fail);refine bodyPost_ret (v:=.tuple #[.agg #[.int .i64 N,.int .i64 L,.int .i64 R,.slice H K hc,.slice E2 m2 c2,.slice S N d],.int .i64 code]) (by simp [results,Tryz.results21,go_sem,Z.out.1,Z.out.2.1,Z.out.2.2.1,Z.out.2.2.2.1,Z.out.2.2.2.2.1,Z.out.2.2.2.2.2]) rfl ?_);exact ⟨E2,m2,c2,S,d,_,_,code,rfl,HSF.out,HPF.out,HBF.out⟩)
set_option maxHeartbeats 6400000 in
theorem change_4 (a b:Int) (tx:ByteArray) (u v:Nat) (hu:IsSlot ls a u) (hv:IsSlot ls b v) (w:World) (hS:SM w N L R hs es ls H hc E m c S d) :
    Calls Tryz.prog 21 #[sV N L R H hc E m c S d,.agg #[.int .i64 4,.int .u64 a,.int .u64 b,.string tx],.int .i64 u,.int .i64 v] w (RetSC N L R hs H hc (L * R) (ChDel N u v es ls) w):=by
  have n1:=hS.g.n1
  have n2:=hS.g.n2
  have huN:u < N:=by obtain ⟨h,_⟩:=hu;have:=SSl.length hS.s;omega
  have hvN:v < N:=by obtain ⟨h,_⟩:=hv;have:=SSl.length hS.s;omega
  by_cases huv:u=v
  · have hd:((u:Int) == (v:Int))=true:=by rw [beq_iff_eq];omega
    have HSF:=hide (((hS.alloc (.cells #[.int .i64 N,.int .i64 L,.int .i64 R,.slice H (L * R) hc,.slice E m c,.slice S N d] 33)).alloc (.cells #[.int .i64 4,.int .u64 a,.int .u64 b,.string tx] 45)).alloc (.cells #[.int .i64 N,.int .i64 L,.int .i64 R,.slice H (L * R) hc,.slice E m c,.slice S N d] 33))
    have HBF:=hide ((((Below.refl w.heap.size w).alloc (Nat.le_refl _) (.cells #[.int .i64 N,.int .i64 L,.int .i64 R,.slice H (L * R) hc,.slice E m c,.slice S N d] 33)).alloc (by simp) (.cells #[.int .i64 4,.int .u64 a,.int .u64 b,.string tx] 45)).alloc (by simp;omega) (.cells #[.int .i64 N,.int .i64 L,.int .i64 R,.slice H (L * R) hc,.slice E m c,.slice S N d] 33))
    have HPF:=hide (show ChDel N u v es ls es ls 9 from ⟨rfl,.inl ⟨huv,rfl,rfl⟩⟩)
    unfold sV
    generalize hK:L * R=K at *
    clear hS
    go_enter Tryz.func21,Tryz.ntmps21
    go_wp2_with (fail)
    refine bodyPost_ret (v:=.tuple #[.agg #[.int .i64 N,.int .i64 L,.int .i64 R,.slice H K hc,.slice E m c,.slice S N d],.int .i64 9]) (by simp [results,Tryz.results21,go_sem]) rfl ⟨E,m,c,S,d,_,_,9,rfl,HSF.out,HPF.out,HBF.out⟩
  · have hd:((u:Int) == (v:Int))=false:=by rw [beq_eq_false_iff_ne];omega
    have QT:=hide (fun W (h:SM W N L R hs es ls H hc E m c S d)=>tdelete_ok u v huN hvN W h.g)
    unfold gV at QT
    (have hne2:w.heap.size + 1 + 1 ≠ w.heap.size:=(by omega);have hne3:¬ (w.heap.size=w.heap.size + 1 + 1):=(by omega);have B0:=((Blk.new w 33 #[.int .i64 N,.int .i64 L,.int .i64 R,.slice H (L * R) hc,.slice E m c,.slice S N d]).alloc (.cells #[.int .i64 4,.int .u64 a,.int .u64 b,.string tx] 45)).alloc (.cells #[.int .i64 0,.int .i64 0,.int .i64 0,.slice none 0 0,.slice none 0 0,.slice none 0 0] 33);have B1:=(Blk.new (w.alloc (.cells #[.int .i64 N,.int .i64 L,.int .i64 R,.slice H (L * R) hc,.slice E m c,.slice S N d] 33)) 45 #[.int .i64 4,.int .u64 a,.int .u64 b,.string tx]).alloc (.cells #[.int .i64 0,.int .i64 0,.int .i64 0,.slice none 0 0,.slice none 0 0,.slice none 0 0] 33);rw [heap_alloc_size] at B1;have B2:=Blk.new ((w.alloc (.cells #[.int .i64 N,.int .i64 L,.int .i64 R,.slice H (L * R) hc,.slice E m c,.slice S N d] 33)).alloc (.cells #[.int .i64 4,.int .u64 a,.int .u64 b,.string tx] 45)) 33 #[.int .i64 0,.int .i64 0,.int .i64 0,.slice none 0 0,.slice none 0 0,.slice none 0 0];rw [heap_alloc_size,heap_alloc_size] at B2;have hb0:=(((Below.refl w.heap.size w).alloc (Nat.le_refl _) (.cells #[.int .i64 N,.int .i64 L,.int .i64 R,.slice H (L * R) hc,.slice E m c,.slice S N d] 33)).alloc (by simp) (.cells #[.int .i64 4,.int .u64 a,.int .u64 b,.string tx] 45)).alloc (by simp;omega) (.cells #[.int .i64 0,.int .i64 0,.int .i64 0,.slice none 0 0,.slice none 0 0,.slice none 0 0] 33);have HS0:=hide (((hS.alloc (.cells #[.int .i64 N,.int .i64 L,.int .i64 R,.slice H (L * R) hc,.slice E m c,.slice S N d] 33)).alloc (.cells #[.int .i64 4,.int .u64 a,.int .u64 b,.string tx] 45)).alloc (.cells #[.int .i64 0,.int .i64 0,.int .i64 0,.slice none 0 0,.slice none 0 0,.slice none 0 0] 33));have hsz:=HS0.out.s;unfold sV;generalize hK:L * R=K at *;clear hS hsz;go_enter Tryz.func21,Tryz.ntmps21;go_wp2_with (fail))
    generalize ((w.alloc (.cells #[.int .i64 N,.int .i64 L,.int .i64 R,.slice H K hc,.slice E m c,.slice S N d] 33)).alloc (.cells #[.int .i64 4,.int .u64 a,.int .u64 b,.string tx] 45)).alloc (.cells #[.int .i64 0,.int .i64 0,.int .i64 0,.slice none 0 0,.slice none 0 0,.slice none 0 0] 33)=W0 at *
    refine (QT.out _ HS0.out).mono ?_
    rintro e w1 ⟨E2,m2,c2,es2,code,rfl,G2,P2,b1⟩
    have hb1:=hb0.trans (b1.mono hb0.size)
    have B01:=B0.below b1 B0.lt
    have B21:=B2.below b1 B2.lt
    have HS1:=HS0.out.below b1
    have HS2:SM w1 N L R hs es2 ls H hc E2 m2 c2 S d:=⟨G2,HS1.s,HS1.ok,used_del P2 HS1.used⟩
    clear hb0 B0 B1 B2 HS0 b1 G2 HS1
    ((obtain ⟨x0,x1,x2,x3,x4,x5,e0,s0⟩:=(B01).f6);obtain ⟨z0,z1,z2,z3,z4⟩:=five_z6 B01 (.int .i64 N) (.int .i64 L) (.int .i64 R) (.slice H K hc) (.slice E2 m2 c2);have B21s:=((((B21.far (p:=⟨w.heap.size,0,none⟩) hne2 (.int .i64 N)).far (p:=⟨w.heap.size,1,none⟩) hne2 (.int .i64 L)).far (p:=⟨w.heap.size,2,none⟩) hne2 (.int .i64 R)).far (p:=⟨w.heap.size,3,none⟩) hne2 (.slice H K hc)).far (p:=⟨w.heap.size,4,none⟩) hne2 (.slice E2 m2 c2);have HSF:=hide ((SM.set5 HS2 B01 (scells_n _ _ _ _ _ _ _ _ _ _ _ _) (.int .i64 N) (.int .i64 L) (.int .i64 R) (.slice H K hc) (.slice E2 m2 c2)).set6 B21s (scells_z N) (.int .i64 N) (.int .i64 L) (.int .i64 R) (.slice H K hc) (.slice E2 m2 c2) (.slice S N d));have HBF:=hide (below_set6 (below_set5 hb1 (g:=w.heap.size) (Nat.le_refl _) (.int .i64 N) (.int .i64 L) (.int .i64 R) (.slice H K hc) (.slice E2 m2 c2)) (g:=w.heap.size + 1 + 1) (by omega) (.int .i64 N) (.int .i64 L) (.int .i64 R) (.slice H K hc) (.slice E2 m2 c2) (.slice S N d));have HPF:=hide (show ChDel N u v es ls es2 ls code from ⟨rfl,.inr ⟨huv,P2⟩⟩);(obtain ⟨q0,q1,q2,q3,q4,q5,eb,sb⟩:=(B21).f6;have Z:=hide (six_z (B21s) (.int .i64 N) (.int .i64 L) (.int .i64 R) (.slice H K hc) (.slice E2 m2 c2) (.slice S N d));go_wp2_with (fail);refine bodyPost_ret (v:=.tuple #[.agg #[.int .i64 N,.int .i64 L,.int .i64 R,.slice H K hc,.slice E2 m2 c2,.slice S N d],.int .i64 code]) (by simp [results,Tryz.results21,go_sem,Z.out.1,Z.out.2.1,Z.out.2.2.1,Z.out.2.2.2.1,Z.out.2.2.2.2.1,Z.out.2.2.2.2.2]) rfl ?_);exact ⟨E2,m2,c2,S,d,_,_,code,rfl,HSF.out,HPF.out,HBF.out⟩)
end
end Go.Proofs.YtppblcbgkadldaaGreatDoor
