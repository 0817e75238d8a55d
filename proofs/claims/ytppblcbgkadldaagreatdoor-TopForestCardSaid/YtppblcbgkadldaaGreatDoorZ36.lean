/-
  A part of the proof that the law TopForest returns true for every input and leaves its arguments as they were: PReach, SortA, SlcU, PairEq, RefA.
-/
import Derived.Test.YtppblcbgkadldaaGreatDoorZ15
import Derived.Test.YtppblcbgkadldaaGreatDoorZ22
import Derived.Test.YtppblcbgkadldaaGreatDoorZ28
import Derived.Test.YtppblcbgkadldaaGreatDoorZ32
import Derived.Test.YtppblcbgkadldaaGreatDoorZ33
import Derived.ChangeKeysEq
set_option linter.all false
namespace Go.Proofs.YtppblcbgkadldaaGreatDoor
open Go Go.RowKit
set_option maxRecDepth 100000
inductive RK (ps:List (Int × Int)) (a:Int):Int → Prop
  | refl:RK ps a a
  | step {b c:Int}:RK ps a b → c ∈ nearK ps b → RK ps a c
theorem mem_nearK {ps:List (Int × Int)} {a c:Int}:c ∈ nearK ps a ↔ ∃ p ∈ ps,(p.1=a ∧ p.2=c) ∨ (p.1 ≠ a ∧ p.2=a ∧ p.1=c):=by
  unfold nearK
  rw [List.mem_map]
  constructor
  · rintro ⟨p,hp,h⟩
    obtain ⟨h1,h2⟩:=List.mem_filter.1 hp
    refine ⟨p,h1,?_⟩
    rw [Bool.or_eq_true,beq_iff_eq,beq_iff_eq] at h2
    by_cases h3:p.1=a
    · rw [if_pos h3] at h;exact .inl ⟨h3,h⟩
    · rw [if_neg h3] at h;exact .inr ⟨h3,h2.resolve_left h3,h⟩
  · rintro ⟨p,hp,⟨h1,h2⟩ | ⟨h1,h2,h3⟩⟩
    · exact ⟨p,List.mem_filter.2 ⟨hp,by simp [h1]⟩,by rw [if_pos h1,h2]⟩
    · exact ⟨p,List.mem_filter.2 ⟨hp,by simp [h2]⟩,by rw [if_neg h1,h3]⟩
theorem nearK_of {ps:List (Int × Int)} {a c:Int} (h:(a,c) ∈ ps ∨ (c,a) ∈ ps):c ∈ nearK ps a:=by
  rw [mem_nearK]
  rcases h with h | h
  · exact ⟨_,h,.inl ⟨rfl,rfl⟩⟩
  · by_cases hc:c=a
    · subst hc;exact ⟨_,h,.inl ⟨rfl,rfl⟩⟩
    · exact ⟨_,h,.inr ⟨hc,rfl,rfl⟩⟩
theorem RK.perm {ps ps':List (Int × Int)} (hp:ps.Perm ps') {a b:Int} (h:RK ps a b):RK ps' a b:=by
  induction h with
  | refl=>exact .refl
  | step _ hc ih =>
    refine .step ih ?_
    rw [mem_nearK] at hc ⊢
    obtain ⟨p,h1,h2⟩:=hc
    exact ⟨p,hp.mem_iff.1 h1,h2⟩
theorem sorted_eq:∀ {l m:List Int},l.Pairwise (· ≤ ·) → m.Pairwise (· ≤ ·) → l.Perm m → l=m
  | [],m,_,_,h=>by rw [List.nil_perm] at h;exact h.symm
  | a :: l,[],_,_,h=>by have:=h.length_eq;simp at this
  | a :: l,b :: m,h1,h2,h=>by
    rw [List.pairwise_cons] at h1 h2
    have e:a=b:=by
      have ha:a ∈ b :: m:=h.mem_iff.1 List.mem_cons_self
      have hb:b ∈ a :: l:=h.mem_iff.2 List.mem_cons_self
      rcases List.mem_cons.1 ha with ha | ha
      · exact ha
      · rcases List.mem_cons.1 hb with hb | hb
        · exact hb.symm
        · have:=h1.1 b hb;have:=h2.1 a ha;omega
    subst e
    rw [sorted_eq h1.2 h2.2 (List.Perm.cons_inv h)]
theorem sorted_mem {l m:List Int} (hl:l.Pairwise (· ≤ ·)) (hm:m.Pairwise (· ≤ ·)) (dl:l.Nodup) (dm:m.Nodup) (h:∀ a,a ∈ l ↔ a ∈ m):l=m:=
  sorted_eq hl hm ((List.perm_ext_iff_of_nodup dl dm).2 h)
section
variable {N:Nat} {ls:List S2} {es:List E3} {a b:Int}
theorem mem_keysN {vs:List Nat}:b ∈ keysN ls vs ↔ ∃ v ∈ vs,usedN ls v=true ∧ keyN ls v=b:=by
  unfold keysN
  rw [List.mem_map]
  constructor
  · rintro ⟨v,hv,h⟩
    obtain ⟨h1,h2⟩:=List.mem_filter.1 hv
    exact ⟨v,h1,h2,h⟩
  · rintro ⟨v,h1,h2,h3⟩
    exact ⟨v,List.mem_filter.2 ⟨h1,h2⟩,h3⟩
theorem usedN_slot {v:Nat} (h:usedN ls v=true):IsSlot ls (keyN ls v) v:=by
  unfold usedN keyN at *
  by_cases hv:v < ls.length
  · rw [List.getD_eq_getElem?_getD,List.getElem?_eq_getElem hv,Option.getD_some] at h ⊢
    exact ⟨hv,Prod.ext h rfl⟩
  · rw [List.getD_eq_getElem?_getD,List.getElem?_eq_none (by omega)] at h
    cases h
theorem keysN_nodup (hok:SOK ls) {vs:List Nat} (hd:vs.Nodup):(keysN ls vs).Nodup:=by
  unfold keysN List.Nodup
  rw [List.pairwise_map]
  refine List.Pairwise.imp_of_mem ?_ (List.Pairwise.filter _ hd)
  intro v w hv hw hne he
  have h1:=usedN_slot (List.mem_filter.1 hv).2
  have h2:=usedN_slot (List.mem_filter.1 hw).2
  rw [he] at h1
  exact hne (slot_one hok h1 h2)
theorem usedB_N {x:Int} (h:usedB ls x):usedN ls x.toNat=true:=(slot_key (used_slot h)).2
theorem rk_conn (hr:rightE N es=true) (hok:SOK ls) (hus:∀ e ∈ es,usedB ls e.1 ∧ usedB ls e.2.1) {u:Nat} (hu:IsSlot ls a u):RK (es.map (pairL ls)) a b ↔ ∃ w,usedN ls w=true ∧ keyN ls w=b ∧ Conn (endsE es) u w:=by
  constructor
  · intro h
    induction h with
    | refl=>exact ⟨u,(slot_key hu).2,(slot_key hu).1,.refl u⟩
    | @step b c _ hc ih =>
      obtain ⟨w,w1,rfl,w2⟩:=ih
      have hw:=usedN_slot w1
      rw [mem_nearK] at hc
      obtain ⟨p,hp,hpc⟩:=hc
      obtain ⟨e,he,rfl⟩:=List.mem_map.1 hp
      have h0:=right_edge hr he
      have hm:e2 e ∈ endsE es:=List.mem_map_of_mem he
      have e1:=end_slot hok h0.1 (hus e he).1 hw
      have e2':=end_slot hok (by omega:(0:Int) ≤ e.2.1) (hus e he).2 hw
      have key:(keyN ls e.1.toNat=keyN ls w ∧ keyN ls e.2.1.toNat=c) ∨ (keyN ls e.2.1.toNat=keyN ls w ∧ keyN ls e.1.toNat=c):=by
        unfold pairL kp at hpc
        split at hpc <;> simp only [] at hpc <;> omega
      rcases key with ⟨k1,k2⟩ | ⟨k1,k2⟩
      · refine ⟨e.2.1.toNat,usedB_N (hus e he).2,k2,.step w2 (.inl ?_)⟩
        have:=e1.1 k1
        unfold e2 at hm
        rw [this] at hm
        simpa using hm
      · refine ⟨e.1.toNat,usedB_N (hus e he).1,k2,.step w2 (.inr ?_)⟩
        have:=e2'.1 k1
        unfold e2 at hm
        rw [this] at hm
        simpa using hm
  · rintro ⟨w,hw0,rfl,h⟩
    clear hw0
    induction h with
    | refl=>rw [(slot_key hu).1];exact .refl
    | @step y z _ hyz ih =>
      refine .step ih (nearK_of ?_)
      have key:∀ {y z:Nat},(y,z) ∈ endsE es → kp (keyN ls y) (keyN ls z) ∈ es.map (pairL ls):=by
        intro y z h
        obtain ⟨e,he,h1⟩:=List.mem_map.1 h
        unfold e2 at h1
        injection h1 with h1 h2
        rw [← h1,← h2]
        exact List.mem_map_of_mem (f:=pairL ls) he
      have key2:∀ {p q:Int} {l:List (Int × Int)},kp p q ∈ l → (p,q) ∈ l ∨ (q,p) ∈ l:=by
        intro p q l h
        unfold kp at h
        split at h
        · exact .inr h
        · exact .inl h
      rcases hyz with h | h
      · exact key2 (key h)
      · exact (key2 (key h)).symm
theorem mem_classN {p:List Nat} {v k x:Nat}:x ∈ classN p v k ↔ x < k ∧ p.getD x 0=p.getD v 0:=by
  unfold classN
  rw [List.mem_filter,List.mem_range,beq_iff_eq]
theorem classN_nodup (p:List Nat) (v k:Nat):(classN p v k).Nodup:=List.Pairwise.filter _ List.nodup_range
theorem members_reach {L:Int} {pairs:List (Int × Int)} {got reach:List Int} (hr:rightE N es=true) (hok:SOK ls) (hl:ls.length=N) (hus:∀ e ∈ es,usedB ls e.1 ∧ usedB ls e.2.1)
    {u:Nat} (hu:IsSlot ls a u) (hp:pairs.Perm ((forestE es L).map (pairL ls)))
    (hg:got.Perm (keysN ls (classN (partN N (forN es L)) u N))) (hgs:got.Pairwise (· ≤ ·))
    (hrn:reach.Nodup) (hrs:reach.Pairwise (· ≤ ·)) (hrm:∀ b,b ∈ reach ↔ RK pairs a b):got=reach:=by
  have huN:u < N:=by obtain ⟨h1,_⟩:=hu;omega
  have hfm:∀ e ∈ forestE es L,e ∈ es:=fun e he=>(List.mem_filter.1 he).1
  have hps:=partN_ps (forN_ok hr L)
  have hrf:∀ b,RK pairs a b ↔ ∃ w,usedN ls w=true ∧ keyN ls w=b ∧ Conn (forN es L) u w:=by
    intro b
    have hr2:rightE N (forestE es L)=true:=by
      rw [rightE_iff] at hr ⊢
      exact ⟨hr.1,fun e he=>hr.2.1 e (hfm e he),List.Pairwise.filter _ hr.2.2⟩
    have h1:=rk_conn (a:=a) (b:=b) hr2 hok (fun e he=>hus e (hfm e he)) hu
    unfold forN
    rw [← h1]
    exact ⟨fun h=>h.perm hp,fun h=>h.perm hp.symm⟩
  refine sorted_mem hgs hrs ?_ hrn ?_
  · exact hg.nodup_iff.2 (keysN_nodup hok (classN_nodup _ _ _))
  · intro b
    rw [hrm,hrf,hg.mem_iff,mem_keysN]
    constructor
    · rintro ⟨w,h1,h2,h3⟩
      rw [mem_classN] at h1
      exact ⟨w,h2,h3,((hps.conn w u h1.1 huN).1 h1.2).symm⟩
    · rintro ⟨w,h1,h2,h3⟩
      have hw:w < N:=by obtain ⟨h4,_⟩:=usedN_slot h1;omega
      exact ⟨w,mem_classN.2 ⟨hw,(hps.conn w u hw huN).2 h3.symm⟩,h1,h2⟩
theorem forest_has {L:Int} {ks:List Int} {ps pairs:List (Int × Int)} (h:MI ls es ks ps) (hp:pairs.Perm ((forestE es L).map (pairL ls))):∀ p ∈ pairs,0 ≤ idxP (pairP (kp p.1 p.2)) ps:=by
  intro p hp1
  obtain ⟨e,he,rfl⟩:=List.mem_map.1 (hp.mem_iff.1 hp1)
  have h1:pairL ls e ∈ ps:=h.p.mem_iff.2 (List.mem_map_of_mem (List.mem_filter.1 he).1)
  refine idxP_pos.2 ⟨_,h1,pairP_iff.2 ?_⟩
  unfold pairL kp
  split <;> simp only [] <;> rw [if_neg (by omega)]
end
end Go.Proofs.YtppblcbgkadldaaGreatDoor
namespace Go.Proofs.YtppblcbgkadldaaGreatDoor
open Go Go.RowKit
set_option maxRecDepth 100000
def ltP (x:Int):Int → Bool:=fun y=>decide (y < x)
def insA (l:List Int) (x:Int):List Int:=l.takeWhile (ltP x) ++ x :: l.dropWhile (ltP x)
def sortA (l:List Int):List Int:=l.foldl insA []
theorem insA_perm (l:List Int) (x:Int):(insA l x).Perm (x :: l):=by
  unfold insA
  refine List.perm_middle.trans ?_
  rw [List.takeWhile_append_dropWhile]
theorem insA_cons (y:Int) (l:List Int) (x:Int):insA (y :: l) x=if y < x then y :: insA l x else x :: y :: l:=by
  unfold insA ltP
  rw [List.takeWhile_cons,List.dropWhile_cons]
  split <;> split <;> simp_all
theorem insA_sorted:∀ {l:List Int} (x:Int),l.Pairwise (· ≤ ·) → (insA l x).Pairwise (· ≤ ·)
  | [],x,_=>by simp [insA]
  | y :: l,x,h=>by
    rw [List.pairwise_cons] at h
    rw [insA_cons]
    split
    · rename_i h1
      rw [List.pairwise_cons]
      refine ⟨fun z hz=>?_,insA_sorted x h.2⟩
      rcases List.mem_cons.1 ((insA_perm l x).mem_iff.1 hz) with rfl | hz
      · omega
      · exact h.1 z hz
    · rename_i h1
      rw [List.pairwise_cons]
      refine ⟨fun z hz=>?_,List.pairwise_cons.2 h⟩
      rcases List.mem_cons.1 hz with rfl | hz
      · omega
      · have:=h.1 z hz;omega
theorem foldA:∀ (l m:List Int),m.Pairwise (· ≤ ·) → (l.foldl insA m).Perm (l ++ m) ∧ (l.foldl insA m).Pairwise (· ≤ ·)
  | [],m,h=>⟨List.Perm.refl _,h⟩
  | x :: l,m,h=>by
    have:=foldA l (insA m x) (insA_sorted x h)
    refine ⟨this.1.trans ?_,this.2⟩
    refine ((insA_perm m x).append_left l).trans ?_
    exact List.perm_middle
theorem sortA_perm (l:List Int):(sortA l).Perm l:=by have:=(foldA l [] List.Pairwise.nil).1;rwa [List.append_nil] at this
theorem sortA_sorted (l:List Int):(sortA l).Pairwise (· ≤ ·):=(foldA l [] List.Pairwise.nil).2
theorem sortA_len (l:List Int):(sortA l).length=l.length:=(sortA_perm l).length_eq
theorem sortA_snoc (l:List Int) (x:Int):sortA (l ++ [x])=insA (sortA l) x:=by unfold sortA;rw [List.foldl_append];rfl
theorem sortA_step (l:List Int) {k:Nat} (h:k < l.length):sortA (l.take (k + 1))=insA (sortA (l.take k)) l[k]:=by
  rw [List.take_succ_eq_append_getElem h,sortA_snoc]
theorem tw_step {α:Type} (p:α → Bool):∀ (l:List α) {k:Nat},(∀ (i:Nat) (h:i < l.length),i < k → p l[i]=true) → k ≤ l.length → (k=l.length ∨ ∃ h:k < l.length,p l[k]=false) → l.takeWhile p=l.take k ∧ l.dropWhile p=l.drop k
  | [],k,_,hk,_=>by simp at hk;subst hk;simp
  | x :: l,0,_,_,h2=>by
    rcases h2 with h2 | ⟨_,h2⟩
    · simp at h2
    · simp only [List.getElem_cons_zero] at h2
      simp [List.takeWhile_cons,List.dropWhile_cons,h2]
  | x :: l,k + 1,h1,hk,h2=>by
    have hx:p x=true:=h1 0 (by simp) (by omega)
    have:=tw_step p l (k:=k) (fun i h hi=>h1 (i + 1) (by simpa using h) (by omega)) (by simpa using hk) (by
      rcases h2 with h2 | ⟨h2,h3⟩
      · left;simpa using h2
      · right;exact ⟨by simpa using h2,by simpa using h3⟩)
    simp [List.takeWhile_cons,List.dropWhile_cons,hx,this.1,this.2]
theorem insA_at {l:List Int} {x:Int} {k:Nat} (h1:∀ (i:Nat) (h:i < l.length),i < k → l[i] < x) (hk:k ≤ l.length) (h2:k=l.length ∨ ∃ h:k < l.length,¬ l[k] < x):insA l x=l.take k ++ x :: l.drop k:=by
  have:=tw_step (ltP x) l (k:=k) (fun i h hi=>decide_eq_true (h1 i h hi)) hk (h2.imp id fun ⟨h,h3⟩=>⟨h,decide_eq_false h3⟩)
  unfold insA
  rw [this.1,this.2]
theorem nearK_step (ps:List (Int × Int)) (a:Int) {k:Nat} (h:k < ps.length):nearK (ps.take (k + 1)) a=nearK (ps.take k) a ++ (if ps[k].1=a then [ps[k].2] else if ps[k].2=a then [ps[k].1] else []):=by
  rw [List.take_succ_eq_append_getElem h]
  unfold nearK
  rw [List.filter_append,List.map_append,List.filter_cons,List.filter_nil]
  congr 1
  by_cases h1:ps[k].1=a
  · rw [if_pos h1,if_pos (by simp [h1])];simp [h1]
  · by_cases h2:ps[k].2=a
    · rw [if_neg h1,if_pos h2,if_pos (by simp [h2])];simp [h1]
    · rw [if_neg h1,if_neg h2,if_neg (by simp [h1,h2])];rfl
theorem nearK_len (ps:List (Int × Int)) (a:Int):(nearK ps a).length ≤ ps.length:=by
  unfold nearK
  rw [List.length_map]
  exact List.length_filter_le _ _
end Go.Proofs.YtppblcbgkadldaaGreatDoor
namespace Go.Proofs.YtppblcbgkadldaaGreatDoor
open Go Go.RowKit
set_option maxRecDepth 100000
theorem usl_size (w:World):(sizeOf (Tryz.prog.elem 24)).run Tryz.prog w=.ok 1 w:=by kernel_rfl
theorem usl_hi (A:Option Addr) (n c:Nat) (i:Int) (h0:0 ≤ i) (h1:i ≤ c) (w:World) :
    (Instr.slice 24 (.slice A n c) none (some (.int .i64 i)) none).run Tryz.prog w=.ok (.slice A i.toNat c) w:=by
  rw [run_slice_h (P:=Tryz.prog) (t:=24) (a:=A) (len:=n) (cap:=c) w Tryz.underlying24 .i64 i h0 h1,usl_size]
  simp [Result.andThen,sliced,map_zero_]
theorem usl_lo (A:Option Addr) (n c:Nat) (i:Int) (h0:0 ≤ i) (h1:i ≤ n) (w:World) :
    (Instr.slice 24 (.slice A n c) (some (.int .i64 i)) none none).run Tryz.prog w=.ok (.slice (cutA A c i.toNat 1) (n - i.toNat) (c - i.toNat)) w:=by
  rw [run_slice_l (P:=Tryz.prog) (t:=24) (a:=A) (len:=n) (cap:=c) w Tryz.underlying24 .i64 i h0 h1,usl_size]
  simp [Result.andThen,sliced,cutA]
theorem psl_size (w:World):(sizeOf (Tryz.prog.elem 40)).run Tryz.prog w=.ok 2 w:=by kernel_rfl
theorem psl_hi (A:Option Addr) (n c:Nat) (i:Int) (h0:0 ≤ i) (h1:i ≤ c) (w:World) :
    (Instr.slice 40 (.slice A n c) none (some (.int .i64 i)) none).run Tryz.prog w=.ok (.slice A i.toNat c) w:=by
  rw [run_slice_h (P:=Tryz.prog) (t:=40) (a:=A) (len:=n) (cap:=c) w Tryz.underlying40 .i64 i h0 h1,psl_size]
  simp [Result.andThen,sliced,map_zero_]
theorem psl_lo (A:Option Addr) (n c:Nat) (i:Int) (h0:0 ≤ i) (h1:i ≤ n) (w:World) :
    (Instr.slice 40 (.slice A n c) (some (.int .i64 i)) none none).run Tryz.prog w=.ok (.slice (cutA A c i.toNat 2) (n - i.toNat) (c - i.toNat)) w:=by
  rw [run_slice_l (P:=Tryz.prog) (t:=40) (a:=A) (len:=n) (cap:=c) w Tryz.underlying40 .i64 i h0 h1,psl_size]
  simp [Result.andThen,sliced,cutA]
theorem csl_size (w:World):(sizeOf (Tryz.prog.elem 25)).run Tryz.prog w=.ok 4 w:=by kernel_rfl
theorem csl_hi (A:Option Addr) (n c:Nat) (i:Int) (h0:0 ≤ i) (h1:i ≤ c) (w:World) :
    (Instr.slice 25 (.slice A n c) none (some (.int .i64 i)) none).run Tryz.prog w=.ok (.slice A i.toNat c) w:=by
  rw [run_slice_h (P:=Tryz.prog) (t:=25) (a:=A) (len:=n) (cap:=c) w Tryz.underlying25 .i64 i h0 h1,csl_size]
  simp [Result.andThen,sliced,map_zero_]
theorem csl_lo (A:Option Addr) (n c:Nat) (i:Int) (h0:0 ≤ i) (h1:i ≤ n) (w:World) :
    (Instr.slice 25 (.slice A n c) (some (.int .i64 i)) none none).run Tryz.prog w=.ok (.slice (cutA A c i.toNat 4) (n - i.toNat) (c - i.toNat)) w:=by
  rw [run_slice_l (P:=Tryz.prog) (t:=25) (a:=A) (len:=n) (cap:=c) w Tryz.underlying25 .i64 i h0 h1,csl_size]
  simp [Result.andThen,sliced,cutA]
theorem uints_take (l:List Int) (k:Nat):(ints .u64 l).take k=ints .u64 (l.take k):=by simp [ints,List.map_take]
theorem uints_drop (l:List Int) (k:Nat):(ints .u64 l).drop k=ints .u64 (l.drop k):=by simp [ints,List.map_drop]
theorem phcells_take (l:List (Int × Int)) (k:Nat):(hcells l).take (k * 2)=hcells (l.take k):=by
  induction l generalizing k with
  | nil=>simp [hcells]
  | cons x l ih =>
    cases k with
    | zero=>simp [hcells]
    | succ k =>
      have e:hcells (x :: l)=.int .u64 x.1 :: .int .u64 x.2 :: hcells l:=rfl
      have e2:hcells (x :: l.take k)=.int .u64 x.1 :: .int .u64 x.2 :: hcells (l.take k):=rfl
      rw [e,List.take_succ_cons,e2,show (k + 1) * 2=k * 2 + 1 + 1 by omega,List.take_succ_cons,List.take_succ_cons,ih]
theorem phcells_drop (l:List (Int × Int)) (k:Nat):(hcells l).drop (k * 2)=hcells (l.drop k):=by
  induction l generalizing k with
  | nil=>simp [hcells]
  | cons x l ih =>
    cases k with
    | zero=>simp [hcells]
    | succ k =>
      have e:hcells (x :: l)=.int .u64 x.1 :: .int .u64 x.2 :: hcells l:=rfl
      rw [e,List.drop_succ_cons,show (k + 1) * 2=k * 2 + 1 + 1 by omega,List.drop_succ_cons,List.drop_succ_cons,ih]
theorem u_head {W:World} {M:List Nat} {A:Option Addr} {m c k:Nat} {l:List Int} (hS:Sl W M 1 A m c (ints .u64 l)) (hk:k ≤ m):Sl W [] 1 A k c (ints .u64 (l.take k)):=by
  have:=Sl.take hS hk
  rw [Nat.mul_one,uints_take] at this
  exact this.less (by simp)
theorem u_tail {W:World} {M:List Nat} {A:Option Addr} {m c k:Nat} {l:List Int} (hS:Sl W M 1 A m c (ints .u64 l)) (hk:k ≤ m):Sl W [] 1 (cutA A c k 1) (m - k) (c - k) (ints .u64 (l.drop k)):=by
  have:=Sl.cut hS hk
  rw [Nat.mul_one,uints_drop] at this
  have:=this.less (M':=[]) (by simp)
  unfold cutA
  rw [Nat.mul_one]
  exact this
theorem pr_head {W:World} {M:List Nat} {A:Option Addr} {m c k:Nat} {l:List (Int × Int)} (hS:Sl W M 2 A m c (hcells l)) (hk:k ≤ m):Sl W [] 2 A k c (hcells (l.take k)):=by
  have:=Sl.take hS hk
  rw [phcells_take] at this
  exact this.less (by simp)
theorem pr_tail {W:World} {M:List Nat} {A:Option Addr} {m c k:Nat} {l:List (Int × Int)} (hS:Sl W M 2 A m c (hcells l)) (hk:k ≤ m):Sl W [] 2 (cutA A c k 2) (m - k) (c - k) (hcells (l.drop k)):=by
  have:=Sl.cut hS hk
  rw [phcells_drop] at this
  have:=this.less (M':=[]) (by simp)
  unfold cutA
  exact this
end Go.Proofs.YtppblcbgkadldaaGreatDoor
namespace Go.Proofs.YtppblcbgkadldaaGreatDoor
open Go Go.RowKit
set_option maxRecDepth 100000
attribute [local go_sem] Heavy heavyUpon
theorem cells43:Tryz.prog.cellsOf 43=1:=by kernel_rfl
theorem info43:∃ i,Tryz.prog.info? 43=some i:=Option.isSome_iff_exists.1 (by kernel_rfl)
theorem pair_eql (x y p q:Int) (w:World):(binOp .eql 51 (.agg #[.int .u64 x,.int .u64 y]) (.agg #[.int .u64 p,.int .u64 q])).run Tryz.prog w=.ok (.bool (x == p && y == q)) w:=by
  obtain ⟨i,hi⟩:=info43
  rw [run_eql_struct,run_equalIn_array w 9999 _ _ Tryz.underlying51 hi,cells43]
  simp only [List.range,List.range.loop,Op.eqItems]
  go_simp
  by_cases h1:x=p <;> by_cases h2:y=q <;> simp [h1,h2]
end Go.Proofs.YtppblcbgkadldaaGreatDoor
namespace Go.Proofs.YtppblcbgkadldaaGreatDoor
open Go Go.RowKit
set_option maxRecDepth 100000
attribute [local go_sem] Heavy heavyUpon
attribute [local go_sem ↓] pair_eql
set_option maxHeartbeats 1600000 in
theorem find_ok (l:List Int) (k:Int) (A:Option Addr) (n c:Nat) (w:World) (hA:Sl w [] 1 A n c (ints .u64 l)) :
    Calls Tryz.prog 22 #[.slice A n c,.int .u64 k] w (Ret (.int .i64 (idxP (keyP k) l)) w):=by
  have HL:=hide (show l.length=n by have:=hA.len;simpa using this)
  have hcap:n ≤ maxLen:=Nat.le_trans hA.le hA.cap
  unfold maxLen at hcap
  go_enter Tryz.func22,Tryz.ntmps22
  go_wp2_with (fail)
  go_loopw [5] (fun i wr=>∃ j:Nat,j ≤ n ∧ i=.int .i64 j ∧ Below w.heap.size w wr ∧ Hid (∀ (i:Nat) (hi:i < l.length),i < j → keyP k l[i]=false)) (fun i _=>n - (intOf i).toNat)
  case atStart=>exact ⟨0,Nat.zero_le _,rfl,Below.refl _ _,hide (fun i hi h=>by omega)⟩
  case round =>
    obtain ⟨j,hj,rfl,hbr,HT⟩:=hrel
    have hAr:=hA.below hbr
    by_cases hlt:j < n
    · have hlj:j < l.length:=by have:=HL.out;omega
      obtain ⟨a1,rfl,ha1,_,hc1⟩:=hAr.at_ (by omega)
      have c1:=hc1 _ _ (ints_get hlj)
      have HY:=hide (show l[j]=k → idxP (keyP k) l=j from fun h=>idxP_found hlj (by rw [h];simp [keyP]) HT.out)
      have HN:=hide (show l[j] ≠ k → ∀ (i:Nat) (hi:i < l.length),i < j + 1 → keyP k l[i]=false from fun h i hi h2=>by
        by_cases hij:i=j
        · subst hij;simpa [keyP] using h
        · exact HT.out i hi (by omega))
      clear hc1
      generalize l[j]=x at *
      by_cases hx:x=k
      · have HF:=hide (HY.out hx)
        subst hx
        have hd:(x == x)=true:=by simp
        clear HY HN HT
        go_wp2_with (fail)
        go_ret
        exact ⟨by rw [HF.out];rfl,hbr⟩
      · have HF:=hide (HN.out hx)
        have hd:(x == k)=false:=by simpa using hx
        clear HY HN HT
        go_wp2_with (fail)
        exact ⟨⟨j + 1,by omega,by go_num,hbr,HF⟩,by simp [intOf];omega⟩
    · obtain rfl:j=n:=by omega
      have HF:=hide (show idxP (keyP k) l = -1 from idxP_none fun x hx=>by
        obtain ⟨i,hi,rfl⟩:=List.getElem_of_mem hx
        exact HT.out i hi (by have:=HL.out;omega))
      go_wp2_with (fail)
      go_ret
      exact ⟨by rw [HF.out];rfl,hbr⟩
set_option maxHeartbeats 1600000 in
theorem pair_ok (a b:Int) (w:World):Calls Tryz.prog 24 #[.int .u64 a,.int .u64 b] w (Ret (.agg #[.int .u64 (kp a b).1,.int .u64 (kp a b).2]) w):=by
  unfold kp
  by_cases h:b < a
  · rw [if_pos h]
    have hb:=(Below.refl w.heap.size w).alloc (Nat.le_refl _) (.cells #[.int .u64 b,.int .u64 a] 51)
    go_enter Tryz.func24,Tryz.ntmps24
    go_wp2_with (fail)
    refine bodyPost_ret (v:=.agg #[.int .u64 b,.int .u64 a]) (by simp [results,Tryz.results24,go_sem]) rfl ?_
    exact ⟨rfl,hb⟩
  · rw [if_neg h]
    have hb:=(Below.refl w.heap.size w).alloc (Nat.le_refl _) (.cells #[.int .u64 a,.int .u64 b] 51)
    go_enter Tryz.func24,Tryz.ntmps24
    go_wp2_with (fail)
    refine bodyPost_ret (v:=.agg #[.int .u64 a,.int .u64 b]) (by simp [results,Tryz.results24,go_sem]) rfl ?_
    exact ⟨rfl,hb⟩
set_option maxHeartbeats 1600000 in
theorem at_ok (l:List (Int × Int)) (p q:Int) (A:Option Addr) (n c:Nat) (w:World) (hA:HSl w A n c l) :
    Calls Tryz.prog 25 #[.slice A n c,.agg #[.int .u64 p,.int .u64 q]] w (Ret (.int .i64 (idxP (pairP (p,q)) l)) w):=by
  have HL:=hide hA.length
  have hcap:n ≤ maxLen:=Nat.le_trans hA.le hA.cap
  unfold maxLen at hcap
  have B0:=Blk.new w 51 #[.int .u64 p,.int .u64 q]
  have hb0:=(Below.refl w.heap.size w).alloc (Nat.le_refl _) (.cells #[.int .u64 p,.int .u64 q] 51)
  have HA:=hide (show HSl _ A n c l from Sl.alloc hA (.cells #[.int .u64 p,.int .u64 q] 51))
  clear hA
  go_enter Tryz.func25,Tryz.ntmps25
  go_wp2_with (fail)
  generalize w.alloc (.cells #[.int .u64 p,.int .u64 q] 51)=W0 at *
  have HB0:=hide B0
  clear B0
  go_loopw [5] (fun i wr=>∃ j:Nat,j ≤ n ∧ i=.int .i64 j ∧ Below w.heap.size w wr ∧ Hid (Below W0.heap.size W0 wr) ∧ Hid (∀ (i:Nat) (hi:i < l.length),i < j → pairP (p,q) l[i]=false)) (fun i _=>n - (intOf i).toNat)
  case atStart=>exact ⟨0,Nat.zero_le _,rfl,hb0,hide (Below.refl _ _),hide (fun i hi h=>by omega)⟩
  case round =>
    clear hb0
    obtain ⟨j,hj,rfl,hbr,HBB,HT⟩:=hrel
    have hAr:=HA.out.below HBB.out
    by_cases hlt:j < n
    · have hlj:j < l.length:=by have:=HL.out;omega
      obtain ⟨a1,rfl,ha1,c0,c1⟩:=HSl.get hAr hlj
      have k1:(a1.add (j * 2)).block < wr.heap.size:=by rw [block_of_add];exact ha1
      have HY:=hide (show l[j]=(p,q) → idxP (pairP (p,q)) l=j from fun h=>idxP_found hlj (pairP_iff.2 h) HT.out)
      have HN:=hide (show l[j] ≠ (p,q) → ∀ (i:Nat) (hi:i < l.length),i < j + 1 → pairP (p,q) l[i]=false from fun h i hi h2=>by
        by_cases hij:i=j
        · subst hij
          cases h3:pairP (p,q) l[i]
          · rfl
          · exact absurd (pairP_iff.1 h3) h
        · exact HT.out i hi (by omega))
      have BR:=HB0.out.below HBB.out HB0.out.lt
      obtain ⟨r0,e0,s0⟩:=BR.facts
      have x0:wr.cell? ⟨w.heap.size,0,none⟩=some (.int .u64 p):=r0 0
      have x1:wr.cell? ⟨w.heap.size,1,none⟩=some (.int .u64 q):=r0 1
      clear r0 BR
      generalize l[j]=x at *
      obtain ⟨x,y⟩:=x
      simp only [] at c0 c1
      by_cases hx:(x,y)=(p,q)
      · have HF:=hide (HY.out hx)
        injection hx with h1 h2
        subst h1
        subst h2
        have hd:(x == x && y == y)=true:=by simp
        clear HY HN HT
        go_wp2_with (fail)
        refine wp_region_lexD [] (fun w'=>Below (wr).heap.size (wr) w') (by kernel_rfl) (by kernel_rfl) (Below.refl _ _).drew ?_
        (repeat ((with_reducible refine wpLex_step (fun K hK=>?_));go_simp;first | ((with_reducible refine hK _ _ ?_);clear hK K) | ((with_reducible apply Exists.intro);refine ⟨fun w' hw'=>?_,hK _ _ ?_⟩;(· (have hq:=bcells hw';apply valEq;(· (go_simp;first | done | (with_reducible rfl)));(· ((try go_bits);with_reducible rfl))));clear hK K)))
        refine wpLex_nil (fun g3=>?_)
        go_wp2_with (fail)
        go_ret
        exact ⟨by rw [HF.out];rfl,hbr.drew⟩
      · have HF:=hide (HN.out hx)
        have hd:(x == p && y == q)=false:=by
          cases h:(x == p && y == q)
          · rfl
          · simp only [Bool.and_eq_true,beq_iff_eq] at h
            exact absurd (by rw [h.1,h.2]) hx
        clear HY HN HT hx
        go_wp2_with (fail)
        refine wp_region_lexD [] (fun w'=>Below (wr).heap.size (wr) w') (by kernel_rfl) (by kernel_rfl) (Below.refl _ _).drew ?_
        (repeat ((with_reducible refine wpLex_step (fun K hK=>?_));go_simp;first | ((with_reducible refine hK _ _ ?_);clear hK K) | ((with_reducible apply Exists.intro);refine ⟨fun w' hw'=>?_,hK _ _ ?_⟩;(· (have hq:=bcells hw';apply valEq;(· (go_simp;first | done | (with_reducible rfl)));(· ((try go_bits);with_reducible rfl))));clear hK K)))
        refine wpLex_nil (fun g3=>?_)
        go_wp2_with (fail)
        exact ⟨⟨j + 1,by omega,by go_num,hbr.drew,hide HBB.out.drew,HF⟩,by simp [intOf];omega⟩
    · obtain rfl:j=n:=by omega
      have HF:=hide (show idxP (pairP (p,q)) l = -1 from idxP_none fun x hx=>by
        obtain ⟨i,hi,rfl⟩:=List.getElem_of_mem hx
        exact HT.out i hi (by have:=HL.out;omega))
      go_wp2_with (fail)
      go_ret
      exact ⟨by rw [HF.out];rfl,hbr⟩
set_option maxHeartbeats 1600000 in
theorem same_ok (l m:List Int) (A B:Option Addr) (n c k d:Nat) (w:World) (hA:Sl w [] 1 A n c (ints .u64 l)) (hB:Sl w [] 1 B k d (ints .u64 m)) :
    Calls Tryz.prog 10 #[.slice A n c,.slice B k d] w (Ret (.bool (decide (l=m))) w):=by
  have HL:=hide (show l.length=n by have:=hA.len;simpa using this)
  have HM:=hide (show m.length=k by have:=hB.len;simpa using this)
  have hcap:n ≤ maxLen:=Nat.le_trans hA.le hA.cap
  unfold maxLen at hcap
  by_cases hnk:n=k
  · subst hnk
    have hd:((n:Int) != (n:Int))=false:=by simp
    go_enter Tryz.func10,Tryz.ntmps10
    go_wp2_with (fail)
    go_loopw [13] (fun i wr=>∃ j:Nat,j ≤ n ∧ i=.int .i64 j ∧ Below w.heap.size w wr ∧ Hid (l.take j=m.take j)) (fun i _=>n - (intOf i).toNat)
    case atStart=>exact ⟨0,Nat.zero_le _,rfl,Below.refl _ _,hide rfl⟩
    case round =>
      obtain ⟨j,hj,rfl,hbr,HT⟩:=hrel
      have hAr:=hA.below hbr
      have hBr:=hB.below hbr
      by_cases hlt:j < n
      · have hlj:j < l.length:=by have:=HL.out;omega
        have hmj:j < m.length:=by have:=HM.out;omega
        obtain ⟨a1,rfl,ha1,_,hc1⟩:=hAr.at_ (by omega)
        obtain ⟨a2,rfl,ha2,_,hc2⟩:=hBr.at_ (by omega)
        have c1:=hc1 _ _ (ints_get hlj)
        have c2:=hc2 _ _ (ints_get hmj)
        have HS:=hide (take_eq_step hlj hmj HT.out)
        have HN:=hide (show l[j] ≠ m[j] → decide (l=m)=false from fun h=>decide_eq_false (fun e=>h (by subst e;rfl)))
        have k1:(a1.add j).block < wr.heap.size:=by rw [block_of_add];exact ha1
        have k2:(a2.add j).block < wr.heap.size:=by rw [block_of_add];exact ha2
        clear hc1 hc2
        generalize l[j]=x at *
        generalize m[j]=y at *
        by_cases hxy:x=y
        · subst hxy
          have hd:(x != x)=false:=by simp
          have HT2:=hide (HS.out rfl)
          clear HS HN
          go_wp2_with (fail)
          refine wp_region_lexD [] (fun w'=>Below (wr).heap.size (wr) w') (by kernel_rfl) (by kernel_rfl) (Below.refl _ _).drew ?_
          (repeat ((with_reducible refine wpLex_step (fun K hK=>?_));go_simp;first | ((with_reducible refine hK _ _ ?_);clear hK K) | ((with_reducible apply Exists.intro);refine ⟨fun w' hw'=>?_,hK _ _ ?_⟩;(· (have hq:=bcells hw';apply valEq;(· (go_simp;first | done | (with_reducible rfl)));(· ((try go_bits);with_reducible rfl))));clear hK K)))
          refine wpLex_nil (fun g3=>?_)
          go_wp2_with (fail)
          exact ⟨⟨j + 1,by omega,by go_num,hbr.drew,HT2⟩,by simp [intOf];omega⟩
        · have HF:=hide (HN.out hxy)
          have hd:(x != y)=true:=by simp [hxy]
          clear HS HN
          go_wp2_with (fail)
          refine wp_region_lexD [] (fun w'=>Below (wr).heap.size (wr) w') (by kernel_rfl) (by kernel_rfl) (Below.refl _ _).drew ?_
          (repeat ((with_reducible refine wpLex_step (fun K hK=>?_));go_simp;first | ((with_reducible refine hK _ _ ?_);clear hK K) | ((with_reducible apply Exists.intro);refine ⟨fun w' hw'=>?_,hK _ _ ?_⟩;(· (have hq:=bcells hw';apply valEq;(· (go_simp;first | done | (with_reducible rfl)));(· ((try go_bits);with_reducible rfl))));clear hK K)))
          refine wpLex_nil (fun g3=>?_)
          go_wp2_with (fail)
          go_ret
          exact ⟨by rw [HF.out];rfl,hbr.drew⟩
      · obtain rfl:j=n:=by omega
        have HF:=hide (show decide (l=m)=true from decide_eq_true (by have:=HT.out;rwa [List.take_of_length_le (by rw [HL.out];exact Nat.le_refl _),List.take_of_length_le (by rw [HM.out];exact Nat.le_refl _)] at this))
        go_wp2_with (fail)
        go_ret
        exact ⟨by rw [HF.out];rfl,hbr⟩
  · have HF:=hide (show decide (l=m)=false from decide_eq_false (fun e=>hnk (by subst e;exact HL.out.symm.trans HM.out)))
    have hne:((n:Int) != (k:Int))=true:=by simp;omega
    go_enter Tryz.func10,Tryz.ntmps10
    go_wp2_with (fail)
    go_ret
    exact ⟨by rw [HF.out];rfl,Below.refl _ _⟩
structure MM (w:World) (ks:List Int) (ps:List (Int × Int)) (A:Option Addr) (a c:Nat) (B:Option Addr) (b d:Nat):Prop where
  k:Sl w [] 1 A a c (ints .u64 ks)
  p:HSl w B b d ps
def mV (N:Nat) (A:Option Addr) (a c:Nat) (B:Option Addr) (b d:Nat):Value:=.agg #[.int .i64 N,.slice A a c,.slice B b d]
section
variable {w w':World} {ks:List Int} {ps:List (Int × Int)} {A:Option Addr} {a c:Nat} {B:Option Addr} {b d:Nat}
theorem MM.below (h:MM w ks ps A a c B b d) (hb:Below w.heap.size w w'):MM w' ks ps A a c B b d:=⟨h.k.below hb,h.p.below hb⟩
theorem MM.alloc (h:MM w ks ps A a c B b d) (o:Obj):MM (w.alloc o) ks ps A a c B b d:=⟨Sl.alloc h.k o,Sl.alloc h.p o⟩
theorem MM.drew (h:MM w ks ps A a c B b d):MM w.drew ks ps A a c B b d:=⟨Sl.drew h.k,Sl.drew h.p⟩
set_option maxHeartbeats 1600000 in
theorem has_ok (N:Nat) (x y:Int) (w:World) (hM:MM w ks ps A a c B b d) :
    Calls Tryz.prog 9 #[mV N A a c B b d,.int .u64 x,.int .u64 y] w (Ret (.bool (decide (0 ≤ idxP (pairP (kp x y)) ps))) w):=by
  have QA:=hide (fun W (h:HSl W B b d ps)=>at_ok ps (kp x y).1 (kp x y).2 B b d W h)
  have QP:=hide (fun W=>pair_ok x y W)
  have B0:=Blk.new w 42 #[.int .i64 N,.slice A a c,.slice B b d]
  have hb0:=(Below.refl w.heap.size w).alloc (Nat.le_refl _) (.cells #[.int .i64 N,.slice A a c,.slice B b d] 42)
  have HM:=hide (hM.alloc (.cells #[.int .i64 N,.slice A a c,.slice B b d] 42))
  have HKP:=hide (show ((kp x y).1,(kp x y).2)=kp x y from rfl)
  rw [HKP.out] at QA
  unfold mV
  generalize idxP (pairP (kp x y)) ps=r at *
  generalize kp x y=z at *
  clear hM
  go_enter Tryz.func9,Tryz.ntmps9
  go_wp2_with (fail)
  generalize w.alloc (.cells #[.int .i64 N,.slice A a c,.slice B b d] 42)=W0 at *
  obtain ⟨r0,e0,s0⟩:=B0.facts
  have x2:W0.cell? ⟨w.heap.size,2,none⟩=some (.slice B b d):=r0 2
  clear r0
  refine wp_region_lexD [4,5] (fun w'=>Below (W0).heap.size (W0) w') (by kernel_rfl) (by kernel_rfl) (Below.refl _ _).drew ?_
  (repeat ((with_reducible refine wpLex_step (fun K hK=>?_));go_simp;first | ((with_reducible refine hK _ _ ?_);clear hK K) | ((with_reducible apply Exists.intro);refine ⟨fun w' hw'=>?_,hK _ _ ?_⟩;(· (have hq:=bcells hw';apply valEq;(· (go_simp;first | done | (with_reducible rfl)));(· ((try go_bits);with_reducible rfl))));clear hK K)))
  ((with_reducible refine wpLex_step (fun K hK=>?_));go_simp;refine (QP.out _).mono ?_;rintro e w3 ⟨rfl,hbx⟩;have g3:=((Below.refl (W0).heap.size W0).drew).trans (hbx.mono ((Below.refl (W0).heap.size W0).drew).size);refine ⟨_,rfl,g3,hK _ _ ?_⟩;clear hK K hbx)
  (repeat ((with_reducible refine wpLex_step (fun K hK=>?_));go_simp;first | ((with_reducible refine hK _ _ ?_);clear hK K) | ((with_reducible apply Exists.intro);refine ⟨fun w' hw'=>?_,hK _ _ ?_⟩;(· (have hq:=bcells hw';apply valEq;(· (go_simp;first | done | (with_reducible rfl)));(· ((try go_bits);with_reducible rfl))));clear hK K)))
  ((with_reducible refine wpLex_step (fun K hK=>?_));go_simp;refine (QA.out _ (HM.out.below g3).p).mono ?_;rintro e w4 ⟨rfl,hbx⟩;have g4:=(g3).trans (hbx.mono (g3).size);refine ⟨_,rfl,g4,hK _ _ ?_⟩;clear hK K hbx)
  (repeat ((with_reducible refine wpLex_step (fun K hK=>?_));go_simp;first | ((with_reducible refine hK _ _ ?_);clear hK K) | ((with_reducible apply Exists.intro);refine ⟨fun w' hw'=>?_,hK _ _ ?_⟩;(· (have hq:=bcells hw';apply valEq;(· (go_simp;first | done | (with_reducible rfl)));(· ((try go_bits);with_reducible rfl))));clear hK K)))
  refine wpLex_nil (fun _=>?_)
  have hb9:=hb0.trans (g4.mono hb0.size)
  go_wp2_with (fail)
  go_ret
  exact ⟨rfl,hb9⟩
end
end Go.Proofs.YtppblcbgkadldaaGreatDoor
