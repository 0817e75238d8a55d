/-
  A part of the proof that the law TopForest returns true for every input and leaves its arguments as they were: TabPlain, PF, PartOf, Bfs.
-/
import Derived.Test.YtppblcbgkadldaaGreatDoorZ08
set_option linter.all false
namespace Go.Proofs.YtppblcbgkadldaaGreatDoor
open Go Go.RowKit
set_option maxRecDepth 100000
theorem hitE_iff {u v:Int} {e:E3}:hitE u v e=true ↔ (e.1=u ∧ e.2.1=v) ∨ (e.1=v ∧ e.2.1=u):=by
  unfold hitE
  simp only [Bool.or_eq_true,Bool.and_eq_true,beq_iff_eq]
theorem found_iff {l:List E3} {u v:Int}:0 ≤ findI l u v 0 ↔ ∃ e ∈ l,hitE u v e=true:=findI_mem l u v 0 (Int.le_refl _)
theorem right_edge {n:Int} {l:List E3} (h:rightE n l=true) {e:E3} (he:e ∈ l):0 ≤ e.1 ∧ e.1 < e.2.1 ∧ e.2.1 < n ∧ 0 ≤ e.2.2 ∧ e.2.2 ≤ 16:=okE_iff.1 ((rightE_iff.1 h).2.1 e he)
theorem insE_right {n:Int} {l:List E3} {u v:Int} (h:rightE n l=true) (hu:inN n u=true) (hv:inN n v=true) (huv:u ≠ v) (hf:¬ 0 ≤ findI l u v 0):rightE n (insE l (edgeE u v 0))=true:=by
  obtain ⟨hn,h1,h2⟩:=rightE_iff.1 h
  have u1:=inN_iff.1 hu
  have v1:=inN_iff.1 hv
  refine rightE_iff.2 ⟨hn,fun e he=>?_,insE_sorted h2 fun e he h3=>hf ?_⟩
  · rcases insE_mem.1 he with rfl | he
    · rw [okE_iff];unfold edgeE;split <;> simp only [] <;> omega
    · exact h1 e he
  · rw [found_iff]
    refine ⟨e,he,?_⟩
    rw [hitE_iff]
    unfold edgeE at h3
    split at h3 <;> simp only [] at h3 <;> omega
theorem sorted_ends {l:List E3} (h:l.Pairwise fun a b=>ltE a b=true) {i j:Nat} (hi:i < l.length) (hj:j < l.length) (h1:l[i].1=l[j].1) (h2:l[i].2.1=l[j].2.1):i=j:=by
  have hp:=List.pairwise_iff_getElem.1 h
  rcases Nat.lt_trichotomy i j with h3 | h3 | h3
  · have:=ltE_iff.1 (hp i j hi hj h3);omega
  · exact h3
  · have:=ltE_iff.1 (hp j i hj hi h3);omega
theorem pairwise_ends {l:List E3} {l':List E3} (hl:l'.length=l.length) (he:∀ (i:Nat) (h:i < l.length) (h':i < l'.length),l'[i].1=l[i].1 ∧ l'[i].2.1=l[i].2.1) (h:l.Pairwise fun a b=>ltE a b=true):l'.Pairwise fun a b=>ltE a b=true:=by
  rw [List.pairwise_iff_getElem] at h ⊢
  intro i j hi hj hij
  have:=h i j (by omega) (by omega) hij
  have h1:=he i (by omega) hi
  have h2:=he j (by omega) hj
  rw [ltE_iff] at this ⊢
  omega
theorem set_ends (l:List E3) (i:Nat) (h:i < l.length) (t:Int):∀ (j:Nat) (h1:j < l.length) (h2:j < (l.set i (l[i].1,l[i].2.1,t)).length),(l.set i (l[i].1,l[i].2.1,t))[j].1=l[j].1 ∧ (l.set i (l[i].1,l[i].2.1,t))[j].2.1=l[j].2.1:=by
  intro j h1 h2
  rw [List.getElem_set]
  split
  · rename_i e;subst e;exact ⟨rfl,rfl⟩
  · exact ⟨rfl,rfl⟩
theorem set_right {n:Int} {l:List E3} (h:rightE n l=true) (i:Nat) (hi:i < l.length) {t:Int} (ht:0 ≤ t ∧ t ≤ 16):rightE n (l.set i (l[i].1,l[i].2.1,t))=true:=by
  obtain ⟨hn,h1,h2⟩:=rightE_iff.1 h
  refine rightE_iff.2 ⟨hn,fun e he=>?_,pairwise_ends (by simp) (set_ends l i hi t) h2⟩
  rcases List.mem_or_eq_of_mem_set he with he | rfl
  · exact h1 e he
  · have:=okE_iff.1 (h1 _ (List.getElem_mem hi))
    rw [okE_iff];simp only [];omega
theorem hit_one {n:Int} {l:List E3} (h:rightE n l=true) {u v:Int} {i j:Nat} (hi:i < l.length) (hj:j < l.length) (h1:hitE u v l[i]=true) (h2:hitE u v l[j]=true):i=j:=by
  have a:=right_edge h (List.getElem_mem hi)
  have b:=right_edge h (List.getElem_mem hj)
  rw [hitE_iff] at h1 h2
  exact sorted_ends (rightE_iff.1 h).2.2 hi hj (by omega) (by omega)
end Go.Proofs.YtppblcbgkadldaaGreatDoor
namespace Go.Proofs.YtppblcbgkadldaaGreatDoor
open Go Go.RowKit
set_option maxRecDepth 100000
def e2 (e:E3):Nat × Nat:=(e.1.toNat,e.2.1.toNat)
def endsE (l:List E3):Ends:=l.map e2
def forN (l:List E3) (L:Int):Ends:=endsE (forestE l L)
structure GE (N L:Nat) (l:List E3):Prop where
  right:rightE N l=true
  tier:∀ e ∈ l,e.2.2 ≤ L
  acyc:acyc N (forN l L)
def SameE (l l':List E3):Prop:=l'.map (fun e=>(e.1,e.2.1))=l.map (fun e=>(e.1,e.2.1))
section
variable {N L:Nat} {l:List E3}
theorem forN_ok (h:rightE N l=true) (L:Int):OkEnds N (forN l L):=by
  intro d hd
  simp only [forN,endsE,List.mem_map,forestE,List.mem_filter] at hd
  obtain ⟨e,⟨he,_⟩,rfl⟩:=hd
  have:=right_edge h he
  simp only [e2]
  omega
theorem set_at (h:rightE N l=true) {e:E3} (he:e ∈ l):∃ i,∃ hi:i < l.length,l[i]=e ∧ 0 ≤ findI l e.1 e.2.1 0 ∧ ∀ t,setE l e.1 e.2.1 t=l.set i (l[i].1,l[i].2.1,t):=by
  have hf:0 ≤ findI l e.1 e.2.1 0:=found_iff.2 ⟨e,he,hitE_iff.2 (.inl ⟨rfl,rfl⟩)⟩
  obtain ⟨i,_,hi,h1,_,h3⟩:=find_spec l e.1 e.2.1 0 (Int.le_refl _) hf
  obtain ⟨j,hj,e1⟩:=List.getElem_of_mem he
  have hij:i=j:=hit_one h hi hj h1 (by rw [e1];exact hitE_iff.2 (.inl ⟨rfl,rfl⟩))
  subst hij
  exact ⟨i,hi,e1,hf,h3⟩
theorem put_at (h:rightE N l=true) {e:E3} (he:e ∈ l) {t:Int} (ht:0 ≤ t ∧ t ≤ 16):putE N l e.1 e.2.1 t=(setE l e.1 e.2.1 t,0):=by
  have hr:=right_edge h he
  obtain ⟨_,_,_,hf,_⟩:=set_at h he
  unfold putE
  rw [h,inN_iff.2 ⟨hr.1,by omega⟩,inN_iff.2 ⟨by omega,hr.2.2.1⟩,decide_eq_true ht.1,decide_eq_true ht.2,if_pos (by rfl),if_pos hf]
theorem forestE_append (a b:List E3) (L:Int):forestE (a ++ b) L=forestE a L ++ forestE b L:=by simp [forestE]
theorem forN_cut (L:Int) {i:Nat} (hi:i < l.length) (x:E3):(forN (l.set i x) L).Perm ((if tierT L x=true then [e2 x] else []) ++ (forN (l.take i) L ++ forN (l.drop (i + 1)) L)):=by
  rw [List.set_eq_take_append_cons_drop,if_pos hi]
  have e:forN (l.take i ++ x :: l.drop (i + 1)) L=forN (l.take i) L ++ ((if tierT L x=true then [e2 x] else []) ++ forN (l.drop (i + 1)) L):=by
    unfold forN endsE
    rw [forestE_append,List.map_append]
    congr 1
    unfold forestE
    rw [List.filter_cons]
    split <;> simp
  rw [e,← List.append_assoc,← List.append_assoc]
  exact List.Perm.append_right _ List.perm_append_comm
theorem forN_self (L:Int) {i:Nat} (hi:i < l.length):(forN l L).Perm ((if tierT L l[i]=true then [e2 l[i]] else []) ++ (forN (l.take i) L ++ forN (l.drop (i + 1)) L)):=by
  have:=forN_cut L hi l[i]
  rwa [List.set_getElem_self] at this
theorem tierT_iff {L t u v:Int}:tierT L (u,v,t)=true ↔ 1 ≤ t ∧ t ≤ L:=by simp [tierT]
theorem set_same (h:rightE N l=true) {e:E3} (he:e ∈ l) (t:Int):SameE l (setE l e.1 e.2.1 t):=by
  obtain ⟨i,hi,_,_,hs⟩:=set_at h he
  rw [hs]
  unfold SameE
  apply List.ext_getElem
  · simp
  · intro j h1 h2
    have hj:j < l.length:=by simpa using h2
    have:=set_ends l i hi t j hj (by simpa using hj)
    simp only [List.getElem_map]
    rw [this.1,this.2]
theorem set_tier (h:rightE N l=true) (hL:∀ e ∈ l,e.2.2 ≤ L) {e:E3} (he:e ∈ l) {t:Int} (ht:0 ≤ t ∧ t ≤ L) (h16:L ≤ 16):rightE N (setE l e.1 e.2.1 t)=true ∧ ∀ d ∈ setE l e.1 e.2.1 t,d.2.2 ≤ L:=by
  obtain ⟨i,hi,_,_,hs⟩:=set_at h he
  rw [hs]
  refine ⟨set_right h i hi ⟨ht.1,by omega⟩,fun d hd=>?_⟩
  rcases List.mem_or_eq_of_mem_set hd with hd | rfl
  · exact hL d hd
  · exact ht.2
theorem raise_same (h:GE N L l) (h16:L ≤ 16) {e:E3} (he:e ∈ l) (h1:1 ≤ e.2.2) {t:Int} (ht:1 ≤ t ∧ t ≤ L):GE N L (setE l e.1 e.2.1 t):=by
  obtain ⟨a,b⟩:=set_tier h.right h.tier he (t:=t) ⟨by omega,ht.2⟩ h16
  refine ⟨a,b,?_⟩
  have hl:=h.tier e he
  obtain ⟨i,hi,e1,_,hs⟩:=set_at h.right he
  rw [hs]
  have p1:=forN_cut (L:Int) hi (l[i].1,l[i].2.1,t)
  have p2:=forN_self (L:Int) hi
  rw [if_pos (tierT_iff.2 ht)] at p1
  rw [if_pos (by rw [e1];exact tierT_iff.2 ⟨h1,hl⟩)] at p2
  exact acyc_perm (p2.trans p1.symm) (forN_ok h.right _) h.acyc
theorem raise_new (h:GE N L l) (h16:L ≤ 16) {e:E3} (he:e ∈ l) (h0:e.2.2=0) {t:Int} (ht:1 ≤ t ∧ t ≤ L) (hc:¬ Conn (forN l L) (e2 e).1 (e2 e).2):GE N L (setE l e.1 e.2.1 t):=by
  obtain ⟨a,b⟩:=set_tier h.right h.tier he (t:=t) ⟨by omega,ht.2⟩ h16
  refine ⟨a,b,?_⟩
  obtain ⟨i,hi,e1,_,hs⟩:=set_at h.right he
  have hok:=forN_ok a (L:Int)
  rw [hs] at hok ⊢
  have p1:=forN_cut (L:Int) hi (l[i].1,l[i].2.1,t)
  have p2:=forN_self (L:Int) hi
  rw [if_pos (tierT_iff.2 ht)] at p1
  rw [if_neg (by rw [e1];rw [show e=(e.1,e.2.1,e.2.2) from rfl,tierT_iff];omega),List.nil_append] at p2
  have p3:=(p1.trans List.perm_append_comm).trans (List.Perm.append_right _ p2.symm)
  have e3:e2 (l[i].1,l[i].2.1,t)=e2 e:=by rw [e1];rfl
  rw [e3] at p3
  refine acyc_perm p3.symm (hok.perm p3) ((acyc_snoc (hok.perm p3)).2 ⟨h.acyc,hc⟩)
theorem lower_one (h:GE N L l) (h16:L ≤ 16) {e:E3} (he:e ∈ l) (h1:1 ≤ e.2.2):GE N L (setE l e.1 e.2.1 0) ∧ (forN l L).Perm (e2 e :: forN (setE l e.1 e.2.1 0) L):=by
  obtain ⟨a,b⟩:=set_tier h.right h.tier he (t:=0) ⟨Int.le_refl _,by omega⟩ h16
  have hl:=h.tier e he
  obtain ⟨i,hi,e1,_,hs⟩:=set_at h.right he
  have p1:=forN_cut (L:Int) hi (l[i].1,l[i].2.1,0)
  have p2:=forN_self (L:Int) hi
  rw [if_neg (by rw [tierT_iff];omega),List.nil_append] at p1
  rw [if_pos (by rw [e1];exact tierT_iff.2 ⟨h1,hl⟩),e1] at p2
  have p3:(forN l L).Perm (e2 e :: forN (setE l e.1 e.2.1 0) L):=by
    rw [hs]
    exact p2.trans (List.Perm.cons _ p1.symm)
  exact ⟨⟨a,b,(acyc_bridge p3 (forN_ok h.right _) h.acyc).1⟩,p3⟩
theorem SameE.trans {a b c:List E3} (h1:SameE a b) (h2:SameE b c):SameE a c:=Eq.trans h2 h1
theorem SameE.refl (a:List E3):SameE a a:=rfl
theorem SameE.len {a b:List E3} (h:SameE a b):b.length=a.length:=by simpa using congrArg List.length h
theorem raise_way (h:GE N L l) (h16:L ≤ 16) {e top:E3} (he:e ∈ l) (h0:e.2.2=0) {t:Int} (ht:1 ≤ t ∧ t ≤ L) {path:List E3} (hw:IsWay (e2 e).1 (endsE path) (e2 e).2) (hd:(endsE path).Nodup)
    (hp:∀ d ∈ path,d ∈ forestE l L) (htop:top ∈ path) :
    GE N L (setE l top.1 top.2.1 0) ∧ SameE l (setE l top.1 top.2.1 0) ∧ e ∈ setE l top.1 top.2.1 0 ∧ GE N L (setE (setE l top.1 top.2.1 0) e.1 e.2.1 t):=by
  have ht1:=hp top htop
  simp only [forestE,List.mem_filter] at ht1
  obtain ⟨ht1,ht2⟩:=ht1
  have ht3:=(tierT_iff (u:=top.1) (v:=top.2.1)).1 ht2
  obtain ⟨g1,p1⟩:=lower_one h h16 ht1 ht3.1
  have hs:=set_same h.right ht1 0
  have hem:e ∈ setE l top.1 top.2.1 0:=by
    obtain ⟨i,hi,e1,_,hq⟩:=set_at h.right ht1
    obtain ⟨j,hj,e3⟩:=List.getElem_of_mem he
    rw [hq]
    have hne:i ≠ j:=fun hij=>by subst hij;rw [e1] at e3;have h5:=ht3.1;rw [e3,h0] at h5;exact absurd h5 (by decide)
    have:(l.set i (l[i].1,l[i].2.1,0))[j]'(by simpa using hj)=e:=by rw [List.getElem_set_ne hne];exact e3
    rw [← this]
    exact List.getElem_mem _
  refine ⟨g1,hs,hem,raise_new g1 h16 hem h0 ht ?_⟩
  exact (way_bridge p1 (forN_ok h.right _) h.acyc hw hd (fun d hd=>by
    obtain ⟨x,hx,rfl⟩:=List.mem_map.1 hd
    exact List.mem_map.2 ⟨x,hp x hx,rfl⟩) (List.mem_map.2 ⟨top,htop,rfl⟩)).2
end
end Go.Proofs.YtppblcbgkadldaaGreatDoor
namespace Go.Proofs.YtppblcbgkadldaaGreatDoor
open Go Go.RowKit
set_option maxRecDepth 100000
attribute [local go_sem] Heavy heavyUpon
theorem partN_step (n:Nat) (l:List E3) {k:Nat} (h:k < l.length):partN n (endsE (l.take (k + 1)))=joinN (partN n (endsE (l.take k))) l[k].1.toNat l[k].2.1.toNat:=by
  rw [List.take_succ_eq_append_getElem h,endsE,List.map_append]
  exact partN_snoc n _ _
def Ends_in (n:Nat) (l:List E3):Prop:=∀ e ∈ l,0 ≤ e.1 ∧ e.1 < n ∧ 0 ≤ e.2.1 ∧ e.2.1 < n
theorem Ends_in.ok {n:Nat} {l:List E3} (h:Ends_in n l):OkEnds n (endsE l):=by
  intro d hd
  obtain ⟨e,he,rfl⟩:=List.mem_map.1 hd
  have:=h e he
  simp only [e2];omega
theorem Ends_in.take {n:Nat} {l:List E3} (h:Ends_in n l) (k:Nat):Ends_in n (l.take k):=fun e he=>h e (List.mem_of_mem_take he)
theorem Ends_in.of_right {n:Nat} {l:List E3} (h:rightE n l=true):Ends_in n l:=fun e he=>by have:=right_edge h he;omega
theorem Ends_in.forest {n:Nat} {l:List E3} (h:Ends_in n l) (t:Int):Ends_in n (forestE l t):=fun e he=>h e (List.mem_filter.1 he).1
def mixN (q p:List Nat) (k:Nat):Prop:=∀ v,v < k → p.getD v 0=q.getD v 0
set_option maxHeartbeats 3200000 in
theorem of_ok (l:List E3) (n:Nat) (hn:n ≤ 1024) (hE:Ends_in n l) (M:List Nat) (A:Option Addr) (m c:Nat) (w:World) (hS:ESl w M A m c l) (hm:m ≤ 4096) :
    Calls Tryz.prog 74 #[.int .i64 n,.slice A m c] w fun e w'=>∃ R,e=.returned (.tuple #[.slice R n n,.int .i64 0]) ∧ Sl w' [] 1 R n n (ints .i64 (natL (partN n (endsE l)))) ∧ Below w.heap.size w w':=by
  have HL:=hide hS.length
  have HE:=hide hE
  obtain ⟨q0,hq0⟩:∃ q0,q0=partN n (endsE l):=⟨_,rfl⟩
  rw [← hq0]
  have HQ0:=hide hq0
  clear hq0
  have QS:=hide (fun W=>psingle_ok n (by omega) W)
  have hcap:=Nat.le_trans hS.le hS.cap
  unfold maxLen at hcap
  have hn1:(n:Int) ≤ 1024:=by omega
  clear hE
  go_enter Tryz.func74,Tryz.ntmps74
  go_wp2_with (fail)
  refine (QS.out w).mono ?_
  rintro e w1 ⟨rfl,B1,b1⟩
  have HB1:=hide B1
  have s1:=HB1.out.lt
  clear B1
  go_wp2_with (fail)
  go_loopw [22] (fun i wr=>∃ (k:Nat) (p:List Nat),k ≤ m ∧ i=.int .i64 k ∧ Below w.heap.size w wr ∧ Hid (UF (partN n (endsE (l.take k))) p) ∧ Hid (Blk wr w.heap.size 3 (ints .i64 (natL p)).toArray)) (fun i _=>m - (intOf i).toNat)
  case atStart=>exact ⟨0,List.range n,Nat.zero_le _,rfl,b1,hide (by simpa [endsE,partN] using UF.range n),HB1⟩
  case round =>
    clear HB1 b1 s1
    obtain ⟨k,p,hk,rfl,hbr,HU,HB⟩:=hrel
    have hSr:ESl wr M A m c l:=hS.below hbr
    by_cases hlt:k < m
    · have hx:k < l.length:=by have:=HL.out;omega
      obtain ⟨ad,rfl,had,_,c0,c1,c2⟩:=hSr.get hx
      have hp:=HE.out l[k] (List.getElem_mem hx)
      have HST:=hide (partN_step n l hx)
      have HPS:=hide (partN_ps (HE.out.take k).ok)
      generalize l[k]=x at *
      obtain ⟨u,v,t⟩:=x
      simp only [] at c0 c1 c2 hp HST
      obtain ⟨u0,u1,v0,v1⟩:=hp
      obtain ⟨u,rfl⟩:=Int.eq_ofNat_of_zero_le u0
      obtain ⟨v,rfl⟩:=Int.eq_ofNat_of_zero_le v0
      simp only [Int.toNat_natCast] at HST
      have hu:u < n:=by omega
      have hv:v < n:=by omega
      have QU:=hide (fun W=>place_yes (n:Int) (u:Int) (by omega) u1 W)
      have QV:=hide (fun W=>place_yes (n:Int) (v:Int) (by omega) v1 W)
      generalize partN n (endsE (l.take k))=q at *
      have hql:q.length=n:=HPS.out.len
      have HQL:=hide hql
      have q1:=(pr_iff.1 HPS.out.pr u (by omega)).1
      have q2:=(pr_iff.1 HPS.out.pr v (by omega)).1
      have QRU:=hide (fun p W hU hB=>root_ok q p n u w.heap.size hU hql hu (by omega) W hB)
      have QRV:=hide (fun p W hU hB=>root_ok q p n v w.heap.size hU hql hv (by omega) W hB)
      have HJ:=hide (fun p (h:UF q p)=>h.join (u:=u) (v:=v) (by omega) (by omega))
      rw [← HST.out] at HJ
      generalize q.getD u 0=a at *
      generalize q.getD v 0=b at *
      have han:a < n:=by omega
      have hbn:b < n:=by omega
      clear HST hql hSr
      have hb2:=hbr.alloc hbr.size (.cells #[.int .i64 u,.int .i64 v,.int .i64 t] 104)
      have B2:=Blk.new wr 104 #[.int .i64 u,.int .i64 v,.int .i64 t]
      have HB2:=hide (HB.out.alloc (.cells #[.int .i64 u,.int .i64 v,.int .i64 t] 104))
      have szr:=hbr.size
      have hgl:=HB.out.lt
      have hlte:wr.heap.size ≠ w.heap.size:=by omega
      clear HB HPS
      go_wp2_with (fail)
      clear c0 c1 c2
      generalize (wr.alloc (.cells #[.int .i64 u,.int .i64 v,.int .i64 t] 104))=W2 at *
      refine (QU.out _).mono ?_
      rintro e w3 ⟨rfl,b3⟩
      have B3:=B2.below b3 B2.lt
      have HB3:=hide (HB2.out.below b3 HB2.out.lt)
      have hb3:=hb2.trans (b3.mono hb2.size)
      obtain ⟨r3,e3,s3⟩:=B3.facts
      have y0:w3.cell? ⟨wr.heap.size,0,none⟩=some (.int .i64 u):=r3 0
      have y1:w3.cell? ⟨wr.heap.size,1,none⟩=some (.int .i64 v):=r3 1
      clear r3 B2 HB2 hb2 b3 QU
      go_wp2_with (fail)
      refine (QV.out _).mono ?_
      rintro e w4 ⟨rfl,b4⟩
      have B4:=B3.below b4 B3.lt
      have HB4:=hide (HB3.out.below b4 HB3.out.lt)
      have hb4:=hb3.trans (b4.mono hb3.size)
      obtain ⟨r4,e4,s4⟩:=B4.facts
      have x0:w4.cell? ⟨wr.heap.size,0,none⟩=some (.int .i64 u):=r4 0
      have x1:w4.cell? ⟨wr.heap.size,1,none⟩=some (.int .i64 v):=r4 1
      clear r4 B3 B4 HB3 hb3 b4 y0 y1 e3 s3 QV
      go_wp2_with (fail)
      refine wp_region_lexD [3,7] (fun w'=>World.grownBy (w4) w' (some (w.heap.size))) (by kernel_rfl) (by kernel_rfl) (grown_drew _ _) ?_
      (repeat ((with_reducible refine wpLex_step (fun K hK=>?_));go_simp;first | ((with_reducible refine hK _ _ ?_);clear hK K) | ((with_reducible apply Exists.intro);refine ⟨fun w' hw'=>?_,hK _ _ ?_⟩;(· (have hq:=gcells hw';apply valEq;(· (go_simp;first | done | (with_reducible rfl)));(· ((try go_bits);with_reducible rfl))));clear hK K)))
      ((with_reducible refine wpLex_step (fun K hK=>?_));go_simp;refine (QRU.out p _ HU.out HB4.out.drew).mono ?_;rintro e w5 ⟨p5,rfl,U5,B5,G5⟩;have g5:=(grown_drew w4 (some w.heap.size)).trans G5;refine ⟨_,rfl,g5,hK _ _ ?_⟩;clear hK K G5)
      (repeat ((with_reducible refine wpLex_step (fun K hK=>?_));go_simp;first | ((with_reducible refine hK _ _ ?_);clear hK K) | ((with_reducible apply Exists.intro);refine ⟨fun w' hw'=>?_,hK _ _ ?_⟩;(· (have hq:=gcells hw';apply valEq;(· (go_simp;first | done | (with_reducible rfl)));(· ((try go_bits);with_reducible rfl))));clear hK K)))
      ((with_reducible refine wpLex_step (fun K hK=>?_));go_simp;refine (QRV.out p5 _ U5 B5).mono ?_;rintro e w6 ⟨p6,rfl,U6,B6,G6⟩;have g6:=g5.trans G6;refine ⟨_,rfl,g6,hK _ _ ?_⟩;clear hK K G6)
      (repeat ((with_reducible refine wpLex_step (fun K hK=>?_));go_simp;first | ((with_reducible refine hK _ _ ?_);clear hK K) | ((with_reducible apply Exists.intro);refine ⟨fun w' hw'=>?_,hK _ _ ?_⟩;(· (have hq:=gcells hw';apply valEq;(· (go_simp;first | done | (with_reducible rfl)));(· ((try go_bits);with_reducible rfl))));clear hK K)))
      refine wpLex_nil (fun _=>?_)
      have hb6:=below_grows hb4 g6 (Nat.le_refl _) hb4.size
      have HJ6:=hide (HJ.out p6 U6)
      have hp6:p6.length=n:=by rw [U6.len];exact HQL.out
      obtain ⟨r6,e6,s6⟩:=B6.facts
      clear U5 B5 g5 g6 HB4 HU U6 HJ QRU QRV x0 x1
      by_cases hab:a < b
      · have HMX:=hide (show max a b=b ∧ min a b=a by omega)
        have hc:w6.cell? ⟨w.heap.size,b,none⟩=some (.int .i64 ((p6.getD b 0:Nat):Int)):=by rw [r6];simpa using natL_getD (show b < p6.length by omega)
        generalize p6.getD b 0=z at *
        have HB7:=hide (show Blk (w6.setCell ⟨w.heap.size,b,none⟩ (.int .i64 (a:Int))) w.heap.size 3 (ints .i64 (natL (p6.set b a))).toArray by rw [← natL_set];exact B6.set_ _ _)
        rw [HMX.out.1,HMX.out.2] at HJ6
        clear r6 B6 HMX
        go_wp2_with (fail)
        exact ⟨⟨k + 1,_,by omega,by go_num,hb6.setCell (Nat.le_refl _) _,HJ6,HB7⟩,by simp [intOf];omega⟩
      · by_cases hba:b < a
        · have HMX:=hide (show max a b=a ∧ min a b=b by omega)
          have hc:w6.cell? ⟨w.heap.size,a,none⟩=some (.int .i64 ((p6.getD a 0:Nat):Int)):=by rw [r6];simpa using natL_getD (show a < p6.length by omega)
          generalize p6.getD a 0=z at *
          have HB7:=hide (show Blk (w6.setCell ⟨w.heap.size,a,none⟩ (.int .i64 (b:Int))) w.heap.size 3 (ints .i64 (natL (p6.set a b))).toArray by rw [← natL_set];exact B6.set_ _ _)
          rw [HMX.out.1,HMX.out.2] at HJ6
          clear r6 B6 HMX
          go_wp2_with (fail)
          exact ⟨⟨k + 1,_,by omega,by go_num,hb6.setCell (Nat.le_refl _) _,HJ6,HB7⟩,by simp [intOf];omega⟩
        · obtain rfl:a=b:=by omega
          have HMX:=hide (show max a a=a ∧ min a a=a by omega)
          have hc:w6.cell? ⟨w.heap.size,a,none⟩=some (.int .i64 ((p6.getD a 0:Nat):Int)):=by rw [r6];simpa using natL_getD (show a < p6.length by omega)
          generalize p6.getD a 0=z at *
          have HB7:=hide (show Blk (w6.setCell ⟨w.heap.size,a,none⟩ (.int .i64 (a:Int))) w.heap.size 3 (ints .i64 (natL (p6.set a a))).toArray by rw [← natL_set];exact B6.set_ _ _)
          rw [HMX.out.1,HMX.out.2] at HJ6
          clear r6 B6 HMX
          go_wp2_with (fail)
          exact ⟨⟨k + 1,_,by omega,by go_num,hb6.setCell (Nat.le_refl _) _,HJ6,HB7⟩,by simp [intOf];omega⟩
    · obtain rfl:k=m:=by omega
      have hxl:l.take k=l:=List.take_of_length_le (by have:=HL.out;omega)
      rw [hxl,← HQ0.out] at HU
      have HPS:=hide (partN_ps HE.out.ok)
      rw [← HQ0.out] at HPS
      have HQL:=hide HPS.out.len
      clear hSr hxl hk HE
      go_wp2_with (fail)
      go_loopw [57,11] (fun i _ wr=>∃ (j:Nat) (p:List Nat),j ≤ n ∧ i=.int .i64 j ∧ Below w.heap.size w wr ∧ Hid (UF q0 p) ∧ Hid (mixN q0 p j) ∧ Hid (Blk wr w.heap.size 3 (ints .i64 (natL p)).toArray)) (fun i _ _=>n - (intOf i).toNat)
      case atStart=>exact ⟨0,p,Nat.zero_le _,rfl,hbr,HU,hide (fun v hv=>absurd hv (by omega)),HB⟩
      case round =>
        clear HU HB hbr p
        obtain ⟨j,p,hj,rfl,hbr,HU,HX,HB⟩:=hrel
        by_cases hlt2:j < n
        · obtain ⟨r0,e0,s0⟩:=HB.out.facts
          have hpl:p.length=n:=by rw [HU.out.len,HQL.out]
          have h1:=HU.out.le j (by rw [HQL.out];exact hlt2)
          have HT:=hide (HU.out.top j (by rw [HQL.out];exact hlt2))
          have HS:=hide (HU.out.same j (by rw [HQL.out];exact hlt2))
          have HH:=hide (HU.out.half (x:=j) (by rw [HQL.out];exact hlt2))
          have HXJ:=hide (fun v (hv:v < j)=>HX.out v hv)
          have hcx:wr.cell? ⟨w.heap.size,j,none⟩=some (.int .i64 ((p.getD j 0:Nat):Int)):=by rw [r0];simpa using natL_getD (show j < p.length by omega)
          have hcy:wr.cell? ⟨w.heap.size,p.getD j 0,none⟩=some (.int .i64 ((p.getD (p.getD j 0) 0:Nat):Int)):=by rw [r0];simpa using natL_getD (show p.getD j 0 < p.length by omega)
          generalize hy:p.getD j 0=y at *
          generalize hz:p.getD y 0=z at *
          have HZ:=hide (show z=q0.getD j 0 by
            by_cases hyj:y=j
            · rw [HT.out hyj,← hz,hyj,hy,hyj]
            · rw [← HS.out,← hz];exact HXJ.out y (by omega))
          have HX1:=hide (show mixN q0 (p.set j z) (j + 1) by
            intro v hv
            rw [getD_set _ _ _ _ (by omega)]
            split
            · rename_i e;subst e;exact HZ.out
            · exact HX.out v (by omega))
          have HB1:=hide (show Blk (wr.setCell ⟨w.heap.size,j,none⟩ (.int .i64 (z:Int))) w.heap.size 3 (ints .i64 (natL (p.set j z))).toArray by rw [← natL_set];exact HB.out.set_ _ _)
          have hyn:y < n:=by omega
          clear r0 hy hz HZ HT HS HX HXJ HB HU
          go_wp2_with (fail)
          exact ⟨⟨j + 1,_,by omega,by go_num,hbr.setCell (Nat.le_refl _) _,HH,HX1,HB1⟩,by simp [intOf];omega⟩
        · obtain rfl:j=n:=by omega
          have HF:=hide (show p=q0 by
            apply List.ext_getElem
            · exact HU.out.len
            · intro i h1 h2
              have:=HX.out i (by rw [← HQL.out];exact h2)
              simpa [h1,h2] using this)
          clear HX HU
          go_wp2_with (fail)
          go_ret2
          rw [HF.out] at HB
          refine ⟨_,rfl,?_,hbr⟩
          exact Sl.of_blk HB.out (by simp [natL,HQL.out]) (fun x hx=>by simp) (by simp) (by unfold maxLen;omega)
end Go.Proofs.YtppblcbgkadldaaGreatDoor
namespace Go.Proofs.YtppblcbgkadldaaGreatDoor
open Go Go.RowKit
set_option maxRecDepth 100000
def Joins (l:List E3) (i x y:Nat):Prop:=i < l.length ∧ (((l.getD i (0,0,0)).1=x ∧ (l.getD i (0,0,0)).2.1=y) ∨ ((l.getD i (0,0,0)).1=y ∧ (l.getD i (0,0,0)).2.1=x))
theorem Joins.symm {l:List E3} {i x y:Nat} (h:Joins l i x y):Joins l i y x:=⟨h.1,h.2.symm⟩
theorem Joins.ends {l:List E3} {i x y a b:Nat} (h:Joins l i x y) (h':Joins l i a b):(a=x ∧ b=y) ∨ (a=y ∧ b=x):=by
  obtain ⟨_,h⟩:=h
  obtain ⟨_,h'⟩:=h'
  omega
def eN (l:List E3) (i:Nat):Nat × Nat:=e2 (l.getD i (0,0,0))
theorem Joins.conn {l:List E3} {i x y:Nat} (h:Joins l i x y) {es:List Nat} (hi:i ∈ es):Conn (es.map (eN l)) x y:=by
  have hm:eN l i ∈ es.map (eN l):=List.mem_map.2 ⟨i,hi,rfl⟩
  obtain ⟨_,h⟩:=h
  rcases h with ⟨h1,h2⟩ | ⟨h1,h2⟩
  · have e:eN l i=(x,y):=by unfold eN e2;rw [h1,h2];simp
    exact Conn.edge (e ▸ hm)
  · have e:eN l i=(y,x):=by unfold eN e2;rw [h1,h2];simp
    exact Conn.edge' (e ▸ hm)
theorem range_map_eN (l:List E3):(List.range l.length).map (eN l)=endsE l:=by
  apply List.ext_getElem
  · simp [endsE]
  · intro i h1 h2
    have hi:i < l.length:=by simpa using h1
    simp [endsE,eN,hi]
theorem sub_perm {l:List E3} {es:List Nat} (hn:es.Nodup) (hl:∀ i ∈ es,i < l.length):∃ rest,(endsE l).Perm (es.map (eN l) ++ rest):=by
  refine ⟨((List.range l.length).filter fun i=>!decide (i ∈ es)).map (eN l),?_⟩
  rw [← range_map_eN,← List.map_append]
  refine List.Perm.map _ ((List.perm_ext_iff_of_nodup List.nodup_range ?_).2 fun i=>?_)
  · rw [List.nodup_append]
    refine ⟨hn,List.Pairwise.filter _ List.nodup_range,fun a ha b hb=>?_⟩
    rw [List.mem_filter] at hb
    rintro rfl
    have:=hb.2
    simp [ha] at this
  · simp only [List.mem_append,List.mem_filter,List.mem_range,Bool.not_eq_true',decide_eq_false_iff_not]
    constructor
    · intro h
      by_cases hi:i ∈ es
      · exact .inl hi
      · exact .inr ⟨h,hi⟩
    · rintro (h | h)
      · exact hl i h
      · exact h.1
theorem sub_acyc {n:Nat} {l:List E3} (hE:Ends_in n l) (ha:acyc n (endsE l)) {es:List Nat} (hn:es.Nodup) (hl:∀ i ∈ es,i < l.length):acyc n (es.map (eN l)) ∧ OkEnds n (es.map (eN l)):=by
  obtain ⟨rest,hp⟩:=sub_perm hn hl
  have h1:=hE.ok.perm hp
  exact ⟨acyc_left rest _ h1 (acyc_perm hp hE.ok ha),h1.left⟩
structure BI (n:Nat) (l:List E3) (v:Nat) (seen es:List Nat) (h:Nat) (done:List Nat) (lead:List Int):Prop where
  len:lead.length=n
  nd:seen.Nodup
  lt:∀ x ∈ seen,x < n
  head:seen[0]? = some v
  hle:h ≤ seen.length
  esl:es.length + 1=seen.length
  esnd:es.Nodup
  eslt:∀ i ∈ es,i < l.length
  par:∀ (j i x:Nat),es[j]? = some i → seen[j + 1]? = some x → lead.getD x 0=(i:Int) ∧ ∃ p y,seen[p]? = some y ∧ p < j + 1 ∧ Joins l i x y ∧ (p < h ∨ (p=h ∧ i ∈ done))
  none:∀ (x:Nat),x < n → (x ∉ seen ∨ x=v) → lead.getD x 0 = -1
  closed:∀ (p x:Nat),p < h → seen[p]? = some x → ∀ i y,Joins l i x y → y ∈ seen
  part:∀ (x:Nat),seen[h]? = some x → ∀ i ∈ done,∀ y,Joins l i x y → y ∈ seen
section
variable {n:Nat} {l:List E3} {v:Nat} {seen es:List Nat} {h:Nat} {done:List Nat} {lead:List Int}
theorem BI.start (hv:v < n):BI n l v [v] [] 0 [] (List.replicate n (-1)):=by
  refine ⟨by simp,by simp,by simpa using hv,rfl,by simp,rfl,by simp,by simp,by simp,fun x hx _=>?_,by simp,by simp⟩
  simp [hx]
theorem nd_inj {l:List Nat} (hn:l.Nodup) {i j x:Nat} (h1:l[i]? = some x) (h2:l[j]? = some x):i=j:=by
  have hi:i < l.length:=by
    rcases Nat.lt_or_ge i l.length with h | h
    · exact h
    · rw [List.getElem?_eq_none h] at h1;cases h1
  exact (List.getElem?_inj hi hn).1 (h1.trans h2.symm)
theorem getElem?_lt {α:Type} {l:List α} {i:Nat} {x:α} (h:l[i]? = some x):i < l.length:=by
  rcases Nat.lt_or_ge i l.length with h' | h'
  · exact h'
  · rw [List.getElem?_eq_none h'] at h;cases h
theorem BI.conn (b:BI n l v seen es h done lead):∀ (j x:Nat),seen[j]? = some x → Conn (es.map (eN l)) x v:=by
  intro j
  induction j using Nat.strongRecOn with
  | _ j ih =>
    intro x hx
    cases j with
    | zero =>
      have:=b.head
      rw [this] at hx
      injection hx with hx
      subst hx
      exact .refl _
    | succ j =>
      have hj:=getElem?_lt hx
      have hje:j < es.length:=by have:=b.esl;omega
      obtain ⟨_,p,y,hy,hp,hJ,_⟩:=b.par j es[j] x (List.getElem?_eq_getElem hje) hx
      exact (hJ.conn (List.getElem_mem hje)).trans (ih p hp y hy)
theorem BI.conn_mem (b:BI n l v seen es h done lead) {x:Nat} (hx:x ∈ seen):Conn (es.map (eN l)) x v:=by
  obtain ⟨j,hj,rfl⟩:=List.getElem_of_mem hx
  exact b.conn j _ (List.getElem?_eq_getElem hj)
theorem BI.fresh (b:BI n l v seen es h done lead) (hE:Ends_in n l) (ha:acyc n (endsE l)) {x i y:Nat} (hx:seen[h]? = some x) (hJ:Joins l i x y) (hd:i ∉ done) (hl:lead.getD x 0 ≠ (i:Int)):i ∉ es ∧ y ∉ seen:=by
  have hi:i ∉ es:=by
    intro hm
    obtain ⟨j,hj,rfl⟩:=List.getElem_of_mem hm
    have hjs:j + 1 < seen.length:=by have:=b.esl;omega
    obtain ⟨h1,p,z,hz,hp,hJ2,h2⟩:=b.par j es[j] seen[j + 1] (List.getElem?_eq_getElem hj) (List.getElem?_eq_getElem hjs)
    rcases hJ2.ends hJ with ⟨e1,_⟩ | ⟨e1,_⟩
    · rw [e1] at hl;exact hl h1
    · rw [e1] at hx
      have:=nd_inj b.nd hx hz
      rcases h2 with h2 | ⟨_,h2⟩
      · omega
      · exact hd h2
  refine ⟨hi,fun hy=>?_⟩
  have hn:(es ++ [i]).Nodup:=by
    rw [List.nodup_append]
    refine ⟨b.esnd,by simp,fun a ha c hc=>?_⟩
    simp at hc
    subst hc
    rintro rfl
    exact hi ha
  have hlt:∀ j ∈ es ++ [i],j < l.length:=by
    intro j hj
    rcases List.mem_append.1 hj with hj | hj
    · exact b.eslt j hj
    · simp at hj;subst hj;exact hJ.1
  obtain ⟨a1,a2⟩:=sub_acyc hE ha hn hlt
  rw [List.map_append,List.map_cons,List.map_nil] at a1 a2
  have h3:=((acyc_snoc a2).1 a1).2
  have hc:=(b.conn h x hx).trans (b.conn_mem hy).symm
  obtain ⟨_,hJ⟩:=hJ
  apply h3
  unfold eN e2
  rcases hJ with ⟨e1,e2⟩ | ⟨e1,e2⟩
  · rw [e1,e2];exact hc
  · rw [e1,e2];exact hc.symm
theorem getD_setI (l:List Int) (i j:Nat) (x:Int) (hi:i < l.length):(l.set i x).getD j 0=if i=j then x else l.getD j 0:=by
  simp only [List.getD_eq_getElem?_getD,List.getElem?_set,hi,if_true]
  split <;> simp
theorem mem_of_get? {l:List Nat} {i x:Nat} (h:l[i]? = some x):x ∈ l:=List.mem_of_getElem? h
theorem BI.push (b:BI n l v seen es h done lead) {x i y:Nat} (hx:seen[h]? = some x) (hJ:Joins l i x y) (hi:i ∉ es) (hy:y ∉ seen) (hyn:y < n):BI n l v (seen ++ [y]) (es ++ [i]) h (done ++ [i]) (lead.set y (i:Int)):=by
  have hvm:v ∈ seen:=mem_of_get? b.head
  have hyv:y ≠ v:=fun e=>hy (e ▸ hvm)
  have hlen:=b.len
  have hh:=getElem?_lt hx
  have hap:∀ {p z:Nat},seen[p]? = some z → (seen ++ [y])[p]? = some z:=fun {p z} hz=>by rw [List.getElem?_append_left (getElem?_lt hz)];exact hz
  refine ⟨by simpa using hlen,?_,?_,hap b.head,?_,by simp [b.esl],?_,?_,?_,?_,?_,?_⟩
  · rw [List.nodup_append]
    refine ⟨b.nd,by simp,fun a ha c hc=>?_⟩
    simp at hc;subst hc;rintro rfl;exact hy ha
  · intro z hz
    rcases List.mem_append.1 hz with hz | hz
    · exact b.lt z hz
    · simp at hz;subst hz;exact hyn
  · have:=b.hle;simp;omega
  · rw [List.nodup_append]
    refine ⟨b.esnd,by simp,fun a ha c hc=>?_⟩
    simp at hc;subst hc;rintro rfl;exact hi ha
  · intro j hj
    rcases List.mem_append.1 hj with hj | hj
    · exact b.eslt j hj
    · simp at hj;subst hj;exact hJ.1
  · intro j i' z he hz
    by_cases hj:j < es.length
    · have hje:es[j]? = some i':=by rw [List.getElem?_append_left hj] at he;exact he
      have hjs:j + 1 < seen.length:=by have:=b.esl;omega
      have hzs:seen[j + 1]? = some z:=by rw [List.getElem?_append_left hjs] at hz;exact hz
      obtain ⟨h1,p,w,hw,hp,hJ',h2⟩:=b.par j i' z hje hzs
      have hzy:y ≠ z:=fun e=>hy (e ▸ mem_of_get? hzs)
      refine ⟨by rw [getD_setI _ _ _ _ (by omega),if_neg hzy];exact h1,p,w,hap hw,hp,hJ',?_⟩
      rcases h2 with h2 | ⟨h2,h3⟩
      · exact .inl h2
      · exact .inr ⟨h2,List.mem_append_left _ h3⟩
    · have hj1:=getElem?_lt he
      have hje:j=es.length:=by simp at hj1;omega
      subst hje
      have hi':i'=i:=by simpa using he.symm
      have hz':z=y:=by
        have e:es.length + 1=seen.length:=b.esl
        rw [e] at hz
        simpa using hz.symm
      subst hi' hz'
      refine ⟨by rw [getD_setI _ _ _ _ (by omega),if_pos rfl],h,x,hap hx,by have:=b.esl;omega,hJ.symm,.inr ⟨rfl,by simp⟩⟩
  · intro z hz hm
    rcases hm with hm | hm
    · have h1:z ∉ seen:=fun h=>hm (List.mem_append_left _ h)
      have h2:y ≠ z:=fun e=>hm (by simp [e])
      rw [getD_setI _ _ _ _ (by omega),if_neg h2]
      exact b.none z hz (.inl h1)
    · subst hm
      rw [getD_setI _ _ _ _ (by omega),if_neg hyv]
      exact b.none _ hz (.inr rfl)
  · intro p z hp hz j u hJ'
    have hz':seen[p]? = some z:=by rw [List.getElem?_append_left (by omega)] at hz;exact hz
    exact List.mem_append_left _ (b.closed p z hp hz' j u hJ')
  · intro z hz j hj u hJ'
    have hz':seen[h]? = some z:=by rw [List.getElem?_append_left hh] at hz;exact hz
    rcases List.mem_append.1 hj with hj | hj
    · exact List.mem_append_left _ (b.part z hz' j hj u hJ')
    · simp at hj
      subst hj
      rw [hx] at hz'
      injection hz' with hz'
      subst hz'
      rcases hJ.ends hJ' with ⟨_,e⟩ | ⟨e1,e2⟩
      · rw [e];simp
      · rw [e2];exact List.mem_append_left _ (mem_of_get? hx)
theorem BI.skip (b:BI n l v seen es h done lead) {x i:Nat} (hx:seen[h]? = some x) (hl:lead.getD x 0=(i:Int)):BI n l v seen es h (done ++ [i]) lead:=by
  refine ⟨b.len,b.nd,b.lt,b.head,b.hle,b.esl,b.esnd,b.eslt,?_,b.none,b.closed,?_⟩
  · intro j i' z he hz
    obtain ⟨h1,p,w,hw,hp,hJ',h2⟩:=b.par j i' z he hz
    refine ⟨h1,p,w,hw,hp,hJ',h2.imp id fun h=>⟨h.1,List.mem_append_left _ h.2⟩⟩
  · intro z hz j hj u hJ'
    rcases List.mem_append.1 hj with hj | hj
    · exact b.part z hz j hj u hJ'
    · simp at hj
      subst hj
      rw [hx] at hz
      injection hz with hz
      subst hz
      have hxn:=b.lt x (mem_of_get? hx)
      have hh:=getElem?_lt hx
      cases hh0:h with
      | zero =>
        subst hh0
        have:=b.none x hxn (.inr (by have:=b.head;rw [hx] at this;injection this))
        omega
      | succ h' =>
        subst hh0
        have hje:h' < es.length:=by have:=b.esl;omega
        obtain ⟨h1,p,w,hw,hp,hJ2,_⟩:=b.par h' es[h'] x (List.getElem?_eq_getElem hje) hx
        have hie:es[h']=j:=by omega
        rw [hie] at hJ2
        rcases hJ2.ends hJ' with ⟨_,e⟩ | ⟨_,e⟩
        · rw [e];exact mem_of_get? hw
        · rw [e];exact mem_of_get? hx
theorem BI.pop (b:BI n l v seen es h done lead) {x:Nat} (hx:seen[h]? = some x) (hd:∀ i y,Joins l i x y → i ∈ done):BI n l v seen es (h + 1) [] lead:=by
  have hh:=getElem?_lt hx
  refine ⟨b.len,b.nd,b.lt,b.head,by omega,b.esl,b.esnd,b.eslt,?_,b.none,?_,by simp⟩
  · intro j i' z he hz
    obtain ⟨h1,p,w,hw,hp,hJ',h2⟩:=b.par j i' z he hz
    exact ⟨h1,p,w,hw,hp,hJ',.inl (by omega)⟩
  · intro p z hp hz i y hJ
    by_cases hph:p < h
    · exact b.closed p z hph hz i y hJ
    · obtain rfl:p=h:=by omega
      rw [hx] at hz;injection hz with hz;subst hz
      exact b.part x hx i (hd i y hJ) y hJ
theorem BI.seen_le (b:BI n l v seen es h done lead):seen.length ≤ n:=by
  have:=List.Nodup.length_le_of_subset b.nd (l₂:=List.range n) (fun x hx=>List.mem_range.2 (b.lt x hx))
  simpa using this
structure Leads (n:Nat) (l:List E3) (v:Nat) (lead:List Int) (rk:Nat → Nat):Prop where
  len:lead.length=n
  step:∀ x,x < n → 0 ≤ lead.getD x 0 → ∃ y,y < n ∧ (lead.getD x 0).toNat < l.length ∧ Joins l (lead.getD x 0).toNat x y ∧ rk y < rk x ∧ (y=v ∨ 0 ≤ lead.getD y 0)
  lo:∀ x,x < n → lead.getD x 0 < 0 → x ≠ v → ¬ Conn (endsE l) x v
  rk_le:∀ x,rk x ≤ n
  inj:∀ x y,x < n → y < n → 0 ≤ lead.getD x 0 → lead.getD x 0=lead.getD y 0 → x=y
theorem BI.leads (b:BI n l v seen es seen.length [] lead) (hE:Ends_in n l):∃ rk,Leads n l v lead rk:=by
  have hidx:∀ x,x ∈ seen → seen[seen.idxOf x]? = some x:=fun x hx=>by
    rw [List.getElem?_eq_getElem (List.idxOf_lt_length_iff.2 hx)];simp
  have hvm:v ∈ seen:=mem_of_get? b.head
  have key:∀ x,x < n → 0 ≤ lead.getD x 0 → ∃ j i:Nat,es[j]? = some i ∧ seen[j + 1]? = some x ∧ lead.getD x 0=(i:Int):=by
    intro x hx h0
    have hxs:x ∈ seen ∧ x ≠ v:=by
      by_cases hh:x ∉ seen ∨ x=v
      · have:=b.none x hx hh;omega
      · simp only [not_or,Decidable.not_not] at hh;exact hh
    have hi:=hidx x hxs.1
    have hne:seen.idxOf x ≠ 0:=fun e=>by
      rw [e,b.head] at hi;injection hi with hi;exact hxs.2 hi.symm
    obtain ⟨j,hj⟩:∃ j,seen.idxOf x=j + 1:=⟨seen.idxOf x - 1,by omega⟩
    rw [hj] at hi
    have hjl:=getElem?_lt hi
    have hje:j < es.length:=by have:=b.esl;omega
    obtain ⟨h1,_⟩:=b.par j es[j] x (List.getElem?_eq_getElem hje) hi
    exact ⟨j,es[j],List.getElem?_eq_getElem hje,hi,h1⟩
  refine ⟨fun x=>min (seen.idxOf x) n,b.len,?_,?_,?_,?_⟩
  · intro x hx h0
    obtain ⟨j,i,he,hs,hl⟩:=key x hx h0
    obtain ⟨_,p,y,hy,hp,hJ,_⟩:=b.par j i x he hs
    have hyn:=b.lt y (mem_of_get? hy)
    have hjl:=getElem?_lt hs
    have hsl:=b.seen_le
    have i1:seen.idxOf x=j + 1:=nd_inj b.nd (hidx x (mem_of_get? hs)) hs
    have i2:seen.idxOf y=p:=nd_inj b.nd (hidx y (mem_of_get? hy)) hy
    have hit:(lead.getD x 0).toNat=i:=by rw [hl];simp
    refine ⟨y,hyn,by rw [hit];exact hJ.1,by rw [hit];exact hJ,by simp only [i1,i2];omega,?_⟩
    by_cases hyv:y=v
    · exact .inl hyv
    · right
      have hp0:p ≠ 0:=fun e=>by rw [e,b.head] at hy;injection hy with hy;exact hyv hy.symm
      obtain ⟨q,rfl⟩:∃ q,p=q + 1:=⟨p - 1,by omega⟩
      have hpl:=getElem?_lt hy
      have hqe:q < es.length:=by have:=b.esl;omega
      have:=(b.par q es[q] y (List.getElem?_eq_getElem hqe) hy).1
      omega
  · intro x hx hlo hxv hc
    have hcl:∀ {a c:Nat},Conn (endsE l) a c → a ∈ seen → c ∈ seen:=by
      intro a c hac ha
      induction hac with
      | refl=>exact ha
      | step _ he ih =>
        rename_i y z _
        have hy:=ih
        obtain ⟨p,hp,rfl⟩:=List.getElem_of_mem hy
        have hJ:∃ i,Joins l i seen[p] z:=by
          rcases he with he | he
          · obtain ⟨d,hd,e⟩:=List.mem_map.1 he
            obtain ⟨i,hi,rfl⟩:=List.getElem_of_mem hd
            have hr:=hE _ (List.getElem_mem hi)
            simp only [e2,Prod.mk.injEq] at e
            exact ⟨i,hi,.inl (by simp only [List.getD_eq_getElem?_getD,List.getElem?_eq_getElem hi,Option.getD_some];omega)⟩
          · obtain ⟨d,hd,e⟩:=List.mem_map.1 he
            obtain ⟨i,hi,rfl⟩:=List.getElem_of_mem hd
            have hr:=hE _ (List.getElem_mem hi)
            simp only [e2,Prod.mk.injEq] at e
            exact ⟨i,hi,.inr (by simp only [List.getD_eq_getElem?_getD,List.getElem?_eq_getElem hi,Option.getD_some];omega)⟩
        obtain ⟨i,hJ⟩:=hJ
        exact b.closed p seen[p] hp (List.getElem?_eq_getElem hp) i z hJ
    have hxs:=hcl hc.symm hvm
    have hi:=hidx x hxs
    have hne:seen.idxOf x ≠ 0:=fun e=>by
      rw [e,b.head] at hi;injection hi with hi;exact hxv hi.symm
    obtain ⟨j,hj⟩:∃ j,seen.idxOf x=j + 1:=⟨seen.idxOf x - 1,by omega⟩
    rw [hj] at hi
    have hjl:=getElem?_lt hi
    have hje:j < es.length:=by have:=b.esl;omega
    have:=(b.par j es[j] x (List.getElem?_eq_getElem hje) hi).1
    omega
  · intro x;exact Nat.min_le_right _ _
  · intro x y hx hy h0 he
    obtain ⟨j,i,e1,s1,l1⟩:=key x hx h0
    obtain ⟨k,i',e2,s2,l2⟩:=key y hy (by omega)
    have hii:i'=i:=by omega
    rw [hii] at e2
    have:=nd_inj b.esnd e1 e2
    subst this
    rw [s1] at s2
    injection s2
end
end Go.Proofs.YtppblcbgkadldaaGreatDoor
