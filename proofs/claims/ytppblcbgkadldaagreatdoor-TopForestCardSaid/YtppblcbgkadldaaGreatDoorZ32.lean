/-
  A part of the proof that the law TopForest returns true for every input and leaves its arguments as they were: PModel, IForest, Audit.
-/
import Derived.Test.YtppblcbgkadldaaGreatDoorZ23
import Derived.Test.YtppblcbgkadldaaGreatDoorZ27
import Derived.Test.YtppblcbgkadldaaGreatDoorZ28
import Derived.Test.YtppblcbgkadldaaGreatDoorZ29
import Derived.Test.YtppblcbgkadldaaGreatDoorZ30
import Derived.Test.YtppblcbgkadldaaGreatDoorZ31
set_option linter.all false
namespace Go.Proofs.YtppblcbgkadldaaGreatDoor
open Go Go.RowKit
set_option maxRecDepth 100000
def idxP {α:Type} (p:α → Bool) (l:List α):Int:=if l.findIdx p < l.length then (l.findIdx p:Int) else -1
theorem idxP_pos {α:Type} {p:α → Bool} {l:List α}:0 ≤ idxP p l ↔ ∃ x ∈ l,p x=true:=by
  unfold idxP
  constructor
  · intro h
    by_cases hl:l.findIdx p < l.length
    · exact ⟨_,List.getElem_mem hl,List.findIdx_getElem⟩
    · rw [if_neg hl] at h;omega
  · intro h
    rw [if_pos (List.findIdx_lt_length_of_exists h)];omega
theorem idxP_at {α:Type} {p:α → Bool} {l:List α} (h:0 ≤ idxP p l):∃ i:Nat,idxP p l=i ∧ ∃ hi:i < l.length,p l[i]=true:=by
  unfold idxP at h ⊢
  by_cases hl:l.findIdx p < l.length
  · rw [if_pos hl]
    exact ⟨_,rfl,hl,List.findIdx_getElem⟩
  · rw [if_neg hl] at h;omega
theorem idxP_none {α:Type} {p:α → Bool} {l:List α} (h:∀ x ∈ l,p x=false):idxP p l = -1:=by
  unfold idxP
  rw [if_neg]
  intro hl
  have h1:=h _ (List.getElem_mem hl)
  have h2:p l[l.findIdx p]=true:=List.findIdx_getElem
  rw [h2] at h1
  cases h1
theorem idxP_found {α:Type} {p:α → Bool} {l:List α} {i:Nat} (hi:i < l.length) (h:p l[i]=true) (hb:∀ (j:Nat) (hj:j < l.length),j < i → p l[j]=false):idxP p l=i:=by
  have e:l.findIdx p=i:=by
    rcases Nat.lt_trichotomy (l.findIdx p) i with h1 | h1 | h1
    · have h2:=hb (l.findIdx p) (by omega) h1
      have h3:p (l[l.findIdx p]'(by omega))=true:=List.findIdx_getElem
      rw [h3] at h2
      cases h2
    · exact h1
    · have h3:p l[i]=false:=by simpa using List.not_of_lt_findIdx h1
      rw [h] at h3;cases h3
  unfold idxP
  rw [e,if_pos hi]
theorem perm_drop {α:Type} {l m:List α} {x:α} {i:Nat} (hi:i < l.length) (hx:l[i]=x) (h:l.Perm (x :: m)):(l.take i ++ l.drop (i + 1)).Perm m:=by
  have e:l=l.take i ++ x :: l.drop (i + 1):=by rw [← hx,← List.drop_eq_getElem_cons hi,List.take_append_drop]
  have h2:l.Perm (x :: (l.take i ++ l.drop (i + 1))):=by
    conv=>lhs;rw [e]
    exact List.perm_middle
  exact List.Perm.cons_inv (h2.symm.trans h)
def usedL (ls:List S2):List Int:=(ls.filter (·.1)).map (·.2)
def kp (a b:Int):Int × Int:=if b < a then (b,a) else (a,b)
def pairL (ls:List S2) (e:E3):Int × Int:=kp (keyN ls e.1.toNat) (keyN ls e.2.1.toNat)
def nearK (ps:List (Int × Int)) (a:Int):List Int:=(ps.filter fun p=>p.1 == a || p.2 == a).map fun p=>if p.1=a then p.2 else p.1
def keyP (a:Int):Int → Bool:=fun x=>x == a
def pairP (p:Int × Int):Int × Int → Bool:=fun x=>x.1 == p.1 && x.2 == p.2
def chM (N:Int) (ks:List Int) (ps:List (Int × Int)) (q a b:Int):List Int × List (Int × Int) × Int:=
  if q=1 then (if 0 ≤ idxP (keyP a) ks then (ks,ps,4) else if N ≤ ks.length then (ks,ps,10) else (ks ++ [a],ps,0))
  else if idxP (keyP a) ks < 0 ∨ (2 < q ∧ idxP (keyP b) ks < 0) then (ks,ps,7)
  else if q=2 then (if 0 < (nearK ps a).length then (ks,ps,11) else (ks.take (idxP (keyP a) ks).toNat ++ ks.drop ((idxP (keyP a) ks).toNat + 1),ps,0))
  else if q=4 then (if idxP (pairP (kp a b)) ps < 0 then (ks,ps,9) else (ks,ps.take (idxP (pairP (kp a b)) ps).toNat ++ ps.drop ((idxP (pairP (kp a b)) ps).toNat + 1),0))
  else if a=b then (ks,ps,8) else if 0 ≤ idxP (pairP (kp a b)) ps then (ks,ps,4) else (ks,ps ++ [kp a b],0)
structure MI (ls:List S2) (es:List E3) (ks:List Int) (ps:List (Int × Int)):Prop where
  k:ks.Perm (usedL ls)
  p:ps.Perm (es.map (pairL ls))
theorem kp_comm (a b:Int):kp a b=kp b a:=by
  unfold kp
  by_cases h:b < a
  · rw [if_pos h,if_neg (by omega)]
  · by_cases h2:a < b
    · rw [if_neg h,if_pos h2]
    · rw [if_neg h,if_neg h2,show a=b by omega]
theorem kp_iff {a b c d:Int}:kp a b=kp c d ↔ (a=c ∧ b=d) ∨ (a=d ∧ b=c):=by
  unfold kp
  split <;> split <;> (rw [Prod.mk.injEq];omega)
theorem pairP_iff {p x:Int × Int}:pairP p x=true ↔ x=p:=by
  unfold pairP
  rw [Bool.and_eq_true,beq_iff_eq,beq_iff_eq,Prod.ext_iff]
theorem mem_usedL {ls:List S2} {a:Int}:a ∈ usedL ls ↔ ∃ i,IsSlot ls a i:=by
  unfold usedL
  rw [List.mem_map]
  constructor
  · rintro ⟨x,hx,rfl⟩
    obtain ⟨h1,h2⟩:=List.mem_filter.1 hx
    obtain ⟨i,hi,rfl⟩:=List.getElem_of_mem h1
    exact ⟨i,hi,Prod.ext h2 rfl⟩
  · rintro ⟨i,hi,h⟩
    exact ⟨ls[i],List.mem_filter.2 ⟨List.getElem_mem hi,by rw [h]⟩,by rw [h]⟩
theorem slot_key {ls:List S2} {a:Int} {i:Nat} (h:IsSlot ls a i):keyN ls i=a ∧ usedN ls i=true:=by
  obtain ⟨hi,h⟩:=h
  unfold keyN usedN
  rw [List.getD_eq_getElem?_getD,List.getElem?_eq_getElem hi,Option.getD_some,h]
  exact ⟨rfl,rfl⟩
theorem used_slot {ls:List S2} {x:Int} (h:usedB ls x):IsSlot ls (keyN ls x.toNat) x.toNat:=by
  obtain ⟨hi,h⟩:=h
  refine ⟨hi,Prod.ext h ?_⟩
  unfold keyN
  rw [List.getD_eq_getElem?_getD,List.getElem?_eq_getElem hi,Option.getD_some]
theorem slot_one {ls:List S2} (hok:SOK ls) {a:Int} {i j:Nat} (h1:IsSlot ls a i) (h2:IsSlot ls a j):i=j:=by
  obtain ⟨hi,h1⟩:=h1
  obtain ⟨hj,h2⟩:=h2
  exact hok.one i j hi hj (by rw [h1]) (by rw [h2]) (by rw [h1,h2])
theorem end_slot {ls:List S2} (hok:SOK ls) {x:Int} (h0:0 ≤ x) (hu:usedB ls x) {a:Int} {u:Nat} (h:IsSlot ls a u):keyN ls x.toNat=a ↔ x=u:=by
  constructor
  · intro he
    have h1:=used_slot hu
    rw [he] at h1
    have:=slot_one hok h1 h
    omega
  · rintro rfl
    exact (slot_key h).1
theorem hit_pair {ls:List S2} (hok:SOK ls) {e:E3} (h1:0 ≤ e.1) (h2:0 ≤ e.2.1) (hu:usedB ls e.1 ∧ usedB ls e.2.1) {a b:Int} {u v:Nat} (ha:IsSlot ls a u) (hb:IsSlot ls b v):pairL ls e=kp a b ↔ hitE u v e=true:=by
  unfold pairL
  rw [kp_iff,hitE_iff,end_slot hok h1 hu.1 ha,end_slot hok h1 hu.1 hb,end_slot hok h2 hu.2 ha,end_slot hok h2 hu.2 hb]
theorem usedL_at (ls:List S2) {v:Nat} (hv:v < ls.length):usedL ls=usedL (ls.take v) ++ ((if ls[v].1=true then [ls[v].2] else []) ++ usedL (ls.drop (v + 1))):=by
  have e:ls=ls.take v ++ ls[v] :: ls.drop (v + 1):=by rw [← List.drop_eq_getElem_cons hv,List.take_append_drop]
  conv=>lhs;rw [e]
  unfold usedL
  rw [List.filter_append,List.map_append,List.filter_cons]
  congr 1
  split <;> simp
theorem usedL_set (ls:List S2) {v:Nat} (hv:v < ls.length) (x:S2):usedL (ls.set v x)=usedL (ls.take v) ++ ((if x.1=true then [x.2] else []) ++ usedL (ls.drop (v + 1))):=by
  have e:ls.set v x=ls.take v ++ x :: ls.drop (v + 1):=by
    rw [List.set_eq_take_append_cons_drop,if_pos hv]
  rw [e]
  unfold usedL
  rw [List.filter_append,List.map_append,List.filter_cons]
  congr 1
  split <;> simp
theorem usedL_add {ls:List S2} {v:Nat} (hv:v < ls.length) (hf:ls[v].1=false) (a:Int):(usedL (ls.set v (true,a))).Perm (usedL ls ++ [a]):=by
  rw [usedL_set ls hv,usedL_at ls hv,hf,if_pos rfl,if_neg (by decide),List.nil_append]
  exact List.perm_middle.trans (List.perm_append_comm (l₁:=[a]))
theorem usedL_rem {ls:List S2} {a:Int} {u:Nat} (h:IsSlot ls a u):(usedL ls).Perm (a :: usedL (ls.set u (false,0))):=by
  obtain ⟨hu,h⟩:=h
  rw [usedL_set ls hu,usedL_at ls hu,h,if_pos rfl,if_neg (by decide),List.nil_append]
  exact List.perm_middle
theorem usedL_len (ls:List S2):(usedL ls).length ≤ ls.length:=by
  unfold usedL
  rw [List.length_map]
  exact List.length_filter_le _ _
theorem usedL_full {ls:List S2}:(usedL ls).length=ls.length ↔ ∀ x ∈ ls,x.1=true:=by
  unfold usedL
  rw [List.length_map]
  exact List.length_filter_eq_length_iff
theorem keyN_set {ls:List S2} {v w:Nat} (x:S2) (h:w ≠ v):keyN (ls.set v x) w=keyN ls w:=by
  unfold keyN
  rw [List.getD_eq_getElem?_getD,List.getD_eq_getElem?_getD,List.getElem?_set_ne (Ne.symm h)]
theorem pairs_set {ls:List S2} {es:List E3} {v:Nat} (x:S2) (h:∀ e ∈ es,e.1.toNat ≠ v ∧ e.2.1.toNat ≠ v):es.map (pairL (ls.set v x))=es.map (pairL ls):=by
  refine List.map_congr_left fun e he=>?_
  unfold pairL
  rw [keyN_set x (h e he).1,keyN_set x (h e he).2]
theorem pairs_same {ls:List S2} {l l':List E3} (h:SameE l l'):l'.map (pairL ls)=l.map (pairL ls):=by
  have e:∀ l:List E3,l.map (pairL ls)=(l.map fun e=>(e.1,e.2.1)).map fun p=>kp (keyN ls p.1.toNat) (keyN ls p.2.toNat):=by
    intro l
    rw [List.map_map];rfl
  unfold SameE at h
  rw [e l',h,← e l]
theorem insE_perm (l:List E3) (x:E3):(insE l x).Perm (x :: l):=by
  unfold insE
  refine List.perm_middle.trans ?_
  rw [List.takeWhile_append_dropWhile]
section
variable {N:Nat} {ls ls':List S2} {es es':List E3} {ks:List Int} {ps:List (Int × Int)} {a b code:Int}
theorem MI.has (h:MI ls es ks ps):0 ≤ idxP (keyP a) ks ↔ ∃ i,IsSlot ls a i:=by
  rw [idxP_pos,← mem_usedL,← h.k.mem_iff]
  constructor
  · rintro ⟨x,hx,h1⟩
    have:x=a:=by simpa [keyP] using h1
    rwa [← this]
  · intro h1
    exact ⟨a,h1,by simp [keyP]⟩
theorem mi_add (h:MI ls es ks ps) (hl:ls.length=N) (hus:∀ e ∈ es,usedB ls e.1 ∧ usedB ls e.2.1) (hc:ChAdd a es ls es' ls' code):MI ls' es' (chM N ks ps 1 a b).1 (chM N ks ps 1 a b).2.1:=by
  have hk:=h.k.length_eq
  unfold chM
  rw [if_pos rfl]
  obtain ⟨rfl,⟨h1,_,rfl⟩ | ⟨h1,h2,_,rfl⟩ | ⟨h1,_,v,hv,⟨h2,_⟩,rfl⟩⟩:=hc
  · rw [if_pos (h.has.2 h1)];exact h
  · rw [if_neg (fun h3=>h1 (h.has.1 h3)),if_pos (by have:=usedL_full.2 h2;omega)];exact h
  · have h3:(usedL ls).length ≠ ls.length:=fun h3=>by
      have:=usedL_full.1 h3 _ (List.getElem_mem hv)
      rw [h2] at this;cases this
    have h4:=usedL_len ls
    rw [if_neg (fun h3=>h1 (h.has.1 h3)),if_neg (by omega)]
    refine ⟨(h.k.append_right [a]).trans (usedL_add hv h2 a).symm,?_⟩
    rw [pairs_set]
    · exact h.p
    · intro e he
      obtain ⟨⟨u1,u2⟩,v1,v2⟩:=hus e he
      constructor
      · rintro rfl;rw [h2] at u2;cases u2
      · rintro rfl;rw [h2] at v2;cases v2
theorem nearK_nil {ps:List (Int × Int)} {a:Int}:nearK ps a=[] ↔ ∀ p ∈ ps,p.1 ≠ a ∧ p.2 ≠ a:=by
  unfold nearK
  rw [List.map_eq_nil_iff,List.filter_eq_nil_iff]
  constructor
  · intro h p hp
    have:=h p hp
    simpa using this
  · intro h p hp
    have:=h p hp
    simpa using this
theorem kp_ends {x y a:Int}:((kp x y).1 ≠ a ∧ (kp x y).2 ≠ a) ↔ (x ≠ a ∧ y ≠ a):=by
  unfold kp
  split <;> simp only [] <;> omega
theorem mi_near (h:MI ls es ks ps) (hr:rightE N es=true) (hok:SOK ls) (hus:∀ e ∈ es,usedB ls e.1 ∧ usedB ls e.2.1) {u:Nat} (hu:IsSlot ls a u) (hN:u < N):nearK ps a=[] ↔ outN N es u=[]:=by
  have key:nearK ps a=[] ↔ ∀ e ∈ es,e.1 ≠ u ∧ e.2.1 ≠ u:=by
    rw [nearK_nil]
    constructor
    · intro h1 e he
      have h2:=h1 (pairL ls e) (h.p.mem_iff.2 (List.mem_map_of_mem he))
      have h3:=right_edge hr he
      unfold pairL at h2
      rw [kp_ends,Ne,Ne,end_slot hok h3.1 (hus e he).1 hu,end_slot hok (by omega) (hus e he).2 hu] at h2
      exact h2
    · intro h1 p hp
      obtain ⟨e,he,rfl⟩:=List.mem_map.1 (h.p.mem_iff.1 hp)
      have h3:=right_edge hr he
      have h2:=h1 e he
      unfold pairL
      rw [kp_ends,Ne,Ne,end_slot hok h3.1 (hus e he).1 hu,end_slot hok (by omega) (hus e he).2 hu]
      exact h2
  rw [key]
  constructor
  · intro h1
    unfold outN
    split
    · unfold nearI
      rw [List.flatMap_eq_nil_iff]
      intro e he
      unfold nearOf
      have:=h1 e he
      rw [if_neg (Ne.symm this.1),if_neg (Ne.symm this.2)]
    · rfl
  · exact near_none hr hN
theorem mi_drop (h:MI ls es ks ps) (hr:rightE N es=true) (hok:SOK ls) (hus:∀ e ∈ es,usedB ls e.1 ∧ usedB ls e.2.1) {u:Nat} (hu:IsSlot ls a u) (hN:u < N) (hc:ChDrop N u es ls es' ls' code):MI ls' es' (chM N ks ps 2 a b).1 (chM N ks ps 2 a b).2.1:=by
  have h0:0 ≤ idxP (keyP a) ks:=h.has.2 ⟨u,hu⟩
  have hn:=mi_near h hr hok hus hu hN
  unfold chM
  rw [if_neg (by decide),if_neg (by omega),if_pos rfl]
  obtain ⟨rfl,⟨h1,_,rfl⟩ | ⟨h1,_,rfl⟩⟩:=hc
  · rw [if_pos (List.length_pos_iff.2 fun h2=>h1 (hn.1 h2))];exact h
  · rw [if_neg (by rw [hn.2 h1];decide)]
    obtain ⟨i,hi,hi1,hi2⟩:=idxP_at h0
    rw [hi]
    refine ⟨?_,?_⟩
    · exact perm_drop hi1 (by simpa [keyP] using hi2) (h.k.trans (usedL_rem hu))
    · rw [pairs_set]
      · exact h.p
      · intro e he
        have h2:=near_none hr hN h1 e he
        have h3:=right_edge hr he
        omega
theorem mi_none (h:MI ls es ks ps) {q:Int} (hq:q ≠ 1) (hn:(¬ ∃ i,IsSlot ls a i) ∨ (2 < q ∧ ¬ ∃ i,IsSlot ls b i)):chM N ks ps q a b=(ks,ps,7):=by
  unfold chM
  rw [if_neg hq,if_pos]
  rcases hn with hn | ⟨h2,hn⟩
  · left
    have:¬ 0 ≤ idxP (keyP a) ks:=fun h3=>hn (h.has.1 h3)
    omega
  · right
    have:¬ 0 ≤ idxP (keyP b) ks:=fun h3=>hn (h.has.1 h3)
    omega
theorem mi_found (h:MI ls es ks ps) (hr:rightE N es=true) (hok:SOK ls) (hus:∀ e ∈ es,usedB ls e.1 ∧ usedB ls e.2.1) {u v:Nat} (hu:IsSlot ls a u) (hv:IsSlot ls b v):0 ≤ idxP (pairP (kp a b)) ps ↔ 0 ≤ findI es u v 0:=by
  rw [idxP_pos,found_iff]
  constructor
  · rintro ⟨p,hp,h1⟩
    rw [pairP_iff] at h1
    obtain ⟨e,he,h2⟩:=List.mem_map.1 (h.p.mem_iff.1 hp)
    have h3:=right_edge hr he
    exact ⟨e,he,(hit_pair hok h3.1 (by omega) (hus e he) hu hv).1 (h2.trans h1)⟩
  · rintro ⟨e,he,h1⟩
    have h3:=right_edge hr he
    refine ⟨_,h.p.mem_iff.2 (List.mem_map_of_mem he),pairP_iff.2 ((hit_pair hok h3.1 (by omega) (hus e he) hu hv).2 h1)⟩
theorem mi_ins (h:MI ls es ks ps) (hr:rightE N es=true) (hok:SOK ls) (hus:∀ e ∈ es,usedB ls e.1 ∧ usedB ls e.2.1) {u v:Nat} (hu:IsSlot ls a u) (hv:IsSlot ls b v) (huN:u < N) (hvN:v < N) (hc:ChIns N u v es ls es' ls' code):MI ls' es' (chM N ks ps 3 a b).1 (chM N ks ps 3 a b).2.1:=by
  have h0:0 ≤ idxP (keyP a) ks:=h.has.2 ⟨u,hu⟩
  have h1:0 ≤ idxP (keyP b) ks:=h.has.2 ⟨v,hv⟩
  have hf:=mi_found h hr hok hus hu hv
  obtain ⟨hl,p1,p2,p3⟩:=hc
  rw [hl]
  have hab:a=b ↔ u=v:=by
    constructor
    · rintro rfl;exact slot_one hok hu hv
    · rintro rfl
      obtain ⟨_,e1⟩:=hu
      obtain ⟨_,e2⟩:=hv
      rw [e1] at e2
      injection e2
  unfold chM
  rw [if_neg (by decide),if_neg (by omega),if_neg (by decide),if_neg (by decide)]
  unfold addE at p1
  rw [hr,inN_nat huN,inN_nat hvN,if_pos (by rfl)] at p1
  by_cases huv:u=v
  · rw [if_pos (by omega)] at p1
    rw [if_pos (hab.2 huv),p2 (by rw [← p1];exact (by decide:(8:Int) ≠ 0))];exact h
  · rw [if_neg (by omega)] at p1
    rw [if_neg (fun h2=>huv (hab.1 h2))]
    by_cases hfi:0 ≤ findI es u v 0
    · rw [if_pos hfi] at p1
      rw [if_pos (hf.2 hfi),p2 (by rw [← p1];exact (by decide:(4:Int) ≠ 0))];exact h
    · rw [if_neg hfi] at p1
      rw [if_neg (fun h2=>hfi (hf.1 h2))]
      refine ⟨h.k,?_⟩
      simp only []
      rw [pairs_same (p3 p1.symm).1]
      have e0:pairL ls (edgeE u v 0)=kp a b:=by
        unfold pairL edgeE
        split
        · simp only [Int.toNat_natCast];rw [(slot_key hu).1,(slot_key hv).1]
        · simp only [Int.toNat_natCast];rw [(slot_key hu).1,(slot_key hv).1,kp_comm]
      have h2:=(insE_perm es (edgeE u v 0)).map (pairL ls)
      rw [List.map_cons,e0] at h2
      exact ((h.p.append_right [kp a b]).trans (List.perm_append_comm (l₂:=[kp a b]))).trans h2.symm
theorem mi_del (h:MI ls es ks ps) (hr:rightE N es=true) (hok:SOK ls) (hus:∀ e ∈ es,usedB ls e.1 ∧ usedB ls e.2.1) {u v:Nat} (hu:IsSlot ls a u) (hv:IsSlot ls b v) (huN:u < N) (hvN:v < N) (hc:ChDel N u v es ls es' ls' code):MI ls' es' (chM N ks ps 4 a b).1 (chM N ks ps 4 a b).2.1:=by
  have h0:0 ≤ idxP (keyP a) ks:=h.has.2 ⟨u,hu⟩
  have h1:0 ≤ idxP (keyP b) ks:=h.has.2 ⟨v,hv⟩
  have hf:=mi_found h hr hok hus hu hv
  unfold chM
  rw [if_neg (by decide),if_neg (by omega),if_neg (by decide),if_pos rfl]
  obtain ⟨hl,hd⟩:=hc
  rw [hl]
  rcases hd with ⟨huv,_,rfl⟩ | ⟨huv,p1,p2,p3⟩
  · rw [if_pos]
    · exact h
    · have:¬ 0 ≤ findI es' u v 0:=by
        rw [found_iff]
        rintro ⟨e,he,h2⟩
        have:=right_edge hr he
        rw [hitE_iff] at h2
        omega
      have:¬ 0 ≤ idxP (pairP (kp a b)) ps:=fun h2=>this (hf.1 h2)
      omega
  · unfold remE at p1
    rw [hr,inN_nat huN,inN_nat hvN,if_pos (by rfl)] at p1
    by_cases hfi:0 ≤ findI es u v 0
    · rw [if_pos hfi] at p1
      have h2:=hf.2 hfi
      rw [if_neg (by omega)]
      obtain ⟨i,hi,hi1,hi2⟩:=idxP_at h2
      rw [hi]
      refine ⟨h.k,?_⟩
      simp only [Int.toNat_natCast]
      rw [pairs_same (p3 p1.symm)]
      obtain ⟨j,_,hj,hj1,hj2,_⟩:=find_spec es u v 0 (Int.le_refl _) hfi
      have h3:=right_edge hr (List.getElem_mem hj)
      have e0:pairL ls es[j]=kp a b:=(hit_pair hok h3.1 (by omega) (hus _ (List.getElem_mem hj)) hu hv).2 hj1
      refine perm_drop hi1 (pairP_iff.1 hi2) (h.p.trans ?_)
      have e:es=es.take j ++ es[j] :: es.drop (j + 1):=by rw [← List.drop_eq_getElem_cons hj,List.take_append_drop]
      have h4:es.Perm (es[j] :: delE es u v):=by
        rw [hj2]
        conv=>lhs;rw [e]
        exact List.perm_middle
      have h5:=h4.map (pairL ls)
      rw [List.map_cons,e0] at h5
      exact h5
    · rw [if_neg hfi] at p1
      have h2:¬ 0 ≤ idxP (pairP (kp a b)) ps:=fun h2=>hfi (hf.1 h2)
      rw [if_pos (by omega),p2 (by rw [← p1];exact (by decide:(9:Int) ≠ 0))];exact h
end
end Go.Proofs.YtppblcbgkadldaaGreatDoor
namespace Go.Proofs.YtppblcbgkadldaaGreatDoor
open Go Go.RowKit
set_option maxRecDepth 100000
attribute [local go_sem] Heavy heavyUpon
theorem pair2_info:(Tryz.prog.info? 51).map (fun i=>(i.zero,i.size,i.bytes))=some (some (.agg #[.int .u64 0,.int .u64 0]),2,16):=by kernel_rfl
theorem p1_new (w:World) (a b:Int):Sl (w.alloc (.cells #[.int .u64 a,.int .u64 b] 51)) [] 2 (some ⟨w.heap.size,0,none⟩) 1 1 (hcells [(a,b)]):=
  Sl.of_blk (Blk.new w 51 #[.int .u64 a,.int .u64 b]) rfl (fun x hx=>by match x,hx with | 0,_ | 1,_=>rfl) (by simp) (by unfold maxLen;omega)
theorem hcells_app (a b:List (Int × Int)):hcells (a ++ b)=hcells a ++ hcells b:=by simp [hcells]
theorem kp_min (a b:Int):(min a b,max a b)=kp a b:=by
  unfold kp
  split
  · rw [show min a b=b by omega,show max a b=a by omega]
  · rw [show min a b=a by omega,show max a b=b by omega]
theorem acyc_len {n:Nat} {l:Ends} (h:acyc n l):l.length ≤ n:=by unfold acyc at h;omega
theorem map_step {α β:Type} (f:α → β) (l:List α) {k:Nat} (h:k < l.length):(l.take (k + 1)).map f=(l.take k).map f ++ [f l[k]]:=by
  rw [List.take_succ_eq_append_getElem h,List.map_append];rfl
section
variable {w w':World} {N L R:Nat} {hs:List (Int × Int)} {es:List E3} {ls:List S2} {H:Option Addr} {hc:Nat} {E:Option Addr} {m c:Nat} {S:Option Addr} {d:Nat}
def RetPs (Kb:List Nat) (l:List (Int × Int)) (w:World) (e:Ending) (w':World):Prop:=∃ A k l',e=.returned (.slice A l'.length k) ∧ Sl w' Kb 2 A l'.length k (hcells l') ∧ l'.Perm l ∧ Below w.heap.size w w'
set_option maxHeartbeats 6400000 in
theorem iforest_ok (Kb:List Nat) (w:World) (hS:SM w N L R hs es ls H hc E m c S d) (hKb:∀ k ∈ Kb,k < w.heap.size) :
    Calls Tryz.prog 49 #[sV N L R H hc E m c S d] w (RetPs Kb ((forestE es L).map (pairL ls)) w):=by
  obtain ⟨ie,hie,hze,he1,he2⟩:=info_parts pair2_info
  have hml:=hS.g.m_le
  have hNN:=hS.g.n2
  have QF:=hide (fun W (h:SM W N L R hs es ls H hc E m c S d)=>forest_ok es (N:Int) (L:Int) [] E m c W h.g.em (by omega))
  have HOE:=hide (show outF (N:Int) es (L:Int)=forestE es L by unfold outF;rw [if_pos hS.g.ge.right])
  have HFL:=hide (show (forestE es L).length ≤ N by have:=acyc_len hS.g.ge.acyc;unfold forN endsE at this;rwa [List.length_map] at this)
  have HFM:=hide (show ∀ e ∈ forestE es L,(0 ≤ e.1 ∧ 0 ≤ e.2.1) ∧ usedB ls e.1 ∧ usedB ls e.2.1 from fun e he=>by
    have h1:=(List.mem_filter.1 he).1
    have h2:=right_edge hS.g.ge.right h1
    exact ⟨⟨h2.1,by omega⟩,hS.used e h1⟩)
  have B0:=(Blk.new w 33 #[.int .i64 N,.int .i64 L,.int .i64 R,.slice H (L * R) hc,.slice E m c,.slice S N d]).alloc (.cells #[.int .i64 N,.int .i64 L,.int .i64 R] 23)
  have C0:=Blk.new (w.alloc (.cells #[.int .i64 N,.int .i64 L,.int .i64 R,.slice H (L * R) hc,.slice E m c,.slice S N d] 33)) 23 #[.int .i64 N,.int .i64 L,.int .i64 R]
  rw [heap_alloc_size] at C0
  have hb0:=((Below.refl w.heap.size w).alloc (Nat.le_refl _) (.cells #[.int .i64 N,.int .i64 L,.int .i64 R,.slice H (L * R) hc,.slice E m c,.slice S N d] 33)).alloc (by simp) (.cells #[.int .i64 N,.int .i64 L,.int .i64 R] 23)
  have HS0:=hide ((hS.alloc (.cells #[.int .i64 N,.int .i64 L,.int .i64 R,.slice H (L * R) hc,.slice E m c,.slice S N d] 33)).alloc (.cells #[.int .i64 N,.int .i64 L,.int .i64 R] 23))
  have HSL:=hide (SSl.length hS.s)
  rw [HOE.out] at QF
  generalize forestE es L=F at *
  have HKB:=hide hKb
  unfold sV
  generalize L * R=K at *
  clear hS hKb
  go_enter Tryz.func49,Tryz.ntmps49
  go_wp2_with (fail)
  generalize (w.alloc (.cells #[.int .i64 N,.int .i64 L,.int .i64 R,.slice H K hc,.slice E m c,.slice S N d] 33)).alloc (.cells #[.int .i64 N,.int .i64 L,.int .i64 R] 23)=W0 at *
  (obtain ⟨x0,x1,x2,x3,x4,x5,e0,s0⟩:=(B0).f6)
  obtain ⟨r1,e1,s1⟩:=C0.facts
  have y0:W0.cell? ⟨w.heap.size + 1,0,none⟩=some (.int .i64 N):=r1 0
  have y1:W0.cell? ⟨w.heap.size + 1,1,none⟩=some (.int .i64 L):=r1 1
  clear r1
  go_wp2_with (fail)
  refine (QF.out _ HS0.out).mono ?_
  rintro e w1 ⟨A1,d1,rfl,S1,b1⟩
  have hb1:=hb0.trans (b1.mono hb0.size)
  have HS1:=hide (HS0.out.below b1)
  have HB1:=hide (B0.below b1 B0.lt)
  have HF1:=hide S1
  have HFN:=hide (ESl.length S1)
  have O0:=hide (World.ownsRow_nil w1 w1.heap.size 51 2)
  have hz1:=hide hb1.size
  clear x0 x1 x2 x3 x4 x5 y0 y1 e0 s0 e1 s1 b1 B0 C0 HS0 hb0 S1
  go_wp2_with (fail)
  go_loopw [4,21] (fun a i wr=>∃ (k y:Nat) (Ao:Option Addr) (co:Nat),k ≤ F.length ∧ i=.int .i64 k ∧ a=.slice Ao y co ∧ Hid (y=k) ∧ Below w.heap.size w wr ∧ Hid (Below w1.heap.size w1 wr) ∧ Hid (wr.ownsRow w1.heap.size 51 2 (.slice Ao y co) y (hcells ((F.take k).map (pairL ls))))) (fun _ i _=>F.length - (intOf i).toNat)
  case atStart=>exact ⟨0,0,none,0,Nat.zero_le _,rfl,rfl,hide rfl,hb1,hide (Below.refl _ _),O0⟩
  case round =>
    clear O0 hb1
    obtain ⟨k,y,Ao,co,hk,rfl,rfl,HY,hbr,HBB,HO⟩:=hrel
    have hfl:=HFL.out
    by_cases hlt:k < F.length
    · have HSr:=HS1.out.below HBB.out
      obtain ⟨ad,rfl,had,_,c0,c1,c2⟩:=ESl.get (show ESl _ [] _ _ _ _ from Sl.below HF1.out HBB.out) hlt
      have HK:=hide (map_step (pairL ls) F hlt)
      obtain ⟨⟨h0,h1⟩,hp,hq⟩:=HFM.out _ (List.getElem_mem hlt)
      generalize F[k]=h at *
      obtain ⟨p,q,t⟩:=h
      simp only [] at c0 c1 c2 h0 h1 hp hq
      obtain ⟨p,rfl⟩:=Int.eq_ofNat_of_zero_le h0
      obtain ⟨q,rfl⟩:=Int.eq_ofNat_of_zero_le h1
      obtain ⟨hp,_⟩:=hp
      obtain ⟨hq,_⟩:=hq
      simp only [Int.toNat_natCast] at hp hq
      obtain ⟨a2,rfl,ha2,_,d0⟩:=SSl.get HSr.s hp
      obtain ⟨a3,ea3,ha3,_,d1⟩:=SSl.get HSr.s hq
      injection ea3 with ea3
      subst ea3
      have hpN:p < N:=by have:=HSL.out;omega
      have hqN:q < N:=by have:=HSL.out;omega
      have kp1:keyN ls p=ls[p].2:=by simp [keyN,List.getD_eq_getElem?_getD,List.getElem?_eq_getElem hp]
      have kq1:keyN ls q=ls[q].2:=by simp [keyN,List.getD_eq_getElem?_getD,List.getElem?_eq_getElem hq]
      rw [← kp1] at d0
      rw [← kq1] at d1
      have HPQ:=hide (show pairL ls ((p:Int),(q:Int),t)=kp (keyN ls p) (keyN ls q) by unfold pairL;simp only [Int.toNat_natCast])
      clear kp1 kq1
      generalize keyN ls p=a at *
      generalize keyN ls q=b at *
      have BR:=(HB1.out.below HBB.out HB1.out.lt).alloc (.cells #[.int .i64 p,.int .i64 q,.int .i64 t] 104)
      have BE:=Blk.new wr 104 #[.int .i64 p,.int .i64 q,.int .i64 t]
      have szr:=hbr.size
      have HB2:=hide (HBB.out.alloc HBB.out.size (.cells #[.int .i64 p,.int .i64 q,.int .i64 t] 104))
      have hb2:=hbr.alloc hbr.size (.cells #[.int .i64 p,.int .i64 q,.int .i64 t] 104)
      have HO2:=hide (HO.out.alloc (.cells #[.int .i64 p,.int .i64 q,.int .i64 t] 104))
      have hwp:(a2.add (p * 2)).block < wr.heap.size:=by rw [block_of_add];exact ha2
      have hwq:(a2.add (q * 2)).block < wr.heap.size:=by rw [block_of_add];exact ha2
      have f0:(wr.alloc (.cells #[.int .i64 p,.int .i64 q,.int .i64 t] 104)).cell? ⟨(a2.add (p * 2)).block,(a2.add (p * 2)).off + 1,none⟩=some (.int .u64 a):=(World.cell?_of_block (a:=⟨(a2.add (p * 2)).block,(a2.add (p * 2)).off + 1,none⟩) (Below.heap_alloc wr (.cells #[.int .i64 p,.int .i64 q,.int .i64 t] 104) _ hwp)).trans d0
      have f1:(wr.alloc (.cells #[.int .i64 p,.int .i64 q,.int .i64 t] 104)).cell? ⟨(a2.add (q * 2)).block,(a2.add (q * 2)).off + 1,none⟩=some (.int .u64 b):=(World.cell?_of_block (a:=⟨(a2.add (q * 2)).block,(a2.add (q * 2)).off + 1,none⟩) (Below.heap_alloc wr (.cells #[.int .i64 p,.int .i64 q,.int .i64 t] 104) _ hwq)).trans d1
      have szb:(wr.alloc (.cells #[.int .i64 p,.int .i64 q,.int .i64 t] 104)).heap.size=wr.heap.size + 1:=heap_alloc_size _ _
      clear HSr d0 d1 HO
      go_wp2_with (fail)
      generalize wr.alloc (.cells #[.int .i64 p,.int .i64 q,.int .i64 t] 104)=w5 at *
      have hwp5:(a2.add (p * 2)).block < w5.heap.size:=by omega
      have hwq5:(a2.add (q * 2)).block < w5.heap.size:=by omega
      (obtain ⟨x0,x1,x2,x3,x4,x5,e0,s0⟩:=(BR).f6)
      have sb5:wr.heap.size < w5.heap.size:=by omega
      have sb0:w.heap.size < w5.heap.size:=by omega
      clear szb szr
      obtain ⟨r1,e1,s1⟩:=BE.facts
      have y0:w5.cell? ⟨wr.heap.size,0,none⟩=some (.int .i64 p):=r1 0
      have y1:w5.cell? ⟨wr.heap.size,1,none⟩=some (.int .i64 q):=r1 1
      clear r1
      refine wp_region_lexD [] (fun w'=>Below (w5).heap.size (w5) w') (by kernel_rfl) (by kernel_rfl) (Below.refl _ _).drew ?_
      (repeat ((with_reducible refine wpLex_step (fun K hK=>?_));go_simp;first | ((with_reducible refine hK _ _ ?_);clear hK K) | ((with_reducible apply Exists.intro);refine ⟨fun w' hw'=>?_,hK _ _ ?_⟩;(· (have hq:=bcells hw';apply valEq;(· (go_simp;first | done | (with_reducible rfl)));(· ((try go_bits);with_reducible rfl))));clear hK K)))
      refine wpLex_nil (fun g3=>?_)
      clear x0 x1 x2 x3 x4 x5 y0 y1 f0 f1 BR BE
      have O6:=hide (show ((w5.alloc (.cells #[.int .u64 (min a b),.int .u64 (max a b)] 51)).drew).ownsRow w1.heap.size 51 2 (.slice Ao y co) y (hcells ((F.take k).map (pairL ls))) from HO2.out.alloc (.cells #[.int .u64 (min a b),.int .u64 (max a b)] 51))
      have N6:=hide (show Sl (w5.alloc (.cells #[.int .u64 (min a b),.int .u64 (max a b)] 51)).drew [] 2 (some ⟨w5.heap.size,0,none⟩) 1 1 (hcells [(min a b,max a b)]) from Sl.drew (p1_new w5 (min a b) (max a b)))
      have hb6:=hide (hb2.alloc hb2.size (.cells #[.int .u64 (min a b),.int .u64 (max a b)] 51)).drew
      have HB6:=hide (HB2.out.alloc HB2.out.size (.cells #[.int .u64 (min a b),.int .u64 (max a b)] 51)).drew
      have HFK:=hide (show (F.take (k + 1)).map (pairL ls)=(F.take k).map (pairL ls) ++ [(min a b,max a b)] by rw [HK.out,HPQ.out,kp_min])
      clear HB2 hb2 HO2 HK HPQ
      (go_wp2_with (at_builtin;refine stopAt ?_);refine stopGo ?_)
      generalize (w5.alloc (.cells #[.int .u64 (min a b),.int .u64 (max a b)] 51)).drew=w6 at *
      refine wpList_append_sl _ rfl (.tmp 39) (.tmp 47) _ rfl w1.heap.size 51 ie _ 2 16 Tryz.underlying40 hie hze he1 he2 rfl (by omega) (.slice Ao y co) y _ rfl O6.out [] _ 1 1 _ rfl N6.out hcells_one (by simp only [maxLen];have:=HY.out;have:=HFL.out;omega) (by have:=HY.out;have:=HFL.out;omega) HB6.out.size ?_
      intro A5 c5 w7 own7 g7 _
      have hg7:=below_grown O6.out g7 (Nat.le_refl _) HB6.out.size
      have HB7:=hide (HB6.out.trans hg7)
      have hb7:=hb6.out.trans (hg7.mono hz1.out)
      rw [← hcells_app,← HFK.out] at own7
      have OW7:=hide own7
      have HY7:=hide (show y + 1=k + 1 by rw [HY.out])
      clear own7 g7 hg7 O6 N6 hb6 HB6 HFK
      go_wp2_with (fail)
      exact ⟨⟨k + 1,y + 1,A5,c5,by omega,by go_num,rfl,HY7,hb7,HB7,OW7⟩,by simp [intOf];omega⟩
    · obtain rfl:k=F.length:=by omega
      rw [List.take_length] at HO
      have HYF:=hide (show y ≤ 12 by have h1:=HY.out;have h2:=HFL.out;omega)
      have HLN:=hide (show (F.map (pairL ls)).length=y by rw [List.length_map];exact HY.out.symm)
      generalize F.map (pairL ls)=PL at *
      by_cases hy:y=0
      · subst hy
        have HE:=hide (List.eq_nil_of_length_eq_zero HLN.out)
        have HNIL:=hide (fun W=>sortp_nil Ao co W)
        unfold cmpP at HNIL
        go_wp2_with (fail)
        refine (HNIL.out _).mono ?_
        rintro e w9 ⟨rfl,rfl⟩
        go_wp2_with (fail)
        go_ret
        rw [HE.out]
        exact ⟨Ao,co,[],rfl,own_sl (by have:=HO.out;rw [HE.out] at this;exact this) Kb (fun k hk=>Nat.lt_of_lt_of_le (HKB.out k hk) hz1.out),List.Perm.refl _,hbr⟩
      · obtain ⟨g,cap,hv2,hg1,hg2⟩:=HO.out.form (by omega)
        injection hv2 with hv1 hv2 hv3
        subst hv1 hv3
        have HU:=hide (show PRow wr w1.heap.size g y co PL from ⟨HO.out,HLN.out⟩)
        have HSO:=hide (fun W (h:PRow W w1.heap.size g y co PL) (h2:g < W.heap.size)=>sort_p w1.heap.size g y co PL W h hg1 h2 HYF.out)
        unfold cmpP at HSO
        clear HO
        go_wp2_with (fail)
        refine (HSO.out _ HU.out hg2).mono ?_
        rintro e w9 ⟨l',rfl,U9,P9,b9⟩
        have hb9:=hbr.trans (b9.mono hz1.out)
        have HU9:=hide U9
        have HP9:=hide P9
        clear U9 P9 b9
        go_wp2_with (fail)
        go_ret
        exact ⟨some ⟨g,0,none⟩,co,l',by rw [HU9.out.2];rfl,by rw [HU9.out.2];exact own_sl HU9.out.1 Kb (fun k hk=>Nat.lt_of_lt_of_le (HKB.out k hk) hz1.out),HP9.out,hb9⟩
end
end Go.Proofs.YtppblcbgkadldaaGreatDoor
namespace Go.Proofs.YtppblcbgkadldaaGreatDoor
open Go Go.RowKit
set_option maxRecDepth 100000
attribute [local go_sem] Heavy heavyUpon
section
variable {w w':World} {N L R:Nat} {hs:List (Int × Int)} {es:List E3} {H:Option Addr} {hc:Nat} {E:Option Addr} {m c:Nat}
set_option maxHeartbeats 3200000 in
theorem so_ok (w:World) (hG:GM w N L R hs es H hc E m c) :
    Calls Tryz.prog 84 #[gV N L R H hc E m c] w fun e w'=>∃ A,e=.returned (.slice A N N) ∧ Sl w' [] 1 A N N (ints .i64 (natL (partN N (endsE es)))) ∧ Below w.heap.size w w':=by
  have hml:=hG.m_le
  have n2:=hG.n2
  have QR:=hide (fun W (h:GM W N L R hs es H hc E m c)=>sright_ok W h)
  have QO:=hide (fun W (h:GM W N L R hs es H hc E m c)=>of_ok es N (by omega) hG.ends [] E m c W h.em (by omega))
  have B0:=Blk.new w 30 #[.int .i64 N,.int .i64 L,.int .i64 R,.slice H (L * R) hc,.slice E m c]
  have hb0:=(Below.refl w.heap.size w).alloc (Nat.le_refl _) (.cells #[.int .i64 N,.int .i64 L,.int .i64 R,.slice H (L * R) hc,.slice E m c] 30)
  have HG0:=hide (hG.alloc (.cells #[.int .i64 N,.int .i64 L,.int .i64 R,.slice H (L * R) hc,.slice E m c] 30))
  unfold gV at QR
  unfold gV
  generalize partN N (endsE es)=PT at *
  generalize L * R=K at *
  clear hG
  go_enter Tryz.func84,Tryz.ntmps84
  go_wp2_with (fail)
  generalize w.alloc (.cells #[.int .i64 N,.int .i64 L,.int .i64 R,.slice H K hc,.slice E m c] 30)=W0 at *
  refine (QR.out _ HG0.out).mono ?_
  rintro e w1 ⟨rfl,b1⟩
  have hb1:=hb0.trans (b1.mono hb0.size)
  have HG1:=hide (HG0.out.below b1)
  have B1:=B0.below b1 B0.lt
  clear b1 B0 HG0 hb0
  (obtain ⟨x0,x1,x2,x3,x4,e0,s0⟩:=(B1).f5)
  go_wp2_with (fail)
  refine (QO.out _ HG1.out).mono ?_
  rintro e w2 ⟨A2,rfl,S2,b2⟩
  have hb9:=hb1.trans (b2.mono hb1.size)
  have HS2:=hide S2
  clear S2
  go_wp2_with (fail)
  go_ret
  exact ⟨_,rfl,HS2.out,hb9⟩
end
end Go.Proofs.YtppblcbgkadldaaGreatDoor
