/-
  A part of the proof that the law TopForest returns true for every input and leaves its arguments as they were: Part1, PN, Part2, Root, Tab.
-/
import Derived.Test.YtppblcbgkadldaaGreatDoorZ06
import Derived.Test.YtppblcbgkadldaaGreatDoorZ07
set_option linter.all false
namespace Go.Proofs.YtppblcbgkadldaaGreatDoor
open Go Go.RowKit
set_option maxRecDepth 100000
attribute [local go_sem] Heavy heavyUpon
def classN (p:List Nat) (v k:Nat):List Nat:=(List.range k).filter fun x=>p.getD x 0 == p.getD v 0
theorem classN_step (p:List Nat) (v:Nat) {k:Nat} (h:k < p.length) (hv:v < p.length):classN p v (k + 1)=classN p v k ++ (if p[k]=p[v] then [k] else []):=by
  unfold classN
  rw [List.range_succ,List.filter_append]
  simp only [List.filter_cons,List.filter_nil,List.getD_eq_getElem?_getD,List.getElem?_eq_getElem h,List.getElem?_eq_getElem hv,Option.getD_some,beq_iff_eq]
theorem classN_le (p:List Nat) (v k:Nat):(classN p v k).length ≤ k:=by
  have:=List.length_filter_le (fun x=>p.getD x 0 == p.getD v 0) (List.range k)
  rwa [List.length_range] at this
set_option maxHeartbeats 3200000 in
theorem pclass_ok (p:List Nat) (hp:PR p) (v:Nat) (A:Option Addr) (m c:Nat) (w:World) (hS:Sl w [] 1 A m c (ints .i64 (natL p))) (hv:v < m) (hm:m ≤ 4096) :
    Calls Tryz.prog 47 #[.slice A m c,.int .i64 v] w fun e w'=>∃ R d,e=.returned (.slice R (classN p v m).length d) ∧ Sl w' [] 1 R (classN p v m).length d (ints .i64 (natL (classN p v m))) ∧ Below w.heap.size w w':=by
  obtain ⟨ie,hie,hze,he1,he2⟩:=info_parts int_info
  have HL:=hide (show p.length=m by have:=hS.len;simpa [natL] using this)
  have QR:=hide (fun W h=>pright_yes p hp [] A m c W h)
  have HLE:=hide (classN_le p v)
  have HST:=hide (fun k (h:k < p.length)=>classN_step p v h (by rw [HL.out];exact hv))
  have hvi:(v:Int) < (m:Int):=by omega
  clear hp
  go_enter Tryz.func47,Tryz.ntmps47
  go_wp2_with (fail)
  refine (QR.out w hS).mono ?_
  rintro e w1 ⟨rfl,b1⟩
  go_wp2_with (fail)
  refine (place_yes (m:Int) (v:Int) (by omega) hvi w1).mono ?_
  rintro e w2 ⟨rfl,b2⟩
  have hb2:=b1.trans (b2.mono b1.size)
  have O0:=hide (World.ownsRow_nil w2 w.heap.size 3 1)
  clear b1 b2
  go_wp2_with (fail)
  go_loopw [5,20] (fun a i wr=>∃ (k y:Nat) (Ao:Option Addr) (co:Nat),k ≤ m ∧ i=.int .i64 k ∧ a=.slice Ao y co ∧ Hid (y=(classN p v k).length) ∧ Below w.heap.size w wr ∧ Hid (wr.ownsRow w.heap.size 3 1 (.slice Ao y co) y (ints .i64 (natL (classN p v k))))) (fun _ i _=>m - (intOf i).toNat)
  case atStart=>exact ⟨0,0,none,0,Nat.zero_le _,rfl,rfl,hide rfl,hb2,O0⟩
  case round =>
    clear O0
    obtain ⟨k,y,Ao,co,hk,rfl,rfl,HY,hbr,HO⟩:=hrel
    have hSr:=hS.below hbr
    by_cases hlt:k < m
    · obtain ⟨ad,rfl,had,_,hc⟩:=hSr.at_ (by omega)
      have hx:k < p.length:=by have:=HL.out;omega
      have hvl:v < p.length:=by have:=HL.out;omega
      have c0:=hc _ _ (natL_get hx)
      have c1:=hc _ _ (natL_get hvl)
      have HK:=hide (HST.out k hx)
      have hyl:y ≤ k:=by have:=HY.out;have:=HLE.out k;omega
      clear hc
      generalize p[k]=a at *
      generalize p[v]=b at *
      by_cases hab:a=b
      · subst hab
        have HF:=hide (show classN p v (k + 1)=classN p v k ++ [k] by rw [HK.out,if_pos rfl])
        have hd:((a:Int) == (a:Int))=true:=by simp
        clear HK
        generalize hRV:Value.slice Ao y co=RV at *
        ((go_wp2_with (at_builtin;refine stopAt ?_);refine stopGo ?_);have N2:Sl ((wr).alloc (.cells #[.int .i64 (k:Int)] 3)) [] 1 (some ⟨(wr).heap.size,0,none⟩) 1 1 (ints .i64 [(k:Int)]):=i1_new (wr) (k:Int);have O2:=(HO.out).alloc (.cells #[.int .i64 (k:Int)] 3);have hb2:=(hbr).alloc (hbr).size (.cells #[.int .i64 (k:Int)] 3);have szl:=hb2.size;(try rw [heap_alloc_size] at N2);refine wpList_append_sl _ rfl (.tmp 31) (.tmp 33) _ rfl w.heap.size 3 ie _ 1 8 Tryz.underlying113 hie hze he1 he2 rfl (by omega) RV _ _ rfl O2 [] _ 1 1 (ints .i64 [(k:Int)]) rfl N2 ints_one (by simp only [maxLen];omega) (by omega) (by first | omega | (simp;done) | (simp;omega)) ?_;intro A5 c5 w5 own5 g5 _;rw [← ints_append] at own5)
        have hg5:=below_grown O2 g5 (Nat.le_refl _) (by first | omega | (simp;omega))
        have hb5:=hb2.trans hg5
        have e1:natL (classN p v k) ++ [(k:Int)]=natL (classN p v (k + 1)):=by rw [HF.out];simp [natL]
        rw [e1] at own5
        have OW5:=hide own5
        have HY5:=hide (show y + 1=(classN p v (k + 1)).length by rw [HF.out,List.length_append,HY.out];rfl)
        clear own5 g5 hg5 O2 N2 c0 c1 e1
        go_wp2_with (fail)
        exact ⟨⟨k + 1,y + 1,A5,c5,by omega,by go_num,rfl,HY5,hb5,OW5⟩,by simp [intOf];omega⟩
      · have HF:=hide (show classN p v (k + 1)=classN p v k by rw [HK.out,if_neg hab,List.append_nil])
        have hd:((a:Int) == (b:Int))=false:=by rw [beq_eq_false_iff_ne];omega
        clear HK hab
        go_wp2_with (fail)
        exact ⟨⟨k + 1,y,Ao,co,by omega,by go_num,rfl,hide (by rw [HF.out];exact HY.out),hbr,hide (by rw [HF.out];exact HO.out)⟩,by simp [intOf];omega⟩
    · obtain rfl:k=m:=by omega
      have N:=own_sl HO.out [] (by simp)
      have hy:=HY.out
      clear HO HY
      go_wp2_with (fail)
      refine bodyPost_ret (v:=.slice Ao y co) (by simp [results,Tryz.results47,go_sem]) rfl ⟨Ao,co,by rw [hy],by rw [← hy];exact N,hbr⟩
end Go.Proofs.YtppblcbgkadldaaGreatDoor
namespace Go.Proofs.YtppblcbgkadldaaGreatDoor
abbrev Ends:=List (Nat × Nat)
inductive Conn (l:Ends):Nat → Nat → Prop
  | refl (x:Nat):Conn l x x
  | step {x y z:Nat}:Conn l x y → ((y,z) ∈ l ∨ (z,y) ∈ l) → Conn l x z
section
variable {l l':Ends} {x y z a b:Nat}
theorem Conn.trans (h1:Conn l x y) (h2:Conn l y z):Conn l x z:=by
  induction h2 with
  | refl=>exact h1
  | step _ h ih=>exact .step ih h
theorem Conn.edge (h:(x,y) ∈ l):Conn l x y:=.step (.refl x) (.inl h)
theorem Conn.edge' (h:(x,y) ∈ l):Conn l y x:=.step (.refl y) (.inr h)
theorem Conn.symm (h:Conn l x y):Conn l y x:=by
  induction h with
  | refl=>exact .refl _
  | step _ h ih=>exact Conn.trans (.step (.refl _) h.symm) ih
theorem Conn.mono (h:Conn l x y) (hl:∀ e ∈ l,e ∈ l'):Conn l' x y:=by
  induction h with
  | refl=>exact .refl _
  | step _ h ih=>exact .step ih (h.imp (hl _) (hl _))
theorem Conn.nil_iff:Conn [] x y ↔ x=y:=by
  constructor
  · intro h
    cases h with
    | refl=>rfl
    | step _ h=>simp at h
  · rintro rfl;exact .refl _
theorem Conn.snoc_iff:Conn (l ++ [(a,b)]) x y ↔ Conn l x y ∨ (Conn l x a ∧ Conn l b y) ∨ (Conn l x b ∧ Conn l a y):=by
  constructor
  · intro h
    induction h with
    | refl=>exact .inl (.refl _)
    | step _ h ih =>
      have key:∀ {y z:Nat},((y,z) ∈ l ∨ (z,y) ∈ l) → (Conn l x y ∨ (Conn l x a ∧ Conn l b y) ∨ (Conn l x b ∧ Conn l a y)) → (Conn l x z ∨ (Conn l x a ∧ Conn l b z) ∨ (Conn l x b ∧ Conn l a z)):=by
        intro y z h ih
        rcases ih with ih | ⟨i1,i2⟩ | ⟨i1,i2⟩
        · exact .inl (.step ih h)
        · exact .inr (.inl ⟨i1,.step i2 h⟩)
        · exact .inr (.inr ⟨i1,.step i2 h⟩)
      simp only [List.mem_append,List.mem_singleton,Prod.mk.injEq] at h
      rcases h with (h | ⟨rfl,rfl⟩) | (h | ⟨rfl,rfl⟩)
      · exact key (.inl h) ih
      · rcases ih with ih | ⟨i1,i2⟩ | ⟨i1,i2⟩
        · exact .inr (.inl ⟨ih,.refl _⟩)
        · exact .inr (.inl ⟨i1,.refl _⟩)
        · exact .inl i1
      · exact key (.inr h) ih
      · rcases ih with ih | ⟨i1,i2⟩ | ⟨i1,i2⟩
        · exact .inr (.inr ⟨ih,.refl _⟩)
        · exact .inl i1
        · exact .inr (.inr ⟨i1,.refl _⟩)
  · intro h
    have hm:∀ e ∈ l,e ∈ l ++ [(a,b)]:=fun e he=>List.mem_append_left _ he
    have he:(a,b) ∈ l ++ [(a,b)]:=by simp
    rcases h with h | ⟨h1,h2⟩ | ⟨h1,h2⟩
    · exact h.mono hm
    · exact ((h1.mono hm).trans (.edge he)).trans (h2.mono hm)
    · exact ((h1.mono hm).trans (.edge' he)).trans (h2.mono hm)
theorem Conn.perm (hp:l.Perm l'):Conn l x y ↔ Conn l' x y:=
  ⟨fun h=>h.mono fun _ he=>hp.mem_iff.1 he,fun h=>h.mono fun _ he=>hp.mem_iff.2 he⟩
end
def joinN (p:List Nat) (a b:Nat):List Nat:=p.map fun x=>if x=max (p.getD a 0) (p.getD b 0) then min (p.getD a 0) (p.getD b 0) else x
def partN (n:Nat) (l:Ends):List Nat:=l.foldl (fun p e=>joinN p e.1 e.2) (List.range n)
theorem joinN_len (p:List Nat) (a b:Nat):(joinN p a b).length=p.length:=by simp [joinN]
theorem joinN_get (p:List Nat) (a b:Nat) {v:Nat} (h:v < p.length):(joinN p a b).getD v 0=if p.getD v 0=max (p.getD a 0) (p.getD b 0) then min (p.getD a 0) (p.getD b 0) else p.getD v 0:=by
  simp only [joinN,List.getD_eq_getElem?_getD,List.getElem?_map,List.getElem?_eq_getElem h,Option.map_some,Option.getD_some]
theorem pr_iff {p:List Nat}:PR p ↔ ∀ v,v < p.length → p.getD v 0 ≤ v ∧ p.getD (p.getD v 0) 0=p.getD v 0:=by
  unfold PR
  constructor
  · intro h v hv
    have:=h v hv
    rw [show p.getD v 0=p[v] by simp [hv]]
    exact this
  · intro h v hv
    have:=h v hv
    rw [show p.getD v 0=p[v] by simp [hv]] at this
    exact this
structure PS (n:Nat) (l:Ends) (p:List Nat):Prop where
  len:p.length=n
  pr:PR p
  conn:∀ u v,u < n → v < n → (p.getD u 0=p.getD v 0 ↔ Conn l u v)
theorem PS.le {n:Nat} {l:Ends} {p:List Nat} (h:PS n l p) {v:Nat} (hv:v < n):p.getD v 0 ≤ v:=(pr_iff.1 h.pr v (by rw [h.len];exact hv)).1
theorem PS.idem {n:Nat} {l:Ends} {p:List Nat} (h:PS n l p) {v:Nat} (hv:v < n):p.getD (p.getD v 0) 0=p.getD v 0:=(pr_iff.1 h.pr v (by rw [h.len];exact hv)).2
theorem PS.range (n:Nat):PS n [] (List.range n):=by
  have hg:∀ v,v < n → (List.range n).getD v 0=v:=fun v hv=>by simp [hv]
  refine ⟨by simp,pr_iff.2 fun v hv=>?_,fun u v hu hv=>?_⟩
  · rw [List.length_range] at hv
    rw [hg v hv,hg v hv];omega
  · rw [hg u hu,hg v hv,Conn.nil_iff]
theorem PS.snoc {n:Nat} {l:Ends} {p:List Nat} {a b:Nat} (h:PS n l p) (ha:a < n) (hb:b < n):PS n (l ++ [(a,b)]) (joinN p a b):=by
  have hla:=h.le ha
  have hlb:=h.le hb
  have hia:=h.idem ha
  have hib:=h.idem hb
  refine ⟨by rw [joinN_len,h.len],pr_iff.2 fun v hv=>?_,fun u v hu hv=>?_⟩
  · rw [joinN_len,h.len] at hv
    have hl:=h.le hv
    have hi:=h.idem hv
    rw [joinN_get p a b (by rw [h.len];exact hv)]
    split
    · rename_i e
      refine ⟨by omega,?_⟩
      have hm:min (p.getD a 0) (p.getD b 0) < p.length:=by rw [h.len];omega
      rw [joinN_get p a b hm]
      have hfm:p.getD (min (p.getD a 0) (p.getD b 0)) 0=min (p.getD a 0) (p.getD b 0):=by
        rcases Nat.le_total (p.getD a 0) (p.getD b 0) with h1 | h1
        · rw [Nat.min_eq_left h1,hia]
        · rw [Nat.min_eq_right h1,hib]
      rw [hfm]
      split <;> rfl
    · rename_i e
      refine ⟨hl,?_⟩
      rw [joinN_get p a b (by rw [h.len];omega),hi,if_neg e]
  · rw [joinN_get p a b (by rw [h.len];exact hu),joinN_get p a b (by rw [h.len];exact hv),Conn.snoc_iff,← h.conn u v hu hv,← h.conn u a hu ha,← h.conn b v hb hv,← h.conn u b hu hb,← h.conn a v ha hv]
    generalize p.getD u 0=fu at *
    generalize p.getD v 0=fv at *
    generalize p.getD a 0=fa at *
    generalize p.getD b 0=fb at *
    constructor
    · intro e
      split at e <;> split at e <;> omega
    · intro e
      split <;> split <;> omega
def OkEnds (n:Nat) (l:Ends):Prop:=∀ e ∈ l,e.1 < n ∧ e.2 < n
theorem partN_ps' {n:Nat}:∀ (l l0:Ends) (p:List Nat),PS n l0 p → OkEnds n l → PS n (l0 ++ l) (l.foldl (fun p e=>joinN p e.1 e.2) p)
  | [],l0,p,h,_=>by simpa using h
  | e :: l,l0,p,h,ho=>by
    obtain ⟨a,b⟩:=e
    have h1:=ho (a,b) List.mem_cons_self
    have:=partN_ps' l (l0 ++ [(a,b)]) (joinN p a b) (h.snoc h1.1 h1.2) (fun e he=>ho e (List.mem_cons_of_mem _ he))
    simpa using this
theorem partN_ps {n:Nat} {l:Ends} (h:OkEnds n l):PS n l (partN n l):=partN_ps' l [] _ (PS.range n) h
theorem partN_snoc (n:Nat) (l:Ends) (e:Nat × Nat):partN n (l ++ [e])=joinN (partN n l) e.1 e.2:=by simp [partN]
theorem PS.unique {n:Nat} {l l':Ends} {p q:List Nat} (hp:PS n l p) (hq:PS n l' q) (he:∀ u v,u < n → v < n → (Conn l u v ↔ Conn l' u v)):p=q:=by
  have key:∀ {l l':Ends} {p q:List Nat},PS n l p → PS n l' q → (∀ u v,u < n → v < n → (Conn l u v ↔ Conn l' u v)) → ∀ v,v < n → q.getD v 0 ≤ p.getD v 0:=by
    intro l l' p q hp hq he v hv
    have h1:=hp.le hv
    have h2:=hp.idem hv
    have h3:=(hq.conn _ _ (show p.getD v 0 < n by omega) hv).2 ((he _ _ (by omega) hv).1 ((hp.conn _ _ (by omega) hv).1 h2))
    have h4:=hq.le (show p.getD v 0 < n by omega)
    omega
  apply List.ext_getElem
  · rw [hp.len,hq.len]
  · intro i h1 h2
    have hi:i < n:=by rw [← hp.len];exact h1
    have a1:=key hp hq he i hi
    have a2:=key hq hp (fun u v hu hv=>(he u v hu hv).symm) i hi
    have e1:p.getD i 0=p[i]:=by simp [h1]
    have e2:q.getD i 0=q[i]:=by simp [h2]
    omega
theorem partN_congr {n:Nat} {l l':Ends} (h:OkEnds n l) (h':OkEnds n l') (he:∀ u v,u < n → v < n → (Conn l u v ↔ Conn l' u v)):partN n l=partN n l':=(partN_ps h).unique (partN_ps h') he
theorem filter_but (q:Nat → Bool) (m:Nat) (hq:q m=true) (n:Nat) :
    ((List.range n).filter fun v=>q v && !(v == m)).length + (if m < n then 1 else 0)=((List.range n).filter q).length:=by
  induction n with
  | zero=>rfl
  | succ n ih =>
    rw [List.range_succ,List.filter_append,List.filter_append,List.length_append,List.length_append]
    simp only [List.filter_cons,List.filter_nil]
    by_cases e:n=m
    · subst e
      simp only [hq,beq_self_eq_true,Bool.not_true,Bool.and_false,Nat.lt_irrefl,if_false,if_true,Nat.lt_succ_self,List.length_nil,List.length_cons] at ih ⊢
      simp at ih ⊢
      omega
    · have:(n == m)=false:=by simpa using e
      simp only [this,Bool.not_false,Bool.and_true]
      have e2:(if m < n + 1 then 1 else 0)=(if m < n then 1 else 0):=by
        by_cases h:m < n
        · rw [if_pos h,if_pos (by omega)]
        · rw [if_neg h,if_neg (by omega)]
      rw [e2]
      split <;> simp at * <;> omega
theorem leasts_join {n:Nat} {l:Ends} {p:List Nat} {a b:Nat} (h:PS n l p) (ha:a < n) (hb:b < n) (hn:p.getD a 0 ≠ p.getD b 0):leasts (joinN p a b) n + 1=leasts p n:=by
  have hla:=h.le ha
  have hlb:=h.le hb
  have hia:=h.idem ha
  have hib:=h.idem hb
  unfold leasts
  have e:(List.range n).filter (fun v=>(joinN p a b).getD v 0 == v)=(List.range n).filter (fun v=>(p.getD v 0 == v) && !(v == max (p.getD a 0) (p.getD b 0))):=by
    apply List.filter_congr
    intro v hv
    rw [List.mem_range] at hv
    have hl:=h.le hv
    rw [joinN_get p a b (by rw [h.len];exact hv),Bool.eq_iff_iff]
    simp only [beq_iff_eq,Bool.and_eq_true,Bool.not_eq_true',beq_eq_false_iff_ne]
    split <;> omega
  rw [e]
  have hm:(fun v=>p.getD v 0 == v) (max (p.getD a 0) (p.getD b 0))=true:=by
    simp only [beq_iff_eq]
    rcases Nat.le_total (p.getD a 0) (p.getD b 0) with h1 | h1
    · rw [Nat.max_eq_right h1,hib]
    · rw [Nat.max_eq_left h1,hia]
  have:=filter_but (fun v=>p.getD v 0 == v) _ hm n
  rw [if_pos (by omega)] at this
  exact this
theorem join_same {n:Nat} {l:Ends} {p:List Nat} {a b:Nat} (_:PS n l p) (he:p.getD a 0=p.getD b 0):joinN p a b=p:=by
  apply List.ext_getElem
  · exact joinN_len _ _ _
  · intro i h1 h2
    have:=joinN_get p a b h2
    rw [he] at this
    have e1:(joinN p a b).getD i 0=(joinN p a b)[i]:=by simp [h1]
    have e2:p.getD i 0=p[i]:=by simp [h2]
    rw [e1,e2] at this
    rw [this]
    split <;> omega
theorem leasts_range (n:Nat):leasts (List.range n) n=n:=by
  unfold leasts
  rw [List.filter_eq_self.2,List.length_range]
  intro v hv
  rw [List.mem_range] at hv
  simp [hv]
theorem leasts_ge' {n:Nat}:∀ (l l0:Ends) (p:List Nat),PS n l0 p → OkEnds n l → leasts p n ≤ leasts (l.foldl (fun p e=>joinN p e.1 e.2) p) n + l.length
  | [],_,_,_,_=>by simp
  | e :: l,l0,p,h,ho=>by
    obtain ⟨a,b⟩:=e
    have h1:=ho (a,b) List.mem_cons_self
    have h2:=leasts_ge' l (l0 ++ [(a,b)]) (joinN p a b) (h.snoc h1.1 h1.2) (fun e he=>ho e (List.mem_cons_of_mem _ he))
    rw [List.foldl_cons,List.length_cons]
    by_cases hn:p.getD a 0=p.getD b 0
    · rw [join_same h hn] at h2
      simp only [join_same h hn]
      omega
    · have h3:=leasts_join h h1.1 h1.2 hn
      show leasts p n ≤ leasts (l.foldl (fun p e=>joinN p e.1 e.2) (joinN p a b)) n + (l.length + 1)
      simp only [] at h3
      omega
theorem leasts_ge {n:Nat} {l:Ends} (h:OkEnds n l):n ≤ leasts (partN n l) n + l.length:=by
  have:=leasts_ge' l [] _ (PS.range n) h
  rw [leasts_range] at this
  exact this
def acyc (n:Nat) (l:Ends):Prop:=leasts (partN n l) n + l.length=n
theorem acyc_nil (n:Nat):acyc n []:=by unfold acyc partN;rw [List.foldl_nil,leasts_range];simp
theorem OkEnds.left {n:Nat} {a b:Ends} (h:OkEnds n (a ++ b)):OkEnds n a:=fun e he=>h e (List.mem_append_left _ he)
theorem OkEnds.right {n:Nat} {a b:Ends} (h:OkEnds n (a ++ b)):OkEnds n b:=fun e he=>h e (List.mem_append_right _ he)
theorem OkEnds.perm {n:Nat} {a b:Ends} (hp:a.Perm b) (h:OkEnds n a):OkEnds n b:=fun e he=>h e (hp.mem_iff.2 he)
theorem acyc_snoc {n:Nat} {l:Ends} {e:Nat × Nat} (h:OkEnds n (l ++ [e])):acyc n (l ++ [e]) ↔ acyc n l ∧ ¬ Conn l e.1 e.2:=by
  have he:=h e (by simp)
  have hp:=partN_ps h.left
  have hge:=leasts_ge h.left
  unfold acyc
  rw [partN_snoc,List.length_append]
  simp only [List.length_cons,List.length_nil]
  rw [← hp.conn _ _ he.1 he.2]
  by_cases hc:(partN n l).getD e.1 0=(partN n l).getD e.2 0
  · rw [join_same hp hc]
    constructor
    · intro h;omega
    · rintro ⟨_,h⟩;exact absurd hc h
  · have:=leasts_join hp he.1 he.2 hc
    constructor
    · intro h;exact ⟨by omega,hc⟩
    · rintro ⟨h,_⟩;omega
theorem acyc_perm {n:Nat} {l l':Ends} (hp:l.Perm l') (h:OkEnds n l):acyc n l → acyc n l':=by
  unfold acyc
  rw [partN_congr h (h.perm hp) (fun u v _ _=>Conn.perm hp),hp.length_eq]
  exact id
theorem acyc_left {n:Nat}:∀ (b a:Ends),OkEnds n (a ++ b) → acyc n (a ++ b) → acyc n a
  | [],a,_,h=>by simpa using h
  | e :: b,a,ho,h=>by
    have e1:a ++ e :: b=(a ++ [e]) ++ b:=by simp
    rw [e1] at h ho
    exact ((acyc_snoc ho.left).1 (acyc_left b (a ++ [e]) ho h)).1
theorem acyc_bridge {n:Nat} {l l':Ends} {e:Nat × Nat} (hp:l.Perm (e :: l')) (ho:OkEnds n l) (h:acyc n l):acyc n l' ∧ ¬ Conn l' e.1 e.2:=by
  have hq:l.Perm (l' ++ [e]):=hp.trans (by simpa using (List.perm_append_comm (l₁:=[e]) (l₂:=l')))
  exact (acyc_snoc (ho.perm hq)).1 (acyc_perm hq ho h)
def IsWay:Nat → Ends → Nat → Prop
  | x,[],y=>x=y
  | x,e :: l,y=>(x=e.1 ∧ IsWay e.2 l y) ∨ (x=e.2 ∧ IsWay e.1 l y)
theorem IsWay.conn:∀ {q:Ends} {x y:Nat} {l:Ends},IsWay x q y → (∀ e ∈ q,e ∈ l) → Conn l x y
  | [],x,y,l,h,_=>by subst h;exact .refl _
  | e :: q,x,y,l,h,hl=>by
    have hm:(e.1,e.2) ∈ l:=hl e List.mem_cons_self
    rcases h with ⟨rfl,h⟩ | ⟨rfl,h⟩
    · exact (Conn.edge hm).trans (h.conn fun e he=>hl e (List.mem_cons_of_mem _ he))
    · exact (Conn.edge' hm).trans (h.conn fun e he=>hl e (List.mem_cons_of_mem _ he))
theorem IsWay.split:∀ {q1:Ends} {e:Nat × Nat} {q2:Ends} {x y:Nat},IsWay x (q1 ++ e :: q2) y → (IsWay x q1 e.1 ∧ IsWay e.2 q2 y) ∨ (IsWay x q1 e.2 ∧ IsWay e.1 q2 y)
  | [],_,_,_,_,h=>by
    rcases h with ⟨h1,h2⟩ | ⟨h1,h2⟩
    · exact .inl ⟨h1,h2⟩
    · exact .inr ⟨h1,h2⟩
  | d :: q1,_,_,_,_,h=>by
    rcases h with ⟨h1,h2⟩ | ⟨h1,h2⟩
    · exact (IsWay.split h2).imp (fun h=>⟨.inl ⟨h1,h.1⟩,h.2⟩) (fun h=>⟨.inl ⟨h1,h.1⟩,h.2⟩)
    · exact (IsWay.split h2).imp (fun h=>⟨.inr ⟨h1,h.1⟩,h.2⟩) (fun h=>⟨.inr ⟨h1,h.1⟩,h.2⟩)
theorem way_bridge {n:Nat} {l l' q:Ends} {e:Nat × Nat} {u v:Nat} (hp:l.Perm (e :: l')) (ho:OkEnds n l) (h:acyc n l) (hw:IsWay u q v) (hd:q.Nodup) (hq:∀ d ∈ q,d ∈ l) (he:e ∈ q):acyc n l' ∧ ¬ Conn l' u v:=by
  obtain ⟨h1,h2⟩:=acyc_bridge hp ho h
  refine ⟨h1,fun hc=>h2 ?_⟩
  obtain ⟨q1,q2,rfl⟩:=List.append_of_mem he
  rw [List.nodup_append] at hd
  obtain ⟨d1,d2,d3⟩:=hd
  rw [List.nodup_cons] at d2
  have m1:∀ d ∈ q1,d ∈ l':=fun d hd=>by
    rcases List.mem_cons.1 (hp.mem_iff.1 (hq d (by simp [hd]))) with rfl | h
    · exact absurd rfl (d3 d hd d (by simp))
    · exact h
  have m2:∀ d ∈ q2,d ∈ l':=fun d hd=>by
    rcases List.mem_cons.1 (hp.mem_iff.1 (hq d (by simp [hd]))) with rfl | h
    · exact absurd hd d2.1
    · exact h
  rcases hw.split with ⟨w1,w2⟩ | ⟨w1,w2⟩
  · exact ((w1.conn m1).symm.trans hc).trans (w2.conn m2).symm
  · exact (((w1.conn m1).symm.trans hc).trans (w2.conn m2).symm).symm
end Go.Proofs.YtppblcbgkadldaaGreatDoor
namespace Go.Proofs.YtppblcbgkadldaaGreatDoor
open Go Go.RowKit
set_option maxRecDepth 100000
attribute [local go_sem] Heavy heavyUpon
def sgl (n k:Nat):List Nat:=(List.range n).map fun v=>if v < k then v else 0
theorem sgl_len (n k:Nat):(sgl n k).length=n:=by simp [sgl]
theorem sgl_set {n k:Nat} (h:k < n):(sgl n k).set k k=sgl n (k + 1):=by
  apply List.ext_getElem
  · simp [sgl]
  · intro i h1 h2
    rw [List.getElem_set]
    simp only [sgl,List.getElem_map,List.getElem_range]
    by_cases hi:k=i
    · subst hi;simp
    · rw [if_neg hi]
      by_cases hik:i < k
      · rw [if_pos hik,if_pos (by omega)]
      · rw [if_neg hik,if_neg (by omega)]
theorem sgl_all (n:Nat):sgl n n=List.range n:=by
  apply List.ext_getElem
  · simp [sgl]
  · intro i h1 h2
    have:i < n:=by simpa [sgl] using h1
    simp [sgl,this]
theorem natL_set (l:List Nat) (i x:Nat):(ints .i64 (natL l)).toArray.setIfInBounds i (.int .i64 (x:Int))=(ints .i64 (natL (l.set i x))).toArray:=by
  simp [ints,natL,List.map_set]
theorem sgl_made (n:Nat):madeCells (Value.int .i64 0).cells n=(ints .i64 (natL (sgl n 0))).toArray:=by
  apply Array.ext'
  apply List.ext_getElem?
  intro j
  by_cases hj:j < n
  · simp [madeCells,Value.cells,ints,natL,sgl,hj,Nat.mod_one]
  · simp [madeCells,Value.cells,ints,natL,sgl,hj]
set_option maxHeartbeats 1600000 in
theorem psingle_ok (n:Nat) (hn:n ≤ 4096) (w:World) :
    Calls Tryz.prog 111 #[.int .i64 n] w fun e w'=>e=.returned (.slice (some ⟨w.heap.size,0,none⟩) n n) ∧ Blk w' w.heap.size 3 (ints .i64 (natL (List.range n))).toArray ∧ Below w.heap.size w w':=by
  obtain ⟨i0,hi0,hz0,hz1,hz2⟩:=info_parts int_info
  have hmk:=fun W=>run_make_rowN (P:=Tryz.prog) 113 3 i0 _ Tryz.underlying113 hi0 hz0 .i64 .i64 n n (Nat.le_refl _) (by rw [hz2];omega) (by omega) W
  rw [hz1] at hmk
  simp only [Nat.mul_one] at hmk
  rw [sgl_made] at hmk
  clear hi0 hz0 hz1 hz2
  go_enter Tryz.func111,Tryz.ntmps111
  go_wp2_with (fail)
  go_loopw [9] (fun i wr=>∃ k:Nat,k ≤ n ∧ i=.int .i64 k ∧ Below w.heap.size w wr ∧ Blk wr w.heap.size 3 (ints .i64 (natL (sgl n k))).toArray) (fun i _=>n - (intOf i).toNat)
  case atStart=>exact ⟨0,Nat.zero_le _,rfl,(Below.refl _ _).alloc (Nat.le_refl _) _,Blk.new w _ _⟩
  case round =>
    obtain ⟨k,hk,rfl,hbr,R0⟩:=hrel
    by_cases hlt:k < n
    · obtain ⟨r0,e0,s0⟩:=R0.facts
      have hkl:k < (sgl n k).length:=by rw [sgl_len];exact hlt
      have c1:wr.cell? ⟨w.heap.size,k,none⟩=some (.int .i64 ((sgl n k)[k]:Nat)):=by rw [r0];simpa using natL_get hkl
      generalize (sgl n k)[k]=z at *
      clear r0
      have R1:=hide (show Blk (wr.setCell ⟨w.heap.size,k,none⟩ (.int .i64 (k:Int))) w.heap.size 3 (ints .i64 (natL (sgl n (k + 1)))).toArray by
        rw [← sgl_set hlt,← natL_set];exact R0.set_ _ _)
      clear R0
      go_wp2_with (fail)
      exact ⟨⟨k + 1,by omega,by go_num,hbr.setCell (Nat.le_refl _) _,R1.out⟩,by simp [intOf];omega⟩
    · obtain rfl:k=n:=by omega
      rw [sgl_all] at R0
      have HR:=hide R0
      clear R0
      go_wp2_with (fail)
      go_ret
      exact ⟨rfl,HR.out,hbr⟩
end Go.Proofs.YtppblcbgkadldaaGreatDoor
namespace Go.Proofs.YtppblcbgkadldaaGreatDoor
open Go Go.RowKit
set_option maxRecDepth 100000
attribute [local go_sem] Heavy heavyUpon
theorem gcells {w w':World} {g:Nat} (hb:w.grownBy w' (some g)):∀ p:Addr,p.block < w.heap.size → p.block ≠ g → w'.cell? p=w.cell? p:=fun p h hn=>hb.cell_far p h (fun e=>hn (by injection e))
theorem grown_drew (w:World) (row:Option Nat):w.grownBy w.drew row:=⟨rfl,rfl,rfl,Nat.le_refl _,fun _ _ _=>rfl⟩
theorem grown_set (w:World) (g:Nat) (a:Addr) (ha:a.block=g) (u:Value):w.grownBy (w.setCell a u) (some g):=⟨rfl,rfl,rfl,by simp,fun k _ hk=>Below.heap_setCell w a u k (fun e=>hk (by rw [e,ha]))⟩
theorem below_grows {B g:Nat} {w w1 w2:World} (h:Below B w w1) (hg:w1.grownBy w2 (some g)) (hB:B ≤ g) (hz:B ≤ w1.heap.size):Below B w w2:=
  ⟨hg.os.trans h.os,hg.tape.trans h.tape,hg.output.trans h.output,Nat.le_trans h.size hg.size,fun k hk=>(hg.block k (by omega) (fun e=>by injection e with e;omega)).trans (h.block k hk)⟩
structure UF (q p:List Nat):Prop where
  len:p.length=q.length
  pr:PR q
  le:∀ v,v < q.length → p.getD v 0 ≤ v
  same:∀ v,v < q.length → q.getD (p.getD v 0) 0=q.getD v 0
  top:∀ v,v < q.length → p.getD v 0=v → q.getD v 0=v
theorem getD_set (l:List Nat) (i j x:Nat) (hi:i < l.length):(l.set i x).getD j 0=if i=j then x else l.getD j 0:=by
  simp only [List.getD_eq_getElem?_getD,List.getElem?_set,hi,if_true]
  split <;> simp
theorem UF.half {q p:List Nat} (h:UF q p) {x:Nat} (hx:x < q.length):UF q (p.set x (p.getD (p.getD x 0) 0)):=by
  have h1:=h.le x hx
  have h2:=h.le _ (show p.getD x 0 < q.length by omega)
  have h3:=h.same x hx
  have h4:=h.same _ (show p.getD x 0 < q.length by omega)
  have hl:=h.len
  refine ⟨by simpa using hl,h.pr,fun v hv=>?_,fun v hv=>?_,fun v hv=>?_⟩
  · rw [getD_set _ _ _ _ (by omega)];split
    · omega
    · exact h.le v hv
  · rw [getD_set _ _ _ _ (by omega)];split
    · rename_i e;subst e;rw [h4,h3]
    · exact h.same v hv
  · rw [getD_set _ _ _ _ (by omega)];split
    · rename_i e;subst e;intro e;exact h.top x hx (by omega)
    · exact h.top v hv
theorem UF.join {q p:List Nat} (h:UF q p) {u v:Nat} (hu:u < q.length) (hv:v < q.length) :
    UF (joinN q u v) (p.set (max (q.getD u 0) (q.getD v 0)) (min (q.getD u 0) (q.getD v 0))):=by
  have hp:=pr_iff.1 h.pr
  have u1:=hp u hu
  have v1:=hp v hv
  have hl:=h.len
  have hM:max (q.getD u 0) (q.getD v 0) < p.length:=by omega
  have hqM:q.getD (max (q.getD u 0) (q.getD v 0)) 0=max (q.getD u 0) (q.getD v 0):=by
    rcases Nat.le_total (q.getD u 0) (q.getD v 0) with h | h
    · rw [Nat.max_eq_right h,v1.2]
    · rw [Nat.max_eq_left h,u1.2]
  have hqm:q.getD (min (q.getD u 0) (q.getD v 0)) 0=min (q.getD u 0) (q.getD v 0):=by
    rcases Nat.le_total (q.getD u 0) (q.getD v 0) with h | h
    · rw [Nat.min_eq_left h,u1.2]
    · rw [Nat.min_eq_right h,v1.2]
  have hlq:(joinN q u v).length=q.length:=joinN_len _ _ _
  have hpr:PR (joinN q u v):=by
    rw [pr_iff]
    intro x hx
    rw [hlq] at hx
    have x1:=hp x hx
    rw [joinN_get q u v hx]
    split
    · rename_i e
      refine ⟨by omega,?_⟩
      rw [joinN_get q u v (by omega),hqm]
      split <;> rfl
    · rename_i e
      refine ⟨x1.1,?_⟩
      rw [joinN_get q u v (by omega),x1.2,if_neg e]
  refine ⟨by rw [List.length_set,hlq];exact hl,hpr,fun x hx=>?_,fun x hx=>?_,fun x hx=>?_⟩
  · rw [getD_set _ _ _ _ hM];split
    · omega
    · exact h.le x (by omega)
  · rw [hlq] at hx
    rw [getD_set _ _ _ _ hM];split
    · rename_i e
      rw [← e,joinN_get q u v (by omega),joinN_get q u v (by omega),hqM,hqm,if_pos rfl]
      split <;> rfl
    · have h1:=h.le x hx
      rw [joinN_get q u v (by omega),joinN_get q u v hx,h.same x hx]
  · rw [hlq] at hx
    rw [getD_set _ _ _ _ hM];split
    · rename_i e
      intro e2
      rw [← e,joinN_get q u v (by omega),hqM,if_pos rfl];omega
    · rename_i e
      intro e2
      have:=h.top x hx e2
      rw [joinN_get q u v hx,this,if_neg (fun h=>e h.symm)]
theorem UF.range (n:Nat):UF (List.range n) (List.range n):=by
  have hg:∀ v,v < n → (List.range n).getD v 0=v:=fun v hv=>by simp [hv]
  refine ⟨rfl,(PS.range n).pr,fun v hv=>?_,fun v hv=>?_,fun v hv _=>?_⟩ <;> rw [List.length_range] at hv
  · rw [hg v hv];omega
  · rw [hg v hv,hg v hv]
  · rw [hg v hv]
theorem natL_getD {p:List Nat} {i:Nat} (h:i < p.length):(ints .i64 (natL p))[i]? = some (.int .i64 ((p.getD i 0:Nat):Int)):=by
  rw [natL_get h];simp [h]
def RetRoot (q:List Nat) (r g:Nat) (w:World) (e:Ending) (w':World):Prop:=∃ p',e=.returned (.int .i64 (r:Nat)) ∧ UF q p' ∧ Blk w' g 3 (ints .i64 (natL p')).toArray ∧ w.grownBy w' (some g)
set_option maxHeartbeats 1600000 in
theorem root_ok (q p:List Nat) (n v g:Nat) (hU:UF q p) (hn:q.length=n) (hv:v < n) (hm:n ≤ 4096) (w:World) (hB:Blk w g 3 (ints .i64 (natL p)).toArray) :
    Calls Tryz.prog 112 #[.slice (some ⟨g,0,none⟩) n n,.int .i64 v] w (RetRoot q (q.getD v 0) g w):=by
  have HU:=hide hU
  have HN:=hide hn
  have HB:=hide hB
  have HG:=hide (World.grownBy.refl w (some g))
  clear hU hn hB
  go_enter Tryz.func112,Tryz.ntmps112
  go_wp2_with (fail)
  go_loopw [1] (fun i wr=>∃ (x:Nat) (p':List Nat),i=.int .i64 x ∧ x < n ∧ Hid (q.getD x 0=q.getD v 0) ∧ Hid (UF q p') ∧ Hid (Blk wr g 3 (ints .i64 (natL p')).toArray) ∧ Hid (w.grownBy wr (some g))) (fun i _=>(intOf i).toNat)
  case atStart=>exact ⟨v,p,rfl,hv,hide rfl,HU,HB,HG⟩
  case round =>
    clear HU HB HG
    obtain ⟨x,p',rfl,hx,HX,HU,HB,HG⟩:=hrel
    obtain ⟨r0,e0,s0⟩:=HB.out.facts
    have hpl:p'.length=n:=by rw [HU.out.len,HN.out]
    have h1:=HU.out.le x (by rw [HN.out];exact hx)
    have h2:=HU.out.le (p'.getD x 0) (by rw [HN.out];omega)
    have HS:=hide (HU.out.same x (by rw [HN.out];exact hx))
    have HS2:=hide (HU.out.same (p'.getD x 0) (by rw [HN.out];omega))
    have HT:=hide (HU.out.top x (by rw [HN.out];exact hx))
    have HH:=hide (HU.out.half (x:=x) (by rw [HN.out];exact hx))
    have hcx:wr.cell? ⟨g,x,none⟩=some (.int .i64 ((p'.getD x 0:Nat):Int)):=by rw [r0];simpa using natL_getD (show x < p'.length by omega)
    have hcy:wr.cell? ⟨g,p'.getD x 0,none⟩=some (.int .i64 ((p'.getD (p'.getD x 0) 0:Nat):Int)):=by rw [r0];simpa using natL_getD (show p'.getD x 0 < p'.length by omega)
    generalize hy:p'.getD x 0=y at *
    generalize hz:p'.getD y 0=z at *
    clear r0 hy hz
    have hyn:y < n:=by omega
    by_cases hxy:y=x
    · subst hxy
      have HF:=hide (show q.getD v 0=y by rw [← HX.out,HT.out rfl])
      clear hcy HT HS HS2 HH h2
      go_wp2_with (fail)
      go_ret
      exact ⟨p',by rw [HF.out];rfl,HU.out,HB.out,HG.out⟩
    · have hd:((y:Int) == (x:Int))=false:=by rw [beq_eq_false_iff_ne];omega
      have HB1:=hide (show Blk (wr.setCell ⟨g,x,none⟩ (.int .i64 (z:Int))) g 3 (ints .i64 (natL (p'.set x z))).toArray by rw [← natL_set];exact HB.out.set_ _ _)
      have HG1:=hide (HG.out.trans (grown_set wr g ⟨g,x,none⟩ rfl (.int .i64 (z:Int))))
      have HC:=hide (show (wr.setCell ⟨g,x,none⟩ (.int .i64 (z:Int))).cell? ⟨g,x,none⟩=some (.int .i64 (z:Int)) by
        obtain ⟨r1,_,_⟩:=HB1.out.facts
        rw [r1]
        have:=natL_getD (p:=p'.set x z) (i:=x) (by simpa using show x < p'.length by omega)
        rw [getD_set _ _ _ _ (by omega),if_pos rfl] at this
        simpa using this)
      have HX1:=hide (show q.getD z 0=q.getD v 0 by rw [HS2.out,HS.out,HX.out])
      have hlt:z < x:=by omega
      have hc1:=HC.out
      clear HS HS2 HT HB HG HC HX HU hxy
      go_wp2_with (fail)
      exact ⟨⟨z,_,rfl,by omega,HX1,HH,HB1,HG1⟩,by simp [intOf];omega⟩
end Go.Proofs.YtppblcbgkadldaaGreatDoor
namespace Go.Proofs.YtppblcbgkadldaaGreatDoor
open Go Go.RowKit
set_option maxRecDepth 100000
theorem ltE_iff {x y:E3}:ltE x y=true ↔ x.1 < y.1 ∨ (x.1=y.1 ∧ x.2.1 < y.2.1):=by
  unfold ltE
  simp only [Bool.or_eq_true,Bool.and_eq_true,decide_eq_true_eq,beq_iff_eq]
theorem ltE_trans {x y z:E3} (h1:ltE x y=true) (h2:ltE y z=true):ltE x z=true:=by
  rw [ltE_iff] at *;omega
theorem ltE_false {x y:E3}:ltE x y=false ↔ (y.1 < x.1 ∨ (y.1=x.1 ∧ y.2.1 ≤ x.2.1)):=by
  rw [← Bool.not_eq_true,ltE_iff];omega
theorem chainE_iff {n:Int}:∀ {l:List E3} {p:Option E3},chainE n p l=true ↔ (∀ e ∈ l,okE n e=true) ∧ (∀ q,p=some q → ∀ e ∈ l,ltE q e=true) ∧ l.Pairwise (fun a b=>ltE a b=true)
  | [],p=>by simp [chainE]
  | x :: l,p=>by
    have ih:=chainE_iff (n:=n) (l:=l) (p:=some x)
    simp only [chainE,Bool.and_eq_true,ih,List.pairwise_cons,List.forall_mem_cons]
    constructor
    · rintro ⟨⟨h1,h2⟩,h3,h4,h5⟩
      refine ⟨⟨h1,h3⟩,?_,h4 x rfl,h5⟩
      intro q hq
      subst hq
      simp only [] at h2
      exact ⟨h2,fun e he=>ltE_trans h2 (h4 x rfl e he)⟩
    · rintro ⟨⟨h1,h3⟩,h2,h4,h5⟩
      refine ⟨⟨h1,?_⟩,h3,?_,h5⟩
      · cases p with
        | none=>rfl
        | some q=>exact (h2 q rfl).1
      · intro q hq e he
        injection hq with hq
        subst hq
        exact h4 e he
theorem rightE_iff {n:Int} {l:List E3}:rightE n l=true ↔ (0 ≤ n ∧ n ≤ 1024) ∧ (∀ e ∈ l,okE n e=true) ∧ l.Pairwise (fun a b=>ltE a b=true):=by
  constructor
  · intro h
    have hn:0 ≤ n ∧ n ≤ 1024:=by
      by_cases h0:0 ≤ n ∧ n ≤ 1024
      · exact h0
      · rw [rightE_out h0] at h;cases h
    rw [rightE_in hn.1 hn.2,chainE_iff] at h
    exact ⟨hn,h.1,h.2.2⟩
  · rintro ⟨hn,h1,h2⟩
    rw [rightE_in hn.1 hn.2,chainE_iff]
    exact ⟨h1,by simp,h2⟩
theorem okE_iff {n:Int} {e:E3}:okE n e=true ↔ 0 ≤ e.1 ∧ e.1 < e.2.1 ∧ e.2.1 < n ∧ 0 ≤ e.2.2 ∧ e.2.2 ≤ 16:=by
  simp only [okE,Bool.and_eq_true,Bool.not_eq_true',decide_eq_false_iff_not]
  omega
def insE (l:List E3) (x:E3):List E3:=l.takeWhile (fun y=>ltE y x) ++ x :: l.dropWhile (fun y=>ltE y x)
theorem insE_len (l:List E3) (x:E3):(insE l x).length=l.length + 1:=by
  have:=congrArg List.length (List.takeWhile_append_dropWhile (p:=fun y=>ltE y x) (l:=l))
  rw [List.length_append] at this
  unfold insE
  rw [List.length_append,List.length_cons];omega
theorem insE_nil (x:E3):insE [] x=[x]:=rfl
theorem insE_cons (y:E3) (l:List E3) (x:E3):insE (y :: l) x=if ltE y x=true then y :: insE l x else x :: y :: l:=by
  unfold insE
  rw [List.takeWhile_cons,List.dropWhile_cons]
  split <;> simp
theorem insE_mem {l:List E3} {x e:E3}:e ∈ insE l x ↔ e=x ∨ e ∈ l:=by
  induction l with
  | nil=>simp [insE_nil]
  | cons y l ih =>
    rw [insE_cons]
    split
    · rw [List.mem_cons,ih,List.mem_cons];constructor <;> (rintro (h | h | h) <;> simp [h])
    · simp
def edgeE (u v t:Int):E3:=if u < v then (u,v,t) else (v,u,t)
theorem insE_sorted {l:List E3} {x:E3} (h:l.Pairwise fun a b=>ltE a b=true) (hx:∀ e ∈ l,¬ (e.1=x.1 ∧ e.2.1=x.2.1)):(insE l x).Pairwise fun a b=>ltE a b=true:=by
  induction l with
  | nil=>simp [insE_nil]
  | cons y l ih =>
    rw [List.pairwise_cons] at h
    have ihh:=ih h.2 (fun e he=>hx e (List.mem_cons_of_mem _ he))
    rw [insE_cons]
    by_cases hy:ltE y x=true
    · rw [if_pos hy,List.pairwise_cons]
      refine ⟨fun e he=>?_,ihh⟩
      rcases insE_mem.1 he with rfl | he
      · exact hy
      · exact h.1 e he
    · rw [if_neg hy,List.pairwise_cons,List.pairwise_cons]
      have hxy:ltE x y=true:=by
        have h1:=hx y List.mem_cons_self
        have h2:=ltE_false.1 (by simpa using hy)
        rw [ltE_iff];omega
      refine ⟨fun e he=>?_,h⟩
      rcases List.mem_cons.1 he with rfl | he
      · exact hxy
      · exact ltE_trans hxy (h.1 e he)
def delE:List E3 → Int → Int → List E3
  | [],_,_=>[]
  | x :: l,u,v=>if hitE u v x=true then l else x :: delE l u v
def setE:List E3 → Int → Int → Int → List E3
  | [],_,_,_=>[]
  | x :: l,u,v,t=>if hitE u v x=true then (x.1,x.2.1,t) :: l else x :: setE l u v t
def addE (n:Int) (l:List E3) (u v:Int):List E3 × Int:=
  if (rightE n l && inN n u && inN n v)=true then (if u=v then (l,8) else if 0 ≤ findI l u v 0 then (l,4) else (insE l (edgeE u v 0),0)) else (l,1)
def remE (n:Int) (l:List E3) (u v:Int):List E3 × Int:=
  if (rightE n l && inN n u && inN n v)=true then (if 0 ≤ findI l u v 0 then (delE l u v,0) else (l,9)) else (l,1)
def putE (n:Int) (l:List E3) (u v t:Int):List E3 × Int:=
  if (rightE n l && inN n u && inN n v && (decide (0 ≤ t) && decide (t ≤ 16)))=true then (if 0 ≤ findI l u v 0 then (setE l u v t,0) else (l,9)) else (l,1)
theorem find_spec (l:List E3) (u v k:Int) (hk:0 ≤ k) (h:0 ≤ findI l u v k):∃ i:Nat,findI l u v k=k + i ∧ ∃ hi:i < l.length,hitE u v l[i]=true ∧ delE l u v=l.take i ++ l.drop (i + 1) ∧ ∀ t,setE l u v t=l.set i (l[i].1,l[i].2.1,t):=by
  induction l generalizing k with
  | nil=>simp [findI] at h
  | cons x l ih =>
    unfold findI at h ⊢
    by_cases hx:hitE u v x=true
    · rw [if_pos hx]
      refine ⟨0,by simp,by simp,by simpa using hx,by simp [delE,hx],fun t=>by simp [setE,hx]⟩
    · rw [if_neg hx] at h ⊢
      obtain ⟨i,e,hi,h1,h2,h3⟩:=ih (k + 1) (by omega) h
      refine ⟨i + 1,by rw [e];omega,by simpa using hi,by simpa using h1,by simp [delE,hx,h2],fun t=>by simp [setE,hx,h3 t]⟩
theorem takeWhile_step (p:E3 → Bool) (l:List E3):∀ {k:Nat},(∀ (i:Nat) (h:i < l.length),i < k → p l[i]=true) → k ≤ l.length → (k=l.length ∨ ∃ h:k < l.length,p l[k]=false) → l.takeWhile p=l.take k ∧ l.dropWhile p=l.drop k:=by
  induction l with
  | nil=>intro k _ hk _;simp at hk;subst hk;simp
  | cons x l ih =>
    intro k h1 hk h2
    cases k with
    | zero =>
      rcases h2 with h2 | ⟨_,h2⟩
      · simp at h2
      · simp only [List.getElem_cons_zero] at h2
        simp [List.takeWhile_cons,List.dropWhile_cons,h2]
    | succ k =>
      have hx:p x=true:=h1 0 (by simp) (by omega)
      have:=ih (k:=k) (fun i h hi=>h1 (i + 1) (by simpa using h) (by omega)) (by simpa using hk) (by
        rcases h2 with h2 | ⟨h2,h3⟩
        · left;simpa using h2
        · right;exact ⟨by simpa using h2,by simpa using h3⟩)
      simp [List.takeWhile_cons,List.dropWhile_cons,hx,this.1,this.2]
end Go.Proofs.YtppblcbgkadldaaGreatDoor
