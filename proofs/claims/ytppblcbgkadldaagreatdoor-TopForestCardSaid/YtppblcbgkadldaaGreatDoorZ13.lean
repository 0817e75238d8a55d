/-
  A part of the proof that the law TopForest returns true for every input and leaves its arguments as they were: Slot, Keyed, Verts, VAdd.
-/
import Derived.Test.YtppblcbgkadldaaGreatDoorZ06
import Derived.Test.YtppblcbgkadldaaGreatDoorZ12
import Derived.Lib.SliceRun
set_option linter.all false
namespace Go.Proofs.YtppblcbgkadldaaGreatDoor
open Go Go.RowKit
set_option maxRecDepth 100000
abbrev S2:Type:=Bool × Int
def scell (x:S2):List Value:=[.bool x.1,.int .u64 x.2]
def scells (l:List S2):List Value:=l.flatMap scell
theorem scell_len (x:S2):(scell x).length=2:=rfl
theorem scells_len (l:List S2):(scells l).length=l.length * 2:=flat_len scell scell_len l
theorem scells_get0 (l:List S2) (i:Nat) (hi:i < l.length):(scells l)[i * 2]? = some (.bool l[i].1):=by
  have:=flat_get scell scell_len l i 0 hi (by decide);simpa [scell,scells] using this
theorem scells_get1 (l:List S2) (i:Nat) (hi:i < l.length):(scells l)[i * 2 + 1]? = some (.int .u64 l[i].2):=by
  have:=flat_get scell scell_len l i 1 hi (by decide);simpa [scell,scells] using this
theorem scells_one {l:List S2}:∀ u ∈ scells l,u.oneCell'=true:=by
  intro u hu
  simp only [scells,List.mem_flatMap,scell,List.mem_cons,List.not_mem_nil,or_false] at hu
  obtain ⟨x,_,rfl | rfl⟩:=hu <;> rfl
def SSl (w:World) (A:Option Addr) (n c:Nat) (l:List S2):Prop:=Sl w [] 2 A n c (scells l)
theorem SSl.length {w:World} {A:Option Addr} {n c:Nat} {l:List S2} (h:SSl w A n c l):l.length=n:=by
  have:=h.len;rw [scells_len] at this;omega
theorem SSl.get {w:World} {A:Option Addr} {n c:Nat} {l:List S2} (h:SSl w A n c l) {k:Nat} (hk:k < l.length) :
    ∃ ad,A=some ad ∧ ad.block < w.heap.size ∧ w.cell? (ad.add (k * 2))=some (.bool l[k].1) ∧ w.cell? ⟨(ad.add (k * 2)).block,(ad.add (k * 2)).off + 1,none⟩=some (.int .u64 l[k].2):=by
  have hl:=h.length
  obtain ⟨ad,e,hb,_,hc⟩:=h.at_ (by omega)
  exact ⟨ad,e,hb,hc _ _ (scells_get0 l k hk),cell_off (hc _ _ (scells_get1 l k hk)) (by decide)⟩
theorem SSl.below {w w':World} {A:Option Addr} {n c:Nat} {l:List S2} (h:SSl w A n c l) (hb:Below w.heap.size w w'):SSl w' A n c l:=Sl.below h hb
structure SOK (l:List S2):Prop where
  zero:∀ x ∈ l,x.1=false → x.2=0
  one:∀ (i j:Nat) (hi:i < l.length) (hj:j < l.length),l[i].1=true → l[j].1=true → l[i].2=l[j].2 → i=j
def IsSlot (l:List S2) (key:Int) (i:Nat):Prop:=∃ h:i < l.length,l[i]=(true,key)
theorem insK_mem {l:List (Int × Int)} {key n:Int} {e:Int × Int}:e ∈ insK l key n ↔ e=(key,n) ∨ e ∈ l:=by
  unfold insK
  rw [List.mem_append,List.mem_cons]
  have h:=List.take_append_drop (lowK l key) l
  constructor
  · rintro (h | h | h)
    · exact .inr (List.mem_of_mem_take h)
    · exact .inl h
    · exact .inr (List.mem_of_mem_drop h)
  · rintro (h1 | h1)
    · exact .inr (.inl h1)
    · rw [← h,List.mem_append] at h1
      rcases h1 with h1 | h1
      · exact .inl h1
      · exact .inr (.inr h1)
theorem insK_len (l:List (Int × Int)) (key n:Int):(insK l key n).length=l.length + 1:=by
  unfold insK
  have:=lowK_le l key
  rw [List.length_append,List.length_cons,List.length_take,List.length_drop];omega
theorem insK_sorted {l:List (Int × Int)} (h:KSorted l) {key:Int} (n:Int) (hno:∀ x ∈ l,x.1 ≠ key):KSorted (insK l key n):=by
  unfold KSorted insK
  have hle:=lowK_le l key
  have h1:∀ x ∈ l.take (lowK l key),x.1 < key:=by
    intro x hx
    obtain ⟨i,hi,rfl⟩:=List.getElem_of_mem hx
    rw [List.length_take] at hi
    rw [List.getElem_take]
    have:=lowK_iff h key (i:=i) (by omega)
    omega
  have h2:∀ x ∈ l.drop (lowK l key),key < x.1:=by
    intro x hx
    have hx':=hno x (List.mem_of_mem_drop hx)
    obtain ⟨i,hi,rfl⟩:=List.getElem_of_mem hx
    rw [List.length_drop] at hi
    rw [List.getElem_drop] at hx' ⊢
    have:=(lowK_iff h key (i:=lowK l key + i) (by omega)).2 (by omega)
    omega
  rw [List.pairwise_append,List.pairwise_cons]
  refine ⟨h.sublist (List.take_sublist _ _),⟨h2,h.sublist (List.drop_sublist _ _)⟩,?_⟩
  intro x hx y hy
  rcases List.mem_cons.1 hy with rfl | hy
  · exact h1 x hx
  · have:=h1 x hx;have:=h2 y hy;omega
def dnK (l:List S2):Nat → List (Int × Int)
  | 0=>[]
  | k + 1=>if (l.getD k (false,0)).1=true then insK (dnK l k) (l.getD k (false,0)).2 (k:Nat) else dnK l k
theorem dnK_step (l:List S2) {k:Nat} (h:k < l.length):dnK l (k + 1)=if l[k].1=true then insK (dnK l k) l[k].2 (k:Nat) else dnK l k:=by
  simp only [dnK,List.getD_eq_getElem?_getD,List.getElem?_eq_getElem h,Option.getD_some]
theorem dnK_mem (l:List S2) {k:Nat} (hk:k ≤ l.length) {x:Int × Int}:x ∈ dnK l k ↔ ∃ i,i < k ∧ ∃ h:i < l.length,l[i].1=true ∧ x=(l[i].2,(i:Int)):=by
  induction k with
  | zero=>simp [dnK]
  | succ k ih =>
    rw [dnK_step l (by omega)]
    split
    · rename_i hu
      rw [insK_mem,ih (by omega)]
      constructor
      · rintro (rfl | ⟨i,h1,h2,h3⟩)
        · exact ⟨k,by omega,by omega,hu,rfl⟩
        · exact ⟨i,by omega,h2,h3⟩
      · rintro ⟨i,h1,h2,h3,h4⟩
        by_cases hik:i=k
        · subst hik;exact .inl h4
        · exact .inr ⟨i,by omega,h2,h3,h4⟩
    · rename_i hu
      rw [ih (by omega)]
      constructor
      · rintro ⟨i,h1,h2,h3⟩;exact ⟨i,by omega,h2,h3⟩
      · rintro ⟨i,h1,h2,h3,h4⟩
        refine ⟨i,?_,h2,h3,h4⟩
        rcases Nat.lt_or_ge i k with h | h
        · exact h
        · obtain rfl:i=k:=by omega
          exact absurd h3 hu
theorem dnK_new {l:List S2} (h:SOK l) {k:Nat} (hk:k < l.length) (hu:l[k].1=true):∀ x ∈ dnK l k,x.1 ≠ l[k].2:=by
  intro x hx
  obtain ⟨i,h1,h2,h3,rfl⟩:=(dnK_mem l (by omega)).1 hx
  intro e
  have:=h.one i k h2 hk h3 hu e
  omega
theorem dnK_sorted {l:List S2} (h:SOK l) {k:Nat} (hk:k ≤ l.length):KSorted (dnK l k):=by
  induction k with
  | zero=>exact List.Pairwise.nil
  | succ k ih =>
    rw [dnK_step l (by omega)]
    split
    · rename_i hu
      exact insK_sorted (ih (by omega)) _ (dnK_new h (by omega) hu)
    · exact ih (by omega)
theorem dnK_len (l:List S2) (k:Nat):(dnK l k).length ≤ k:=by
  induction k with
  | zero=>simp [dnK]
  | succ k ih =>
    unfold dnK
    split
    · rw [insK_len];omega
    · omega
theorem getV_none {l:List (Int × Int)} {key:Int} (h:∀ x ∈ l,x.1 ≠ key):getV l key=.tuple #[.int .i64 0,.bool false]:=by
  unfold getV
  rw [List.find?_eq_none.2 (fun x hx=>by simpa using h x hx)]
theorem get_slot {l:List S2} (h:SOK l) {key:Int} {i:Nat} (hi:IsSlot l key i):getV (dnK l l.length) key=.tuple #[.int .i64 (i:Int),.bool true]:=by
  obtain ⟨h1,h2⟩:=hi
  have hm:(key,(i:Int)) ∈ dnK l l.length:=(dnK_mem l (Nat.le_refl _)).2 ⟨i,h1,h1,by rw [h2],by rw [h2]⟩
  unfold getV
  cases hf:(dnK l l.length).find? (fun x=>x.1 == key) with
  | none =>
    have:=List.find?_eq_none.1 hf _ hm
    simp at this
  | some x =>
    have hx:=List.mem_of_find?_eq_some hf
    have hk:x.1=key:=by simpa using List.find?_some hf
    obtain ⟨j,j1,j2,j3,rfl⟩:=(dnK_mem l (Nat.le_refl _)).1 hx
    have:=h.one j i j2 h1 j3 (by rw [h2]) (by rw [h2];exact hk)
    subst this
    rfl
theorem get_noslot {l:List S2} {key:Int} (hi:∀ i,¬ IsSlot l key i):getV (dnK l l.length) key=.tuple #[.int .i64 0,.bool false]:=by
  refine getV_none fun x hx e=>?_
  obtain ⟨j,j1,j2,j3,rfl⟩:=(dnK_mem l (Nat.le_refl _)).1 hx
  exact hi j ⟨j2,Prod.ext j3 e⟩
end Go.Proofs.YtppblcbgkadldaaGreatDoor
namespace Go.Proofs.YtppblcbgkadldaaGreatDoor
open Go Go.RowKit
set_option maxRecDepth 100000
attribute [local go_sem] Heavy heavyUpon
theorem sized_yes (n:Nat) (h1:1 ≤ n) (h2:n ≤ 1024) (w:World):Calls Tryz.prog 31 #[.int .i64 n] w (Ret (.bool true) w):=by
  have hd:decide ((n:Int) ≤ 1024)=true:=by simp;omega
  have hd1:(1:Int) ≤ (n:Int):=by omega
  go_enter Tryz.func31,Tryz.ntmps31
  go_wp2_with (fail)
  go_ret
  exact ⟨rfl,Below.refl _ _⟩
def RetKeyed (l:List (Int × Int)) (w:World) (e:Ending) (w':World):Prop:=∃ p t,e=.returned (.tuple #[.agg #[.pointer p],.bool true]) ∧ Rep w' p t ∧ t.toL=l ∧ Below w.heap.size w w'
set_option maxHeartbeats 3200000 in
theorem keyed_ok (l:List S2) (hl:SOK l) (A:Option Addr) (m c:Nat) (w:World) (hS:SSl w A m c l) (h1:1 ≤ m) (h2:m ≤ 1000) :
    Calls Tryz.prog 40 #[.slice A m c] w (RetKeyed (dnK l m) w):=by
  have HLEN:=hide hS.length
  have QS:=hide (fun W=>sized_yes m h1 (by omega) W)
  have HO:=hide hl
  have HM:Blk ((w.alloc (.cells #[.pointer none] 109)).alloc (.cells #[.pointer none] 109)) w.heap.size 109 #[.pointer none]:=(Blk.new w _ _).alloc _
  have HN:Blk ((w.alloc (.cells #[.pointer none] 109)).alloc (.cells #[.pointer none] 109)) (w.heap.size + 1) 109 #[.pointer none]:=by
    have:=Blk.new (w.alloc (.cells #[.pointer none] 109)) 109 #[.pointer none]
    rwa [heap_alloc_size] at this
  have hb0:=((Below.refl w.heap.size w).alloc (Nat.le_refl _) (.cells #[.pointer none] 109)).alloc (by simp) (.cells #[.pointer none] 109)
  clear hl
  go_enter Tryz.func40,Tryz.ntmps40
  go_wp2_with (fail)
  refine (QS.out _).mono ?_
  rintro e w1 ⟨rfl,b1⟩
  have HM1:=hide (HM.below b1 HM.lt)
  have HN1:=hide (HN.below b1 HN.lt)
  have hb1:=hb0.trans (b1.mono hb0.size)
  clear HM HN b1 hb0
  go_wp2_with (fail)
  go_loopw [16] (fun i wr=>∃ (k:Nat) (p:Option Addr) (t:Tr),k ≤ m ∧ i=.int .i64 k ∧ Below w.heap.size w wr ∧ Hid (Rep wr p t) ∧ Hid (t.toL=dnK l k) ∧ Hid (Blk wr w.heap.size 109 #[.pointer none]) ∧ Hid (Blk wr (w.heap.size + 1) 109 #[.pointer p])) (fun i _=>m - (intOf i).toNat)
  case atStart=>exact ⟨0,none,.nil,Nat.zero_le _,rfl,hb1,hide rfl,hide rfl,HM1,HN1⟩
  case round =>
    clear HM1 HN1 hb1
    obtain ⟨k,p,t,hk,rfl,hbr,HR,HT,HMr,HNr⟩:=hrel
    have hSr:=SSl.below hS hbr
    by_cases hlt:k < m
    · have hx:k < l.length:=by have:=HLEN.out;omega
      obtain ⟨ad,rfl,had,c0,c1⟩:=hSr.get hx
      have HZ:=hide (fun (h:l[k].1=false)=>HO.out.zero l[k] (List.getElem_mem hx) h)
      have HST:=hide (dnK_step l hx)
      have HNEW:=hide (fun (h:l[k].1=true)=>dnK_new HO.out hx h)
      have HSO:=hide (dnK_sorted HO.out (show k ≤ l.length by omega))
      have HLE:=hide (dnK_len l k)
      generalize l[k].1=u at *
      generalize l[k].2=key at *
      have szr:=hbr.size
      obtain ⟨r0,e0,s0⟩:=HNr.out.facts
      have x0:wr.cell? ⟨w.heap.size + 1,0,none⟩=some (.pointer p):=r0 0
      clear r0 hSr
      cases u with
      | false =>
        have hz:=HZ.out rfl
        subst hz
        have HF:=hide (show dnK l (k + 1)=dnK l k by rw [HST.out];rfl)
        have HR1:=hide (HR.out.alloc (.cells #[.bool false,.int .u64 0] 106))
        have HM1:=hide (HMr.out.alloc (.cells #[.bool false,.int .u64 0] 106))
        have HN1:=hide (HNr.out.alloc (.cells #[.bool false,.int .u64 0] 106))
        have hb1:=hbr.alloc szr (.cells #[.bool false,.int .u64 0] 106)
        clear HZ HST HNEW HSO HLE HR HMr HNr
        go_wp2_with (fail)
        exact ⟨⟨k + 1,p,t,by omega,by go_num,hb1,HR1,hide (by rw [HT.out,HF.out]),HM1,HN1⟩,by simp [intOf];omega⟩
      | true =>
        have HF:=hide (show dnK l (k + 1)=insK (dnK l k) key (k:Nat) by rw [HST.out];rfl)
        have HSZ:=hide (show t.sz ≤ 1000 by rw [t.sz_len,HT.out];have:=HLE.out;omega)
        have QG:=hide (fun W (h:Rep W p t)=>get_ok t p key W h (by have:=HSZ.out;omega) (by rw [HT.out];exact HSO.out))
        rw [HT.out,getV_none (HNEW.out rfl)] at QG
        have QP:=hide (fun W (h:Rep W p t)=>put_ok t p key (k:Nat) W h (by have:=HSZ.out;omega) (by rw [HT.out];exact HSO.out) (by rw [HT.out];exact HNEW.out rfl))
        rw [HT.out,← HF.out] at QP
        have HR1:=hide (HR.out.alloc (.cells #[.bool true,.int .u64 key] 106))
        have HM1:=hide (HMr.out.alloc (.cells #[.bool true,.int .u64 key] 106))
        have HN1:=hide (HNr.out.alloc (.cells #[.bool true,.int .u64 key] 106))
        have BS:=Blk.new wr 106 #[.bool true,.int .u64 key]
        have hb1:=hbr.alloc szr (.cells #[.bool true,.int .u64 key] 106)
        have szl:=hb1.size
        clear HZ HST HNEW HSO HLE HR HMr HNr HSZ HF
        go_wp2_with (fail)
        generalize (wr.alloc (.cells #[.bool true,.int .u64 key] 106))=W1 at *
        refine (QG.out _ HR1.out).mono ?_
        rintro e w2 ⟨rfl,b2⟩
        have HR2:=hide (HR1.out.below b2)
        have HM2:=hide (HM1.out.below b2 HM1.out.lt)
        have HN2:=hide (HN1.out.below b2 HN1.out.lt)
        have B2:=BS.below b2 BS.lt
        have hb2:=hb1.trans (b2.mono hb1.size)
        obtain ⟨r1,e1,s1⟩:=HN2.out.facts
        have y0:w2.cell? ⟨w.heap.size + 1,0,none⟩=some (.pointer p):=r1 0
        obtain ⟨r2,e2,s2⟩:=B2.facts
        have y1:w2.cell? ⟨wr.heap.size,1,none⟩=some (.int .u64 key):=r2 1
        clear r1 r2 HR1 HM1 HN1 BS hb1 b2 QG x0 e0 s0 B2 e2
        go_wp2_with (fail)
        refine (QP.out _ HR2.out).mono ?_
        rintro e w3 ⟨q,t',rfl,R3,T3,b3⟩
        have HR3:=hide R3
        have HT3:=hide T3
        have HM3:=hide (HM2.out.below b3 HM2.out.lt)
        have HN3:=HN2.out.below b3 HN2.out.lt
        have hb3:=hb2.trans (b3.mono hb2.size)
        obtain ⟨r1,e3,s3⟩:=HN3.facts
        have y0:w3.cell? ⟨w.heap.size + 1,0,none⟩=some (.pointer p):=r1 0
        have HR4:=hide (Rep.far HN3 ⟨w.heap.size + 1,0,none⟩ rfl (.pointer q) HR3.out)
        have HM4:=hide (HM3.out.far (p:=⟨w.heap.size + 1,0,none⟩) (by simp) (.pointer q))
        have HN4:=hide (HN3.set_ 0 (.pointer q))
        have hb4:=hb3.setCell (p:=⟨w.heap.size + 1,0,none⟩) (by simp) (.pointer q)
        clear r1 R3 T3 b3 hb2 hb3 QP HR2 HM2 HN2 HR3 HM3 HN3 e1 s1 s2
        go_wp2_with (fail)
        exact ⟨⟨k + 1,q,t',by omega,by go_num,hb4,HR4,HT3,HM4,HN4⟩,by simp [intOf];omega⟩
    · obtain rfl:k=m:=by omega
      obtain ⟨r0,e0,s0⟩:=HNr.out.facts
      have x0:wr.cell? ⟨w.heap.size + 1,0,none⟩=some (.pointer p):=r0 0
      obtain ⟨r1,e1,s1⟩:=HMr.out.facts
      have x1:wr.cell? ⟨w.heap.size,0,none⟩=some (.pointer none):=r1 0
      have Z:=hide (show (wr.setCell ⟨w.heap.size,0,none⟩ (.pointer p)).cell? ⟨w.heap.size,0,none⟩=some (.pointer p) from (HMr.out.set_ 0 (.pointer p)).cell 0)
      have HR1:=hide (Rep.far HMr.out ⟨w.heap.size,0,none⟩ rfl (.pointer p) HR.out)
      clear r0 r1 HNr HMr HR
      go_wp2_with (fail)
      refine bodyPost_ret (v:=.tuple #[.agg #[.pointer p],.bool true]) (by simp [results,Tryz.results40,go_sem,Z.out]) rfl ⟨p,t,rfl,HR1.out,HT.out,hbr.setCell (Nat.le_refl _) _⟩
end Go.Proofs.YtppblcbgkadldaaGreatDoor
namespace Go.Proofs.YtppblcbgkadldaaGreatDoor
open Go Go.RowKit
set_option maxRecDepth 100000
attribute [local go_sem] Heavy heavyUpon
theorem slot_info:(Tryz.prog.info? 106).map (fun i=>(i.zero,i.size,i.bytes))=some (some (.agg #[.bool false,.int .u64 0]),2,16):=by kernel_rfl
set_option maxHeartbeats 800000 in
theorem cloneS_ok (l:List Value) (A:Option Addr) (m c:Nat) (w:World) (hS:Sl w [] 2 A m c l) (h1:∀ u ∈ l,u.oneCell'=true) (hm:m ≤ 10000) :
    Calls Tryz.prog 89 #[.slice A m c] w fun e w'=>∃ R d,e=.returned (.slice R m d) ∧ w'.ownsRow w.heap.size 106 2 (.slice R m d) m l ∧ Below w.heap.size w w':=by
  obtain ⟨ie,hie,hze,he1,he2⟩:=info_parts slot_info
  have q22:∀ (w:World) (a:Option Addr) (n c n' c':Nat),(binOp .eql 31 (.slice a n c) (.slice none n' c')).run Tryz.prog w=.ok (.bool a.isNone) w:=fun w a n c n' c'=>Lib.run_eql_slice_nil w _ _ a n c n' c' Tryz.underlying31
  cases A with
  | none =>
    obtain rfl:m=0:=by
      rcases Nat.eq_zero_or_pos m with h0 | h0
      · exact h0
      · obtain ⟨ad,h,_⟩:=hS.at_ h0
        cases h
    obtain rfl:l=[]:=List.eq_nil_of_length_eq_zero (by simpa using hS.len)
    go_enter Tryz.func89,Tryz.ntmps89
    go_wp2_with (fail)
    go_ret
    exact ⟨none,0,rfl,World.ownsRow_nil _ _ _ _,Below.refl _ _⟩
  | some ad =>
    have O2:=own_empty w 106 2
    have S2:=hS.alloc (.cells #[] 106)
    have HO:=hide O2
    have hb2:=(Below.refl w.heap.size w).alloc (Nat.le_refl _) (.cells #[] 106)
    clear O2
    go_enter Tryz.func89,Tryz.ntmps89
    (go_wp2_with (at_builtin;refine stopAt ?_);refine stopGo ?_)
    refine wpList_append_sl _ rfl (.tmp 5) (.tmp 6) _ rfl w.heap.size 106 ie _ 2 16 Tryz.underlying31 hie hze he1 he2 rfl (by omega) _ _ _ rfl HO.out [] _ m c l rfl S2 h1 (by simp only [maxLen];omega) (by omega) (by simp) ?_
    intro A5 c5 w5 own5 g5 _
    have hg5:=below_grown HO.out g5 (Nat.le_refl _) hb2.size
    have hb5:=hb2.trans hg5
    simp only [Nat.zero_add,List.nil_append] at own5 ⊢
    have OW5:=hide own5
    clear own5 g5 hg5
    go_wp2_with (fail)
    go_ret
    exact ⟨A5,c5,rfl,OW5.out,hb5⟩
theorem add1_ok (u:Bool) (k:Int) (w:World):Calls Tryz.prog 88 #[.agg #[.bool u,.int .u64 k]] w (Ret (.bool (!u)) w):=by
  go_enter Tryz.func88,Tryz.ntmps88
  go_wp2_with (fail)
  go_ret
  exact ⟨rfl,(Below.refl _ _).alloc (Nat.le_refl _) _⟩
def freeI:List S2 → Nat → Int
  | [],_=>-1
  | x :: l,k=>if x.1=true then freeI l (k + 1) else (k:Int)
theorem freeI_step (l:List S2) {k:Nat} (h:k < l.length):freeI (l.drop k) k=if l[k].1=true then freeI (l.drop (k + 1)) (k + 1) else (k:Int):=by
  rw [List.drop_eq_getElem_cons h,freeI]
theorem freeI_spec:∀ (l:List S2) (k:Nat),(freeI l k = -1 ∧ ∀ x ∈ l,x.1=true) ∨ ∃ i,∃ h:i < l.length,freeI l k=((k + i:Nat):Int) ∧ l[i].1=false
  | [],_=>.inl ⟨rfl,by simp⟩
  | x :: l,k=>by
    unfold freeI
    cases hx:x.1 with
    | false=>exact .inr ⟨0,by simp,by simp,by simpa using hx⟩
    | true =>
      rw [if_pos rfl]
      rcases freeI_spec l (k + 1) with ⟨h1,h2⟩ | ⟨i,hi,h1,h2⟩
      · exact .inl ⟨h1,fun y hy=>by rcases List.mem_cons.1 hy with rfl | hy;exact hx;exact h2 y hy⟩
      · exact .inr ⟨i + 1,by simpa using hi,by rw [h1];omega,by simpa using h2⟩
set_option maxHeartbeats 1600000 in
theorem idx_ok (l:List S2) (A:Option Addr) (m c:Nat) (w:World) (hS:SSl w A m c l) (hm:m ≤ 4096) :
    Calls Tryz.prog 87 #[.slice A m c,.func (.func 88) #[] #[]] w (Ret (.int .i64 (freeI l 0)) w):=by
  have HL:=hide hS.length
  have QA:=hide add1_ok
  obtain ⟨F,hF⟩:∃ F,F=freeI l 0:=⟨_,rfl⟩
  rw [← hF]
  have HF:=hide hF
  clear hF
  go_enter Tryz.func87,Tryz.ntmps87
  go_wp2_with (fail)
  go_loopw [8] (fun i wr=>∃ k:Nat,k ≤ m ∧ i=.int .i64 k ∧ Below w.heap.size w wr ∧ Hid (F=freeI (l.drop k) k)) (fun i _=>m - (intOf i).toNat)
  case atStart=>exact ⟨0,Nat.zero_le _,rfl,Below.refl _ _,by simpa using HF⟩
  case round =>
    obtain ⟨k,hk,rfl,hbr,HG⟩:=hrel
    have hSr:=SSl.below hS hbr
    by_cases hlt:k < m
    · have hx:k < l.length:=by have:=HL.out;omega
      obtain ⟨ad,rfl,had,c0,c1⟩:=hSr.get hx
      have HST:=hide (freeI_step l hx)
      generalize l[k].1=u at *
      generalize l[k].2=key at *
      clear hSr
      cases u with
      | true =>
        have HN:=hide (show F=freeI (l.drop (k + 1)) (k + 1) by rw [HG.out,HST.out];rfl)
        go_wp2_with (fail)
        refine (QA.out _ _ _).mono ?_
        rintro e w1 ⟨rfl,b1⟩
        have hb1:=hbr.trans (b1.mono hbr.size)
        clear b1 HG HST
        go_wp2_with (fail)
        exact ⟨⟨k + 1,by omega,by go_num,hb1,HN⟩,by simp [intOf];omega⟩
      | false =>
        have HN:=hide (show (k:Int)=F by rw [HG.out,HST.out];rfl)
        go_wp2_with (fail)
        refine (QA.out _ _ _).mono ?_
        rintro e w1 ⟨rfl,b1⟩
        have hb1:=hbr.trans (b1.mono hbr.size)
        clear b1 HG HST
        go_wp2_with (fail)
        go_ret
        exact ⟨congrArg (fun x=>Ending.returned (.int .i64 x)) HN.out,hb1⟩
    · have HN:=hide (show (-1:Int)=F by rw [HG.out,List.drop_eq_nil_of_le (by have:=HL.out;omega)];rfl)
      go_wp2_with (fail)
      go_ret
      exact ⟨congrArg (fun x=>Ending.returned (.int .i64 x)) HN.out,hbr⟩
theorem slots_made (n:Nat):madeCells (Value.agg #[.bool false,.int .u64 0]).cells (n * 2)=(scells (List.replicate n (false,0))).toArray:=by
  apply Array.ext
  · simp [size_madeCells,scells_len]
  · intro i h1 h2
    have h3:i < n * 2:=by simpa [size_madeCells] using h1
    have key:(scells (List.replicate n (false,0)))[i]? = some (if i % 2=0 then Value.bool false else .int .u64 0):=by
      have hi:i / 2 < (List.replicate n ((false,0):S2)).length:=by simp;omega
      rcases Nat.mod_two_eq_zero_or_one i with h | h
      · have:=scells_get0 (List.replicate n (false,0)) (i / 2) hi
        rw [show i / 2 * 2=i by omega] at this
        rw [this,if_pos h];simp
      · have:=scells_get1 (List.replicate n (false,0)) (i / 2) hi
        rw [show i / 2 * 2 + 1=i by omega] at this
        rw [this,if_neg (by omega)];simp
    rw [List.getElem?_eq_getElem (by simpa using h2)] at key
    simp only [Option.some.injEq] at key
    have key2:(scells (List.replicate n (false,0))).toArray[i]=(if i % 2=0 then Value.bool false else .int .u64 0):=by simpa using key
    rw [key2]
    rcases Nat.mod_two_eq_zero_or_one i with h | h
    · simp [madeCells,Value.cells,h]
    · simp [madeCells,Value.cells,h]
set_option maxHeartbeats 1600000 in
theorem newV_ok (n:Nat) (h1:1 ≤ n) (h2:n ≤ 1024) (w:World) :
    Calls Tryz.prog 14 #[.int .i64 n] w fun e w'=>∃ R d,e=.returned (.tuple #[.slice R n d,.int .i64 0]) ∧ SSl w' R n d (List.replicate n (false,0)) ∧ Below w.heap.size w w':=by
  obtain ⟨i0,hi0,hz0,hz1,hz2⟩:=info_parts slot_info
  have hmk:=fun W=>run_make_rowN (P:=Tryz.prog) 31 106 i0 _ Tryz.underlying31 hi0 hz0 .i64 .i64 n n (Nat.le_refl _) (by rw [hz2];omega) (by omega) W
  rw [hz1,slots_made] at hmk
  have QS:=hide (fun W=>sized_yes n h1 h2 W)
  clear hi0 hz0 hz1 hz2
  go_enter Tryz.func14,Tryz.ntmps14
  go_wp2_with (fail)
  refine (QS.out _).mono ?_
  rintro e w1 ⟨rfl,b1⟩
  go_wp2_with (fail)
  have HB:=Blk.new w1 106 (scells (List.replicate n (false,0))).toArray
  go_ret2
  exact ⟨_,_,rfl,Sl.of_blk HB (by rw [scells_len,List.length_replicate]) (fun x hx=>by simp) (by simp) (by unfold maxLen;omega),b1.alloc b1.size _⟩
set_option maxHeartbeats 1600000 in
theorem vright_ok (l:List S2) (hl:SOK l) (A:Option Addr) (m c:Nat) (w:World) (hS:SSl w A m c l) (h1:1 ≤ m) (h2:m ≤ 1000) :
    Calls Tryz.prog 39 #[.slice A m c] w (Ret (.bool true) w):=by
  have QK:=hide (fun W h=>keyed_ok l hl A m c W h h1 h2)
  clear hl
  go_enter Tryz.func39,Tryz.ntmps39
  go_wp2_with (fail)
  refine (QK.out _ hS).mono ?_
  rintro e w1 ⟨p,t,rfl,_,_,b1⟩
  go_wp2_with (fail)
  go_ret
  exact ⟨rfl,b1.alloc b1.size _⟩
theorem getV_form (l:List (Int × Int)) (key:Int):∃ a b,getV l key=.tuple #[.int .i64 a,.bool b]:=by
  unfold getV
  split
  · exact ⟨_,_,rfl⟩
  · exact ⟨_,_,rfl⟩
set_option maxHeartbeats 1600000 in
theorem vfind_ok (l:List S2) (hl:SOK l) (key:Int) (A:Option Addr) (m c:Nat) (w:World) (hS:SSl w A m c l) (h1:1 ≤ m) (h2:m ≤ 1000) :
    Calls Tryz.prog 17 #[.slice A m c,.int .u64 key] w (Ret (getV (dnK l l.length) key) w):=by
  have hlen:=hS.length
  rw [hlen]
  have QK:=hide (fun W h=>keyed_ok l hl A m c W h h1 h2)
  have QG:=hide (fun (t:Tr) p W (h:Rep W p t) (ht:t.toL=dnK l m)=>get_ok t p key W h (by rw [t.sz_len,ht];have:=dnK_len l m;omega) (by rw [ht];exact dnK_sorted hl (by omega)))
  obtain ⟨a,b,hV⟩:=getV_form (dnK l m) key
  have HV:=hide hV
  rw [hV]
  clear hl hV hlen
  go_enter Tryz.func17,Tryz.ntmps17
  go_wp2_with (fail)
  refine (QK.out _ hS).mono ?_
  rintro e w1 ⟨p,t,rfl,R1,T1,b1⟩
  have HR:=hide (R1.alloc (.cells #[.pointer p] 109))
  have QH:=hide (fun W (h:Rep W p t)=>QG.out t p W h T1)
  rw [T1,HV.out] at QH
  clear R1 T1 QG QK
  go_wp2_with (fail)
  refine (QH.out _ HR.out).mono ?_
  rintro e w2 ⟨rfl,b2⟩
  have hb2:=(b1.alloc b1.size (.cells #[.pointer p] 109)).trans (b2.mono (Nat.le_trans b1.size (by simp)))
  go_wp2_with (fail)
  go_ret2
  exact ⟨rfl,hb2⟩
end Go.Proofs.YtppblcbgkadldaaGreatDoor
namespace Go.Proofs.YtppblcbgkadldaaGreatDoor
open Go Go.RowKit
set_option maxRecDepth 100000
attribute [local go_sem] Heavy heavyUpon
theorem scells_set (l:List S2) (k:Nat) (x:S2):((scells l).set (k * 2) (.bool x.1)).set (k * 2 + 1) (.int .u64 x.2)=scells (l.set k x):=by
  induction l generalizing k with
  | nil=>simp [scells]
  | cons y l ih =>
    cases k with
    | zero=>simp [scells,scell]
    | succ k =>
      have e:scells (y :: l)=.bool y.1 :: .int .u64 y.2 :: scells l:=rfl
      have e2:scells ((y :: l).set (k + 1) x)=.bool y.1 :: .int .u64 y.2 :: scells (l.set k x):=rfl
      rw [e,e2,← ih k,show (k + 1) * 2=k * 2 + 1 + 1 by omega,show k * 2 + 1 + 1 + 1=(k * 2 + 1) + 1 + 1 by omega]
      rfl
theorem free_used:∀ (l:List S2) (k i:Nat),freeI l k=((k + i:Nat):Int) → ∀ (j:Nat) (h:j < l.length),j < i → l[j].1=true
  | [],_,_,_,j,h,_=>by simp at h
  | x :: l,k,i,he,j,h,hj=>by
    unfold freeI at he
    cases hx:x.1 with
    | false=>rw [hx,if_neg (by decide)] at he;omega
    | true =>
      rw [hx,if_pos rfl] at he
      cases j with
      | zero=>exact hx
      | succ j=>exact free_used l (k + 1) (i - 1) (by rw [he];omega) j (by simpa using h) (by omega)
def RetAdd (l:List S2) (key:Int) (A:Option Addr) (m c:Nat) (w:World) (e:Ending) (w':World):Prop:=
  ((∃ i,IsSlot l key i) ∧ e=.returned (.tuple #[.slice A m c,.int .i64 0,.int .i64 4]) ∨
  (¬ (∃ i,IsSlot l key i) ∧ (∀ x ∈ l,x.1=true) ∧ e=.returned (.tuple #[.slice A m c,.int .i64 0,.int .i64 10])) ∨
  (¬ (∃ i,IsSlot l key i) ∧ ∃ v R d,∃ h:v < l.length,(l[v].1=false ∧ ∀ (j:Nat) (hj:j < l.length),j < v → l[j].1=true) ∧ e=.returned (.tuple #[.slice R m d,.int .i64 v,.int .i64 0]) ∧ SSl w' R m d (l.set v (true,key)))) ∧ Below w.heap.size w w'
set_option maxHeartbeats 3200000 in
theorem vadd_ok (l:List S2) (hl:SOK l) (key:Int) (A:Option Addr) (m c:Nat) (w:World) (hS:SSl w A m c l) (h1:1 ≤ m) (h2:m ≤ 1000) :
    Calls Tryz.prog 52 #[.slice A m c,.int .u64 key] w (RetAdd l key A m c w):=by
  have hlen:=hS.length
  have QK:=hide (fun W h=>keyed_ok l hl A m c W h h1 h2)
  have QG:=hide (fun (t:Tr) p W (h:Rep W p t) (ht:t.toL=dnK l m)=>get_ok t p key W h (by rw [t.sz_len,ht];have:=dnK_len l m;omega) (by rw [ht];exact dnK_sorted hl (by omega)))
  have HLN:=hide hlen
  by_cases hs:∃ i,IsSlot l key i
  · obtain ⟨i,hi⟩:=hs
    have hV:=get_slot hl hi
    rw [hlen] at hV
    have HV:=hide hV
    have HI:=hide hi
    clear hl hV hlen hi
    (go_enter Tryz.func52,Tryz.ntmps52;go_wp2_with (fail);refine (QK.out _ hS).mono ?_;rintro e w1 ⟨p,t,rfl,R1,T1,b1⟩;have HR:=hide (R1.alloc (.cells #[.pointer p] 109));have QH:=hide (fun W (h:Rep W p t)=>QG.out t p W h T1);rw [T1,HV.out] at QH;clear R1 T1 QG QK;go_wp2_with (fail);refine (QH.out _ HR.out).mono ?_;rintro e w2 ⟨rfl,b2⟩;have hb2:=(b1.alloc b1.size (.cells #[.pointer p] 109)).trans (b2.mono (Nat.le_trans b1.size (by simp)));clear b1 b2 HR QH;go_wp2_with (fail))
    go_ret3
    exact ⟨.inl ⟨⟨i,HI.out⟩,rfl⟩,hb2⟩
  · have hV:=get_noslot (l:=l) (key:=key) (fun i hi=>hs ⟨i,hi⟩)
    rw [hlen] at hV
    have HV:=hide hV
    have HS:=hide hs
    have QI:=hide (fun W h=>idx_ok l A m c W h (by omega))
    have hF:=freeI_spec l 0
    clear hl hV hlen hs
    rcases hF with ⟨hF,hall⟩ | ⟨v,hv,hF,hu⟩
    · rw [hF] at QI
      have HA:=hide hall
      clear hF hall
      (go_enter Tryz.func52,Tryz.ntmps52;go_wp2_with (fail);refine (QK.out _ hS).mono ?_;rintro e w1 ⟨p,t,rfl,R1,T1,b1⟩;have HR:=hide (R1.alloc (.cells #[.pointer p] 109));have QH:=hide (fun W (h:Rep W p t)=>QG.out t p W h T1);rw [T1,HV.out] at QH;clear R1 T1 QG QK;go_wp2_with (fail);refine (QH.out _ HR.out).mono ?_;rintro e w2 ⟨rfl,b2⟩;have hb2:=(b1.alloc b1.size (.cells #[.pointer p] 109)).trans (b2.mono (Nat.le_trans b1.size (by simp)));clear b1 b2 HR QH;go_wp2_with (fail))
      refine (QI.out _ (SSl.below hS hb2)).mono ?_
      rintro e w3 ⟨rfl,b3⟩
      have hb3:=hb2.trans (b3.mono hb2.size)
      clear b3
      go_wp2_with (fail)
      go_ret3
      exact ⟨.inr (.inl ⟨HS.out,HA.out,rfl⟩),hb3⟩
    · rw [hF] at QI
      rw [Nat.zero_add] at QI
      have HU:=hide (And.intro hu (free_used l 0 v (by rw [hF,Nat.zero_add])))
      have HV2:=hide hv
      have hvm:v < m:=by have:=HLN.out;omega
      have hcap:=hS.cap
      have hle:=hS.le
      unfold maxLen at hcap
      clear hF hu
      have QC:=hide (fun W (h:SSl W A m c l)=>cloneS_ok (scells l) A m c W h scells_one (by omega))
      have HSET:=hide (scells_set l v (true,key))
      have hc0:=scells_get0 l v HV2.out
      have hc1:=scells_get1 l v HV2.out
      have HC0:=hide hc0
      have HC1:=hide hc1
      clear hc0 hc1
      (go_enter Tryz.func52,Tryz.ntmps52;go_wp2_with (fail);refine (QK.out _ hS).mono ?_;rintro e w1 ⟨p,t,rfl,R1,T1,b1⟩;have HR:=hide (R1.alloc (.cells #[.pointer p] 109));have QH:=hide (fun W (h:Rep W p t)=>QG.out t p W h T1);rw [T1,HV.out] at QH;clear R1 T1 QG QK;go_wp2_with (fail);refine (QH.out _ HR.out).mono ?_;rintro e w2 ⟨rfl,b2⟩;have hb2:=(b1.alloc b1.size (.cells #[.pointer p] 109)).trans (b2.mono (Nat.le_trans b1.size (by simp)));clear b1 b2 HR QH;go_wp2_with (fail))
      refine (QI.out _ (SSl.below hS hb2)).mono ?_
      rintro e w3 ⟨rfl,b3⟩
      have hb3:=hb2.trans (b3.mono hb2.size)
      clear b3 hb2
      go_wp2_with (fail)
      refine (QC.out _ (SSl.below hS hb3)).mono ?_
      rintro e w6 ⟨R6,d6,rfl,own6,b6⟩
      have b16:=hb3.trans (b6.mono hb3.size)
      obtain ⟨g,cap,hv6,hg1,hg2⟩:=own6.form (by omega)
      injection hv6 with hv1 hv2 hv3
      subst hv1 hv3
      have fz:=own6.frozenAt
      have cz:=own6.cellAt (v * 2) (by omega)
      have cy:=own6.cellAt (v * 2 + 1) (by omega)
      rw [HC0.out] at cz
      rw [HC1.out] at cy
      have hgw:w.heap.size ≤ g:=Nat.le_trans hb3.size hg1
      have OW:=hide ((own6.stored (v * 2) (.bool true)).1.stored (v * 2 + 1) (.int .u64 key)).1
      rw [HSET.out] at OW
      clear own6 b6 hb3 hg1 HSET QC QI
      go_wp2_with (fail)
      refine bodyPost_ret (v:=.tuple #[.slice (some ⟨g,0,none⟩) m d6,.int .i64 v,.int .i64 0]) (by simp [results,Tryz.results52,go_sem]) rfl ⟨.inr (.inr ⟨HS.out,v,_,d6,HV2.out,HU.out,rfl,own_sl OW.out [] (by simp)⟩),(b16.setCell hgw _).setCell hgw _⟩
def RetRemove (l:List S2) (key:Int) (A:Option Addr) (m c:Nat) (w:World) (e:Ending) (w':World):Prop:=
  ((¬ (∃ i,IsSlot l key i) ∧ e=.returned (.tuple #[.slice A m c,.int .i64 7])) ∨
  (∃ v R d,IsSlot l key v ∧ e=.returned (.tuple #[.slice R m d,.int .i64 0]) ∧ SSl w' R m d (l.set v (false,0)))) ∧ Below w.heap.size w w'
set_option maxHeartbeats 3200000 in
theorem vremove_ok (l:List S2) (hl:SOK l) (key:Int) (A:Option Addr) (m c:Nat) (w:World) (hS:SSl w A m c l) (h1:1 ≤ m) (h2:m ≤ 1000) :
    Calls Tryz.prog 53 #[.slice A m c,.int .u64 key] w (RetRemove l key A m c w):=by
  have hlen:=hS.length
  have QK:=hide (fun W h=>keyed_ok l hl A m c W h h1 h2)
  have QG:=hide (fun (t:Tr) p W (h:Rep W p t) (ht:t.toL=dnK l m)=>get_ok t p key W h (by rw [t.sz_len,ht];have:=dnK_len l m;omega) (by rw [ht];exact dnK_sorted hl (by omega)))
  have HLN:=hide hlen
  by_cases hs:∃ i,IsSlot l key i
  · obtain ⟨v,hi⟩:=hs
    have hV:=get_slot hl hi
    rw [hlen] at hV
    have HV:=hide hV
    have HI:=hide hi
    have hv:=hi.1
    have hvm:v < m:=by omega
    have hcap:=hS.cap
    have hle:=hS.le
    unfold maxLen at hcap
    have QC:=hide (fun W (h:SSl W A m c l)=>cloneS_ok (scells l) A m c W h scells_one (by omega))
    have HSET:=hide (scells_set l v (false,0))
    have HC0:=hide (scells_get0 l v hv)
    have HC1:=hide (scells_get1 l v hv)
    clear hl hV hlen hi
    (go_enter Tryz.func53,Tryz.ntmps53;go_wp2_with (fail);refine (QK.out _ hS).mono ?_;rintro e w1 ⟨p,t,rfl,R1,T1,b1⟩;have HR:=hide (R1.alloc (.cells #[.pointer p] 109));have QH:=hide (fun W (h:Rep W p t)=>QG.out t p W h T1);rw [T1,HV.out] at QH;clear R1 T1 QG QK;go_wp2_with (fail);refine (QH.out _ HR.out).mono ?_;rintro e w2 ⟨rfl,b2⟩;have hb2:=(b1.alloc b1.size (.cells #[.pointer p] 109)).trans (b2.mono (Nat.le_trans b1.size (by simp)));clear b1 b2 HR QH;go_wp2_with (fail))
    refine (QC.out _ (SSl.below hS hb2)).mono ?_
    rintro e w6 ⟨R6,d6,rfl,own6,b6⟩
    have b16:=hb2.trans (b6.mono hb2.size)
    obtain ⟨g,cap,hv6,hg1,hg2⟩:=own6.form (by omega)
    injection hv6 with hv1 hv2 hv3
    subst hv1 hv3
    have fz:=own6.frozenAt
    have cz:=own6.cellAt (v * 2) (by omega)
    have cy:=own6.cellAt (v * 2 + 1) (by omega)
    rw [HC0.out] at cz
    rw [HC1.out] at cy
    have hgw:w.heap.size ≤ g:=Nat.le_trans hb2.size hg1
    have OW:=hide ((own6.stored (v * 2) (.bool false)).1.stored (v * 2 + 1) (.int .u64 0)).1
    rw [HSET.out] at OW
    have hbd:∀ W,(Instr.build 106 #[]).run Tryz.prog W=.ok (.agg #[.bool false,.int .u64 0]) W:=fun _=>by kernel_rfl
    clear own6 b6 hb2 hg1 HSET QC
    go_wp2_with (fail)
    refine bodyPost_ret (v:=.tuple #[.slice (some ⟨g,0,none⟩) m d6,.int .i64 0]) (by simp [results,Tryz.results53,go_sem]) rfl ⟨.inr ⟨v,_,d6,HI.out,rfl,own_sl OW.out [] (by simp)⟩,(b16.setCell hgw _).setCell hgw _⟩
  · have hV:=get_noslot (l:=l) (key:=key) (fun i hi=>hs ⟨i,hi⟩)
    rw [hlen] at hV
    have HV:=hide hV
    have HS:=hide hs
    clear hl hV hlen hs
    (go_enter Tryz.func53,Tryz.ntmps53;go_wp2_with (fail);refine (QK.out _ hS).mono ?_;rintro e w1 ⟨p,t,rfl,R1,T1,b1⟩;have HR:=hide (R1.alloc (.cells #[.pointer p] 109));have QH:=hide (fun W (h:Rep W p t)=>QG.out t p W h T1);rw [T1,HV.out] at QH;clear R1 T1 QG QK;go_wp2_with (fail);refine (QH.out _ HR.out).mono ?_;rintro e w2 ⟨rfl,b2⟩;have hb2:=(b1.alloc b1.size (.cells #[.pointer p] 109)).trans (b2.mono (Nat.le_trans b1.size (by simp)));clear b1 b2 HR QH;go_wp2_with (fail))
    go_ret2
    exact ⟨.inl ⟨HS.out,rfl⟩,hb2⟩
end Go.Proofs.YtppblcbgkadldaaGreatDoor
