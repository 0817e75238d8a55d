/-
  A part of the proof that the law TopForest returns true for every input and leaves its arguments as they were: WriteU, Run.
-/
import Derived.Test.YtppblcbgkadldaaGreatDoorZ47
set_option linter.all false
namespace Go.Proofs.YtppblcbgkadldaaGreatDoor
open Go Go.RowKit
set_option maxRecDepth 100000
attribute [local go_sem] Heavy heavyUpon
def AllU8 (l:List Value):Prop:=∀ u ∈ l,∃ c,u=.int .u8 c
def RowU8 (w:World) (v:Value):Prop:=∀ g,v.ownBlock=some g → ∃ cs fz,w.heap[g]? = some (.cells cs 5 fz) ∧ AllU8 cs.toList
theorem AllU8.dull {cs:Array Value} (h:AllU8 cs.toList):Dull cs:=by
  intro i v
  constructor <;> intro hc <;> (obtain ⟨c,hc'⟩:=h _ (Array.mem_toList_iff.2 (Array.mem_of_getElem? hc))) <;> cases hc'
theorem AllU8.app {a b:List Value} (ha:AllU8 a) (hb:AllU8 b):AllU8 (a ++ b):=by
  intro u hu
  rcases List.mem_append.1 hu with h | h
  · exact ha u h
  · exact hb u h
theorem strU8 (s:ByteArray):AllU8 (Lib.strCells s):=by
  intro u hu
  unfold Lib.strCells at hu
  obtain ⟨x,_,rfl⟩:=List.mem_map.1 hu
  exact ⟨_,rfl⟩
theorem zeroU8 (n:Nat):AllU8 (Builtin.zeroCells (Value.int .u8 0).cells n).toList:=by
  intro u hu
  have hu:=Array.mem_toList_iff.1 hu
  unfold Builtin.zeroCells at hu
  obtain ⟨i,_,rfl⟩:=Array.mem_map.1 hu
  have:(Value.int IntKind.u8 0).cells=#[.int .u8 0]:=rfl
  rw [this]
  have e:i % (#[Value.int IntKind.u8 0]:Array Value).size=0:=Nat.mod_one i
  rw [e]
  exact ⟨0,rfl⟩
theorem rowU8_take {w:World} {B:Nat} {v:Value} {n:Nat} {xs:List Value} (h:w.ownsRowF B 5 1 v n xs) (hu:RowU8 w v):AllU8 xs:=by
  rcases h.2 with ⟨_,hn⟩ | ⟨g,cap,cur,fz,rfl,_,hg,_,_,_,_,ht⟩
  · have:xs=[]:=List.eq_nil_of_length_eq_zero (by have:=h.1;omega)
    subst this
    intro u h'
    cases h'
  · obtain ⟨cs,fz',h1,h2⟩:=hu g rfl
    rw [hg] at h1
    injection h1 with h1
    injection h1 with h1
    subst h1
    rw [← ht]
    intro u h'
    exact h2 u (List.mem_of_mem_take h')
theorem rowU8_new {w:World} {cs:List Value} (h:AllU8 cs) (n c:Nat):RowU8 (w.drew.alloc (.cells cs.toArray 5)) (.slice (some ⟨w.heap.size,0,none⟩) n c):=by
  intro g hg
  have:w.heap.size=g:=by simpa [Value.ownBlock] using hg
  subst this
  exact ⟨_,_,heap_alloc_new w.drew _,h⟩
theorem app_arr (a b:List Value) (c:Array Value):a.toArray ++ b.toArray ++ c=(a ++ b ++ c.toList).toArray:=by
  apply Array.ext'
  simp
section
variable {w w':World} {B n:Nat} {v v':Value} {xs:List Value}
theorem row_room {g cap:Nat} {cur:Array Value} {fz:Nat × Nat} {xs news:List Value} (hg:w.heap[g]? = some (.cells cur 5 fz)) (hu:RowU8 w (.slice (some ⟨g,0,none⟩) n cap)) (hn:AllU8 news) (k j m c:Nat) :
    RowU8 (w.setRow g (cur.toList.take k ++ news ++ cur.toList.drop j).toArray) (.slice (some ⟨g,0,none⟩) m c):=by
  intro g' hg'
  have:g=g':=by simpa [Value.ownBlock] using hg'
  subst this
  obtain ⟨cs,fz',h1,h2⟩:=hu g rfl
  rw [hg] at h1
  injection h1 with h1
  injection h1 with h1
  subst h1
  refine ⟨_,_,setRow_heap w g cur _ 5 fz hg,?_⟩
  exact ((show AllU8 (cur.toList.take k) from fun u hh=>h2 u (List.mem_of_mem_take hh)).app hn).app (fun u hh=>h2 u (List.mem_of_mem_drop hh))
theorem str_u8 (hown:w.ownsRowF B 5 1 v n xs) (hu:RowU8 w v) (s:ByteArray) {i:TypeInfo} (hi:Tryz.prog.info? 5=some i) (hz:i.zero=some (.int .u8 0)) (hsize:i.size=1) (hby:i.bytes=1)
    (hbytes:n + s.size ≤ 140737488355328) (hbase:B ≤ w.heap.size) (hr:(Builtin.append_ #[90,9] 90 #[v,.string s]).run Tryz.prog w=.ok v' w'):RowU8 w' v':=by
  have hx:=rowU8_take hown hu
  obtain ⟨v1,w1,r1,_,_,hiff⟩:=Lib.run_append_own_stringF (P:=Tryz.prog) w B 90 9 90 5 i Tryz.underlying90 Tryz.underlying9 hi hz hsize hby v n xs hown s (by unfold maxLen;omega) hbytes hbase
  rw [r1] at hr
  injection hr with e1 e2
  subst e1
  subst e2
  rcases hown.2 with ⟨rfl,rfl⟩ | ⟨g,cap,cur,fz,rfl,hbg,hg,hfz,hnc,hcm,hcs,htake⟩
  · by_cases h0:s.size=0
    · rw [hiff.2 ⟨rfl,h0⟩]
      intro g hg
      cases hg
    · have hr:=run_append_nil_string (P:=Tryz.prog) w 90 9 90 5 i (.int .u8 0) Tryz.underlying90 Tryz.underlying9 hi hz s (by omega) (by omega) (by rw [hby];omega)
      rw [r1] at hr
      injection hr with e1 e2
      subst e1
      subst e2
      have e1:(s.data.map fun b=>Value.int .u8 b.toNat) ++ Builtin.zeroCells (Value.int .u8 0).cells (grownCap w s.size 0 5 - s.size)=(Lib.strCells s ++ (Builtin.zeroCells (Value.int .u8 0).cells (grownCap w s.size 0 5 - s.size)).toList).toArray:=by
        apply Array.ext'
        simp [Lib.strCells]
      rw [e1]
      exact rowU8_new ((strU8 s).app (zeroU8 _)) _ _
  · have hxl:xs.length=n:=by simpa using hown.1
    by_cases hroom:n + s.size ≤ cap
    · have hcs':cur.size=cap:=by simpa using hcs
      have hr:=Lib.run_append_room_stringF (P:=Tryz.prog) w 90 9 90 5 i Tryz.underlying90 Tryz.underlying9 hi hsize g n cap cur fz hg (by simpa using hfz) s hroom (by omega)
      rw [r1] at hr
      injection hr with e1 e2
      subst e1
      subst e2
      exact row_room hg hu (strU8 s) _ _ _ _ (xs:=[])
    · have holds:∀ j u,xs[j]? = some u → w.cell? ((⟨g,0,none⟩:Addr).add j)=some u:=hown.cells (g:=g) rfl
      have hr:=Lib.run_append_grow_string (P:=Tryz.prog) w 90 9 90 5 i (.int .u8 0) Tryz.underlying90 Tryz.underlying9 hi hz ⟨g,0,none⟩ n cap xs (by rw [hsize];simpa using hxl) holds s (by omega) (by omega) (by rw [hby];exact growslice_fits (by omega) (by omega))
      rw [r1] at hr
      injection hr with e1 e2
      subst e1
      subst e2
      rw [app_arr]
      exact rowU8_new ((hx.app (strU8 s)).app (zeroU8 _)) _ _
theorem one_u8 (hown:w.ownsRowF B 5 1 v n xs) (hu:RowU8 w v) (c:Int) {i:TypeInfo} (hi:Tryz.prog.info? 5=some i) (hz:i.zero=some (.int .u8 0)) (hsize:i.size=1) (hby:i.bytes=1)
    (hbytes:n + 1 ≤ 140737488355328) (hbase:B ≤ w.heap.size) {a:Addr} (hc:w.cell? a=some (.int .u8 c)) (hr:(Builtin.append_ #[90,90] 90 #[v,.slice (some a) 1 1]).run Tryz.prog w=.ok v' w'):RowU8 w' v':=by
  have hx:=rowU8_take hown hu
  have hn:AllU8 [.int .u8 c]:=fun u h=>⟨c,by simpa using h⟩
  have hnews:∀ j u,[Value.int .u8 c][j]? = some u → w.cell? (a.add j)=some u:=by
    intro j u hj
    match j,hj with
    | 0,hj=>simp at hj;subst hj;rw [add_zero_];exact hc
  rcases hown.2 with ⟨rfl,rfl⟩ | ⟨g,cap,cur,fz,rfl,hbg,hg,hfz,hnc,hcm,hcs,htake⟩
  · have hr':=run_append_nil (P:=Tryz.prog) w 90 90 5 i (.int .u8 0) Tryz.underlying90 hi hz a 1 1 [.int .u8 c] (by rw [hsize];rfl) hnews (by omega) (by omega) (by rw [hby];omega)
    rw [hr] at hr'
    injection hr' with e1 e2
    subst e1
    subst e2
    have e1:[Value.int .u8 c].toArray ++ Builtin.zeroCells (Value.int .u8 0).cells (grownCap w 1 0 5 - 1)=([Value.int .u8 c] ++ (Builtin.zeroCells (Value.int .u8 0).cells (grownCap w 1 0 5 - 1)).toList).toArray:=by
      apply Array.ext'
      simp
    rw [e1]
    exact rowU8_new (hn.app (zeroU8 _)) _ _
  · have hxl:xs.length=n:=by simpa using hown.1
    by_cases hroom:n + 1 ≤ cap
    · have hcs':cur.size=cap:=by simpa using hcs
      have hr':=run_append_roomF (P:=Tryz.prog) w 90 90 5 i Tryz.underlying90 hi g n cap cur fz hg (by rw [hsize];simpa using hfz) a 1 1 [.int .u8 c] (by rw [hsize];rfl) hnews (fun u hh=>by obtain ⟨c',rfl⟩:=hn u hh;rfl) hroom (by rw [hsize];simp;omega)
      rw [hr] at hr'
      injection hr' with e1 e2
      subst e1
      subst e2
      exact row_room hg hu hn _ _ _ _ (xs:=[])
    · have holds:∀ j u,xs[j]? = some u → w.cell? ((⟨g,0,none⟩:Addr).add j)=some u:=hown.cells (g:=g) rfl
      have hr':=run_append_grow (P:=Tryz.prog) w 90 90 5 i (.int .u8 0) Tryz.underlying90 hi hz ⟨g,0,none⟩ n cap xs (by rw [hsize];simpa using hxl) holds a 1 1 [.int .u8 c] (by rw [hsize];rfl) hnews (by omega) (by omega) (by rw [hby];exact growslice_fits (by omega) (by omega))
      rw [hr] at hr'
      injection hr' with e1 e2
      subst e1
      subst e2
      rw [app_arr]
      exact rowU8_new ((hx.app hn).app (zeroU8 _)) _ _
theorem wp_str_u8 {ops:Array Oper} {rest:List Oper} {o:Oper} {a:Act} {Q:Exit → Act → World → Prop} (hgd:o.guard=none) (sl x:Operand)
    (ho:o.op=.call { callee:=.builtin .append,args:=#[sl,x],argTypes:=#[90,9] }) (hty:o.type=90)
    {i:TypeInfo} (hi:Tryz.prog.info? 5=some i) (hz:i.zero=some (.int .u8 0)) (hsize:i.size=1) (hby:i.bytes=1)
    (hs:a.eval sl=v) (hown:w.ownsRowF B 5 1 v n xs) (hu:RowU8 w v) (s:ByteArray) (hx:a.eval x=.string s) (hbytes:n + s.size ≤ 140737488355328) (hbase:B ≤ w.heap.size)
    (h:∀ v' w',w'.ownsRowF B 5 1 v' (n + s.size) (xs ++ Lib.strCells s) → w.grownBy w' v.ownBlock → RowU8 w' v' → wpList Tryz.prog ops Q rest (a.put o.dst v') w'):wpList Tryz.prog ops Q (o :: rest) a w:=by
  refine wpList_plain hgd fun K hK=>?_
  obtain ⟨v',w',hr,h2,h3,h4⟩:=Lib.run_append_own_stringF (P:=Tryz.prog) w B 90 9 90 5 i Tryz.underlying90 Tryz.underlying9 hi hz hsize hby v n xs hown s (by unfold maxLen;omega) hbytes hbase
  unfold Oper.wp execOp
  simp only [ho,hty,resolve,invoke,builtin,Sem.run_bind,Sem.run_pure,Result.andThen_ok,List.map_toArray,List.map_cons,List.map_nil,hs,hx,hr]
  exact hK _ _ (h v' w' h2 h3 (str_u8 hown hu s hi hz hsize hby hbytes hbase hr))
theorem wp_one_u8 {ops:Array Oper} {rest:List Oper} {o:Oper} {a:Act} {Q:Exit → Act → World → Prop} (hgd:o.guard=none) (sl x:Operand)
    (ho:o.op=.call { callee:=.builtin .append,args:=#[sl,x],argTypes:=#[90,90] }) (hty:o.type=90)
    {i:TypeInfo} (hi:Tryz.prog.info? 5=some i) (hz:i.zero=some (.int .u8 0)) (hsize:i.size=1) (hby:i.bytes=1)
    (hs:a.eval sl=v) (hown:w.ownsRowF B 5 1 v n xs) (hu:RowU8 w v) (c:Int) (ad:Addr) (hx:a.eval x=.slice (some ad) 1 1) (hc:w.cell? ad=some (.int .u8 c)) (hbytes:n + 1 ≤ 140737488355328) (hbase:B ≤ w.heap.size)
    (h:∀ v' w',w'.ownsRowF B 5 1 v' (n + 1) (xs ++ [.int .u8 c]) → w.grownBy w' v.ownBlock → RowU8 w' v' → wpList Tryz.prog ops Q rest (a.put o.dst v') w'):wpList Tryz.prog ops Q (o :: rest) a w:=by
  refine wpList_plain hgd fun K hK=>?_
  have hn:∀ u ∈ [Value.int .u8 c],u.oneCell'=true:=fun u h=>by obtain rfl:=List.mem_singleton.1 h;rfl
  have hnews:∀ j u,[Value.int .u8 c][j]? = some u → w.cell? (ad.add j)=some u:=by
    intro j u hj
    match j,hj with
    | 0,hj=>simp at hj;subst hj;rw [add_zero_];exact hc
  obtain ⟨v',w',hr,h2,h3,h4⟩:=run_append_ownF (P:=Tryz.prog) w B 90 90 5 i (.int .u8 0) 1 1 Tryz.underlying90 hi hz hsize hby rfl (by decide) v n xs hown ad 1 1 [.int .u8 c] rfl hnews hn (by unfold maxLen;omega) (by omega) hbase
  unfold Oper.wp execOp
  simp only [ho,hty,resolve,invoke,builtin,Sem.run_bind,Sem.run_pure,Result.andThen_ok,List.map_toArray,List.map_cons,List.map_nil,hs,hx,hr]
  exact hK _ _ (h v' w' h2 h3 (one_u8 hown hu c hi hz hsize hby hbytes hbase hc hr))
structure BuAt (B b:Nat) (p v:Value) (bs:List Value) (w:World):Prop where
  base:B ≤ b
  box:w.heap[b]? = some (.cells #[p,v] 92 (0,0))
  own:w.ownsRowF B 5 1 v bs.length bs
  ne:v.ownBlock ≠ some b
  u8:RowU8 w v
def KeptB (b:Nat) (v:Value) (w w':World):Prop:=w.heap.size ≤ w'.heap.size ∧ ∀ k,k < w.heap.size → k ≠ b → v.ownBlock ≠ some k → w'.heap[k]? = w.heap[k]?
theorem BuAt.lt {b:Nat} {p:Value} {bs:List Value} (h:BuAt B b p v bs w):b < w.heap.size:=(Array.getElem?_eq_some_iff.1 h.box).1
theorem RowU8.kept {row:Option Nat} (h:RowU8 w v) (hg:w.grownBy w' row) (hne:v.ownBlock=none ∨ v.ownBlock ≠ row):RowU8 w' v:=by
  intro g hv
  obtain ⟨cs,fz,h1,h2⟩:=h g hv
  refine ⟨cs,fz,(hg.block g (Array.getElem?_eq_some_iff.1 h1).1 ?_).trans h1,h2⟩
  rcases hne with hn | hn
  · rw [hn] at hv;cases hv
  · rw [← hv];exact hn
theorem set_grown (w:World) (b j:Nat) (u:Value):w.grownBy (w.setCell ⟨b,j,none⟩ u) (some b):=
  ⟨rfl,rfl,rfl,by simp [World.setCell],fun k _ hk=>Below.heap_setCell _ _ _ _ (fun e=>hk (by simp [e]))⟩
theorem BuAt.used {b:Nat} {p:Value} {bs:List Value} (h:BuAt B b p v bs w) (q:Value):BuAt B b q v bs (w.setCell ⟨b,0,none⟩ q):=
  ⟨h.base,by simp [World.setCell,Array.getElem?_modify,h.box],h.own.kept (set_grown w b 0 q) (.inr h.ne),h.ne,h.u8.kept (set_grown w b 0 q) (.inr h.ne)⟩
theorem BuAt.put {b:Nat} {p:Value} {bs':List Value} (hB:B ≤ b) (hb:w.heap[b]? = some (.cells #[p,v] 92 (0,0))) (hown:w.ownsRowF B 5 1 v' bs'.length bs') (hu:RowU8 w v'):BuAt B b p v' bs' (w.setCell ⟨b,1,none⟩ v'):=by
  have hne:=Lib.ownBlock_neF hown hb (by decide)
  exact ⟨hB,by simp [World.setCell,Array.getElem?_modify,hb],hown.kept (set_grown w b 1 v') (.inr hne),hne,hu.kept (set_grown w b 1 v') (.inr hne)⟩
theorem BuAt.bld {b:Nat} {p:Value} {bs:List Value} (h:BuAt B b p v bs w) (hp:p=.pointer none ∨ p=.pointer (some ⟨b,0,none⟩)):Lib.IsBuilderF 92 5 B b bs w:=by
  rcases hp with rfl | rfl
  · exact .inl ⟨h.base,v,h.box,h.own,h.ne⟩
  · exact .inr ⟨h.base,v,h.box,h.own,h.ne⟩
theorem copy_u {b:Nat} {p:Value} {bs:List Value} (hp:p=.pointer none ∨ p=.pointer (some ⟨b,0,none⟩)) (h:BuAt B b p v bs w) :
    Calls Tryz.prog 70 #[.pointer (some ⟨b,0,none⟩)] w fun e w'=>e=.returned (.tuple #[]) ∧ BuAt B b (.pointer (some ⟨b,0,none⟩)) v bs w' ∧ Below B w w' ∧ KeptB b v w w':=by
  have c0:w.cell? ⟨b,0,none⟩=some p:=by rw [Lib.cell_of_heap h.box];rfl
  rcases hp with rfl | rfl
  · refine (copy_fresh b w c0 (by simp [World.shape?,h.box]) (by simp [World.frozen?,h.box])).mono ?_
    rintro e w' ⟨rfl,rfl⟩
    exact ⟨rfl,h.used _,(Below.refl B w).setCell (p:=⟨b,0,none⟩) h.base _,by simp [World.setCell],fun k _ hk _=>Below.heap_setCell _ _ _ _ hk⟩
  · refine (copy_used b w c0).mono ?_
    rintro e w' ⟨rfl,rfl⟩
    exact ⟨rfl,h,Below.refl B _,Nat.le_refl _,fun _ _ _ _=>rfl⟩
end
set_option maxHeartbeats 3200000 in
theorem wbyte_u (B b:Nat) (p v:Value) (bs:List Value) (c:Int) (w:World) (hp:p=.pointer none ∨ p=.pointer (some ⟨b,0,none⟩)) (h:BuAt B b p v bs w) (hlen:bs.length + 1 ≤ 140737488355328) (hBw:B ≤ w.heap.size) :
    Calls Tryz.prog 37 #[.pointer (some ⟨b,0,none⟩),.int .u8 c] w fun e w'=>e=.returned .nilIface ∧ ∃ v',BuAt B b (.pointer (some ⟨b,0,none⟩)) v' (bs ++ [.int .u8 c]) w' ∧ Below B w w' ∧ KeptB b v w w':=by
  obtain ⟨i0,hi,hz0,hz1,hz2⟩:=info_parts byte_info
  have QC:=hide (fun (_:Unit)=>copy_u hp h)
  go_enter Tryz.func37,Tryz.ntmps37
  go_wp2_with (fail)
  refine (QC.out ()).mono ?_
  clear QC h
  rintro e w1 ⟨rfl,h1,hb1,hk1⟩
  have hne:=h1.ne
  have hbk:=h1.box
  have hB:=h1.base
  have c0:w1.cell? ⟨b,0,none⟩=some (.pointer (some ⟨b,0,none⟩)):=by rw [Lib.cell_of_heap hbk];rfl
  have c1:w1.cell? ⟨b,1,none⟩=some v:=by rw [Lib.cell_of_heap hbk];rfl
  have H1:=hide h1
  clear h1
  (go_wp2_with (at_builtin;refine stopAt ?_);refine stopGo ?_)
  refine wp_one_u8 rfl _ _ rfl rfl hi hz0 hz1 hz2 rfl (H1.out.own.alloc _) (H1.out.u8.kept (World.grownBy_alloc w1 _ none) (by cases hv:v.ownBlock <;> simp)) c ⟨w1.heap.size,0,none⟩ rfl ?c1 hlen ?c5 ?_
  case c1=>rw [Lib.cell_of_heap (heap_alloc_new w1 _)];rfl
  case c5=>have:=hb1.size;simp;omega
  intro v' w2 hown' hgrow hu'
  have hlt:b < w1.heap.size:=H1.out.lt
  have hb2:w2.heap[b]? = some (.cells #[.pointer (some ⟨b,0,none⟩),v] 92 (0,0)):=by
    rw [hgrow.block b (by simp;omega) (fun e=>hne e.symm),Lib.alloc_old w1 _ b hlt]
    exact hbk
  have d0:w2.cell? ⟨b,0,none⟩=some (.pointer (some ⟨b,0,none⟩)):=by rw [Lib.cell_of_heap hb2];rfl
  have d1:w2.cell? ⟨b,1,none⟩=some v:=by rw [Lib.cell_of_heap hb2];rfl
  have f1:w2.frozen? ⟨b,1,none⟩=false:=Lib.frozen_of_heap hb2 1
  obtain ⟨g,cap,rfl⟩:∃ g cap,v'=.slice (some ⟨g,0,none⟩) (bs.length + 1) cap:=by
    rcases hown'.2 with ⟨_,h0⟩ | ⟨g,cap,cur,fz,hv,_⟩
    · omega
    · exact ⟨g,cap,hv⟩
  go_wp2_with (fail)
  go_ret
  refine ⟨rfl,_,BuAt.put hB hb2 (bs':=bs ++ [.int .u8 c]) (by simpa using hown') hu',?_,?_,?_⟩
  · exact ((hb1.alloc (by have:=hb1.size;omega) _).grown hgrow (by have:=hb1.size;simp;omega) (fun k hk=>(H1.out.own.lt k hk).1)).setCell (p:=⟨b,1,none⟩) hB _
  · have:=hk1.1;have:=hgrow.size;simp [World.setCell];simp at this;omega
  · intro k hk hkb hkv
    rw [Below.heap_setCell _ _ _ _ hkb,hgrow.block k (by have:=hk1.1;simp;omega) (fun e=>hkv e.symm),Lib.alloc_old w1 _ k (by have:=hk1.1;omega)]
    exact hk1.2 k hk hkb hkv
set_option maxHeartbeats 3200000 in
theorem wstr_u (B b:Nat) (p v:Value) (bs:List Value) (s:ByteArray) (w:World) (hp:p=.pointer none ∨ p=.pointer (some ⟨b,0,none⟩)) (h:BuAt B b p v bs w) (hlen:bs.length + s.size ≤ 140737488355328) (hBw:B ≤ w.heap.size) :
    Calls Tryz.prog 36 #[.pointer (some ⟨b,0,none⟩),.string s] w fun e w'=>e=.returned (.tuple #[.int .i64 s.size,.nilIface]) ∧ ∃ v',BuAt B b (.pointer (some ⟨b,0,none⟩)) v' (bs ++ Lib.strCells s) w' ∧ Below B w w' ∧ KeptB b v w w':=by
  obtain ⟨i0,hi,hz0,hz1,hz2⟩:=info_parts byte_info
  have QC:=hide (fun (_:Unit)=>copy_u hp h)
  go_enter Tryz.func36,Tryz.ntmps36
  go_wp2_with (fail)
  refine (QC.out ()).mono ?_
  clear QC h
  rintro e w1 ⟨rfl,h1,hb1,hk1⟩
  have hne:=h1.ne
  have hbk:=h1.box
  have hB:=h1.base
  have c0:w1.cell? ⟨b,0,none⟩=some (.pointer (some ⟨b,0,none⟩)):=by rw [Lib.cell_of_heap hbk];rfl
  have c1:w1.cell? ⟨b,1,none⟩=some v:=by rw [Lib.cell_of_heap hbk];rfl
  have H1:=hide h1
  clear h1
  (go_wp2_with (at_builtin;refine stopAt ?_);refine stopGo ?_)
  refine wp_str_u8 rfl _ _ rfl rfl hi hz0 hz1 hz2 rfl H1.out.own H1.out.u8 s rfl hlen ?c5 ?_
  case c5=>have:=hb1.size;omega
  intro v' w2 hown' hgrow hu'
  have hlt:b < w1.heap.size:=H1.out.lt
  have hb2:w2.heap[b]? = some (.cells #[.pointer (some ⟨b,0,none⟩),v] 92 (0,0)):=by
    rw [hgrow.block b hlt (fun e=>hne e.symm)]
    exact hbk
  have d0:w2.cell? ⟨b,0,none⟩=some (.pointer (some ⟨b,0,none⟩)):=by rw [Lib.cell_of_heap hb2];rfl
  have d1:w2.cell? ⟨b,1,none⟩=some v:=by rw [Lib.cell_of_heap hb2];rfl
  have f1:w2.frozen? ⟨b,1,none⟩=false:=Lib.frozen_of_heap hb2 1
  obtain ⟨ao,n',cap,rfl⟩:∃ ao n' cap,v'=.slice ao n' cap:=by
    rcases hown'.2 with ⟨hv,_⟩ | ⟨g,cap,cur,fz,hv,_⟩
    · exact ⟨_,_,_,hv⟩
    · exact ⟨_,_,_,hv⟩
  go_wp2_with (fail)
  go_ret2
  refine ⟨rfl,_,BuAt.put hB hb2 (bs':=bs ++ Lib.strCells s) (by simpa [Lib.strCells_length] using hown') hu',?_,?_,?_⟩
  · exact (hb1.grown hgrow (by have:=hb1.size;omega) (fun k hk=>(H1.out.own.lt k hk).1)).setCell (p:=⟨b,1,none⟩) hB _
  · have:=hk1.1;have:=hgrow.size;simp [World.setCell];omega
  · intro k hk hkb hkv
    rw [Below.heap_setCell _ _ _ _ hkb,hgrow.block k (by have:=hk1.1;omega) (fun e=>hkv e.symm)]
    exact hk1.2 k hk hkb hkv
end Go.Proofs.YtppblcbgkadldaaGreatDoor
namespace Go.Proofs.YtppblcbgkadldaaGreatDoor
open Go Go.RowKit
set_option maxRecDepth 100000
attribute [local go_sem] Heavy heavyUpon
def toldL (i:Nat):List UInt8:=(toldF.getD i sOk).data.toList
def toldA:Nat → List UInt8
  | 0=>[]
  | i + 1=>toldA i ++ toldL i ++ [10]
def lensF:Bool:=(List.range 9).all fun i=>decide ((linesF.getD i []).length ≠ 0) && decide ((toldA i).length ≤ 100) && decide ((toldL i).length ≤ 100)
theorem lensF_ok:lensF=true:=by kernel_rfl
theorem lens_at (i:Nat) (h:i < 9):(linesF.getD i []).length ≠ 0 ∧ (toldA i).length ≤ 100 ∧ (toldL i).length ≤ 100:=by
  have h0:=List.all_eq_true.1 lensF_ok i (List.mem_range.2 h)
  simp only [Bool.and_eq_true,decide_eq_true_eq] at h0
  exact ⟨h0.1.1,h0.1.2,h0.2⟩
theorem told_cells (i:Nat):Lib.byteCells (toldA i) ++ Lib.strCells (toldF.getD i sOk) ++ [.int .u8 10]=Lib.byteCells (toldA (i + 1)):=by
  show _=Lib.byteCells (toldA i ++ toldL i ++ [10])
  rw [Lib.byteCells_append,Lib.byteCells_append]
  rfl
section
variable {B b:Nat} {p v:Value} {bs:List Value} {w w':World}
theorem BuAt.dullAt (h:BuAt B b p v bs w) (hp:p=.pointer none ∨ p=.pointer (some ⟨b,0,none⟩)):∀ g ∈ b :: v.ownBlock.toList,DullAt w g:=by
  intro g hg
  rcases List.mem_cons.1 hg with rfl | hg
  · refine ⟨_,_,_,h.box,?_⟩
    obtain ⟨A,n,c,rfl⟩:∃ A n c,v=.slice A n c:=by
      rcases h.own.2 with ⟨rfl,_⟩ | ⟨g,cap,cur,fz,rfl,_⟩
      · exact ⟨_,_,_,rfl⟩
      · exact ⟨_,_,_,rfl⟩
    intro i x
    match i with
    | 0=>rcases hp with rfl | rfl <;> (constructor <;> (intro he;simp at he))
    | 1=>constructor <;> (intro he;simp at he)
    | i + 2=>constructor <;> (intro he;simp at he)
  · obtain ⟨cs,fz,h1,h2⟩:=h.u8 g (by simpa using hg)
    exact ⟨cs,_,fz,h1,h2.dull⟩
theorem SessAt.kept {Aw:Option Addr} {nw cw t:Nat} {a b' c:Int} {H:Option Addr} {k hc:Nat} {E:Option Addr} {m ce:Nat} {S:Option Addr} {n d:Nat} {ta:Int} {o:Bool} (h:SessAt Aw nw cw t w a b' c H k hc E m ce S n d ta o) (hB:BuAt B b p v bs w) (hp:p=.pointer none ∨ p=.pointer (some ⟨b,0,none⟩)) (hk:KeptB b v w w'):SessAt Aw nw cw t w' a b' c H k hc E m ce S n d ta o:=
  h.dull (hB.dullAt hp) hk.1 fun k hkz hkn=>hk.2 k hkz (fun e=>hkn (by rw [e];exact List.mem_cons_self ..)) (fun e=>hkn (List.mem_cons_of_mem _ (by rw [e];simp)))
theorem BuAt.below (h:BuAt B b p v bs w) (hb:Below w.heap.size w w'):BuAt B b p v bs w':=by
  have hg:w.grownBy w' none:=⟨hb.os,hb.tape,hb.output,hb.size,fun k hk _=>hb.block k hk⟩
  exact ⟨h.base,(hb.block b h.lt).trans h.box,h.own.kept hg (by cases hv:v.ownBlock <;> simp),h.ne,h.u8.kept hg (by cases hv:v.ownBlock <;> simp)⟩
theorem BuAt.grown {row:Option Nat} (h:BuAt B b p v bs w) (hg:w.grownBy w' row) (hr:∀ g,row=some g → g < B):BuAt B b p v bs w':=by
  have hne:v.ownBlock=none ∨ v.ownBlock ≠ row:=by
    cases hv:v.ownBlock
    · exact .inl rfl
    · rename_i g
      exact .inr fun e=>by have:=hr g e.symm;have:=(h.own.lt g hv).1;omega
  refine ⟨h.base,(hg.block b h.lt fun e=>?_).trans h.box,h.own.kept hg hne,h.ne,h.u8.kept hg hne⟩
  have:=hr b e.symm
  have:=h.base
  omega
theorem BuAt.new (w:World):BuAt w.heap.size w.heap.size (.pointer none) (.slice none 0 0) (Lib.byteCells (toldA 0)) (w.alloc (.cells #[.pointer none,.slice none 0 0] 92)):=
  ⟨Nat.le_refl _,heap_alloc_new w _,World.ownsRowF_nil _ _ _ _,by simp [Value.ownBlock],fun g hg=>by cases hg⟩
end
theorem SessAt.sec {Aw:Option Addr} {nw cw t:Nat} {w:World} {a b c:Int} {H:Option Addr} {k hc:Nat} {E:Option Addr} {m ce:Nat} {S:Option Addr} {n d:Nat} {ta:Int} {o:Bool} (h:SessAt Aw nw cw t w a b c H k hc E m ce S n d ta o):SeC 3 #[.int .i64 a,.int .i64 b,.int .i64 c,.slice H k hc,.slice E m ce,.slice S n d,.slice Aw nw cw,.int .i64 ta,.bool o]:=by
  rcases h with ⟨_,h1,h2,_⟩ | ⟨_,h1,_⟩
  · exact ⟨_,_,_,_,_,_,_,_,_,_,_,_,_,_,_,_,_,rfl,.inr ⟨h1,h2⟩⟩
  · exact ⟨_,_,_,_,_,_,_,_,_,_,_,_,_,_,_,_,_,rfl,.inl h1⟩
theorem gr_nine (w:World) (g:Nat) (x0 x1 x2 x3 x4 x5 x6 x7 x8:Value):w.grownBy (((((((((w.setCell ⟨g,0,none⟩ x0).setCell ⟨g,1,none⟩ x1).setCell ⟨g,2,none⟩ x2).setCell ⟨g,3,none⟩ x3).setCell ⟨g,4,none⟩ x4).setCell ⟨g,5,none⟩ x5).setCell ⟨g,6,none⟩ x6).setCell ⟨g,7,none⟩ x7).setCell ⟨g,8,none⟩ x8) (some g):=by
  have st:∀ {w':World} (j:Nat) (u:Value),w.grownBy w' (some g) → w.grownBy (w'.setCell ⟨g,j,none⟩ u) (some g):=fun j u h =>
    ⟨h.os,h.tape,h.output,by simp [World.setCell];exact h.size,fun k hk hn=>(Below.heap_setCell _ _ _ _ (fun e=>hn (by simp [e]))).trans (h.block k hk hn)⟩
  exact st _ _ (st _ _ (st _ _ (st _ _ (st _ _ (st _ _ (st _ _ (st _ _ (st _ _ (World.grownBy.refl w _)))))))))
set_option maxHeartbeats 3200000 in
theorem run_ok (Aw:Option Addr) (nw cw:Nat) (w:World) (hW:Sl w [] 1 Aw nw cw (ints .u64 [7,1,9,2])):Calls Tryz.prog 15 #[.string textF,.slice Aw nw cw] w (Ret (.string ⟨(toldA 9).toArray⟩) w):=by
  have QL:=hide (fun W=>lines_ok W)
  go_enter Tryz.func15,Tryz.ntmps15
  go_wp2_with (fail)
  refine (QL.out _).mono ?_
  rintro e w1 ⟨A,c,vs,rfl,hA,hI,hb1⟩
  have HW:=hide (hW.below hb1)
  replace hA:=hide hA
  replace hI:=hide hI
  replace hb1:=hide hb1
  clear QL hW
  have hB8:=Blk.new w1 88 #[.int .i64 0,.int .i64 0,.int .i64 0,.slice none 0 0,.slice none 0 0,.slice none 0 0,.slice Aw nw cw,.int .i64 0,.bool false]
  have HB8:=hide (hB8.alloc (.cells #[.pointer none,.slice none 0 0] 92))
  have hB9:=BuAt.new (w1.alloc (.cells #[.int .i64 0,.int .i64 0,.int .i64 0,.slice none 0 0,.slice none 0 0,.slice none 0 0,.slice Aw nw cw,.int .i64 0,.bool false] 88))
  rw [heap_alloc_size] at hB9
  have HB9:=hide hB9
  have HS0:=hide (show SessAt Aw nw cw 0 ((w1.alloc (.cells #[.int .i64 0,.int .i64 0,.int .i64 0,.slice none 0 0,.slice none 0 0,.slice none 0 0,.slice Aw nw cw,.int .i64 0,.bool false] 88)).alloc (.cells #[.pointer none,.slice none 0 0] 92)) 0 0 0 none 0 0 none 0 0 none 0 0 0 false from .inl ⟨rfl,rfl,rfl,rfl,⟨rfl,rfl,rfl⟩,⟨rfl,rfl,rfl⟩,⟨rfl,rfl,rfl⟩,rfl,rfl,(HW.out.alloc _).alloc _⟩)
  have HB0:=hide (((Below.refl w1.heap.size w1).alloc (Nat.le_refl _) (.cells #[.int .i64 0,.int .i64 0,.int .i64 0,.slice none 0 0,.slice none 0 0,.slice none 0 0,.slice Aw nw cw,.int .i64 0,.bool false] 88)).alloc (by simp) (.cells #[.pointer none,.slice none 0 0] 92))
  clear hB8 hB9 HW
  go_wp2_with (fail)
  go_loopw [34] (fun u wr=>∃ (i:Nat) (a b c':Int) (H:Option Addr) (k hc:Nat) (E:Option Addr) (m ce:Nat) (S:Option Addr) (n d:Nat) (ta:Int) (o:Bool) (p v:Value),i ≤ 9 ∧ u=.int .i64 i ∧ Hid (Below w1.heap.size w1 wr) ∧ Hid (Blk wr w1.heap.size 88 #[.int .i64 a,.int .i64 b,.int .i64 c',.slice H k hc,.slice E m ce,.slice S n d,.slice Aw nw cw,.int .i64 ta,.bool o]) ∧ Hid (SessAt Aw nw cw i wr a b c' H k hc E m ce S n d ta o) ∧ Hid (p=.pointer none ∨ p=.pointer (some ⟨w1.heap.size + 1,0,none⟩)) ∧ Hid (BuAt (w1.heap.size + 1) (w1.heap.size + 1) p v (Lib.byteCells (toldA i)) wr)) (fun u _=>9 - (intOf u).toNat)
  case atStart=>exact ⟨0,0,0,0,none,0,0,none,0,0,none,0,0,0,false,.pointer none,.slice none 0 0,Nat.zero_le _,rfl,HB0,HB8,HS0,.inl rfl,HB9⟩
  case round =>
    clear HB0 HB8 HS0 HB9
    obtain ⟨i,a,b,c',H,k,hc,E,m,ce,S,n,d,ta,o,p,v,hi,rfl,HB,HX,HS,HP,HU⟩:=hrel
    by_cases hlt:i < 9
    · have hA1:=hide (hA.out.below HB.out)
      obtain ⟨ad,rfl,had,_,hc0⟩:=hA1.out.at_ (by omega)
      have hl9:i < linesF.length:=hlt
      obtain ⟨Bi,ci,hv,hIi⟩:=hI.out i hl9
      have c0:=hc0 _ _ hv
      have hne:=(lens_at i hlt).1
      have HL:=hide (show (toldA i).length ≤ 100 ∧ (toldF.getD i sOk).size ≤ 100 from (lens_at i hlt).2)
      have HC:=hide (told_cells i)
      have HSC:=hide HS.out.sec
      have hget:linesF.getD i []=linesF[i]:=by rw [List.getD_eq_getElem?_getD,List.getElem?_eq_getElem hl9];rfl
      rw [hget] at hne
      have HIi:=hide (show Sl wr [] 1 Bi linesF[i].length ci (strs (linesF.getD i [])) by rw [hget];exact hIi.below HB.out)
      have QN:=hide (fun W h1 h2=>line_at Aw nw cw i hlt Bi (linesF[i]'hl9).length ci W a b c' H k hc E m ce S n d ta o h1 h2)
      generalize linesF[i].length=li at *
      clear hc0 hv hIi hget
      have hn0:((li:Int) == 0)=false:=beq_eq_false_iff_ne.2 (by omega)
      obtain ⟨x0,x1,x2,x3,x4,x5,x6,x7,x8⟩:wr.cell? ⟨w1.heap.size,0,none⟩=some (.int .i64 a) ∧ wr.cell? ⟨w1.heap.size,1,none⟩=some (.int .i64 b) ∧ wr.cell? ⟨w1.heap.size,2,none⟩=some (.int .i64 c') ∧ wr.cell? ⟨w1.heap.size,3,none⟩=some (.slice H k hc) ∧ wr.cell? ⟨w1.heap.size,4,none⟩=some (.slice E m ce) ∧ wr.cell? ⟨w1.heap.size,5,none⟩=some (.slice S n d) ∧ wr.cell? ⟨w1.heap.size,6,none⟩=some (.slice Aw nw cw) ∧ wr.cell? ⟨w1.heap.size,7,none⟩=some (.int .i64 ta) ∧ wr.cell? ⟨w1.heap.size,8,none⟩=some (.bool o):=⟨HX.out.cell 0,HX.out.cell 1,HX.out.cell 2,HX.out.cell 3,HX.out.cell 4,HX.out.cell 5,HX.out.cell 6,HX.out.cell 7,HX.out.cell 8⟩
      go_wp2_with (fail)
      refine (QN.out wr HIi.out HS.out).mono ?_
      unfold RetLine
      generalize toldF.getD i sOk=tw at *
      rintro e w2 ⟨a2,b2,c2,H2,k2,hc2,E2,m2,ce2,S2,n2,d2,ta2,o2,rfl,hs2,hb2⟩
      have HS2:=hide hs2
      have HX2:=hide (HX.out.below hb2 HX.out.lt)
      have HU2:=hide (HU.out.below hb2)
      have HB2:=hide (HB.out.trans (hb2.mono HB.out.size))
      clear x0 x1 x2 x3 x4 x5 x6 x7 x8 c0 hs2 hb2 QN HIi HS HX HU hA1 HB
      obtain ⟨r0,e0,s0⟩:=HX2.out.facts
      obtain ⟨x0,x1,x2,x3,x4,x5,x6,x7,x8⟩:w2.cell? ⟨w1.heap.size,0,none⟩=some (.int .i64 a) ∧ w2.cell? ⟨w1.heap.size,1,none⟩=some (.int .i64 b) ∧ w2.cell? ⟨w1.heap.size,2,none⟩=some (.int .i64 c') ∧ w2.cell? ⟨w1.heap.size,3,none⟩=some (.slice H k hc) ∧ w2.cell? ⟨w1.heap.size,4,none⟩=some (.slice E m ce) ∧ w2.cell? ⟨w1.heap.size,5,none⟩=some (.slice S n d) ∧ w2.cell? ⟨w1.heap.size,6,none⟩=some (.slice Aw nw cw) ∧ w2.cell? ⟨w1.heap.size,7,none⟩=some (.int .i64 ta) ∧ w2.cell? ⟨w1.heap.size,8,none⟩=some (.bool o):=⟨r0 0,r0 1,r0 2,r0 3,r0 4,r0 5,r0 6,r0 7,r0 8⟩
      clear r0
      go_wp2_with (fail)
      have HS3:=hide (HS2.out.set9 HX2.out HSC.out (.int .i64 a2) (.int .i64 b2) (.int .i64 c2) (.slice H2 k2 hc2) (.slice E2 m2 ce2) (.slice S2 n2 d2) (.slice Aw nw cw) (.int .i64 ta2) (.bool o2))
      have HX3:=hide (se_set9 HX2.out (.int .i64 a2) (.int .i64 b2) (.int .i64 c2) (.slice H2 k2 hc2) (.slice E2 m2 ce2) (.slice S2 n2 d2) (.slice Aw nw cw) (.int .i64 ta2) (.bool o2))
      have HU3:=hide (HU2.out.grown (gr_nine w2 w1.heap.size (.int .i64 a2) (.int .i64 b2) (.int .i64 c2) (.slice H2 k2 hc2) (.slice E2 m2 ce2) (.slice S2 n2 d2) (.slice Aw nw cw) (.int .i64 ta2) (.bool o2)) (fun g hg=>by injection hg with hg;omega))
      have HB3:=hide (below_set9 HB2.out (Nat.le_refl _) (.int .i64 a2) (.int .i64 b2) (.int .i64 c2) (.slice H2 k2 hc2) (.slice E2 m2 ce2) (.slice S2 n2 d2) (.slice Aw nw cw) (.int .i64 ta2) (.bool o2))
      clear x0 x1 x2 x3 x4 x5 x6 x7 x8 e0 s0 HS2 HX2 HU2 HB2 HSC
      generalize (((((((((w2.setCell ⟨w1.heap.size,0,none⟩ (.int .i64 a2)).setCell ⟨w1.heap.size,1,none⟩ (.int .i64 b2)).setCell ⟨w1.heap.size,2,none⟩ (.int .i64 c2)).setCell ⟨w1.heap.size,3,none⟩ (.slice H2 k2 hc2)).setCell ⟨w1.heap.size,4,none⟩ (.slice E2 m2 ce2)).setCell ⟨w1.heap.size,5,none⟩ (.slice S2 n2 d2)).setCell ⟨w1.heap.size,6,none⟩ (.slice Aw nw cw)).setCell ⟨w1.heap.size,7,none⟩ (.int .i64 ta2)).setCell ⟨w1.heap.size,8,none⟩ (.bool o2))=w3 at *
      refine (wstr_u (w1.heap.size + 1) (w1.heap.size + 1) p v _ tw w3 HP.out HU3.out (by have:=HL.out;rw [Lib.byteCells_length];omega) (Nat.le_of_lt HU3.out.lt)).mono ?_
      rintro e w4 ⟨rfl,v4,hu4,hb4,hk4⟩
      have HS4:=hide (HS3.out.kept HU3.out HP.out hk4)
      have HX4:=hide (HX3.out.below hb4 (Nat.lt_succ_self _))
      have HU4:=hide hu4
      have HB4:=hide (HB3.out.trans (hb4.mono (Nat.le_succ _)))
      clear HS3 HX3 HU3 HB3 HP hu4 hb4 hk4
      go_wp2_with (fail)
      refine (wbyte_u (w1.heap.size + 1) (w1.heap.size + 1) _ v4 _ 10 w4 (.inr rfl) HU4.out (by have:=HL.out;rw [List.length_append,Lib.byteCells_length,Lib.strCells_length];omega) (Nat.le_of_lt HU4.out.lt)).mono ?_
      rintro e w5 ⟨rfl,v5,hu5,hb5,hk5⟩
      have HS5:=hide (HS4.out.kept HU4.out (.inr rfl) hk5)
      have HX5:=hide (HX4.out.below hb5 (Nat.lt_succ_self _))
      rw [HC.out] at hu5
      have HU5:=hide hu5
      have HB5:=hide (HB4.out.trans (hb5.mono (Nat.le_succ _)))
      clear HS4 HX4 HU4 HB4 hu5 hb5 hk5
      go_wp2_with (fail)
      exact ⟨⟨i + 1,a2,b2,c2,H2,k2,hc2,E2,m2,ce2,S2,n2,d2,ta2,o2,_,v5,by omega,by go_num,HB5,HX5,HS5,.inr rfl,HU5⟩,by simp [intOf];omega⟩
    · obtain rfl:i=9:=by omega
      clear HS HX
      go_wp2_with (fail)
      refine (Tryz.Builder_String_any_k (w1.heap.size + 1) (w1.heap.size + 1) (toldA 9) wr (HU.out.bld HP.out) (Nat.le_of_lt HU.out.lt)).mono ?_
      rintro e w2 ⟨rfl,_,hb2,_⟩
      have HB2:=hide (HB.out.trans (hb2.mono (Nat.le_succ _)))
      clear hb2 HB HU HP
      go_wp2_with (fail)
      go_ret
      exact ⟨rfl,hb1.out.trans (HB2.out.mono hb1.out.size)⟩
end Go.Proofs.YtppblcbgkadldaaGreatDoor
