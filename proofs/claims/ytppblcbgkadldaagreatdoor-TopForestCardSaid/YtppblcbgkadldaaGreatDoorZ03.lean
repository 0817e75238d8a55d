/-
  A part of the proof that the law TopForest returns true for every input and leaves its arguments as they were: Mem, App.
-/
import Derived.Test.YtppblcbgkadldaaGreatDoorZ00
import Derived.Deep.AppendLies
import Derived.Deep.Draws
import Derived.Maps.AppendAt
import Derived.OwnWalk
import Derived.RegionTactic
import Derived.WalkKit
import Derived.WalkLawsBesides
set_option linter.all false
namespace Go.Proofs.YtppblcbgkadldaaGreatDoor
open Go Go.RowKit
set_option maxRecDepth 100000
theorem hide {p:Prop} (h:p):Hid p:=h
theorem bcell {W w1:World} {B:Nat} (hb:Below B W w1):(∀ b o,b < B → w1.cell? ⟨b,o,none⟩=W.cell? ⟨b,o,none⟩) ∧ (∀ b o,b < B → w1.frozen? ⟨b,o,none⟩=W.frozen? ⟨b,o,none⟩):=
  ⟨fun b o h=>hb.cell (p:=⟨b,o,none⟩) h,fun b o h=>hb.frozen (p:=⟨b,o,none⟩) h⟩
theorem bcells {W w1:World} {B:Nat} (hb:Below B W w1):∀ p:Addr,p.block < B → w1.cell? p=W.cell? p:=fun _ h=>hb.cell h
theorem block_of_add (a:Addr) (n:Nat):(a.add n).block=a.block:=by unfold Addr.add;split <;> rfl
theorem add_of_add (a:Addr) (i j:Nat):(a.add i).add j=a.add (i + j):=by
  unfold Addr.add
  by_cases hi:i=0 <;> by_cases hj:j=0 <;> simp [hi,hj,Nat.add_assoc]
theorem cell_off {w:World} {ad:Addr} {i j:Nat} {u:Value} (h:w.cell? (ad.add (i + j))=some u) (hj:0 < j):w.cell? ⟨(ad.add i).block,(ad.add i).off + j,none⟩=some u:=by
  rw [← add_of_add] at h
  have e:(ad.add i).add j=⟨(ad.add i).block,(ad.add i).off + j,none⟩:=by
    generalize ad.add i=a
    unfold Addr.add
    rw [if_neg (by omega)]
  rw [e] at h
  exact h
structure Sl (w:World) (M:List Nat) (size:Nat) (A:Option Addr) (n c:Nat) (xs:List Value):Prop where
  len:xs.length=n * size
  le:n ≤ c
  cap:c ≤ maxLen
  at_:0 < n → ∃ ad,A=some ad ∧ ad.block < w.heap.size ∧ ad.block ∉ M ∧ ∀ j u,xs[j]? = some u → w.cell? (ad.add j)=some u
section
variable {w w':World} {M:List Nat} {size n c:Nat} {A:Option Addr} {xs:List Value}
theorem Sl.nil_ (w:World) (M:List Nat) (size:Nat):Sl w M size none 0 0 []:=⟨by simp,Nat.le_refl _,Nat.zero_le _,fun h=>absurd h (by omega)⟩
theorem Sl.keep (h:Sl w M size A n c xs) (hz:w.heap.size ≤ w'.heap.size) (hk:∀ k,k < w.heap.size → k ∉ M → w'.heap[k]? = w.heap[k]?):Sl w' M size A n c xs:=
  ⟨h.len,h.le,h.cap,fun hn=>by
    obtain ⟨ad,e,hb,hm,hc⟩:=h.at_ hn
    exact ⟨ad,e,by omega,hm,fun j u hu=>(World.cell?_of_block (by rw [block_of_add];exact hk _ hb hm)).trans (hc j u hu)⟩⟩
theorem Sl.below (h:Sl w M size A n c xs) (hb:Below w.heap.size w w'):Sl w' M size A n c xs:=h.keep hb.size fun k hk _=>hb.block k hk
theorem Sl.drew (h:Sl w M size A n c xs):Sl w.drew M size A n c xs:=h.keep (Nat.le_refl _) fun _ _ _=>rfl
theorem Sl.alloc (h:Sl w M size A n c xs) (o:Obj):Sl (w.alloc o) M size A n c xs:=h.keep (by simp) fun k hk _=>Below.heap_alloc w o k hk
theorem Sl.new (h:Sl w M size A n c xs) (o:Obj):Sl (w.alloc o) (w.heap.size :: M) size A n c xs:=
  ⟨h.len,h.le,h.cap,fun hn=>by
    obtain ⟨ad,e,hb,hm,hc⟩:=(h.alloc o).at_ hn
    obtain ⟨ad',e',hb',_⟩:=h.at_ hn
    rw [e] at e';injection e' with e';subst e'
    exact ⟨ad,e,hb,by simp only [List.mem_cons,not_or];exact ⟨by omega,hm⟩,hc⟩⟩
theorem Sl.add (h:Sl w M size A n c xs) {g:Nat} (hg:w.heap.size ≤ g):Sl w (g :: M) size A n c xs:=
  ⟨h.len,h.le,h.cap,fun hn=>by
    obtain ⟨ad,e,hb,hm,hc⟩:=h.at_ hn
    exact ⟨ad,e,hb,by simp only [List.mem_cons,not_or];exact ⟨by omega,hm⟩,hc⟩⟩
theorem Sl.less {M':List Nat} (h:Sl w M size A n c xs) (hM:∀ b ∈ M',b ∈ M):Sl w M' size A n c xs:=
  ⟨h.len,h.le,h.cap,fun hn=>by
    obtain ⟨ad,e,hb,hm,hc⟩:=h.at_ hn
    exact ⟨ad,e,hb,fun hx=>hm (hM _ hx),hc⟩⟩
theorem Sl.more {M':List Nat} (h:Sl w M size A n c xs) (hM:∀ b ∈ M',b ∈ M ∨ w.heap.size ≤ b):Sl w M' size A n c xs:=
  ⟨h.len,h.le,h.cap,fun hn=>by
    obtain ⟨ad,e,hb,hm,hc⟩:=h.at_ hn
    exact ⟨ad,e,hb,fun hx=>(hM _ hx).elim hm (by omega),hc⟩⟩
theorem Sl.setCell (h:Sl w M size A n c xs) {p:Addr} (hp:p.block ∈ M) (u:Value):Sl (w.setCell p u) M size A n c xs:=
  h.keep (by simp [World.setCell]) fun k _ hk=>Below.heap_setCell w p u k (fun e=>hk (e ▸ hp))
theorem Sl.grown (h:Sl w M size A n c xs) {row:Option Nat} (hg:w.grownBy w' row) (hr:∀ g,row=some g → g ∈ M):Sl w' M size A n c xs:=
  h.keep hg.size fun k hk hm=>hg.block k hk (fun e=>hm (hr _ e.symm))
theorem Sl.cut (h:Sl w M size A n c xs) {k:Nat} (hk:k ≤ n) :
    Sl w M size (if c=k then A else A.map (·.add (k * size))) (n - k) (c - k) (xs.drop (k * size)):=by
  have hle:=h.le
  have hcp:=h.cap
  refine ⟨by rw [List.length_drop,h.len,Nat.sub_mul],by omega,by omega,fun hn=>?_⟩
  obtain ⟨ad,rfl,hb,hm,hcell⟩:=h.at_ (by omega)
  rw [if_neg (by omega)]
  refine ⟨ad.add (k * size),rfl,by rw [block_of_add];exact hb,by rw [block_of_add];exact hm,fun j u hu=>?_⟩
  rw [add_of_add]
  exact hcell _ u (by rw [← hu,List.getElem?_drop])
theorem Sl.take (h:Sl w M size A n c xs) {k:Nat} (hk:k ≤ n):Sl w M size A k c (xs.take (k * size)):=by
  have hle:=h.le
  refine ⟨by rw [List.length_take,h.len];exact Nat.min_eq_left (Nat.mul_le_mul_right _ hk),by omega,h.cap,fun hn=>?_⟩
  obtain ⟨ad,rfl,hb,hm,hcell⟩:=h.at_ (by omega)
  refine ⟨ad,rfl,hb,hm,fun j u hu=>hcell j u ?_⟩
  rw [List.getElem?_take] at hu
  split at hu
  · exact hu
  · cases hu
theorem Sl.cell (h:Sl w M size A n c xs) {ad:Addr} (hA:A=some ad) (hn:0 < n) {j:Nat} {u:Value} (hu:xs[j]? = some u):w.cell? (ad.add j)=some u:=by
  obtain ⟨ad',e,_,_,hc⟩:=h.at_ hn
  rw [hA] at e;injection e with e;subst e
  exact hc j u hu
theorem Sl.of_own {base:Nat} {e:TypeId} (h:w.ownsRow base e size (.slice A n c) n xs) (hM:∀ b ∈ M,b < base):Sl w M size A n c xs:=by
  have hcap:n ≤ c ∧ c ≤ maxLen:=by
    rcases h.2 with ⟨hv,hn⟩ | ⟨g,cap,cur,hv,_,_,h1,h2,_⟩
    · injection hv with _ h1 h2;subst h1;subst h2;exact ⟨Nat.le_refl _,Nat.zero_le _⟩
    · injection hv with _ h3 h4;subst h4;exact ⟨h1,h2⟩
  refine ⟨h.1,hcap.1,hcap.2,fun hn=>?_⟩
  obtain ⟨g,cap,hv,hb,hlt⟩:=h.form hn
  have hA:A=some ⟨g,0,none⟩:=by injection hv
  subst hA
  exact ⟨_,rfl,hlt,fun hm=>by have:=hM _ hm;simp at this;omega,h.cells (g:=g) rfl⟩
end
def Blk (w:World) (g:Nat) (t:TypeId) (cs:Array Value):Prop:=w.heap[g]? = some (.cells cs t (0,0))
section
variable {w w':World} {g:Nat} {t:TypeId} {cs:Array Value}
theorem Blk.lt (h:Blk w g t cs):g < w.heap.size:=by
  rcases Nat.lt_or_ge g w.heap.size with hlt | hge
  · exact hlt
  · unfold Blk at h;rw [Array.getElem?_eq_none hge] at h;cases h
theorem Blk.cell (h:Blk w g t cs) (i:Nat):w.cell? ⟨g,i,none⟩=cs[i]?:=cell_of_row w g i cs t (0,0) h
theorem Blk.frozen (h:Blk w g t cs) (i:Nat):w.frozen? ⟨g,i,none⟩=false:=by
  unfold Blk at h
  simp [World.frozen?,h]
theorem Blk.new (w:World) (t:TypeId) (cs:Array Value):Blk (w.alloc (.cells cs t)) w.heap.size t cs:=heap_alloc_new w _
theorem Blk.drew (h:Blk w g t cs):Blk w.drew g t cs:=h
theorem Blk.alloc (h:Blk w g t cs) (o:Obj):Blk (w.alloc o) g t cs:=(Below.heap_alloc w o g h.lt).trans h
theorem Blk.set_ (h:Blk w g t cs) (i:Nat) (u:Value):Blk (w.setCell ⟨g,i,none⟩ u) g t (cs.setIfInBounds i u):=by
  unfold Blk at h ⊢
  simp [World.setCell,Array.getElem?_modify,h]
theorem Blk.set2 {a b x y:Value} (h:Blk w g t #[a,b]):Blk ((w.setCell ⟨g,0,none⟩ x).setCell ⟨g,1,none⟩ y) g t #[x,y]:=by
  simpa using (h.set_ 0 x).set_ 1 y
theorem Blk.set3 {a b c x y z:Value} (h:Blk w g t #[a,b,c]):Blk (((w.setCell ⟨g,0,none⟩ x).setCell ⟨g,1,none⟩ y).setCell ⟨g,2,none⟩ z) g t #[x,y,z]:=by
  simpa using ((h.set_ 0 x).set_ 1 y).set_ 2 z
theorem Blk.far (h:Blk w g t cs) {p:Addr} (hp:g ≠ p.block) (u:Value):Blk (w.setCell p u) g t cs:=(Below.heap_setCell w p u g hp).trans h
theorem Blk.below {B:Nat} (h:Blk w g t cs) (hb:Below B w w') (hg:g < B):Blk w' g t cs:=(hb.block g hg).trans h
theorem Blk.grown {row:Option Nat} (h:Blk w g t cs) (hb:w.grownBy w' row) (hg:some g ≠ row):Blk w' g t cs:=(hb.block g h.lt hg).trans h
end
theorem Blk.facts {w:World} {g:Nat} {t:TypeId} {cs:Array Value} (h:Blk w g t cs):(∀ i,w.cell? ⟨g,i,none⟩=cs[i]?) ∧ (∀ i,w.frozen? ⟨g,i,none⟩=false) ∧ g < w.heap.size:=
  ⟨h.cell,h.frozen,h.lt⟩
theorem Blk.f1 {w:World} {g:Nat} {t:TypeId} {a0:Value} {l:List Value} (h:Blk w g t (a0 :: l).toArray):w.cell? ⟨g,0,none⟩=some a0 ∧ (∀ i,w.frozen? ⟨g,i,none⟩=false) ∧ g < w.heap.size:=
  ⟨by rw [h.cell];simp,h.frozen,h.lt⟩
theorem Blk.f2 {w:World} {g:Nat} {t:TypeId} {a0 a1:Value} {l:List Value} (h:Blk w g t (a0 :: a1 :: l).toArray):w.cell? ⟨g,0,none⟩=some a0 ∧ w.cell? ⟨g,1,none⟩=some a1 ∧ (∀ i,w.frozen? ⟨g,i,none⟩=false) ∧ g < w.heap.size:=
  ⟨by rw [h.cell];simp,by rw [h.cell];simp,h.frozen,h.lt⟩
theorem Blk.f3 {w:World} {g:Nat} {t:TypeId} {a0 a1 a2:Value} {l:List Value} (h:Blk w g t (a0 :: a1 :: a2 :: l).toArray):w.cell? ⟨g,0,none⟩=some a0 ∧ w.cell? ⟨g,1,none⟩=some a1 ∧ w.cell? ⟨g,2,none⟩=some a2 ∧ (∀ i,w.frozen? ⟨g,i,none⟩=false) ∧ g < w.heap.size:=
  ⟨by rw [h.cell];simp,by rw [h.cell];simp,by rw [h.cell];simp,h.frozen,h.lt⟩
theorem Blk.f4 {w:World} {g:Nat} {t:TypeId} {a0 a1 a2 a3:Value} {l:List Value} (h:Blk w g t (a0 :: a1 :: a2 :: a3 :: l).toArray):w.cell? ⟨g,0,none⟩=some a0 ∧ w.cell? ⟨g,1,none⟩=some a1 ∧ w.cell? ⟨g,2,none⟩=some a2 ∧ w.cell? ⟨g,3,none⟩=some a3 ∧ (∀ i,w.frozen? ⟨g,i,none⟩=false) ∧ g < w.heap.size:=
  ⟨by rw [h.cell];simp,by rw [h.cell];simp,by rw [h.cell];simp,by rw [h.cell];simp,h.frozen,h.lt⟩
theorem Blk.f5 {w:World} {g:Nat} {t:TypeId} {a0 a1 a2 a3 a4:Value} {l:List Value} (h:Blk w g t (a0 :: a1 :: a2 :: a3 :: a4 :: l).toArray):w.cell? ⟨g,0,none⟩=some a0 ∧ w.cell? ⟨g,1,none⟩=some a1 ∧ w.cell? ⟨g,2,none⟩=some a2 ∧ w.cell? ⟨g,3,none⟩=some a3 ∧ w.cell? ⟨g,4,none⟩=some a4 ∧ (∀ i,w.frozen? ⟨g,i,none⟩=false) ∧ g < w.heap.size:=
  ⟨by rw [h.cell];simp,by rw [h.cell];simp,by rw [h.cell];simp,by rw [h.cell];simp,by rw [h.cell];simp,h.frozen,h.lt⟩
theorem Blk.f6 {w:World} {g:Nat} {t:TypeId} {a0 a1 a2 a3 a4 a5:Value} {l:List Value} (h:Blk w g t (a0 :: a1 :: a2 :: a3 :: a4 :: a5 :: l).toArray):w.cell? ⟨g,0,none⟩=some a0 ∧ w.cell? ⟨g,1,none⟩=some a1 ∧ w.cell? ⟨g,2,none⟩=some a2 ∧ w.cell? ⟨g,3,none⟩=some a3 ∧ w.cell? ⟨g,4,none⟩=some a4 ∧ w.cell? ⟨g,5,none⟩=some a5 ∧ (∀ i,w.frozen? ⟨g,i,none⟩=false) ∧ g < w.heap.size:=
  ⟨by rw [h.cell];simp,by rw [h.cell];simp,by rw [h.cell];simp,by rw [h.cell];simp,by rw [h.cell];simp,by rw [h.cell];simp,h.frozen,h.lt⟩
theorem Blk.f9 {w:World} {g:Nat} {t:TypeId} {a0 a1 a2 a3 a4 a5 a6 a7 a8:Value} {l:List Value} (h:Blk w g t (a0 :: a1 :: a2 :: a3 :: a4 :: a5 :: a6 :: a7 :: a8 :: l).toArray):w.cell? ⟨g,0,none⟩=some a0 ∧ w.cell? ⟨g,1,none⟩=some a1 ∧ w.cell? ⟨g,2,none⟩=some a2 ∧ w.cell? ⟨g,3,none⟩=some a3 ∧ w.cell? ⟨g,4,none⟩=some a4 ∧ w.cell? ⟨g,5,none⟩=some a5 ∧ w.cell? ⟨g,6,none⟩=some a6 ∧ w.cell? ⟨g,7,none⟩=some a7 ∧ w.cell? ⟨g,8,none⟩=some a8 ∧ (∀ i,w.frozen? ⟨g,i,none⟩=false) ∧ g < w.heap.size:=
  ⟨by rw [h.cell];simp,by rw [h.cell];simp,by rw [h.cell];simp,by rw [h.cell];simp,by rw [h.cell];simp,by rw [h.cell];simp,by rw [h.cell];simp,by rw [h.cell];simp,by rw [h.cell];simp,h.frozen,h.lt⟩
theorem Sl.of_blk {w:World} {M:List Nat} {g:Nat} {t:TypeId} {cs:Array Value} {n size:Nat} {xs:List Value} (hB:Blk w g t cs) (hl:xs.length=n * size)
    (hx:∀ x,x < n * size → cs[x]? = xs[x]?) (hM:g ∉ M) (hn:n ≤ maxLen):Sl w M size (some ⟨g,0,none⟩) n n xs:=
  ⟨hl,Nat.le_refl _,hn,fun _=>⟨_,rfl,hB.lt,hM,fun j u hu=>by
    have hj:j < xs.length:=by
      rcases Nat.lt_or_ge j xs.length with h | h
      · exact h
      · rw [List.getElem?_eq_none h] at hu;cases hu
    have e:(⟨g,0,none⟩:Addr).add j=⟨g,j,none⟩:=by unfold Addr.add;split <;> simp_all
    rw [e,hB.cell,hx j (by omega)]
    exact hu⟩⟩
theorem one_new {w w1:World} {t0:TypeId} {c0:Array Value} (hb:Below (w.alloc (.cells c0 t0)).heap.size (w.alloc (.cells c0 t0)) w1) :
    Blk w1 w.heap.size t0 c0 ∧ w.heap.size < w1.heap.size ∧ Below w.heap.size w w1:=
  ⟨(Blk.new w t0 c0).below hb (by simp),by have:=hb.size;simp at this;omega,((Below.refl _ _).alloc (Nat.le_refl _) _).trans (hb.mono (by simp))⟩
theorem two_new {w w1:World} {t0 t1:TypeId} {c0 c1:Array Value} (hb:Below ((w.alloc (.cells c0 t0)).alloc (.cells c1 t1)).heap.size ((w.alloc (.cells c0 t0)).alloc (.cells c1 t1)) w1) :
    Blk w1 w.heap.size t0 c0 ∧ Blk w1 (w.heap.size + 1) t1 c1 ∧ w.heap.size + 1 < w1.heap.size ∧ Below w.heap.size w w1:=
  ⟨((Blk.new w t0 c0).alloc _).below hb (by simp;omega),by have:=(Blk.new (w.alloc (.cells c0 t0)) t1 c1).below hb (by simp);simpa using this,
    by have:=hb.size;simp at this;omega,(((Below.refl _ _).alloc (Nat.le_refl _) _).alloc (by simp) _).trans (hb.mono (by simp;omega))⟩
theorem run_make_rowN {P:Program} (t e:TypeId) (i:TypeInfo) (z:Value) (ht:P.underlying t=some (.slice e)) (hi:P.info? e=some i) (hz:i.zero=some z)
    (kl kc:IntKind) (n c:Nat) (hnc:n ≤ c) (hbytes:i.bytes * c ≤ 281474976710656) (h63:c ≤ 9223372036854775807) (w:World) :
    (Instr.makeSlice t (.int kl (n:Int)) (.int kc (c:Int))).run P w=.ok (.slice (some ⟨w.heap.size,0,none⟩) n c) (w.alloc (.cells (madeCells z.cells (c * i.size)) e)):=by
  have hb:(i.bytes:Int) * (c:Int) ≤ 281474976710656:=by
    have h:((i.bytes * c:Nat):Int) ≤ 281474976710656:=by omega
    rwa [Int.natCast_mul] at h
  have hr:=run_make (P:=P) w t e i z ht hi hz kl kc n c (by omega) (by omega) hb (by omega)
  simp only [Int.toNat_natCast] at hr
  exact hr
def Ret (v:Value) (w:World) (e:Ending) (w':World):Prop:=e=.returned v ∧ Below w.heap.size w w'
theorem Ret.eq {v v':Value} {w:World} {e:Ending} {w':World} (h:Ret v w e w') (hv:v=v'):Ret v' w e w':=hv ▸ h
def ints (k:IntKind) (l:List Int):List Value:=l.map (.int k)
@[simp] theorem length_ints (k:IntKind) (l:List Int):(ints k l).length=l.length:=by simp [ints]
theorem ints_get {k:IntKind} {l:List Int} {i:Nat} (h:i < l.length):(ints k l)[i]? = some (.int k (l[i])):=by simp [ints,h]
theorem ints_append (k:IntKind) (a b:List Int):ints k (a ++ b)=ints k a ++ ints k b:=by simp [ints]
theorem ints_one {k:IntKind} {l:List Int}:∀ u ∈ ints k l,u.oneCell'=true:=by
  intro u hu
  simp only [ints,List.mem_map] at hu
  obtain ⟨x,_,rfl⟩:=hu
  rfl
end Go.Proofs.YtppblcbgkadldaaGreatDoor
namespace Go.Proofs.YtppblcbgkadldaaGreatDoor
open Go Go.RowKit
set_option maxRecDepth 100000
def Stop (p:Prop):Prop:=p
theorem stopAt {p:Prop} (h:Stop p):p:=h
theorem stopGo {p:Prop} (h:p):Stop p:=h
section
variable {P:Program} (w:World)
theorem run_append_of_nil (base:Nat) (t ty e:TypeId) (i:TypeInfo) (size:Nat) (ht:P.underlying t=some (.slice e)) (hi:P.info? e=some i)
    (v:Value) (n:Nat) (xs:List Value) (hown:w.ownsRow base e size v n xs) (c:Nat):(Builtin.append_ #[t,t] ty #[v,.slice none 0 c]).run P w=.ok v w:=by
  rcases hown.2 with ⟨rfl,rfl⟩ | ⟨g,cap,cur,rfl,_,_,hnc,_⟩
  · simp [Builtin.append_,run_underlying ht,sizeOf,typeInfo,hi,Builtin.lenOf,Builtin.firstCells]
  · simp [Builtin.append_,run_underlying ht,sizeOf,typeInfo,hi,Builtin.lenOf,Builtin.firstCells,hnc,storeCells]
theorem own_form {w:World} {base:Nat} {e:TypeId} {size:Nat} {v:Value} {n:Nat} {xs:List Value} (h:w.ownsRow base e size v n xs):∃ A c,v=.slice A n c:=by
  rcases h.2 with ⟨rfl,rfl⟩ | ⟨g,cap,cur,rfl,_⟩
  · exact ⟨none,0,rfl⟩
  · exact ⟨_,_,rfl⟩
theorem run_append_sl (base:Nat) (t ty e:TypeId) (i:TypeInfo) (z:Value) (size bytes:Nat) (ht:P.underlying t=some (.slice e)) (hi:P.info? e=some i) (hz:i.zero=some z)
    (hsize:i.size=size) (hby:i.bytes=bytes) (hzs:z.cells.size=size) (hsz:0 < size)
    (v:Value) (n:Nat) (xs:List Value) (hown:w.ownsRow base e size v n xs)
    (M:List Nat) (A:Option Addr) (m c:Nat) (news:List Value) (hr:Sl w M size A m c news) (h1:∀ u ∈ news,u.oneCell'=true)
    (h63:n + m ≤ maxLen) (hbytes:(n + m) * bytes ≤ 140737488355328) (hbase:base ≤ w.heap.size) :
    ∃ A' c' w',(Builtin.append_ #[t,t] ty #[v,.slice A m c]).run P w=.ok (.slice A' (n + m) c') w' ∧ w'.ownsRow base e size (.slice A' (n + m) c') (n + m) (xs ++ news) ∧ w.grownBy w' v.ownBlock ∧
      (Value.ownBlock (.slice A' (n + m) c')=v.ownBlock ∨ Value.ownBlock (.slice A' (n + m) c')=some w.heap.size):=by
  have key:∃ v' w',(Builtin.append_ #[t,t] ty #[v,.slice A m c]).run P w=.ok v' w' ∧ w'.ownsRow base e size v' (n + m) (xs ++ news) ∧ w.grownBy w' v.ownBlock ∧
      (v'.ownBlock=v.ownBlock ∨ v'.ownBlock=some w.heap.size):=by
    rcases A with _ | ad
    · have hm:m=0:=by
        rcases Nat.eq_zero_or_pos m with h0 | h0
        · exact h0
        · obtain ⟨ad,h,_⟩:=hr.at_ h0
          cases h
      subst hm
      have hn:news=[]:=List.eq_nil_of_length_eq_zero (by simpa using hr.len)
      subst hn
      exact ⟨v,w,run_append_of_nil w base t ty e i size ht hi v n xs hown c,by simpa using hown,World.grownBy.refl w _,.inl rfl⟩
    · have hcells:∀ j u,news[j]? = some u → w.cell? (ad.add j)=some u:=by
        intro j u hu
        rcases Nat.eq_zero_or_pos m with h0 | h0
        · subst h0
          have hn:news=[]:=List.eq_nil_of_length_eq_zero (by simpa using hr.len)
          subst hn
          simp at hu
        · exact hr.cell rfl h0 hu
      obtain ⟨v',w',hrun,h2,h3,_,h5⟩:=run_append_own_at (P:=P) w base t ty e i z size bytes ht hi hz hsize hby hzs hsz v n xs hown ad m c news hr.len hcells h1 h63 hbytes hbase
      exact ⟨v',w',hrun,h2,h3,h5⟩
  obtain ⟨v',w',h2,h3,h4,h5⟩:=key
  obtain ⟨A',c',rfl⟩:=own_form h3
  exact ⟨A',c',w',h2,h3,h4,h5⟩
theorem wpList_append_sl {ops:Array Oper} {rest:List Oper} {o:Oper} {a:Act} {Q:Exit → Act → World → Prop} (hgd:o.guard=none) (s x:Operand) (t:TypeId)
    (ho:o.op=.call { callee:=.builtin .append,args:=#[s,x],argTypes:=#[t,t] })
    (base:Nat) (e:TypeId) (i:TypeInfo) (z:Value) (size bytes:Nat) (ht:P.underlying t=some (.slice e)) (hi:P.info? e=some i) (hz:i.zero=some z)
    (hsize:i.size=size) (hby:i.bytes=bytes) (hzs:z.cells.size=size) (hsz:0 < size)
    (v:Value) (n:Nat) (xs:List Value) (hs:a.eval s=v) (hown:w.ownsRow base e size v n xs)
    (M:List Nat) (A:Option Addr) (m c:Nat) (news:List Value) (hx:a.eval x=.slice A m c) (hr:Sl w M size A m c news) (h1:∀ u ∈ news,u.oneCell'=true)
    (h63:n + m ≤ maxLen) (hbytes:(n + m) * bytes ≤ 140737488355328) (hbase:base ≤ w.heap.size)
    (h:∀ A' c' w',w'.ownsRow base e size (.slice A' (n + m) c') (n + m) (xs ++ news) → w.grownBy w' v.ownBlock → (Value.ownBlock (.slice A' (n + m) c')=v.ownBlock ∨ Value.ownBlock (.slice A' (n + m) c')=some w.heap.size) →
      wpList P ops Q rest (a.put o.dst (.slice A' (n + m) c')) w'):wpList P ops Q (o :: rest) a w:=by
  refine wpList_plain hgd fun K hK=>?_
  obtain ⟨A',c',w',hrun,h2,h3,h4⟩:=run_append_sl (P:=P) w base t o.type e i z size bytes ht hi hz hsize hby hzs hsz v n xs hown M A m c news hr h1 h63 hbytes hbase
  unfold Oper.wp execOp
  simp only [ho,resolve,invoke,builtin,Sem.run_bind,Sem.run_pure,Result.andThen_ok,List.map_toArray,List.map_cons,List.map_nil,hs,hx,hrun]
  exact hK _ _ (h A' c' w' h2 h3 h4)
theorem wpLex_append_sl {ops:Array Oper} {C:World → Prop} {hs:List Nat} {Qf:Act → World → Prop} {k:Nat} {rest:List Oper} {o:Oper} {a:Act} (hgd:o.guard=none) (hk:hs.contains k=true) (s x:Operand) (t:TypeId)
    (ho:o.op=.call { callee:=.builtin .append,args:=#[s,x],argTypes:=#[t,t] })
    (base:Nat) (e:TypeId) (i:TypeInfo) (z:Value) (size bytes:Nat) (ht:P.underlying t=some (.slice e)) (hi:P.info? e=some i) (hz:i.zero=some z)
    (hsize:i.size=size) (hby:i.bytes=bytes) (hzs:z.cells.size=size) (hsz:0 < size)
    (v:Value) (n:Nat) (xs:List Value) (hs':a.eval s=v) (hown:w.ownsRow base e size v n xs)
    (M:List Nat) (A:Option Addr) (m c:Nat) (news:List Value) (hx:a.eval x=.slice A m c) (hr:Sl w M size A m c news) (h1:∀ u ∈ news,u.oneCell'=true)
    (h63:n + m ≤ maxLen) (hbytes:(n + m) * bytes ≤ 140737488355328) (hbase:base ≤ w.heap.size)
    (h:∀ A' c' w',w'.ownsRow base e size (.slice A' (n + m) c') (n + m) (xs ++ news) → w.grownBy w' v.ownBlock → (Value.ownBlock (.slice A' (n + m) c')=v.ownBlock ∨ Value.ownBlock (.slice A' (n + m) c')=some w.heap.size) →
      C w' ∧ wpLex P ops C hs Qf (k + 1) rest (a.put o.dst (.slice A' (n + m) c')) w'):wpLex P ops C hs Qf k (o :: rest) a w:=by
  refine wpLex_heavy hgd hk ?_
  obtain ⟨A',c',w',hrun,h2,h3,h4⟩:=run_append_sl (P:=P) w base t o.type e i z size bytes ht hi hz hsize hby hzs hsz v n xs hown M A m c news hr h1 h63 hbytes hbase
  unfold Heavy execOp
  simp only [ho,resolve,invoke,builtin,Sem.run_bind,Sem.run_pure,Result.andThen_ok,List.map_toArray,List.map_cons,List.map_nil,hs',hx,hrun,heavyUpon]
  exact h A' c' w' h2 h3 h4
end
theorem own_empty (w:World) (e:TypeId) (size:Nat):(w.alloc (.cells #[] e)).ownsRow w.heap.size e size (.slice (some ⟨w.heap.size,0,none⟩) 0 0) 0 []:=
  World.ownsRow_made w #[] 0 (Nat.le_refl _) (by unfold maxLen;omega) (by simp)
theorem heap_alloc_size (w:World) (o:Obj):(w.alloc o).heap.size=w.heap.size + 1:=by simp
theorem own_sl {w:World} {base:Nat} {e:TypeId} {size:Nat} {A:Option Addr} {n c:Nat} {xs:List Value} (h:w.ownsRow base e size (.slice A n c) n xs) (M:List Nat) (hM:∀ b ∈ M,b < base):Sl w M size A n c xs:=Sl.of_own h hM
theorem below_grown {B base:Nat} {w w':World} {e:TypeId} {size:Nat} {v:Value} {n:Nat} {xs:List Value} (h:w.ownsRow base e size v n xs) (hg:w.grownBy w' v.ownBlock) (hB:B ≤ base) (hb:base ≤ w.heap.size):Below B w w':=
  (Below.refl B w).grown hg (by omega) (fun k hk=>by have:=(h.lt k hk).1;omega)
end Go.Proofs.YtppblcbgkadldaaGreatDoor
