/-
  A part of the proof that the law TopForest returns true for every input and leaves its arguments as they were: Around, Edge, NameOf, NamesP, CloneU, Part0, Less.
-/
import Derived.Test.YtppblcbgkadldaaGreatDoorProg
import Derived.Test.YtppblcbgkadldaaGreatDoorZ00
import Derived.Test.YtppblcbgkadldaaGreatDoorZ03
import Derived.Test.YtppblcbgkadldaaGreatDoorZ05
import Derived.BigQuiet
import Derived.Lib.SliceRun
set_option linter.all false
namespace Go.Proofs.YtppblcbgkadldaaGreatDoor
open Go Go.RowKit
set_option maxRecDepth 100000
attribute [local go_sem] Heavy heavyUpon
def AroundOk (N:Nat):Prop:=∀ (a b:Tr) (pa pb:Option Addr) (k n:Int) (w:World),a.sz + b.sz ≤ N → Rep w pa a → Rep w pb b → a.sz + b.sz ≤ 4096 →
    Calls Tryz.prog 133 #[.pointer pa,.agg #[.int .u64 k,.int .i64 n],.pointer pb] w (RetTr (a.toL ++ (k,n) :: b.toL) w)
set_option maxHeartbeats 1600000 in
theorem around_even (a b:Tr) (pa pb:Option Addr) (k n:Int) (w:World) (ha:Rep w pa a) (hb:Rep w pb b) (hs:a.sz + b.sz ≤ 4096) (h1:¬ b.ht + 1 < a.ht) (h2:¬ a.ht + 1 < b.ht) :
    Calls Tryz.prog 133 #[.pointer pa,.agg #[.int .u64 k,.int .i64 n],.pointer pb] w (RetTr (a.toL ++ (k,n) :: b.toL) w):=by
  have la:=a.ht_le
  have lb:=b.ht_le
  have QA:=hide (fun W (h:Rep W pa a)=>seqHeight_ok a pa W h)
  have QB:=hide (fun W (h:Rep W pb b)=>seqHeight_ok b pb W h)
  have QT:=hide (fun W (h:Rep W pa a) (h':Rep W pb b)=>seqTree_ok a b pa pb k n W h h' hs)
  generalize a.ht=qa at *
  generalize b.ht=qb at *
  have hqa:qa ≤ 4096:=by omega
  have hqb:qb ≤ 4096:=by omega
  clear la lb hs
  (go_enter Tryz.func133,Tryz.ntmps133;go_wp2_with (fail);have hb0:=(Below.refl w.heap.size w).alloc (Nat.le_refl _) (.cells #[.int .u64 k,.int .i64 n] 145);have HR:=hide (And.intro (ha.alloc (.cells #[.int .u64 k,.int .i64 n] 145)) (hb.alloc (.cells #[.int .u64 k,.int .i64 n] 145)));have B0:=Blk.new w 145 #[.int .u64 k,.int .i64 n];generalize (w.alloc (.cells #[.int .u64 k,.int .i64 n] 145))=W0 at *;refine (QA.out _ HR.out.1).mono ?_;rintro e w1 ⟨rfl,b1⟩;go_wp2_with (fail);refine (QB.out _ (HR.out.2.below b1)).mono ?_;rintro e w2 ⟨rfl,b2⟩;have b02:=b1.trans (b2.mono b1.size);have HR2:=hide (And.intro (HR.out.1.below b02) (HR.out.2.below b02));have B2:=B0.below b02 B0.lt;have hb2:=hb0.trans (b02.mono hb0.size);clear B0 HR b1 b2 b02 hb0;obtain ⟨x0,x1,e0,s2⟩:=B2.f2)
  go_wp2_with (fail)
  (refine (QB.out _ HR2.out.2).mono ?_;rintro e w3 ⟨rfl,b3⟩;go_wp2_with (fail);refine (QA.out _ (HR2.out.1.below b3)).mono ?_;rintro e w4 ⟨rfl,b4⟩;have b34:=b3.trans (b4.mono b3.size);have y0:=(bcells b34 ⟨w.heap.size,0,none⟩ s2).trans x0;have y1:=(bcells b34 ⟨w.heap.size,1,none⟩ s2).trans x1;have hb4:=hb2.trans (b34.mono hb2.size);have HR4:=hide (And.intro (HR2.out.1.below b34) (HR2.out.2.below b34));have s4:=Nat.lt_of_lt_of_le s2 b34.size;clear x0 x1 b3 b4 b34 hb2 HR2 s2 e0 B2;obtain ⟨x0,x1⟩:=And.intro y0 y1;clear y0 y1;have hb2:=hb4;have HR2:=HR4;have s2:=s4;clear hb4 HR4 s4 w2;rename World=>w2)
  go_wp2_with (fail)
  refine (QT.out _ HR2.out.1 HR2.out.2).mono ?_
  rintro e w5 ⟨q,t,rfl,hq,ht,b5⟩
  have Q5:=hide hq
  have T5:=hide ht
  clear hq ht
  go_wp2_with (fail)
  go_ret
  exact ⟨q,t,rfl,Q5.out,T5.out,hb2.trans (b5.mono hb2.size)⟩
set_option maxHeartbeats 1600000 in
theorem around_left (N:Nat) (IH:AroundOk N) (aa ab b:Tr) (ak an:Int) (pa pb:Option Addr) (k n:Int) (w:World) (ha:Rep w pa (.node aa ak an ab)) (hb:Rep w pb b) (hs:(Tr.node aa ak an ab).sz + b.sz ≤ 4096) (hN:(Tr.node aa ak an ab).sz + b.sz ≤ N + 1) (h1:b.ht + 1 < (Tr.node aa ak an ab).ht) :
    Calls Tryz.prog 133 #[.pointer pa,.agg #[.int .u64 k,.int .i64 n],.pointer pb] w (RetTr ((Tr.node aa ak an ab).toL ++ (k,n) :: b.toL) w):=by
  have hs':aa.sz + 1 + ab.sz + b.sz ≤ 4096:=hs
  have hN':aa.sz + 1 + ab.sz + b.sz ≤ N + 1:=hN
  have la:=(Tr.node aa ak an ab).ht_le
  have lb:=b.ht_le
  have QA:=hide (fun W (h:Rep W pa (.node aa ak an ab))=>seqHeight_ok _ pa W h)
  have QB:=hide (fun W (h:Rep W pb b)=>seqHeight_ok b pb W h)
  have QT:=hide (fun p W (h:Rep W p ab) (h':Rep W pb b)=>IH ab b p pb k n W (by omega) h h' (by omega))
  have QU:=hide (fun p q t W (h:Rep W p aa) (h':Rep W q t) (he:t.toL=ab.toL ++ (k,n) :: b.toL)=>turned_ok aa t p q ak an W h h' (by rw [t.sz_len,he,List.length_append,List.length_cons,← ab.sz_len,← b.sz_len];omega))
  have HE:=hide (show (Tr.node aa ak an ab).toL=aa.toL ++ (ak,an) :: ab.toL from rfl)
  generalize (Tr.node aa ak an ab).ht=qa at *
  generalize (Tr.node aa ak an ab).toL=LL at *
  generalize b.ht=qb at *
  have hqa:qa ≤ 4096:=by omega
  have hqb:qb ≤ 4096:=by omega
  clear la lb hs' hs hN hN' IH
  (go_enter Tryz.func133,Tryz.ntmps133;go_wp2_with (fail);have hb0:=(Below.refl w.heap.size w).alloc (Nat.le_refl _) (.cells #[.int .u64 k,.int .i64 n] 145);have HR:=hide (And.intro (ha.alloc (.cells #[.int .u64 k,.int .i64 n] 145)) (hb.alloc (.cells #[.int .u64 k,.int .i64 n] 145)));have B0:=Blk.new w 145 #[.int .u64 k,.int .i64 n];generalize (w.alloc (.cells #[.int .u64 k,.int .i64 n] 145))=W0 at *;refine (QA.out _ HR.out.1).mono ?_;rintro e w1 ⟨rfl,b1⟩;go_wp2_with (fail);refine (QB.out _ (HR.out.2.below b1)).mono ?_;rintro e w2 ⟨rfl,b2⟩;have b02:=b1.trans (b2.mono b1.size);have HR2:=hide (And.intro (HR.out.1.below b02) (HR.out.2.below b02));have B2:=B0.below b02 B0.lt;have hb2:=hb0.trans (b02.mono hb0.size);clear B0 HR b1 b2 b02 hb0;obtain ⟨x0,x1,e0,s2⟩:=B2.f2)
  have HBB:=hide HR2.out.2
  (obtain ⟨g,ga,gb,rfl,glt,gc0,gc1,gc2,gc3,gA,gB⟩:=Rep.opened HR2.out.1)
  clear QA HR2 ha hb
  go_wp2_with (fail)
  refine wp_region_lexD [14,15] (fun w'=>Below (w2).heap.size (w2) w') (by kernel_rfl) (by kernel_rfl) (Below.refl _ _).drew ?_
  (repeat ((with_reducible refine wpLex_step (fun K hK=>?_));go_simp;first | ((with_reducible refine hK _ _ ?_);clear hK K) | ((with_reducible apply Exists.intro);refine ⟨fun w' hw'=>?_,hK _ _ ?_⟩;(· (have hq:=bcells hw';apply valEq;(· (go_simp;first | done | (with_reducible rfl)));(· ((try go_bits);with_reducible rfl))));clear hK K)))
  ((with_reducible refine wpLex_step (fun K hK=>?_));go_simp;refine (QT.out _ _ gB.out.drew HBB.out.drew).mono ?_;rintro e w5 ⟨q5,t5,rfl,R5,T5,hbx⟩;have g5:=((Below.refl (w2).heap.size w2).drew).trans (hbx.mono ((Below.refl (w2).heap.size w2).drew).size);refine ⟨_,rfl,g5,hK _ _ ?_⟩;clear hK K hbx)
  have HR5:=hide R5
  clear R5
  have HT5:=hide T5
  clear T5
  (repeat ((with_reducible refine wpLex_step (fun K hK=>?_));go_simp;first | ((with_reducible refine hK _ _ ?_);clear hK K) | ((with_reducible apply Exists.intro);refine ⟨fun w' hw'=>?_,hK _ _ ?_⟩;(· (have hq:=bcells hw';apply valEq;(· (go_simp;first | done | (with_reducible rfl)));(· ((try go_bits);with_reducible rfl))));clear hK K)))
  ((with_reducible refine wpLex_step (fun K hK=>?_));go_simp;refine (QU.out _ _ _ _ (gA.out.below g5) HR5.out HT5.out).mono ?_;rintro e w6 ⟨q6,t6,rfl,R6,T6,hbx⟩;have g6:=(g5).trans (hbx.mono (g5).size);refine ⟨_,rfl,g6,hK _ _ ?_⟩;clear hK K hbx)
  have HR6:=hide (And.intro R6 T6)
  clear R6 T6
  (repeat ((with_reducible refine wpLex_step (fun K hK=>?_));go_simp;first | ((with_reducible refine hK _ _ ?_);clear hK K) | ((with_reducible apply Exists.intro);refine ⟨fun w' hw'=>?_,hK _ _ ?_⟩;(· (have hq:=bcells hw';apply valEq;(· (go_simp;first | done | (with_reducible rfl)));(· ((try go_bits);with_reducible rfl))));clear hK K)))
  refine wpLex_nil (fun _=>?_)
  go_wp2_with (fail)
  go_ret
  exact ⟨q6,t6,rfl,HR6.out.1,by rw [HR6.out.2,HT5.out,HE.out];simp,hb2.trans (g6.mono hb2.size)⟩
set_option maxHeartbeats 1600000 in
theorem around_right (N:Nat) (IH:AroundOk N) (a ba bb:Tr) (bk bn:Int) (pa pb:Option Addr) (k n:Int) (w:World) (ha:Rep w pa a) (hb:Rep w pb (.node ba bk bn bb)) (hs:a.sz + (Tr.node ba bk bn bb).sz ≤ 4096) (hN:a.sz + (Tr.node ba bk bn bb).sz ≤ N + 1) (h1:a.ht + 1 < (Tr.node ba bk bn bb).ht) :
    Calls Tryz.prog 133 #[.pointer pa,.agg #[.int .u64 k,.int .i64 n],.pointer pb] w (RetTr (a.toL ++ (k,n) :: (Tr.node ba bk bn bb).toL) w):=by
  have hs':a.sz + (ba.sz + 1 + bb.sz) ≤ 4096:=hs
  have hN':a.sz + (ba.sz + 1 + bb.sz) ≤ N + 1:=hN
  have la:=a.ht_le
  have lb:=(Tr.node ba bk bn bb).ht_le
  have QA:=hide (fun W (h:Rep W pa a)=>seqHeight_ok a pa W h)
  have QB:=hide (fun W (h:Rep W pb (.node ba bk bn bb))=>seqHeight_ok _ pb W h)
  have QT:=hide (fun p W (h:Rep W pa a) (h':Rep W p ba)=>IH a ba pa p k n W (by omega) h h' (by omega))
  have QU:=hide (fun p q t W (h:Rep W p t) (h':Rep W q bb) (he:t.toL=a.toL ++ (k,n) :: ba.toL)=>turned_ok t bb p q bk bn W h h' (by rw [t.sz_len,he,List.length_append,List.length_cons,← a.sz_len,← ba.sz_len];omega))
  have HE:=hide (show (Tr.node ba bk bn bb).toL=ba.toL ++ (bk,bn) :: bb.toL from rfl)
  generalize (Tr.node ba bk bn bb).ht=qb at *
  generalize (Tr.node ba bk bn bb).toL=LL at *
  generalize a.ht=qa at *
  have hqa:qa ≤ 4096:=by omega
  have hqb:qb ≤ 4096:=by omega
  have hn1:¬ qb + 1 < qa:=by omega
  clear la lb hs' hs hN hN' IH
  (go_enter Tryz.func133,Tryz.ntmps133;go_wp2_with (fail);have hb0:=(Below.refl w.heap.size w).alloc (Nat.le_refl _) (.cells #[.int .u64 k,.int .i64 n] 145);have HR:=hide (And.intro (ha.alloc (.cells #[.int .u64 k,.int .i64 n] 145)) (hb.alloc (.cells #[.int .u64 k,.int .i64 n] 145)));have B0:=Blk.new w 145 #[.int .u64 k,.int .i64 n];generalize (w.alloc (.cells #[.int .u64 k,.int .i64 n] 145))=W0 at *;refine (QA.out _ HR.out.1).mono ?_;rintro e w1 ⟨rfl,b1⟩;go_wp2_with (fail);refine (QB.out _ (HR.out.2.below b1)).mono ?_;rintro e w2 ⟨rfl,b2⟩;have b02:=b1.trans (b2.mono b1.size);have HR2:=hide (And.intro (HR.out.1.below b02) (HR.out.2.below b02));have B2:=B0.below b02 B0.lt;have hb2:=hb0.trans (b02.mono hb0.size);clear B0 HR b1 b2 b02 hb0;obtain ⟨x0,x1,e0,s2⟩:=B2.f2)
  go_wp2_with (fail)
  (refine (QB.out _ HR2.out.2).mono ?_;rintro e w3 ⟨rfl,b3⟩;go_wp2_with (fail);refine (QA.out _ (HR2.out.1.below b3)).mono ?_;rintro e w4 ⟨rfl,b4⟩;have b34:=b3.trans (b4.mono b3.size);have y0:=(bcells b34 ⟨w.heap.size,0,none⟩ s2).trans x0;have y1:=(bcells b34 ⟨w.heap.size,1,none⟩ s2).trans x1;have hb4:=hb2.trans (b34.mono hb2.size);have HR4:=hide (And.intro (HR2.out.1.below b34) (HR2.out.2.below b34));have s4:=Nat.lt_of_lt_of_le s2 b34.size;clear x0 x1 b3 b4 b34 hb2 HR2 s2 e0 B2;obtain ⟨x0,x1⟩:=And.intro y0 y1;clear y0 y1;have hb2:=hb4;have HR2:=HR4;have s2:=s4;clear hb4 HR4 s4 w2;rename World=>w2)
  have HAA:=hide HR2.out.1
  (obtain ⟨g,ga,gb,rfl,glt,gc0,gc1,gc2,gc3,gA,gB⟩:=Rep.opened HR2.out.2)
  clear QA QB HR2 ha hb
  go_wp2_with (fail)
  refine wp_region_lexD [6,15] (fun w'=>Below (w2).heap.size (w2) w') (by kernel_rfl) (by kernel_rfl) (Below.refl _ _).drew ?_
  (repeat ((with_reducible refine wpLex_step (fun K hK=>?_));go_simp;first | ((with_reducible refine hK _ _ ?_);clear hK K) | ((with_reducible apply Exists.intro);refine ⟨fun w' hw'=>?_,hK _ _ ?_⟩;(· (have hq:=bcells hw';apply valEq;(· (go_simp;first | done | (with_reducible rfl)));(· ((try go_bits);with_reducible rfl))));clear hK K)))
  ((with_reducible refine wpLex_step (fun K hK=>?_));go_simp;refine (QT.out _ _ HAA.out.drew gA.out.drew).mono ?_;rintro e w5 ⟨q5,t5,rfl,R5,T5,hbx⟩;have g5:=((Below.refl (w2).heap.size w2).drew).trans (hbx.mono ((Below.refl (w2).heap.size w2).drew).size);refine ⟨_,rfl,g5,hK _ _ ?_⟩;clear hK K hbx)
  have HR5:=hide R5
  clear R5
  have HT5:=hide T5
  clear T5
  (repeat ((with_reducible refine wpLex_step (fun K hK=>?_));go_simp;first | ((with_reducible refine hK _ _ ?_);clear hK K) | ((with_reducible apply Exists.intro);refine ⟨fun w' hw'=>?_,hK _ _ ?_⟩;(· (have hq:=bcells hw';apply valEq;(· (go_simp;first | done | (with_reducible rfl)));(· ((try go_bits);with_reducible rfl))));clear hK K)))
  ((with_reducible refine wpLex_step (fun K hK=>?_));go_simp;refine (QU.out _ _ _ _ HR5.out (gB.out.below g5) HT5.out).mono ?_;rintro e w6 ⟨q6,t6,rfl,R6,T6,hbx⟩;have g6:=(g5).trans (hbx.mono (g5).size);refine ⟨_,rfl,g6,hK _ _ ?_⟩;clear hK K hbx)
  have HR6:=hide (And.intro R6 T6)
  clear R6 T6
  (repeat ((with_reducible refine wpLex_step (fun K hK=>?_));go_simp;first | ((with_reducible refine hK _ _ ?_);clear hK K) | ((with_reducible apply Exists.intro);refine ⟨fun w' hw'=>?_,hK _ _ ?_⟩;(· (have hq:=bcells hw';apply valEq;(· (go_simp;first | done | (with_reducible rfl)));(· ((try go_bits);with_reducible rfl))));clear hK K)))
  refine wpLex_nil (fun _=>?_)
  go_wp2_with (fail)
  go_ret
  exact ⟨q6,t6,rfl,HR6.out.1,by rw [HR6.out.2,HT5.out,HE.out];simp,hb2.trans (g6.mono hb2.size)⟩
theorem around_all:∀ N,AroundOk N:=by
  have step:∀ (N:Nat),(∀ M,M + 1=N → AroundOk M) → AroundOk N:=by
    intro N IH a b pa pb k n w hN ha hb hs
    by_cases h1:b.ht + 1 < a.ht
    · obtain ⟨aa,ak,an,ab,rfl⟩:=Tr.ne_nil (t:=a) (by omega)
      have h0:0 < (Tr.node aa ak an ab).sz:=by simp only [Tr.sz];omega
      obtain ⟨M,rfl⟩:∃ M,N=M + 1:=⟨N - 1,by omega⟩
      exact around_left M (IH M rfl) aa ab b ak an pa pb k n w ha hb hs hN h1
    · by_cases h2:a.ht + 1 < b.ht
      · obtain ⟨ba,bk,bn,bb,rfl⟩:=Tr.ne_nil (t:=b) (by omega)
        have h0:0 < (Tr.node ba bk bn bb).sz:=by simp only [Tr.sz];omega
        obtain ⟨M,rfl⟩:∃ M,N=M + 1:=⟨N - 1,by omega⟩
        exact around_right M (IH M rfl) a ba bb bk bn pa pb k n w ha hb hs hN h2
      · exact around_even a b pa pb k n w ha hb hs h1 h2
  intro N
  induction N with
  | zero=>exact step 0 (fun M h=>by omega)
  | succ N ih=>exact step (N + 1) (fun M h=>by
      have e:M=N:=by omega
      subst e
      exact ih)
theorem around_ok (a b:Tr) (pa pb:Option Addr) (k n:Int) (w:World) (ha:Rep w pa a) (hb:Rep w pb b) (hs:a.sz + b.sz ≤ 4096) :
    Calls Tryz.prog 133 #[.pointer pa,.agg #[.int .u64 k,.int .i64 n],.pointer pb] w (RetTr (a.toL ++ (k,n) :: b.toL) w):=
  around_all _ a b pa pb k n w (Nat.le_refl _) ha hb hs
end Go.Proofs.YtppblcbgkadldaaGreatDoor
namespace Go.Proofs.YtppblcbgkadldaaGreatDoor
open Go Go.RowKit
set_option maxRecDepth 100000
abbrev E3:Type:=Int × Int × Int
theorem flat_len {α:Type} (f:α → List Value) {sz:Nat} (hf:∀ x,(f x).length=sz) (l:List α):(l.flatMap f).length=l.length * sz:=by
  induction l with
  | nil=>simp
  | cons x l ih=>simp [ih,hf,Nat.add_mul,Nat.add_comm]
theorem flat_get {α:Type} (f:α → List Value) {sz:Nat} (hf:∀ x,(f x).length=sz) (l:List α) (i j:Nat) (hi:i < l.length) (hj:j < sz):(l.flatMap f)[i * sz + j]? = (f l[i])[j]?:=by
  induction l generalizing i with
  | nil=>simp at hi
  | cons x l ih =>
    cases i with
    | zero=>simp [List.getElem?_append,hf,hj]
    | succ i =>
      have hi':i < l.length:=by simpa using hi
      simp only [List.flatMap_cons,List.getElem_cons_succ]
      rw [List.getElem?_append_right (by rw [hf,Nat.add_mul];omega),hf,← ih i hi']
      congr 1
      rw [Nat.add_mul];omega
def ecell (e:E3):List Value:=[.int .i64 e.1,.int .i64 e.2.1,.int .i64 e.2.2]
def ecells (l:List E3):List Value:=l.flatMap ecell
theorem ecell_len (x:E3):(ecell x).length=3:=rfl
theorem ecells_len (l:List E3):(ecells l).length=l.length * 3:=flat_len ecell ecell_len l
theorem ecells_get0 (l:List E3) (i:Nat) (hi:i < l.length):(ecells l)[i * 3]? = some (.int .i64 l[i].1):=by
  have:=flat_get ecell ecell_len l i 0 hi (by decide);simpa [ecell,ecells] using this
theorem ecells_get1 (l:List E3) (i:Nat) (hi:i < l.length):(ecells l)[i * 3 + 1]? = some (.int .i64 l[i].2.1):=by
  have:=flat_get ecell ecell_len l i 1 hi (by decide);simpa [ecell,ecells] using this
theorem ecells_get2 (l:List E3) (i:Nat) (hi:i < l.length):(ecells l)[i * 3 + 2]? = some (.int .i64 l[i].2.2):=by
  have:=flat_get ecell ecell_len l i 2 hi (by decide);simpa [ecell,ecells] using this
theorem ecells_append (a b:List E3):ecells (a ++ b)=ecells a ++ ecells b:=by simp [ecells]
theorem ecells_one {l:List E3}:∀ u ∈ ecells l,u.oneCell'=true:=by
  intro u hu
  simp only [ecells,List.mem_flatMap,ecell,List.mem_cons,List.not_mem_nil,or_false] at hu
  obtain ⟨x,_,rfl | rfl | rfl⟩:=hu <;> rfl
theorem ecells_take (l:List E3) (k:Nat):(ecells l).take (k * 3)=ecells (l.take k):=by
  rcases Nat.lt_or_ge k l.length with h | h
  · have e:ecells l=ecells (l.take k) ++ ecells (l.drop k):=by rw [← ecells_append,List.take_append_drop]
    rw [e,List.take_append_of_le_length (by rw [ecells_len,List.length_take];omega),List.take_of_length_le (by rw [ecells_len,List.length_take];omega)]
  · rw [List.take_of_length_le (by rw [ecells_len];omega),List.take_of_length_le h]
theorem ecells_drop (l:List E3) (k:Nat):(ecells l).drop (k * 3)=ecells (l.drop k):=by
  rcases Nat.lt_or_ge k l.length with h | h
  · have e:ecells l=ecells (l.take k) ++ ecells (l.drop k):=by rw [← ecells_append,List.take_append_drop]
    rw [e,List.drop_append_of_le_length (by rw [ecells_len,List.length_take];omega),List.drop_eq_nil_of_le (by rw [ecells_len,List.length_take];omega),List.nil_append]
  · rw [List.drop_eq_nil_of_le (by rw [ecells_len];omega),List.drop_eq_nil_of_le h];rfl
def ESl (w:World) (M:List Nat) (A:Option Addr) (n c:Nat) (l:List E3):Prop:=Sl w M 3 A n c (ecells l)
theorem ESl.length {w:World} {M:List Nat} {A:Option Addr} {n c:Nat} {l:List E3} (h:ESl w M A n c l):l.length=n:=by
  have:=h.len;rw [ecells_len] at this;omega
theorem ESl.get {w:World} {M:List Nat} {A:Option Addr} {n c:Nat} {l:List E3} (h:ESl w M A n c l) {k:Nat} (hk:k < l.length) :
    ∃ ad,A=some ad ∧ ad.block < w.heap.size ∧ ad.block ∉ M ∧ w.cell? (ad.add (k * 3))=some (.int .i64 l[k].1) ∧
      w.cell? ⟨(ad.add (k * 3)).block,(ad.add (k * 3)).off + 1,none⟩=some (.int .i64 l[k].2.1) ∧
      w.cell? ⟨(ad.add (k * 3)).block,(ad.add (k * 3)).off + 2,none⟩=some (.int .i64 l[k].2.2):=by
  have hl:=h.length
  obtain ⟨ad,e,hb,hm,hc⟩:=h.at_ (by omega)
  exact ⟨ad,e,hb,hm,hc _ _ (ecells_get0 l k hk),cell_off (hc _ _ (ecells_get1 l k hk)) (by decide),cell_off (hc _ _ (ecells_get2 l k hk)) (by decide)⟩
def ltE (x y:E3):Bool:=decide (x.1 < y.1) || (x.1 == y.1 && decide (x.2.1 < y.2.1))
theorem edge_info:(Tryz.prog.info? 104).map (fun i=>(i.zero,i.size,i.bytes))=some (some (.agg #[.int .i64 0,.int .i64 0,.int .i64 0]),3,24):=by kernel_rfl
end Go.Proofs.YtppblcbgkadldaaGreatDoor
namespace Go.Proofs.YtppblcbgkadldaaGreatDoor
open Go Go.RowKit
set_option maxRecDepth 100000
attribute [local go_sem] Heavy heavyUpon
def vtx (v:Int):Bool:=!(decide (v < 0)) && !(decide (16777215 < v))
theorem vtx_iff {v:Int}:vtx v=true ↔ 0 ≤ v ∧ v < 16777216:=by
  simp only [vtx,Bool.and_eq_true,Bool.not_eq_true',decide_eq_false_iff_not]
  omega
def nameE (u v:Int):Int × Int:=if vtx u=true ∧ vtx v=true then (if u=v then (0,8) else if u < v then (u * 16777216 + v,0) else (v * 16777216 + u,0)) else (0,1)
theorem vertex_yes {v:Int} (w:World) (h:vtx v=true):Calls Tryz.prog 227 #[.int .i64 v] w (Ret (.bool true) w):=by
  obtain ⟨h0,h1⟩:=vtx_iff.1 h
  clear h
  go_enter Tryz.func227,Tryz.ntmps227
  go_wp2_with (fail)
  go_ret
  exact ⟨rfl,Below.refl _ _⟩
theorem vertex_no {v:Int} (w:World) (h:vtx v=false):Calls Tryz.prog 227 #[.int .i64 v] w (Ret (.bool false) w):=by
  by_cases h0:0 ≤ v
  · have h1:16777216 ≤ v:=by
      rcases Int.lt_or_le v 16777216 with h1 | h1
      · rw [vtx_iff.2 ⟨h0,h1⟩] at h;cases h
      · exact h1
    have hd:decide (v < 16777216)=false:=by simp;omega
    clear h
    go_enter Tryz.func227,Tryz.ntmps227
    go_wp2_with (fail)
    go_ret
    exact ⟨rfl,Below.refl _ _⟩
  · have h1:v < 0:=by omega
    clear h h0
    go_enter Tryz.func227,Tryz.ntmps227
    go_wp2_with (fail)
    go_ret
    exact ⟨rfl,Below.refl _ _⟩
theorem of_any (u v:Int) (w:World):Calls Tryz.prog 224 #[.int .i64 u,.int .i64 v] w (Ret (.tuple #[.int .u64 (nameE u v).1,.int .i64 (nameE u v).2]) w):=by
  unfold nameE
  cases hu:vtx u
  · rw [if_neg (by simp)]
    have Q:=hide (fun W=>vertex_no W hu)
    clear hu
    go_enter Tryz.func224,Tryz.ntmps224
    go_wp2_with (fail)
    refine (Q.out _).mono ?_
    rintro e w1 ⟨rfl,b1⟩
    go_wp2_with (fail)
    refine bodyPost_ret (v:=.tuple #[.int .u64 0,.int .i64 1]) (by simp [results,Tryz.results224,go_sem]) rfl ⟨rfl,b1⟩
  · cases hv:vtx v
    · rw [if_neg (by simp)]
      have Q:=hide (fun W=>vertex_yes W hu)
      have R:=hide (fun W=>vertex_no W hv)
      clear hu hv
      go_enter Tryz.func224,Tryz.ntmps224
      go_wp2_with (fail)
      refine (Q.out _).mono ?_
      rintro e w1 ⟨rfl,b1⟩
      go_wp2_with (fail)
      refine (R.out _).mono ?_
      rintro e w2 ⟨rfl,b2⟩
      go_wp2_with (fail)
      refine bodyPost_ret (v:=.tuple #[.int .u64 0,.int .i64 1]) (by simp [results,Tryz.results224,go_sem]) rfl ⟨rfl,b1.trans (b2.mono b1.size)⟩
    · rw [if_pos ⟨rfl,rfl⟩]
      have Q:=hide (fun W=>vertex_yes W hu)
      have R:=hide (fun W=>vertex_yes W hv)
      obtain ⟨u0,u1⟩:=vtx_iff.1 hu
      obtain ⟨v0,v1⟩:=vtx_iff.1 hv
      clear hu hv
      obtain ⟨u,rfl⟩:=Int.eq_ofNat_of_zero_le u0
      obtain ⟨v,rfl⟩:=Int.eq_ofNat_of_zero_le v0
      by_cases huv:(u:Int)=v
      · rw [if_pos huv]
        have hd:((u:Int) == v)=true:=by simp [huv]
        clear huv
        go_enter Tryz.func224,Tryz.ntmps224
        go_wp2_with (fail)
        refine (Q.out _).mono ?_
        rintro e w1 ⟨rfl,b1⟩
        go_wp2_with (fail)
        refine (R.out _).mono ?_
        rintro e w2 ⟨rfl,b2⟩
        go_wp2_with (fail)
        refine bodyPost_ret (v:=.tuple #[.int .u64 0,.int .i64 8]) (by simp [results,Tryz.results224,go_sem]) rfl ⟨rfl,b1.trans (b2.mono b1.size)⟩
      · rw [if_neg huv]
        have hd:((u:Int) == v)=false:=by simp;omega
        have hd2:(u == v)=false:=by simp;omega
        by_cases hlt:u < v
        · rw [if_pos (by omega)]
          have hmin:min (u:Int) v=u:=by omega
          have hmax:max (u:Int) v=v:=by omega
          have hl:decide ((u:Int) < v)=true:=by simp;omega
          have hl2:decide ((v:Int) < u)=false:=by simp;omega
          clear huv
          go_enter Tryz.func224,Tryz.ntmps224
          go_wp2_with (fail)
          refine (Q.out _).mono ?_
          rintro e w1 ⟨rfl,b1⟩
          go_wp2_with (fail)
          refine (R.out _).mono ?_
          rintro e w2 ⟨rfl,b2⟩
          go_wp2_with (fail)
          refine bodyPost_ret (v:=.tuple #[.int .u64 ((u:Int) * 16777216 + v),.int .i64 0]) (by simp [results,Tryz.results224,go_sem]) rfl ⟨rfl,b1.trans (b2.mono b1.size)⟩
        · rw [if_neg (by omega)]
          have hmin:min (u:Int) v=v:=by omega
          have hmax:max (u:Int) v=u:=by omega
          have hgt:v < u:=by omega
          have hl:decide ((u:Int) < v)=false:=by simp;omega
          have hl2:decide ((v:Int) < u)=true:=by simp;omega
          clear huv hlt
          go_enter Tryz.func224,Tryz.ntmps224
          go_wp2_with (fail)
          refine (Q.out _).mono ?_
          rintro e w1 ⟨rfl,b1⟩
          go_wp2_with (fail)
          refine (R.out _).mono ?_
          rintro e w2 ⟨rfl,b2⟩
          go_wp2_with (fail)
          refine bodyPost_ret (v:=.tuple #[.int .u64 ((v:Int) * 16777216 + u),.int .i64 0]) (by simp [results,Tryz.results224,go_sem]) rfl ⟨rfl,b1.trans (b2.mono b1.size)⟩
end Go.Proofs.YtppblcbgkadldaaGreatDoor
namespace Go.Proofs.YtppblcbgkadldaaGreatDoor
open Go Go.RowKit
set_option maxRecDepth 100000
attribute [local go_sem] Heavy heavyUpon
theorem own_below {w w':World} {base:Nat} {e:TypeId} {size:Nat} {v:Value} {n:Nat} {xs:List Value} (h:w.ownsRow base e size v n xs) (hb:Below w.heap.size w w'):w'.ownsRow base e size v n xs:=by
  obtain ⟨h1,h2⟩:=h
  refine ⟨h1,?_⟩
  rcases h2 with h2 | ⟨g,cap,cur,a,b,c,d⟩
  · exact .inl h2
  · exact .inr ⟨g,cap,cur,a,b,(hb.block g (by rcases Nat.lt_or_ge g w.heap.size with h | h;exact h;rw [Array.getElem?_eq_none h] at c;cases c)).trans c,d⟩
def nameT (e:E3):Int:=(nameE e.1 e.2.1).1
def namesE (l:List E3):List Int:=l.map nameT
theorem u64_info:(Tryz.prog.info? 43).map (fun i=>(i.zero,i.size,i.bytes))=some (some (.int .u64 0),1,8):=by kernel_rfl
theorem nameE_err {u v:Int} (h:(nameE u v).2 ≠ 0):(nameE u v).1=0:=by
  unfold nameE at h ⊢
  split
  · split
    · rfl
    · split <;> rename_i h1 h2 h3 <;> simp [h1,h2,h3] at h
  · rfl
theorem namesE_step (l:List E3) {k:Nat} (h:k < l.length):namesE (l.take (k + 1))=namesE (l.take k) ++ [nameT l[k]]:=by
  unfold namesE
  rw [List.take_succ_eq_append_getElem h,List.map_append];rfl
set_option maxHeartbeats 1600000 in
theorem names_ok (l:List E3) (M:List Nat) (A:Option Addr) (m c:Nat) (w:World) (hS:ESl w M A m c l) (hm:m ≤ 4096) (K:List Nat) (hK:∀ x ∈ K,x < w.heap.size) :
    Calls Tryz.prog 216 #[.slice A m c] w fun e w'=>∃ R d,e=.returned (.slice R m d) ∧ Sl w' K 1 R m d (ints .u64 (namesE l)) ∧ Below w.heap.size w w':=by
  obtain ⟨ie,hie,hze,he1,he2⟩:=info_parts u64_info
  have HL:=hide hS.length
  have HK:=hide hK
  clear hK
  go_enter Tryz.func216,Tryz.ntmps216
  go_wp2_with (fail)
  go_loopw [3,10] (fun a i wr=>∃ (k:Nat) (Ao:Option Addr) (co:Nat),k ≤ m ∧ i=.int .i64 k ∧ a=.slice Ao k co ∧ Below w.heap.size w wr ∧
      wr.ownsRow w.heap.size 43 1 (.slice Ao k co) k (ints .u64 (namesE (l.take k)))) (fun _ i _=>m - (intOf i).toNat)
  case atStart=>exact ⟨0,none,0,Nat.zero_le _,rfl,rfl,Below.refl _ _,by simpa [namesE,ints] using World.ownsRow_nil w w.heap.size 43 1⟩
  case round =>
    obtain ⟨k,Ao,co,hk,rfl,rfl,hbr,hown⟩:=hrel
    have hSr:ESl wr M A m c l:=hS.below hbr
    by_cases hlt:k < m
    · have hx:k < l.length:=by have:=HL.out;omega
      obtain ⟨ad,rfl,had,_,c0,c1,c2⟩:=hSr.get hx
      have HF:=hide (namesE_step l hx)
      have HT:=hide (show nameT l[k]=(nameE l[k].1 l[k].2.1).1 from rfl)
      generalize l[k]=x at *
      obtain ⟨p,q,t⟩:=x
      simp only [] at c0 c1 c2 HT
      have E0:=Blk.new wr 104 #[.int .i64 p,.int .i64 q,.int .i64 t]
      have HOW:=hide hown
      clear hown
      generalize Value.slice Ao k co=RV at *
      have HO:=hide (fun W=>of_any p q W)
      have HE:=hide (nameE_err (u:=p) (v:=q))
      generalize nameE p q=z at *
      obtain ⟨z,er⟩:=z
      simp only [] at HT HO HE
      have HG:=hide (HT.out ▸ HF.out)
      clear HT HF
      go_wp2_with (fail)
      refine (HO.out _).mono ?_
      rintro e w1 ⟨rfl,b1⟩
      have hb1:Below w.heap.size w (wr.alloc (.cells #[.int .i64 p,.int .i64 q,.int .i64 t] 104)):=hbr.alloc hbr.size _
      have hb2:=hb1.trans (b1.mono hb1.size)
      have HO1:=hide (own_below (HOW.out.alloc (.cells #[.int .i64 p,.int .i64 q,.int .i64 t] 104)) b1)
      clear b1 E0 c0 c1 c2 hb1
      by_cases he:er=0
      · have hd:(er == 0)=true:=by simp [he]
        clear he
        ((go_wp2_with (at_builtin;refine stopAt ?_);refine stopGo ?_);have N2:Sl ((w1).alloc (.cells #[.int .u64 z] 43)) [] 1 (some ⟨(w1).heap.size,0,none⟩) 1 1 (ints .u64 [z]):=Sl.of_blk (Blk.new _ 43 #[.int .u64 z]) rfl (fun x hx=>by match x,hx with | 0,_=>rfl) (by simp) (by unfold maxLen;omega);have O2:=(HO1.out).alloc (.cells #[.int .u64 z] 43);have hb3:=hb2.alloc hb2.size (.cells #[.int .u64 z] 43);have szl:=hb3.size;refine wpList_append_sl _ rfl (.tmp 24) (.tmp 26) _ rfl w.heap.size 43 ie _ 1 8 Tryz.underlying24 hie hze he1 he2 rfl (by omega) RV k _ rfl O2 [] _ 1 1 (ints .u64 [z]) rfl N2 ints_one (by simp only [maxLen];omega) (by omega) (by first | omega | (simp;done) | (simp;omega)) ?_;intro A5 c5 w5 own5 g5 _;rw [← ints_append] at own5;have hg5:=below_grown O2 g5 (Nat.le_refl _) (by first | omega | (simp;omega));have hb5:=hb3.trans hg5)
        rw [← HG.out] at own5
        have OW5:=hide own5
        clear own5 g5 hg5 O2 N2
        go_wp2_with (fail)
        exact ⟨⟨k + 1,A5,c5,by omega,by go_num,rfl,hb5,OW5.out⟩,by simp [intOf];omega⟩
      · have hd:(er == 0)=false:=by simp [he]
        obtain rfl:=HE.out he
        clear he
        ((go_wp2_with (at_builtin;refine stopAt ?_);refine stopGo ?_);have N2:Sl ((w1).alloc (.cells #[.int .u64 0] 43)) [] 1 (some ⟨(w1).heap.size,0,none⟩) 1 1 (ints .u64 [0]):=Sl.of_blk (Blk.new _ 43 #[.int .u64 0]) rfl (fun x hx=>by match x,hx with | 0,_=>rfl) (by simp) (by unfold maxLen;omega);have O2:=(HO1.out).alloc (.cells #[.int .u64 0] 43);have hb3:=hb2.alloc hb2.size (.cells #[.int .u64 0] 43);have szl:=hb3.size;refine wpList_append_sl _ rfl (.tmp 24) (.tmp 26) _ rfl w.heap.size 43 ie _ 1 8 Tryz.underlying24 hie hze he1 he2 rfl (by omega) RV k _ rfl O2 [] _ 1 1 (ints .u64 [0]) rfl N2 ints_one (by simp only [maxLen];omega) (by omega) (by first | omega | (simp;done) | (simp;omega)) ?_;intro A5 c5 w5 own5 g5 _;rw [← ints_append] at own5;have hg5:=below_grown O2 g5 (Nat.le_refl _) (by first | omega | (simp;omega));have hb5:=hb3.trans hg5)
        rw [← HG.out] at own5
        have OW5:=hide own5
        clear own5 g5 hg5 O2 N2
        go_wp2_with (fail)
        exact ⟨⟨k + 1,A5,c5,by omega,by go_num,rfl,hb5,OW5.out⟩,by simp [intOf];omega⟩
    · have HF:=hide (show l.take k=l from List.take_of_length_le (by have:=HL.out;omega))
      have hkm:k=m:=by omega
      subst hkm
      rw [HF.out] at hown
      go_wp2_with (fail)
      go_ret
      exact ⟨Ao,co,rfl,own_sl hown K HK.out,hbr⟩
end Go.Proofs.YtppblcbgkadldaaGreatDoor
namespace Go.Proofs.YtppblcbgkadldaaGreatDoor
open Go Go.RowKit
set_option maxRecDepth 100000
attribute [local go_sem] Heavy heavyUpon
theorem hash_info:(Tryz.prog.info? 79).map (fun i=>(i.zero,i.size,i.bytes))=some (some (.agg #[.int .u64 0,.int .u64 0]),2,16):=by kernel_rfl
set_option maxHeartbeats 800000 in
theorem cloneU_ok (l:List Value) (M:List Nat) (A:Option Addr) (m c:Nat) (w:World) (hS:Sl w M 1 A m c l) (h1:∀ u ∈ l,u.oneCell'=true) (hm:m ≤ 10000) :
    Calls Tryz.prog 225 #[.slice A m c] w fun e w'=>∃ R d,e=.returned (.slice R m d) ∧ w'.ownsRow w.heap.size 43 1 (.slice R m d) m l ∧ Below w.heap.size w w':=by
  obtain ⟨ie,hie,hze,he1,he2⟩:=info_parts u64_info
  have q22:∀ (w:World) (a:Option Addr) (n c n' c':Nat),(binOp .eql 24 (.slice a n c) (.slice none n' c')).run Tryz.prog w=.ok (.bool a.isNone) w:=fun w a n c n' c'=>Lib.run_eql_slice_nil w _ _ a n c n' c' Tryz.underlying24
  cases A with
  | none =>
    obtain rfl:m=0:=by
      rcases Nat.eq_zero_or_pos m with h0 | h0
      · exact h0
      · obtain ⟨ad,h,_⟩:=hS.at_ h0
        cases h
    obtain rfl:l=[]:=List.eq_nil_of_length_eq_zero (by simpa using hS.len)
    go_enter Tryz.func225,Tryz.ntmps225
    go_wp2_with (fail)
    go_ret
    exact ⟨none,0,rfl,World.ownsRow_nil _ _ _ _,Below.refl _ _⟩
  | some ad =>
    have O2:=own_empty w 43 1
    have S2:=hS.alloc (.cells #[] 43)
    have HO:=hide O2
    have hb2:=(Below.refl w.heap.size w).alloc (Nat.le_refl _) (.cells #[] 43)
    clear O2
    go_enter Tryz.func225,Tryz.ntmps225
    (go_wp2_with (at_builtin;refine stopAt ?_);refine stopGo ?_)
    refine wpList_append_sl _ rfl (.tmp 5) (.tmp 6) _ rfl w.heap.size 43 ie _ 1 8 Tryz.underlying24 hie hze he1 he2 rfl (by omega) _ _ _ rfl HO.out M _ m c l rfl S2 h1 (by simp only [maxLen];omega) (by omega) (by simp) ?_
    intro A5 c5 w5 own5 g5 _
    have hg5:=below_grown HO.out g5 (Nat.le_refl _) hb2.size
    have hb5:=hb2.trans hg5
    simp only [Nat.zero_add,List.nil_append] at own5 ⊢
    have OW5:=hide own5
    clear own5 g5 hg5
    go_wp2_with (fail)
    go_ret
    exact ⟨A5,c5,rfl,OW5.out,hb5⟩
set_option maxHeartbeats 800000 in
theorem cloneH_ok (l:List Value) (M:List Nat) (A:Option Addr) (m c:Nat) (w:World) (hS:Sl w M 2 A m c l) (h1:∀ u ∈ l,u.oneCell'=true) (hm:m ≤ 10000) :
    Calls Tryz.prog 29 #[.slice A m c] w fun e w'=>∃ R d,e=.returned (.slice R m d) ∧ w'.ownsRow w.heap.size 79 2 (.slice R m d) m l ∧ Below w.heap.size w w':=by
  obtain ⟨ie,hie,hze,he1,he2⟩:=info_parts hash_info
  have q22:∀ (w:World) (a:Option Addr) (n c n' c':Nat),(binOp .eql 27 (.slice a n c) (.slice none n' c')).run Tryz.prog w=.ok (.bool a.isNone) w:=fun w a n c n' c'=>Lib.run_eql_slice_nil w _ _ a n c n' c' Tryz.underlying27
  cases A with
  | none =>
    obtain rfl:m=0:=by
      rcases Nat.eq_zero_or_pos m with h0 | h0
      · exact h0
      · obtain ⟨ad,h,_⟩:=hS.at_ h0
        cases h
    obtain rfl:l=[]:=List.eq_nil_of_length_eq_zero (by simpa using hS.len)
    go_enter Tryz.func29,Tryz.ntmps29
    go_wp2_with (fail)
    go_ret
    exact ⟨none,0,rfl,World.ownsRow_nil _ _ _ _,Below.refl _ _⟩
  | some ad =>
    have O2:=own_empty w 79 2
    have S2:=hS.alloc (.cells #[] 79)
    have HO:=hide O2
    have hb2:=(Below.refl w.heap.size w).alloc (Nat.le_refl _) (.cells #[] 79)
    clear O2
    go_enter Tryz.func29,Tryz.ntmps29
    (go_wp2_with (at_builtin;refine stopAt ?_);refine stopGo ?_)
    refine wpList_append_sl _ rfl (.tmp 5) (.tmp 6) _ rfl w.heap.size 79 ie _ 2 16 Tryz.underlying27 hie hze he1 he2 rfl (by omega) _ _ _ rfl HO.out M _ m c l rfl S2 h1 (by simp only [maxLen];omega) (by omega) (by simp) ?_
    intro A5 c5 w5 own5 g5 _
    have hg5:=below_grown HO.out g5 (Nat.le_refl _) hb2.size
    have hb5:=hb2.trans hg5
    simp only [Nat.zero_add,List.nil_append] at own5 ⊢
    have OW5:=hide own5
    clear own5 g5 hg5
    go_wp2_with (fail)
    go_ret
    exact ⟨A5,c5,rfl,OW5.out,hb5⟩
end Go.Proofs.YtppblcbgkadldaaGreatDoor
namespace Go.Proofs.YtppblcbgkadldaaGreatDoor
open Go Go.RowKit
set_option maxRecDepth 100000
attribute [local go_sem] Heavy heavyUpon
theorem place_yes (n v:Int) (h0:0 ≤ v) (h1:v < n) (w:World):Calls Tryz.prog 78 #[.int .i64 n,.int .i64 v] w (Ret (.bool true) w):=by
  go_enter Tryz.func78,Tryz.ntmps78
  go_wp2_with (fail)
  go_ret
  exact ⟨rfl,Below.refl _ _⟩
def PR (p:List Nat):Prop:=∀ (v:Nat) (h:v < p.length),p[v] ≤ v ∧ p.getD p[v] 0=p[v]
def natL (l:List Nat):List Int:=l.map Int.ofNat
theorem natL_get {l:List Nat} {i:Nat} (h:i < l.length):(ints .i64 (natL l))[i]? = some (.int .i64 ((l[i]:Nat):Int)):=by simp [ints,natL,h]
theorem pright_yes (p:List Nat) (hp:PR p) (M:List Nat) (A:Option Addr) (m c:Nat) (w:World) (hS:Sl w M 1 A m c (ints .i64 (natL p))) :
    Calls Tryz.prog 77 #[.slice A m c] w (Ret (.bool true) w):=by
  have HL:=hide (show p.length=m by have:=hS.len;simpa [natL] using this)
  have HP:=hide hp
  have hcap:m ≤ maxLen:=Nat.le_trans hS.le hS.cap
  unfold maxLen at hcap
  go_enter Tryz.func77,Tryz.ntmps77
  go_wp2_with (fail)
  go_loopw [7] (fun i wr=>∃ k:Nat,k ≤ m ∧ i=.int .i64 k ∧ Below w.heap.size w wr) (fun i _=>m - (intOf i).toNat)
  case atStart=>exact ⟨0,Nat.zero_le _,rfl,Below.refl _ _⟩
  case round =>
    obtain ⟨k,hk,rfl,hbr⟩:=hrel
    have hSr:=hS.below hbr
    by_cases hlt:k < m
    · obtain ⟨ad,rfl,had,_,hc⟩:=hSr.at_ (by omega)
      have hx:k < p.length:=by have:=HL.out;omega
      obtain ⟨h1,h2⟩:=HP.out k hx
      have hy:p[k] < p.length:=by omega
      have c0:=hc _ _ (natL_get hx)
      have c1:=hc _ _ (natL_get hy)
      rw [List.getD_eq_getElem?_getD,List.getElem?_eq_getElem hy,Option.getD_some] at h2
      rw [h2] at c1
      have hym:p[k] < m:=by have:=HL.out;omega
      generalize p[k]=y at *
      clear hc h2 hy hx
      have h3:(y:Int) ≤ (k:Int):=by omega
      have h4:(y:Int) < (m:Int):=by omega
      have HC:=hide (And.intro c0 c1)
      go_wp2_with (fail)
      refine (place_yes (m:Int) (y:Int) (by omega) h4 wr).mono ?_
      rintro e w1 ⟨rfl,b1⟩
      have hb1:=hbr.trans (b1.mono hbr.size)
      have c2:=(bcells b1 (ad.add y) (by rw [block_of_add];exact had)).trans HC.out.2
      clear c0 c1 b1
      go_wp2_with (fail)
      exact ⟨⟨k + 1,by omega,by go_num,hb1⟩,by simp [intOf];omega⟩
    · go_wp2_with (fail)
      go_ret
      exact ⟨rfl,hbr⟩
def leasts (p:List Nat) (k:Nat):Nat:=((List.range k).filter fun v=>p.getD v 0 == v).length
theorem leasts_step (p:List Nat) {k:Nat} (h:k < p.length):leasts p (k + 1)=leasts p k + (if p[k]=k then 1 else 0):=by
  unfold leasts
  rw [List.range_succ,List.filter_append,List.length_append]
  simp only [List.filter_cons,List.filter_nil,List.getD_eq_getElem?_getD,List.getElem?_eq_getElem h,Option.getD_some,beq_iff_eq]
  split <;> rfl
theorem leasts_le (p:List Nat) (k:Nat):leasts p k ≤ k:=by
  have:=List.length_filter_le (fun v=>p.getD v 0 == v) (List.range k)
  rwa [List.length_range] at this
theorem pmany_ok (p:List Nat) (hp:PR p) (M:List Nat) (A:Option Addr) (m c:Nat) (w:World) (hS:Sl w M 1 A m c (ints .i64 (natL p))) :
    Calls Tryz.prog 97 #[.slice A m c] w (Ret (.int .i64 (leasts p m:Nat)) w):=by
  have HL:=hide (show p.length=m by have:=hS.len;simpa [natL] using this)
  have QR:=hide (fun W h=>pright_yes p hp M A m c W h)
  have hcap:m ≤ maxLen:=Nat.le_trans hS.le hS.cap
  unfold maxLen at hcap
  have HLE:=hide (leasts_le p)
  clear hp
  go_enter Tryz.func97,Tryz.ntmps97
  go_wp2_with (fail)
  refine (QR.out w hS).mono ?_
  rintro e w1 ⟨rfl,b1⟩
  go_wp2_with (fail)
  go_loopw [3,11] (fun a i wr=>∃ k:Nat,k ≤ m ∧ i=.int .i64 k ∧ a=.int .i64 (leasts p k:Nat) ∧ Below w.heap.size w wr) (fun _ i _=>m - (intOf i).toNat)
  case atStart=>exact ⟨0,Nat.zero_le _,rfl,rfl,b1⟩
  case round =>
    obtain ⟨k,hk,rfl,rfl,hbr⟩:=hrel
    have hSr:=hS.below hbr
    by_cases hlt:k < m
    · obtain ⟨ad,rfl,had,_,hc⟩:=hSr.at_ (by omega)
      have hx:k < p.length:=by have:=HL.out;omega
      have c0:=hc _ _ (natL_get hx)
      have HK:=hide (leasts_step p hx)
      have hle:=HLE.out k
      generalize p[k]=y at *
      generalize leasts p k=cn at *
      clear hc
      by_cases hy:y=k
      · subst hy
        have HF:=hide (show leasts p (y + 1)=cn + 1 by rw [HK.out,if_pos rfl])
        clear HK
        go_wp2_with (fail)
        exact ⟨⟨y + 1,by omega,by go_num,by rw [HF.out];go_num,hbr⟩,by simp [intOf];omega⟩
      · have HF:=hide (show leasts p (k + 1)=cn by rw [HK.out,if_neg hy];rfl)
        have hd:((k:Int) == (y:Int))=false:=by rw [beq_eq_false_iff_ne];omega
        clear HK hy
        go_wp2_with (fail)
        exact ⟨⟨k + 1,by omega,by go_num,by rw [HF.out],hbr⟩,by simp [intOf];omega⟩
    · obtain rfl:k=m:=by omega
      generalize leasts p k=cn at *
      go_wp2_with (fail)
      go_ret
      exact ⟨rfl,hbr⟩
end Go.Proofs.YtppblcbgkadldaaGreatDoor
namespace Go.Proofs.YtppblcbgkadldaaGreatDoor
open Go Go.RowKit
set_option maxRecDepth 100000
theorem less_any (a b c d e f:Int) (w:World) :
    Calls Tryz.prog 96 #[.agg #[.int .i64 a,.int .i64 b,.int .i64 c],.agg #[.int .i64 d,.int .i64 e,.int .i64 f]] w (Ret (.bool (ltE (a,b,c) (d,e,f))) w):=by
  have hbel:∀ o1 o2,Below w.heap.size w ((w.alloc o1).alloc o2):=fun o1 o2=>((Below.refl _ _).alloc (Nat.le_refl _) _).alloc (by simp) _
  have HB:=hide hbel
  clear hbel
  by_cases h1:a < d
  · have HF:=hide (show ltE (a,b,c) (d,e,f)=true by simp [ltE,h1])
    go_enter Tryz.func96,Tryz.ntmps96
    go_wp2
    go_ret
    exact ⟨congrArg (fun x=>Ending.returned (.bool x)) HF.out.symm,HB.out _ _⟩
  · by_cases h2:a=d
    · subst h2
      have HF:=hide (show ltE (a,b,c) (a,e,f)=decide (b < e) by simp [ltE])
      go_enter Tryz.func96,Tryz.ntmps96
      go_wp2
      go_ret
      exact ⟨congrArg (fun x=>Ending.returned (.bool x)) HF.out.symm,HB.out _ _⟩
    · have HF:=hide (show ltE (a,b,c) (d,e,f)=false by simp [ltE,h1,h2])
      have h3:(a == d)=false:=by simpa using h2
      clear h2
      go_enter Tryz.func96,Tryz.ntmps96
      go_wp2
      go_ret
      exact ⟨congrArg (fun x=>Ending.returned (.bool x)) HF.out.symm,HB.out _ _⟩
end Go.Proofs.YtppblcbgkadldaaGreatDoor
