/-
  A part of the proof that the law TopForest returns true for every input and leaves its arguments as they were: Tr.
-/
import Derived.Test.YtppblcbgkadldaaGreatDoorProg
import Derived.Test.YtppblcbgkadldaaGreatDoorZ00
import Derived.Test.YtppblcbgkadldaaGreatDoorZ03
import Derived.BigQuiet
set_option linter.all false
namespace Go.Proofs.YtppblcbgkadldaaGreatDoor
open Go Go.RowKit
set_option maxRecDepth 100000
attribute [local go_sem] Heavy heavyUpon
inductive Tr
  | nil
  | node (a:Tr) (k n:Int) (b:Tr)
def Tr.ht:Tr → Nat
  | .nil=>0
  | .node a _ _ b=>max a.ht b.ht + 1
def Tr.sz:Tr → Nat
  | .nil=>0
  | .node a _ _ b=>a.sz + 1 + b.sz
def Tr.toL:Tr → List (Int × Int)
  | .nil=>[]
  | .node a k n b=>a.toL ++ (k,n) :: b.toL
theorem Tr.sz_len:∀ t:Tr,t.sz=t.toL.length
  | .nil=>rfl
  | .node a k n b=>by simp [Tr.sz,Tr.toL,a.sz_len,b.sz_len];omega
theorem Tr.ht_le:∀ t:Tr,t.ht ≤ t.sz
  | .nil=>Nat.le_refl _
  | .node a k n b=>by have:=a.ht_le;have:=b.ht_le;simp only [Tr.ht,Tr.sz];omega
def trC (a b:Option Addr) (k n:Int) (h s:Nat):Array Value:=#[.pointer a,.pointer b,.int .u64 k,.int .i64 n,.int .i64 (h:Int),.int .i64 (s:Int)]
def Rep (w:World):Option Addr → Tr → Prop
  | p,.nil=>p=none
  | p,.node a k n b=>∃ g pa pb,p=some ⟨g,0,none⟩ ∧ Blk w g 190 (trC pa pb k n (Tr.node a k n b).ht (Tr.node a k n b).sz) ∧ Rep w pa a ∧ Rep w pb b
theorem Rep.keep {w w':World} (hk:∀ k,k < w.heap.size → w'.heap[k]? = w.heap[k]?):∀ {t:Tr} {p:Option Addr},Rep w p t → Rep w' p t
  | .nil,_,h=>h
  | .node _ _ _ _,_,⟨g,pa,pb,e,hB,ha,hb⟩=>⟨g,pa,pb,e,(hk g hB.lt).trans hB,ha.keep hk,hb.keep hk⟩
theorem Rep.below {w w':World} {t:Tr} {p:Option Addr} (h:Rep w p t) (hb:Below w.heap.size w w'):Rep w' p t:=h.keep hb.block
theorem Rep.drew {w:World} {t:Tr} {p:Option Addr} (h:Rep w p t):Rep w.drew p t:=Rep.keep (w:=w) (w':=w.drew) (fun _ _=>rfl) h
theorem Rep.alloc {w:World} {t:Tr} {p:Option Addr} (h:Rep w p t) (o:Obj):Rep (w.alloc o) p t:=h.keep fun k hk=>Below.heap_alloc w o k hk
theorem seqLen_ok (t:Tr) (p:Option Addr) (w:World) (h:Rep w p t):Calls Tryz.prog 108 #[.pointer p] w (Ret (.int .i64 t.sz) w):=by
  cases t with
  | nil =>
    obtain rfl:=h
    go_enter Tryz.func108,Tryz.ntmps108
    go_wp2_with (fail)
    go_ret
    exact ⟨rfl,Below.refl _ _⟩
  | node a k n b =>
    obtain ⟨g,pa,pb,rfl,hB,_,_⟩:=h
    generalize (Tr.node a k n b).sz=s at *
    generalize (Tr.node a k n b).ht=q at *
    obtain ⟨r0,e0,s0⟩:=hB.facts
    clear hB
    have c5:w.cell? ⟨g,5,none⟩=some (.int .i64 (s:Int)):=r0 5
    clear r0
    go_enter Tryz.func108,Tryz.ntmps108
    go_wp2_with (fail)
    go_ret
    exact ⟨rfl,Below.refl _ _⟩
theorem seqHeight_ok (t:Tr) (p:Option Addr) (w:World) (h:Rep w p t):Calls Tryz.prog 176 #[.pointer p] w (Ret (.int .i64 t.ht) w):=by
  cases t with
  | nil =>
    obtain rfl:=h
    go_enter Tryz.func176,Tryz.ntmps176
    go_wp2_with (fail)
    go_ret
    exact ⟨rfl,Below.refl _ _⟩
  | node a k n b =>
    obtain ⟨g,pa,pb,rfl,hB,_,_⟩:=h
    generalize (Tr.node a k n b).sz=s at *
    generalize (Tr.node a k n b).ht=q at *
    obtain ⟨r0,e0,s0⟩:=hB.facts
    clear hB
    have c4:w.cell? ⟨g,4,none⟩=some (.int .i64 (q:Int)):=r0 4
    clear r0
    go_enter Tryz.func176,Tryz.ntmps176
    go_wp2_with (fail)
    go_ret
    exact ⟨rfl,Below.refl _ _⟩
def RetTr (l:List (Int × Int)) (w:World) (e:Ending) (w':World):Prop:=∃ p t,e=.returned (.pointer p) ∧ Rep w' p t ∧ t.toL=l ∧ Below w.heap.size w w'
theorem build_node (W:World) (pa pb:Option Addr) (k n h s:Int):(Instr.build 190 #[(0,.pointer pa),(1,.pointer pb),(2,.agg #[.int .u64 k,.int .i64 n]),(3,.int .i64 h),(4,.int .i64 s)]).run Tryz.prog W =
    .ok (.agg #[.pointer pa,.pointer pb,.int .u64 k,.int .i64 n,.int .i64 h,.int .i64 s]) W:=by kernel_rfl
set_option maxHeartbeats 1600000 in
theorem seqTree_ok (a b:Tr) (pa pb:Option Addr) (k n:Int) (w:World) (ha:Rep w pa a) (hb:Rep w pb b) (hs:a.sz + b.sz ≤ 4096) :
    Calls Tryz.prog 134 #[.pointer pa,.agg #[.int .u64 k,.int .i64 n],.pointer pb] w (RetTr (a.toL ++ (k,n) :: b.toL) w):=by
  have la:=a.ht_le
  have lb:=b.ht_le
  have HA:=show (Tr.node a k n b).ht=max a.ht b.ht + 1 from rfl
  have HB:=hide (show (Tr.node a k n b).sz=a.sz + 1 + b.sz from rfl)
  have QA:=fun W (h:Rep W pa a)=>hide (seqHeight_ok a pa W h)
  have QB:=fun W (h:Rep W pb b)=>hide (seqHeight_ok b pb W h)
  have PA:=fun W (h:Rep W pa a)=>hide (seqLen_ok a pa W h)
  have PB:=fun W (h:Rep W pb b)=>hide (seqLen_ok b pb W h)
  generalize a.ht=qa at *
  generalize b.ht=qb at *
  generalize a.sz=sa at *
  generalize b.sz=sb at *
  have hqa:qa ≤ 4096:=by omega
  have hqb:qb ≤ 4096:=by omega
  have hm:(qa < qb ∧ Hid ((Tr.node a k n b).ht=qb + 1)) ∨ (¬ qa < qb ∧ Hid ((Tr.node a k n b).ht=qa + 1)):=by
    by_cases h:qa < qb
    · exact .inl ⟨h,hide (by omega)⟩
    · exact .inr ⟨h,hide (by omega)⟩
  clear HA la lb
  have hbd:=fun W=>build_node W pa pb k n
  rcases hm with ⟨hq,HA⟩ | ⟨hq,HA⟩
  all_goals
    go_enter Tryz.func134,Tryz.ntmps134
    go_wp2_with (fail)
    have hb0:=(Below.refl w.heap.size w).alloc (Nat.le_refl _) (.cells #[.int .u64 k,.int .i64 n] 145)
    have HR:=hide (And.intro (ha.alloc (.cells #[.int .u64 k,.int .i64 n] 145)) (hb.alloc (.cells #[.int .u64 k,.int .i64 n] 145)))
    have B0:=Blk.new w 145 #[.int .u64 k,.int .i64 n]
    generalize (w.alloc (.cells #[.int .u64 k,.int .i64 n] 145))=W0 at *
    obtain ⟨r0,e0,s0⟩:=B0.facts
    have c0:W0.cell? ⟨w.heap.size,0,none⟩=some (.int .u64 k):=r0 0
    have c1:W0.cell? ⟨w.heap.size,1,none⟩=some (.int .i64 n):=r0 1
    clear r0
    refine wp_region_lexD [4,6,10,13,16] (fun w'=>Below (W0).heap.size (W0) w') (by kernel_rfl) (by kernel_rfl) (Below.refl _ _).drew ?_
    (repeat ((with_reducible refine wpLex_step (fun K hK=>?_));go_simp;first | ((with_reducible refine hK _ _ ?_);clear hK K) | ((with_reducible apply Exists.intro);refine ⟨fun w' hw'=>?_,hK _ _ ?_⟩;(· (have hq:=bcells hw';apply valEq;(· (go_simp;first | done | (with_reducible rfl)));(· ((try go_bits);with_reducible rfl))));clear hK K)))
    ((with_reducible refine wpLex_step (fun K hK=>?_));go_simp;refine ((QA _ HR.out.1.drew).out).mono ?_;rintro e w1 ⟨rfl,hbx⟩;have g1:=((Below.refl (W0).heap.size W0).drew).trans (hbx.mono ((Below.refl (W0).heap.size W0).drew).size);refine ⟨_,rfl,g1,hK _ _ ?_⟩;clear hK K hbx)
    (repeat ((with_reducible refine wpLex_step (fun K hK=>?_));go_simp;first | ((with_reducible refine hK _ _ ?_);clear hK K) | ((with_reducible apply Exists.intro);refine ⟨fun w' hw'=>?_,hK _ _ ?_⟩;(· (have hq:=bcells hw';apply valEq;(· (go_simp;first | done | (with_reducible rfl)));(· ((try go_bits);with_reducible rfl))));clear hK K)))
    ((with_reducible refine wpLex_step (fun K hK=>?_));go_simp;refine ((QB _ (HR.out.2.below g1)).out).mono ?_;rintro e w2 ⟨rfl,hbx⟩;have g2:=(g1).trans (hbx.mono (g1).size);refine ⟨_,rfl,g2,hK _ _ ?_⟩;clear hK K hbx)
    (repeat ((with_reducible refine wpLex_step (fun K hK=>?_));go_simp;first | ((with_reducible refine hK _ _ ?_);clear hK K) | ((with_reducible apply Exists.intro);refine ⟨fun w' hw'=>?_,hK _ _ ?_⟩;(· (have hq:=bcells hw';apply valEq;(· (go_simp;first | done | (with_reducible rfl)));(· ((try go_bits);with_reducible rfl))));clear hK K)))
    ((with_reducible refine wpLex_step (fun K hK=>?_));go_simp;refine ((PA _ (HR.out.1.below g2)).out).mono ?_;rintro e w3 ⟨rfl,hbx⟩;have g3:=(g2).trans (hbx.mono (g2).size);refine ⟨_,rfl,g3,hK _ _ ?_⟩;clear hK K hbx)
    (repeat ((with_reducible refine wpLex_step (fun K hK=>?_));go_simp;first | ((with_reducible refine hK _ _ ?_);clear hK K) | ((with_reducible apply Exists.intro);refine ⟨fun w' hw'=>?_,hK _ _ ?_⟩;(· (have hq:=bcells hw';apply valEq;(· (go_simp;first | done | (with_reducible rfl)));(· ((try go_bits);with_reducible rfl))));clear hK K)))
    ((with_reducible refine wpLex_step (fun K hK=>?_));go_simp;refine ((PB _ (HR.out.2.below g3)).out).mono ?_;rintro e w4 ⟨rfl,hbx⟩;have g4:=(g3).trans (hbx.mono (g3).size);refine ⟨_,rfl,g4,hK _ _ ?_⟩;clear hK K hbx)
    (repeat ((with_reducible refine wpLex_step (fun K hK=>?_));go_simp;first | ((with_reducible refine hK _ _ ?_);clear hK K) | ((with_reducible apply Exists.intro);refine ⟨fun w' hw'=>?_,hK _ _ ?_⟩;(· (have hq:=bcells hw';apply valEq;(· (go_simp;first | done | (with_reducible rfl)));(· ((try go_bits);with_reducible rfl))));clear hK K)))
    ((with_reducible refine wpLex_step (fun K hK=>?_));go_simp;first | (refine hK _ _ ?_;clear hK K) | (refine ⟨?_,hK _ _ ?_⟩;(· (exact g4.alloc g4.size _));clear hK K))
    (repeat ((with_reducible refine wpLex_step (fun K hK=>?_));go_simp;first | ((with_reducible refine hK _ _ ?_);clear hK K) | ((with_reducible apply Exists.intro);refine ⟨fun w' hw'=>?_,hK _ _ ?_⟩;(· (have hq:=bcells hw';apply valEq;(· (go_simp;first | done | (with_reducible rfl)));(· ((try go_bits);with_reducible rfl))));clear hK K)))
    refine wpLex_nil (fun _=>?_)
    go_wp2_with (fail)
    go_ret
    refine ⟨some ⟨w4.heap.size,0,none⟩,.node a k n b,rfl,⟨_,pa,pb,rfl,?_,(HR.out.1.below g4).alloc _,(HR.out.2.below g4).alloc _⟩,rfl,(hb0.trans (g4.mono hb0.size)).alloc (Nat.le_trans hb0.size g4.size) _⟩
    rw [HA.out,HB.out]
    unfold trC
    simp only [Int.natCast_add,Int.cast_ofNat_Int]
    exact Blk.new _ _ _
theorem Rep.opened {w:World} {p:Option Addr} {a b:Tr} {k n:Int} (h:Rep w p (.node a k n b)):∃ g pa pb,p=some ⟨g,0,none⟩ ∧ g < w.heap.size ∧ w.cell? ⟨g,0,none⟩=some (.pointer pa) ∧ w.cell? ⟨g,1,none⟩=some (.pointer pb) ∧
    w.cell? ⟨g,2,none⟩=some (.int .u64 k) ∧ w.cell? ⟨g,3,none⟩=some (.int .i64 n) ∧ Hid (Rep w pa a) ∧ Hid (Rep w pb b):=by
  obtain ⟨g,pa,pb,e,hB,ha,hb⟩:=h
  exact ⟨g,pa,pb,e,hB.lt,hB.cell 0,hB.cell 1,hB.cell 2,hB.cell 3,ha,hb⟩
theorem Tr.ne_nil {t:Tr} (h:0 < t.ht):∃ a k n b,t=.node a k n b:=by
  cases t with
  | nil=>simp [Tr.ht] at h
  | node a k n b=>exact ⟨a,k,n,b,rfl⟩
end Go.Proofs.YtppblcbgkadldaaGreatDoor
