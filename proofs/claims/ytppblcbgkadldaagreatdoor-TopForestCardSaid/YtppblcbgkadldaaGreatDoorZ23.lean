/-
  A part of the proof that the law TopForest returns true for every input and leaves its arguments as they were: SearchA, KNames.
-/
import Derived.Test.YtppblcbgkadldaaGreatDoorZ06
import Derived.Test.YtppblcbgkadldaaGreatDoorZ07
import Derived.Test.YtppblcbgkadldaaGreatDoorZ10
import Derived.Test.YtppblcbgkadldaaGreatDoorZ22
set_option linter.all false
namespace Go.Proofs.YtppblcbgkadldaaGreatDoor
open Go Go.RowKit
set_option maxRecDepth 100000
attribute [local go_sem] Heavy heavyUpon
theorem hcells_take (l:List (Int × Int)) (k:Nat):(hcells l).take (k * 2)=hcells (l.take k):=by
  induction l generalizing k with
  | nil=>simp [hcells]
  | cons x l ih =>
    cases k with
    | zero=>simp [hcells]
    | succ k =>
      have e:(k + 1) * 2=k * 2 + 2:=by omega
      have:=ih k
      simp only [hcells,List.flatMap_cons,hcell,List.take_succ_cons,e] at this ⊢
      simp [this]
theorem hcells_drop (l:List (Int × Int)) (k:Nat):(hcells l).drop (k * 2)=hcells (l.drop k):=by
  induction l generalizing k with
  | nil=>simp [hcells]
  | cons x l ih =>
    cases k with
    | zero=>simp [hcells]
    | succ k =>
      have e:(k + 1) * 2=k * 2 + 2:=by omega
      have:=ih k
      simp only [hcells,List.flatMap_cons,hcell,List.drop_succ_cons,e] at this ⊢
      simp [this]
theorem hsl_size (w:World):(sizeOf (Tryz.prog.elem 27)).run Tryz.prog w=.ok 2 w:=by kernel_rfl
theorem hsl_both (A:Option Addr) (n c:Nat) (i j:Int) (h0:0 ≤ i) (h1:i ≤ j) (h2:j ≤ c) (w:World) :
    (Instr.slice 27 (.slice A n c) (some (.int .i64 i)) (some (.int .i64 j)) none).run Tryz.prog w=.ok (.slice (cutA A c i.toNat 2) (j.toNat - i.toNat) (c - i.toNat)) w:=by
  rw [run_slice_lh (P:=Tryz.prog) (t:=27) (a:=A) (len:=n) (cap:=c) w Tryz.underlying27 .i64 .i64 i j h0 h1 h2,hsl_size]
  simp [Result.andThen,sliced,cutA]
theorem h_head {W:World} {A:Option Addr} {m c k:Nat} {l:List (Int × Int)} (hS:HSl W A m c l) (hk:k ≤ m):HSl W A k c (l.take k):=by
  have:=Sl.take hS hk
  rw [hcells_take] at this
  exact this.less (by simp)
theorem h_tail {W:World} {A:Option Addr} {m c k:Nat} {l:List (Int × Int)} (hS:HSl W A m c l) (hk:k ≤ m):HSl W (cutA A c k 2) (m - k) (c - k) (l.drop k):=by
  have:=Sl.cut hS hk
  rw [hcells_drop] at this
  exact this.less (by simp)
theorem ge_acyc_le {N L:Nat} {l:List E3} (h:GE N L l) {i:Nat} (hi:i ≤ L):acyc N (endsE (forestE l i)):=by
  have e:forestE l i=forestE (forestE l L) i:=by
    unfold forestE
    rw [List.filter_filter]
    refine List.filter_congr fun x _=>?_
    unfold tierT
    by_cases h1:1 ≤ x.2.2 <;> by_cases h2:x.2.2 ≤ (i:Int) <;> by_cases h3:x.2.2 ≤ (L:Int) <;> simp [h1,h2,h3]
    all_goals omega
  have hp:=(List.filter_append_perm (tierT i) (forestE l L)).map e2
  rw [List.map_append] at hp
  have ho:=forN_ok h.right (L:Int)
  have ha:=acyc_perm hp.symm ho h.acyc
  rw [e]
  exact acyc_left _ _ (ho.perm hp.symm) ha
def treeN (N:Nat) (es:List E3) (i v:Nat):List Nat:=classN (partN N (endsE (forestE es i))) v N
section
variable {w w':World} {N L R:Nat} {hs:List (Int × Int)} {es:List E3} {H:Option Addr} {hc:Nat} {E:Option Addr} {m c:Nat}
def RetL (l:List Nat) (w:World) (e:Ending) (w':World):Prop:=∃ A d,e=.returned (.slice A l.length d) ∧ Sl w' [] 1 A l.length d (ints .i64 (natL l)) ∧ Below w.heap.size w w'
set_option maxHeartbeats 3200000 in
theorem stree_ok (i v:Nat) (hi:i ≤ L) (hv:v < N) (w:World) (hG:GM w N L R hs es H hc E m c) :
    Calls Tryz.prog 187 #[gV N L R H hc E m c,.int .i64 i,.int .i64 v] w (RetL (treeN N es i v) w):=by
  have hml:=hG.m_le
  have n2:=hG.n2
  have QF:=hide (fun W (h:GM W N L R hs es H hc E m c)=>forest_ok es N i [] E m c W h.em (by omega))
  have e1:outF N es i=forestE es i:=by unfold outF;rw [if_pos hG.ge.right]
  rw [e1] at QF
  have hfl:(forestE es i).length ≤ m:=by
    have:=filter_len (tierT i) es es.length
    rw [List.take_length] at this
    have h2:=ESl.length hG.em
    unfold forestE
    omega
  have QG:=hide (fun R d W (h:ESl W [] R (forestE es i).length d (forestE es i))=>gtree_ok (forestE es i) N v (by omega) (hG.ends.forest i) (ge_acyc_le hG.ge hi) hv [] R _ d W h (by omega))
  have B0:=Blk.new w 30 #[.int .i64 N,.int .i64 L,.int .i64 R,.slice H (L * R) hc,.slice E m c]
  have hb0:=(Below.refl w.heap.size w).alloc (Nat.le_refl _) (.cells #[.int .i64 N,.int .i64 L,.int .i64 R,.slice H (L * R) hc,.slice E m c] 30)
  have HG0:=hide (hG.alloc (.cells #[.int .i64 N,.int .i64 L,.int .i64 R,.slice H (L * R) hc,.slice E m c] 30))
  unfold gV
  unfold treeN RetL
  clear hG e1 hfl
  go_enter Tryz.func187,Tryz.ntmps187
  go_wp2_with (fail)
  refine (QF.out _ HG0.out).mono ?_
  rintro e w1 ⟨R1,d1,rfl,S1,b1⟩
  have HS:=hide S1
  have hb1:=hb0.trans (b1.mono hb0.size)
  clear S1 b1
  go_wp2_with (fail)
  refine (QG.out _ _ _ HS.out).mono ?_
  rintro e w2 ⟨R2,d2,rfl,S2,b2⟩
  have hb2:=hb1.trans (b2.mono hb1.size)
  have HS2:=hide S2
  clear S2
  go_wp2_with (fail)
  go_ret
  exact ⟨_,_,rfl,HS2.out,hb2⟩
set_option maxHeartbeats 3200000 in
theorem sTree_ok (i v:Nat) (hi:i ≤ L) (hv:v < N) (w:World) (hG:GM w N L R hs es H hc E m c) :
    Calls Tryz.prog 158 #[gV N L R H hc E m c,.int .i64 i,.int .i64 v] w (RetL (treeN N es i v) w):=by
  have QR:=hide (fun W (h:GM W N L R hs es H hc E m c)=>sright_ok W h)
  have QT:=hide (fun W (h:GM W N L R hs es H hc E m c)=>stree_ok i v hi hv W h)
  have B0:=Blk.new w 30 #[.int .i64 N,.int .i64 L,.int .i64 R,.slice H (L * R) hc,.slice E m c]
  have hb0:=(Below.refl w.heap.size w).alloc (Nat.le_refl _) (.cells #[.int .i64 N,.int .i64 L,.int .i64 R,.slice H (L * R) hc,.slice E m c] 30)
  have HG0:=hide (hG.alloc (.cells #[.int .i64 N,.int .i64 L,.int .i64 R,.slice H (L * R) hc,.slice E m c] 30))
  unfold gV at QR QT
  unfold gV
  generalize L * R=K at *
  generalize treeN N es i v=T at *
  have d1:decide ((L:Int) < (i:Int))=false:=by simp;omega
  have d2:decide ((N:Int) ≤ (v:Int))=false:=by simp;omega
  clear hG
  go_enter Tryz.func158,Tryz.ntmps158
  go_wp2_with (fail)
  generalize w.alloc (.cells #[.int .i64 N,.int .i64 L,.int .i64 R,.slice H K hc,.slice E m c] 30)=W0 at *
  refine (QR.out _ HG0.out).mono ?_
  rintro e w1 ⟨rfl,b1⟩
  have hb1:=hb0.trans (b1.mono hb0.size)
  have HG1:=hide (HG0.out.below b1)
  have B1:=B0.below b1 B0.lt
  obtain ⟨r0,e0,s0⟩:=B1.facts
  have x0:w1.cell? ⟨w.heap.size,0,none⟩=some (.int .i64 N):=r0 0
  have x1:w1.cell? ⟨w.heap.size,1,none⟩=some (.int .i64 L):=r0 1
  have x2:w1.cell? ⟨w.heap.size,2,none⟩=some (.int .i64 R):=r0 2
  have x3:w1.cell? ⟨w.heap.size,3,none⟩=some (.slice H K hc):=r0 3
  have x4:w1.cell? ⟨w.heap.size,4,none⟩=some (.slice E m c):=r0 4
  clear r0 b1 B0 HG0 hb0
  go_wp2_with (fail)
  refine (QT.out _ HG1.out).mono ?_
  rintro e w2 ⟨R2,d2,rfl,S2,b2⟩
  have hb2:=hb1.trans (b2.mono hb1.size)
  have HS2:=hide S2
  clear S2
  go_wp2_with (fail)
  go_ret
  exact ⟨_,_,rfl,HS2.out,hb2⟩
set_option maxHeartbeats 3200000 in
theorem hasSketch_ok (i v:Nat) (hi:i < L) (hv:v < N) (w:World) (hG:GM w N L R hs es H hc E m c) :
    Calls Tryz.prog 188 #[gV N L R H hc E m c,.int .i64 i,.int .i64 v] w (Ret (.bool true) w):=by
  have QR:=hide (fun W (h:GM W N L R hs es H hc E m c)=>sright_ok W h)
  have B0:=Blk.new w 30 #[.int .i64 N,.int .i64 L,.int .i64 R,.slice H (L * R) hc,.slice E m c]
  have hb0:=(Below.refl w.heap.size w).alloc (Nat.le_refl _) (.cells #[.int .i64 N,.int .i64 L,.int .i64 R,.slice H (L * R) hc,.slice E m c] 30)
  have HG0:=hide (hG.alloc (.cells #[.int .i64 N,.int .i64 L,.int .i64 R,.slice H (L * R) hc,.slice E m c] 30))
  unfold gV at QR
  unfold gV
  generalize L * R=K at *
  have d1:decide ((i:Int) < (L:Int))=true:=by simp;omega
  have d2:decide ((v:Int) < (N:Int))=true:=by simp;omega
  clear hG
  go_enter Tryz.func188,Tryz.ntmps188
  go_wp2_with (fail)
  generalize w.alloc (.cells #[.int .i64 N,.int .i64 L,.int .i64 R,.slice H K hc,.slice E m c] 30)=W0 at *
  refine (QR.out _ HG0.out).mono ?_
  rintro e w1 ⟨rfl,b1⟩
  have hb1:=hb0.trans (b1.mono hb0.size)
  have B1:=B0.below b1 B0.lt
  obtain ⟨r0,e0,s0⟩:=B1.facts
  have x0:w1.cell? ⟨w.heap.size,0,none⟩=some (.int .i64 N):=r0 0
  have x1:w1.cell? ⟨w.heap.size,1,none⟩=some (.int .i64 L):=r0 1
  clear r0 b1 B0 HG0 hb0
  go_wp2_with (fail)
  go_ret
  exact ⟨congrArg (fun x=>Ending.returned (.bool x)) (by simp),hb1⟩
set_option maxHeartbeats 3200000 in
theorem shashes_ok (i:Nat) (hi:i < L) (w:World) (hG:GM w N L R hs es H hc E m c) (KL:List Nat) (hK:∀ x ∈ KL,x < w.heap.size) :
    Calls Tryz.prog 215 #[gV N L R H hc E m c,.int .i64 i] w fun e w'=>∃ A d hs',e=.returned (.slice A R d) ∧ Sl w' KL 2 A R d (hcells hs') ∧ (∀ h ∈ hs',HOK h) ∧ Below w.heap.size w w':=by
  have HKK:=hide hK
  clear hK
  have hlr:=hG.lr
  have r1:=hG.r1
  have r2:=hG.r2
  have hle:=hG.hm.le
  have hcap:=hG.hm.cap
  unfold maxLen at hcap
  obtain ⟨p0,hp0⟩:∃ p0,p0=i * R:=⟨_,rfl⟩
  have HM:(i:Int) * (R:Int)=(p0:Int):=by rw [hp0];simp
  have hpk:p0 + R ≤ L * R:=by
    have:(i + 1) * R ≤ L * R:=Nat.mul_le_mul_right _ hi
    rw [Nat.add_mul,Nat.one_mul,← hp0] at this
    exact this
  have hms:((hs.take (p0 + R)).drop p0).length=R:=by
    have:=HSl.length hG.hm
    rw [List.length_drop,List.length_take];omega
  have QC:=hide (fun W (h:GM W N L R hs es H hc E m c)=>cloneH_ok (hcells ((hs.take (p0 + R)).drop p0)) [] (cutA H hc p0 2) R (hc - p0) W (by
    have:=h_tail (h_head h.hm hpk) (k:=p0) (by omega)
    rw [Nat.add_sub_cancel_left] at this
    exact this) hcells_one (by omega))
  have HO:=hide (show ∀ h ∈ (hs.take (p0 + R)).drop p0,HOK h from fun h hh=>hG.hok h (List.mem_of_mem_take (List.mem_of_mem_drop hh)))
  have hsl:=fun W=>hsl_both H (L * R) hc p0 (p0 + R) (by omega) (by omega) (by omega) W
  have t1:((p0:Int) + (R:Int)).toNat - (p0:Int).toNat=R:=by omega
  rw [t1,Int.toNat_natCast] at hsl
  have B0:=Blk.new w 30 #[.int .i64 N,.int .i64 L,.int .i64 R,.slice H (L * R) hc,.slice E m c]
  have hb0:=(Below.refl w.heap.size w).alloc (Nat.le_refl _) (.cells #[.int .i64 N,.int .i64 L,.int .i64 R,.slice H (L * R) hc,.slice E m c] 30)
  have HG0:=hide (hG.alloc (.cells #[.int .i64 N,.int .i64 L,.int .i64 R,.slice H (L * R) hc,.slice E m c] 30))
  unfold gV
  generalize L * R=K at *
  generalize cutA H hc p0 2=A' at *
  clear hG hms hp0 t1
  go_enter Tryz.func215,Tryz.ntmps215
  go_wp2_with (fail)
  refine (QC.out _ HG0.out).mono ?_
  rintro e w1 ⟨R1,d1,rfl,own1,b1⟩
  have hb1:=hb0.trans (b1.mono hb0.size)
  have HS:=hide (Sl.of_own own1 (M:=KL) (fun x hx=>Nat.lt_of_lt_of_le (HKK.out x hx) hb0.size))
  clear own1
  go_wp2_with (fail)
  go_ret
  exact ⟨_,_,_,rfl,HS.out,HO.out,hb1⟩
def cutT (N:Nat) (es:List E3) (i v:Nat):List E3:=outE markOn N es (natL (treeN N es i v))
theorem unlike_sub (l:List E3) (b:List Bool):∀ e ∈ unlikeE l b,e ∈ l:=by
  intro e he
  unfold unlikeE at he
  exact (List.mem_filter.1 he).1
theorem unlike_len (l:List E3) (b:List Bool):(unlikeE l b).length ≤ l.length:=by
  unfold unlikeE
  exact List.length_filter_le _ _
theorem cutT_sub (N:Nat) (es:List E3) (i v:Nat):∀ e ∈ cutT N es i v,e ∈ es:=by
  intro e he
  unfold cutT outE at he
  split at he
  · exact unlike_sub _ _ e he
  · cases he
theorem cutT_len (N:Nat) (es:List E3) (i v:Nat):(cutT N es i v).length ≤ es.length:=by
  unfold cutT outE
  split
  · exact unlike_len _ _
  · simp
set_option maxHeartbeats 3200000 in
theorem cutOf_ok (i v:Nat) (hi:i ≤ L) (hv:v < N) (w:World) (hG:GM w N L R hs es H hc E m c) :
    Calls Tryz.prog 189 #[gV N L R H hc E m c,.int .i64 i,.int .i64 v] w fun e w'=>∃ A d,e=.returned (.slice A (cutT N es i v).length d) ∧ ESl w' [] A (cutT N es i v).length d (cutT N es i v) ∧ Below w.heap.size w w':=by
  have hml:=hG.m_le
  have QT:=hide (fun W (h:GM W N L R hs es H hc E m c)=>stree_ok i v hi hv W h)
  have QC:=hide (fun A d W (h:GM W N L R hs es H hc E m c) (hS:Sl W [] 1 A (treeN N es i v).length d (ints .i64 (natL (treeN N es i v))))=>cut_ok es (natL (treeN N es i v)) [] [] E A N m c _ d W h.em hS (by omega) [] (by simp))
  have B0:=Blk.new w 30 #[.int .i64 N,.int .i64 L,.int .i64 R,.slice H (L * R) hc,.slice E m c]
  have hb0:=(Below.refl w.heap.size w).alloc (Nat.le_refl _) (.cells #[.int .i64 N,.int .i64 L,.int .i64 R,.slice H (L * R) hc,.slice E m c] 30)
  have HG0:=hide (hG.alloc (.cells #[.int .i64 N,.int .i64 L,.int .i64 R,.slice H (L * R) hc,.slice E m c] 30))
  unfold gV at QT
  unfold gV
  unfold cutT
  generalize outE markOn N es (natL (treeN N es i v))=C at *
  generalize treeN N es i v=T at *
  generalize L * R=K at *
  clear hG
  go_enter Tryz.func189,Tryz.ntmps189
  go_wp2_with (fail)
  generalize w.alloc (.cells #[.int .i64 N,.int .i64 L,.int .i64 R,.slice H K hc,.slice E m c] 30)=W0 at *
  obtain ⟨r0,e0,s0⟩:=B0.facts
  have x0:W0.cell? ⟨w.heap.size,0,none⟩=some (.int .i64 N):=r0 0
  have x1:W0.cell? ⟨w.heap.size,1,none⟩=some (.int .i64 L):=r0 1
  have x2:W0.cell? ⟨w.heap.size,2,none⟩=some (.int .i64 R):=r0 2
  have x3:W0.cell? ⟨w.heap.size,3,none⟩=some (.slice H K hc):=r0 3
  have x4:W0.cell? ⟨w.heap.size,4,none⟩=some (.slice E m c):=r0 4
  clear r0
  refine wp_region_lexD [8,9] (fun w'=>Below (W0).heap.size (W0) w') (by kernel_rfl) (by kernel_rfl) (Below.refl _ _).drew ?_
  (repeat ((with_reducible refine wpLex_step (fun K hK=>?_));go_simp;first | ((with_reducible refine hK _ _ ?_);clear hK K) | ((with_reducible apply Exists.intro);refine ⟨fun w' hw'=>?_,hK _ _ ?_⟩;(· (have hq:=bcells hw';apply valEq;(· (go_simp;first | done | (with_reducible rfl)));(· ((try go_bits);with_reducible rfl))));clear hK K)))
  ((with_reducible refine wpLex_step (fun K hK=>?_));go_simp;refine (QT.out _ HG0.out.drew).mono ?_;rintro e w3 ⟨R5,d5,rfl,N5,hbx⟩;have g3:=((Below.refl (W0).heap.size W0).drew).trans (hbx.mono ((Below.refl (W0).heap.size W0).drew).size);have N6:=hide N5;clear N5;refine ⟨_,rfl,g3,hK _ _ ?_⟩;clear hK K hbx)
  (repeat ((with_reducible refine wpLex_step (fun K hK=>?_));go_simp;first | ((with_reducible refine hK _ _ ?_);clear hK K) | ((with_reducible apply Exists.intro);refine ⟨fun w' hw'=>?_,hK _ _ ?_⟩;(· (have hq:=bcells hw';apply valEq;(· (go_simp;first | done | (with_reducible rfl)));(· ((try go_bits);with_reducible rfl))));clear hK K)))
  ((with_reducible refine wpLex_step (fun K hK=>?_));go_simp;refine (QC.out _ _ _ (HG0.out.below g3) N6.out).mono ?_;rintro e w4 ⟨R5,d5,rfl,N5,hbx⟩;have g4:=(g3).trans (hbx.mono (g3).size);have N7:=hide N5;clear N5;refine ⟨_,rfl,g4,hK _ _ ?_⟩;clear hK K hbx)
  (repeat ((with_reducible refine wpLex_step (fun K hK=>?_));go_simp;first | ((with_reducible refine hK _ _ ?_);clear hK K) | ((with_reducible apply Exists.intro);refine ⟨fun w' hw'=>?_,hK _ _ ?_⟩;(· (have hq:=bcells hw';apply valEq;(· (go_simp;first | done | (with_reducible rfl)));(· ((try go_bits);with_reducible rfl))));clear hK K)))
  refine wpLex_nil (fun _=>?_)
  have hb9:=hb0.trans (g4.mono hb0.size)
  go_wp2_with (fail)
  go_ret
  exact ⟨_,_,rfl,N7.out,hb9⟩
end
end Go.Proofs.YtppblcbgkadldaaGreatDoor
namespace Go.Proofs.YtppblcbgkadldaaGreatDoor
open Go Go.RowKit
set_option maxRecDepth 100000
attribute [local go_sem] Heavy heavyUpon
def isNm (x:Int):Bool:=(endsI x).2.2
def nmsW (l:List Int):List Int:=l.filter isNm
theorem u1_new (w:World) (v:Int):Sl (w.alloc (.cells #[.int .u64 v] 43)) [] 1 (some ⟨w.heap.size,0,none⟩) 1 1 (ints .u64 [v]):=
  Sl.of_blk (Blk.new w 43 #[.int .u64 v]) rfl (fun x hx=>by match x,hx with | 0,_=>rfl) (by simp) (by unfold maxLen;omega)
set_option maxHeartbeats 3200000 in
theorem knames_ok (r v n d:Nat) (A:Option Addr) (r1:1 ≤ r) (r2:r ≤ 8) (v1:1 ≤ v) (v2:v ≤ 60) (hn:n=r * v) (ws:List Int) (hW:WOK ws) (w:World) (hS:Sl w [] 1 A n d (ints .u64 ws)) :
    Calls Tryz.prog 190 #[skV r v A n d] w fun e w'=>∃ R k c,e=.returned (.slice R k c) ∧ k=(nmsW ws).length ∧ Sl w' [] 1 R k c (ints .u64 (nmsW ws)) ∧ Below w.heap.size w w':=by
  have QR:=hide (fun W=>kright_yes r v n d A r1 r2 v1 v2 hn W)
  have hm:r * v ≤ 8 * 60:=Nat.mul_le_mul r2 v2
  have hn2:n ≤ 480:=by omega
  have HLW:=hide (show ws.length=n by have:=hS.len;simpa using this)
  have HW:=hide hW
  obtain ⟨ie,hie,hze,he1,he2⟩:=info_parts u64_info
  have B0:=(Blk.new w 260 #[.int .i64 r,.int .i64 v,.slice A n d])
  have hb0:=(Below.refl w.heap.size w).alloc (Nat.le_refl _) (.cells #[.int .i64 r,.int .i64 v,.slice A n d] 260)
  have QE:=hide nends_any
  have HST:=hide (fun k (h:k < ws.length)=>filter_step isNm ws h)
  have HLE:=hide (fun k=>filter_len isNm ws k)
  clear hn hm hW
  unfold skV at QR
  unfold skV
  go_enter Tryz.func190,Tryz.ntmps190
  go_wp2_with (fail)
  generalize (w.alloc (.cells #[.int .i64 r,.int .i64 v,.slice A n d] 260))=W0 at *
  refine (QR.out _).mono ?_
  rintro e w1 ⟨rfl,b1⟩
  have B01:=B0.below b1 B0.lt
  have hb1:=hb0.trans (b1.mono hb0.size)
  obtain ⟨r0,e0,s0⟩:=B01.facts
  have x2:w1.cell? ⟨w.heap.size,2,none⟩=some (.slice A n d):=r0 2
  have O0:=hide (World.ownsRow_nil w1 w1.heap.size 43 1)
  have hz1:=hide hb1.size
  clear r0 B0 b1 hb0 B01
  go_wp2_with (fail)
  go_loopw [3,15] (fun a i wr=>∃ (k y:Nat) (Ao:Option Addr) (co:Nat),k ≤ n ∧ i=.int .i64 k ∧ a=.slice Ao y co ∧ Hid (y=((ws.take k).filter isNm).length) ∧ Below w.heap.size w wr ∧ Hid (Below w1.heap.size w1 wr) ∧ Hid (wr.ownsRow w1.heap.size 43 1 (.slice Ao y co) y (ints .u64 ((ws.take k).filter isNm)))) (fun _ i _=>n - (intOf i).toNat)
  case atStart=>exact ⟨0,0,none,0,Nat.zero_le _,rfl,rfl,hide rfl,hb1,hide (Below.refl _ _),O0⟩
  case round =>
    clear O0
    obtain ⟨k,y,Ao,co,hk,rfl,rfl,HY,hbr,HBB,HO⟩:=hrel
    by_cases hlt:k < n
    · obtain ⟨ad,rfl,had,_,hc⟩:=(hS.below hbr).at_ (by omega)
      have hx:k < ws.length:=by have:=HLW.out;omega
      have c0:=hc _ _ (ints_get hx)
      have hr:=HW.out _ (List.getElem_mem hx)
      have HK:=hide (HST.out k hx)
      have hyl:y ≤ k:=by have:=HY.out;have:=HLE.out k;omega
      generalize ws[k]=x at *
      obtain ⟨x0,x1⟩:=hr
      have QX:=hide (fun W=>QE.out x x0 x1 W)
      have HIN:=hide (show isNm x=(endsI x).2.2 from rfl)
      generalize (endsI x).1=ea at *
      generalize (endsI x).2.1=eb at *
      generalize (endsI x).2.2=ec at *
      clear hc
      cases ec with
      | true =>
        have HF:=hide (show (ws.take (k + 1)).filter isNm=(ws.take k).filter isNm ++ [x] by rw [HK.out,if_pos HIN.out])
        clear HK
        go_wp2_with (fail)
        refine (QX.out _).mono ?_
        rintro e w2 ⟨rfl,b2⟩
        have hb2:=hbr.trans (b2.mono hbr.size)
        have HBB2:=hide (HBB.out.trans (b2.mono HBB.out.size))
        have HO2:=hide (own_below HO.out b2)
        have szw:=HBB2.out.size
        clear b2 hbr HBB HO
        (go_wp2_with (at_builtin;refine stopAt ?_);refine stopGo ?_)
        have N2:=u1_new w2 x
        have O2:=HO2.out.alloc (.cells #[.int .u64 x] 43)
        have hb3:=hb2.alloc hb2.size (.cells #[.int .u64 x] 43)
        have HB3:=hide (HBB2.out.alloc HBB2.out.size (.cells #[.int .u64 x] 43))
        refine wpList_append_sl _ rfl (.tmp 26) (.tmp 28) _ rfl w1.heap.size 43 ie _ 1 8 Tryz.underlying24 hie hze he1 he2 rfl (by omega) (.slice Ao y co) y _ rfl O2 [] _ 1 1 (ints .u64 [x]) rfl N2 ints_one (by simp only [maxLen];omega) (by omega) (by first | omega | (simp;omega)) ?_
        intro A5 c5 w5 own5 g5 _
        have hg5:=below_grown O2 g5 (Nat.le_refl _) HB3.out.size
        have HB5:=hide (HB3.out.trans hg5)
        have hb5:=hb3.trans (hg5.mono hz1.out)
        rw [← ints_append,← HF.out] at own5
        have OW5:=hide own5
        have HY5:=hide (show y + 1=((ws.take (k + 1)).filter isNm).length by rw [HF.out,List.length_append,HY.out];rfl)
        clear own5 g5 hg5 O2 N2 c0 HB3 hb3 HBB2 hb2
        go_wp2_with (fail)
        exact ⟨⟨k + 1,y + 1,A5,c5,by omega,by go_num,rfl,HY5,hb5,HB5,OW5⟩,by simp [intOf];omega⟩
      | false =>
        have HF:=hide (show (ws.take (k + 1)).filter isNm=(ws.take k).filter isNm by rw [HK.out,if_neg (by rw [HIN.out];decide),List.append_nil])
        clear HK
        go_wp2_with (fail)
        refine (QX.out _).mono ?_
        rintro e w2 ⟨rfl,b2⟩
        have hb2:=hbr.trans (b2.mono hbr.size)
        have HBB2:=hide (HBB.out.trans (b2.mono HBB.out.size))
        have HO2:=hide (own_below HO.out b2)
        clear b2 hbr HBB HO
        go_wp2_with (fail)
        exact ⟨⟨k + 1,y,Ao,co,by omega,by go_num,rfl,hide (by rw [HF.out];exact HY.out),hb2,HBB2,hide (by rw [HF.out];exact HO2.out)⟩,by simp [intOf];omega⟩
    · obtain rfl:k=n:=by omega
      have HTA:=hide (show ws.take k=ws from List.take_of_length_le (by have:=HLW.out;omega))
      have HN:=hide (own_sl HO.out [] (by simp))
      rw [HTA.out] at HN HY
      clear HO
      go_wp2_with (fail)
      go_ret
      exact ⟨Ao,y,co,rfl,HY.out,HN.out,hbr⟩
end Go.Proofs.YtppblcbgkadldaaGreatDoor
