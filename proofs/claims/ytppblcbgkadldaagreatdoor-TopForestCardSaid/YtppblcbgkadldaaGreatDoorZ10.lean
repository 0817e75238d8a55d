/-
  A part of the proof that the law TopForest returns true for every input and leaves its arguments as they were: Grove, Fits, CutP, NEndsP, DrawQ, SortU.
-/
import Derived.Test.YtppblcbgkadldaaGreatDoorProg
import Derived.Test.YtppblcbgkadldaaGreatDoorZ00
import Derived.Test.YtppblcbgkadldaaGreatDoorZ01
import Derived.Test.YtppblcbgkadldaaGreatDoorZ03
import Derived.Test.YtppblcbgkadldaaGreatDoorZ07
import Derived.Test.YtppblcbgkadldaaGreatDoorZ09
import Derived.BigQuiet
set_option linter.all false
namespace Go.Proofs.YtppblcbgkadldaaGreatDoor
open Go Go.RowKit
set_option maxRecDepth 100000
attribute [local go_sem] Heavy heavyUpon
set_option maxHeartbeats 1600000 in
theorem gright_ok (l:List E3) (n:Nat) (hn:n ≤ 1024) (hE:Ends_in n l) (ha:acyc n (endsE l)) (M:List Nat) (A:Option Addr) (m c:Nat) (w:World) (hS:ESl w M A m c l) (hm:m ≤ 4096) :
    Calls Tryz.prog 58 #[.int .i64 n,.slice A m c] w (Ret (.bool true) w):=by
  have QO:=hide (fun W (h:ESl W M A m c l)=>of_ok l n hn hE M A m c W h hm)
  have QM:=hide (fun R W (h:Sl W [] 1 R n n (ints .i64 (natL (partN n (endsE l)))))=>pmany_ok _ (partN_ps hE.ok).pr [] R n n W h)
  have hlen:=hS.length
  have hac:leasts (partN n (endsE l)) n + m=n:=by
    have:=ha
    unfold acyc at this
    rwa [endsE,List.length_map,hlen] at this
  generalize leasts (partN n (endsE l)) n=x at *
  have hd:((x:Int) == (n:Int) - (m:Int))=true:=by rw [beq_iff_eq];omega
  have hmn:m ≤ n:=by omega
  clear hE ha hlen
  go_enter Tryz.func58,Tryz.ntmps58
  go_wp2_with (fail)
  refine (QO.out _ hS).mono ?_
  rintro e w1 ⟨R,rfl,S1,b1⟩
  have HS:=hide S1
  clear S1
  go_wp2_with (fail)
  refine (QM.out _ _ HS.out).mono ?_
  rintro e w2 ⟨rfl,b2⟩
  have hb2:=b1.trans (b2.mono b1.size)
  go_wp2_with (fail)
  go_ret
  exact ⟨rfl,hb2⟩
theorem gvertex_yes (n v:Nat) (h:v < n) (w:World):Calls Tryz.prog 193 #[.int .i64 n,.int .i64 v] w (Ret (.bool true) w):=by
  have hd:decide ((v:Int) < (n:Int))=true:=by simp;omega
  have h1:(v:Int) < (n:Int):=by omega
  go_enter Tryz.func193,Tryz.ntmps193
  go_wp2_with (fail)
  go_ret
  exact ⟨rfl,Below.refl _ _⟩
def otherE (e:E3) (v:Int):Int:=if e.1=v then e.2.1 else e.1
theorem gother_ok (a b t v:Int) (w:World):Calls Tryz.prog 195 #[.agg #[.int .i64 a,.int .i64 b,.int .i64 t],.int .i64 v] w (Ret (.int .i64 (otherE (a,b,t) v)) w):=by
  by_cases h:a=v
  · have HF:=hide (show otherE (a,b,t) v=b by unfold otherE;rw [if_pos h])
    have hd:(a == v)=true:=by simpa using h
    clear h
    go_enter Tryz.func195,Tryz.ntmps195
    go_wp2_with (fail)
    go_ret
    exact ⟨congrArg (fun x=>Ending.returned (.int .i64 x)) HF.out.symm,(Below.refl _ _).alloc (Nat.le_refl _) _⟩
  · have HF:=hide (show otherE (a,b,t) v=a by unfold otherE;rw [if_neg h])
    have hd:(a == v)=false:=by simpa using h
    clear h
    go_enter Tryz.func195,Tryz.ntmps195
    go_wp2_with (fail)
    go_ret
    exact ⟨congrArg (fun x=>Ending.returned (.int .i64 x)) HF.out.symm,(Below.refl _ _).alloc (Nat.le_refl _) _⟩
set_option maxHeartbeats 1600000 in
theorem gtree_ok (l:List E3) (n v:Nat) (hn:n ≤ 1024) (hE:Ends_in n l) (ha:acyc n (endsE l)) (hv:v < n) (M:List Nat) (A:Option Addr) (m c:Nat) (w:World) (hS:ESl w M A m c l) (hm:m ≤ 4096) :
    Calls Tryz.prog 210 #[.int .i64 n,.slice A m c,.int .i64 v] w fun e w'=>∃ R d,e=.returned (.slice R (classN (partN n (endsE l)) v n).length d) ∧ Sl w' [] 1 R (classN (partN n (endsE l)) v n).length d (ints .i64 (natL (classN (partN n (endsE l)) v n))) ∧ Below w.heap.size w w':=by
  have QR:=hide (fun W (h:ESl W M A m c l)=>gright_ok l n hn hE ha M A m c W h hm)
  have QO:=hide (fun W (h:ESl W M A m c l)=>of_ok l n hn hE M A m c W h hm)
  have QC:=hide (fun R W (h:Sl W [] 1 R n n (ints .i64 (natL (partN n (endsE l)))))=>pclass_ok _ (partN_ps hE.ok).pr v R n n W h hv (by omega))
  generalize classN (partN n (endsE l)) v n=cl at *
  clear hE ha
  go_enter Tryz.func210,Tryz.ntmps210
  go_wp2_with (fail)
  refine (QR.out _ hS).mono ?_
  rintro e w1 ⟨rfl,b1⟩
  have hS1:=hide (hS.below b1)
  go_wp2_with (fail)
  refine (QO.out _ hS1.out).mono ?_
  rintro e w2 ⟨R,rfl,S2,b2⟩
  have HS:=hide S2
  have hb2:=b1.trans (b2.mono b1.size)
  clear S2 b1 b2
  go_wp2_with (fail)
  refine (QC.out _ _ HS.out).mono ?_
  rintro e w3 ⟨R3,d3,rfl,S3,b3⟩
  have HS3:=hide S3
  clear S3
  go_wp2_with (fail)
  go_ret
  exact ⟨R3,d3,rfl,HS3.out,hb2.trans (b3.mono hb2.size)⟩
end Go.Proofs.YtppblcbgkadldaaGreatDoor
namespace Go.Proofs.YtppblcbgkadldaaGreatDoor
open Go Go.RowKit
set_option maxRecDepth 100000
attribute [local go_sem] Heavy heavyUpon
def fitsE (n:Int) (l:List E3) (set:List Int):Bool:=rightE n l && set.all (inN n)
set_option maxHeartbeats 800000 in
theorem fits_any (l:List E3) (set:List Int) (M N:List Nat) (A B:Option Addr) (n:Int) (m c ms cs:Nat) (w:World) (hS:ESl w M A m c l) (hT:Sl w N 1 B ms cs (ints .i64 set)) :
    Calls Tryz.prog 221 #[.int .i64 n,.slice A m c,.slice B ms cs] w (Ret (.bool (fitsE n l set)) w):=by
  have HL:=hide (show set.length=ms by have:=hT.len;simpa using this)
  have hcap:ms ≤ maxLen:=Nat.le_trans hT.le hT.cap
  unfold maxLen at hcap
  unfold fitsE
  cases hr:rightE n l
  case false =>
    have q:∀ W,ESl W M A m c l → Calls Tryz.prog 57 #[.int .i64 n,.slice A m c] W (Ret (.bool false) W):=fun W h=>by have:=tright_any l M A n m c W h;rwa [hr] at this
    clear hr
    rw [Bool.false_and]
    have Q:=hide q
    clear q
    go_enter Tryz.func221,Tryz.ntmps221
    go_wp2_with (fail)
    refine (Q.out w hS).mono ?_
    rintro e w1 ⟨rfl,b1⟩
    go_wp2_with (fail)
    go_ret
    exact ⟨rfl,b1⟩
  case true =>
    have q:∀ W,ESl W M A m c l → Calls Tryz.prog 57 #[.int .i64 n,.slice A m c] W (Ret (.bool true) W):=fun W h=>by have:=tright_any l M A n m c W h;rwa [hr] at this
    clear hr
    rw [Bool.true_and]
    have Q:=hide q
    clear q
    go_enter Tryz.func221,Tryz.ntmps221
    go_wp2_with (fail)
    refine (Q.out w hS).mono ?_
    rintro e w1 ⟨rfl,b1⟩
    go_wp2_with (fail)
    go_loopw [15] (fun i wr=>∃ k:Nat,k ≤ ms ∧ i=.int .i64 k ∧ Below w.heap.size w wr ∧ Hid ((set.take k).all (inN n)=true)) (fun i _=>ms - (intOf i).toNat)
    case atStart=>exact ⟨0,Nat.zero_le _,rfl,b1,hide (by simp)⟩
    case round =>
      obtain ⟨k,hk,rfl,hbr,HR⟩:=hrel
      have hTr:=hT.below hbr
      by_cases hlt:k < ms
      · obtain ⟨ad,rfl,had,_,hc⟩:=hTr.at_ (by omega)
        have hx:k < set.length:=by have:=HL.out;omega
        have c0:=hc _ _ (ints_get hx)
        have HT1:=hide (show (set.take (k + 1)).all (inN n)=inN n set[k] by
          rw [List.take_succ_eq_append_getElem hx,List.all_append,HR.out];simp)
        have HT2:=hide (show inN n set[k]=false → set.all (inN n)=false by
          intro h
          cases h2:set.all (inN n)
          · rfl
          · rw [List.all_eq_true.1 h2 _ (List.getElem_mem hx)] at h;cases h)
        clear hc
        generalize set[k]=v at *
        by_cases hv:0 ≤ v ∧ v < n
        · have HF:=hide (show (set.take (k + 1)).all (inN n)=true by rw [HT1.out,inN_yes hv])
          obtain ⟨hv0,hv1⟩:=hv
          go_wp2_with (fail)
          exact ⟨⟨k + 1,by omega,by go_num,hbr,HF⟩,by simp [intOf];omega⟩
        · have HF:=hide (HT2.out (inN_no hv))
          by_cases hv0:v < 0
          · clear hv
            go_wp2_with (fail)
            go_ret
            exact ⟨congrArg (fun x=>Ending.returned (.bool x)) HF.out.symm,hbr⟩
          · have hv1:n ≤ v:=by omega
            clear hv
            go_wp2_with (fail)
            go_ret
            exact ⟨congrArg (fun x=>Ending.returned (.bool x)) HF.out.symm,hbr⟩
      · have HF:=hide (show set.all (inN n)=true by
          have:=HR.out
          rwa [List.take_of_length_le (by have:=HL.out;omega)] at this)
        go_wp2_with (fail)
        go_ret
        exact ⟨congrArg (fun x=>Ending.returned (.bool x)) HF.out.symm,hbr⟩
def markB (b:List Bool) (v:Int):Bool:=b.getD v.toNat false
def unlikeE (l:List E3) (b:List Bool):List E3:=l.filter fun e=>markB b e.1 != markB b e.2.1
def bools (b:List Bool):List Value:=b.map .bool
theorem bools_len (b:List Bool):(bools b).length=b.length:=by simp [bools]
theorem bools_get {b:List Bool} {i:Nat} (h:i < b.length):(bools b)[i]? = some (.bool b[i]):=by simp [bools,h]
set_option maxHeartbeats 1600000 in
theorem unlike_ok (l:List E3) (b:List Bool) (M N:List Nat) (A B:Option Addr) (m c mb cb:Nat) (w:World) (hS:ESl w M A m c l) (hT:Sl w N 1 B mb cb (bools b))
    (hin:∀ e ∈ l,0 ≤ e.1 ∧ e.1 < mb ∧ 0 ≤ e.2.1 ∧ e.2.1 < mb) (hm:m ≤ 4096) (K:List Nat) (hK:∀ x ∈ K,x < w.heap.size) :
    Calls Tryz.prog 222 #[.slice A m c,.slice B mb cb] w fun e w'=>∃ R d,e=.returned (.slice R (unlikeE l b).length d) ∧ ESl w' K R (unlikeE l b).length d (unlikeE l b) ∧ Below w.heap.size w w':=by
  obtain ⟨ie,hie,hze,he1,he2⟩:=info_parts edge_info
  have HL:=hide hS.length
  have HLB:=hide (show b.length=mb by have:=hT.len;rw [bools_len] at this;omega)
  have HIN:=hide hin
  have HK:=hide hK
  clear hin hK
  have hcapb:mb ≤ maxLen:=Nat.le_trans hT.le hT.cap
  unfold maxLen at hcapb
  go_enter Tryz.func222,Tryz.ntmps222
  go_wp2_with (fail)
  go_loopw [5,10] (fun v i wr=>∃ (k:Nat) (Ao:Option Addr) (co:Nat),k ≤ m ∧ i=.int .i64 k ∧ v=.slice Ao (unlikeE (l.take k) b).length co ∧ Below w.heap.size w wr ∧
      wr.ownsRow w.heap.size 104 3 (.slice Ao (unlikeE (l.take k) b).length co) (unlikeE (l.take k) b).length (ecells (unlikeE (l.take k) b))) (fun _ i _=>m - (intOf i).toNat)
  case atStart=>exact ⟨0,none,0,Nat.zero_le _,rfl,by simp [unlikeE],Below.refl _ _,by simpa [unlikeE,ecells] using World.ownsRow_nil w w.heap.size 104 3⟩
  case round =>
    obtain ⟨k,Ao,co,hk,rfl,rfl,hbr,hown⟩:=hrel
    have hSr:ESl wr M A m c l:=hS.below hbr
    have hTr:=hT.below hbr
    have hlen:(unlikeE (l.take k) b).length ≤ k:=by
      have:=List.length_filter_le (fun e:E3=>markB b e.1 != markB b e.2.1) (l.take k)
      rw [List.length_take] at this
      unfold unlikeE
      omega
    by_cases hlt:k < m
    · have hx:k < l.length:=by have:=HL.out;omega
      obtain ⟨ad,rfl,had,_,c0,c1,c2⟩:=hSr.get hx
      have hi:=HIN.out _ (List.getElem_mem hx)
      have HU:=hide (show unlikeE (l.take (k + 1)) b=unlikeE (l.take k) b ++ (if (markB b l[k].1 != markB b l[k].2.1)=true then [l[k]] else []) by
        unfold unlikeE
        rw [List.take_succ_eq_append_getElem hx,List.filter_append,List.filter_cons];rfl)
      generalize l[k]=x at *
      obtain ⟨u,v,t⟩:=x
      simp only [] at c0 c1 c2 hi
      obtain ⟨hu0,hu1,hv0,hv1⟩:=hi
      obtain ⟨u,rfl⟩:=Int.eq_ofNat_of_zero_le hu0
      obtain ⟨v,rfl⟩:=Int.eq_ofNat_of_zero_le hv0
      have hub:u < b.length:=by have:=HLB.out;omega
      have hvb:v < b.length:=by have:=HLB.out;omega
      obtain ⟨bd,rfl,hbd,_,hc⟩:=hTr.at_ (by omega)
      have e0:=hc _ _ (bools_get hub)
      have e1:=hc _ _ (bools_get hvb)
      clear hc
      have HM:=hide (show markB b (u:Int)=b[u] ∧ markB b (v:Int)=b[v] from ⟨by simp [markB,List.getD,List.getElem?_eq_getElem hub],by simp [markB,List.getD,List.getElem?_eq_getElem hvb]⟩)
      generalize b[u]=p at *
      generalize b[v]=q at *
      have E0:=Blk.new wr 104 #[.int .i64 u,.int .i64 v,.int .i64 t]
      have HOW:=hide hown
      clear hown
      go_wp2_with (fail)
      have f0:(wr.alloc (.cells #[.int .i64 u,.int .i64 v,.int .i64 t] 104)).cell? (bd.add u)=some (.bool p):=(World.cell?_of_block (Below.heap_alloc wr _ _ (by rw [block_of_add];exact hbd))).trans e0
      have f1:(wr.alloc (.cells #[.int .i64 u,.int .i64 v,.int .i64 t] 104)).cell? (bd.add v)=some (.bool q):=(World.cell?_of_block (Below.heap_alloc wr _ _ (by rw [block_of_add];exact hbd))).trans e1
      have hb1:=hbr.alloc hbr.size (.cells #[.int .i64 u,.int .i64 v,.int .i64 t] 104)
      have OW1:=hide (HOW.out.alloc (.cells #[.int .i64 u,.int .i64 v,.int .i64 t] 104))
      have hz:=hide (heap_alloc_size wr (.cells #[.int .i64 u,.int .i64 v,.int .i64 t] 104))
      clear e0 e1 c0 c1 c2
      generalize wr.alloc (.cells #[.int .i64 u,.int .i64 v,.int .i64 t] 104)=W1 at *
      obtain ⟨x0,y0,z0⟩:=E0.facts
      refine wp_region_lex [] (fun w'=>∀ p,w'.cell? p=W1.cell? p) (by kernel_rfl) (by kernel_rfl) (fun _=>rfl) ?_
      by_cases hpq:p=q
      · have hne:(p == q)=true:=by simpa using hpq
        have HF:=hide (show unlikeE (l.take (k + 1)) b=unlikeE (l.take k) b by rw [HU.out,HM.out.1,HM.out.2,bne,hne];simp)
        clear hpq
        (repeat ((with_reducible refine wpLex_step (fun K hK=>?_));go_simp;first | ((with_reducible refine hK _ _ ?_);clear hK K) | ((with_reducible apply Exists.intro);refine ⟨fun w' hw'=>?_,hK _ _ ?_⟩;(· (apply valEq;(· (go_simp;first | done | (with_reducible rfl)));(· ((try go_bits);with_reducible rfl))));clear hK K)))
        refine wpLex_nil (fun _=>?_)
        go_wp2_with (fail)
        exact ⟨⟨k + 1,Ao,co,by omega,by go_num,by rw [HF.out],hb1.drew,by rw [HF.out];exact OW1.out⟩,by simp [intOf];omega⟩
      · have hne:(p == q)=false:=by simpa using hpq
        have HF:=hide (show unlikeE (l.take (k + 1)) b=unlikeE (l.take k) b ++ [((u:Int),(v:Int),t)] by rw [HU.out,HM.out.1,HM.out.2,if_pos (by rw [bne,hne];rfl)])
        clear hpq
        (repeat ((with_reducible refine wpLex_step (fun K hK=>?_));go_simp;first | ((with_reducible refine hK _ _ ?_);clear hK K) | ((with_reducible apply Exists.intro);refine ⟨fun w' hw'=>?_,hK _ _ ?_⟩;(· (apply valEq;(· (go_simp;first | done | (with_reducible rfl)));(· ((try go_bits);with_reducible rfl))));clear hK K)))
        refine wpLex_nil (fun _=>?_)
        (go_wp2_with (at_builtin;refine stopAt ?_);refine stopGo ?_)
        have N2:Sl (W1.alloc (.cells #[.int .i64 u,.int .i64 v,.int .i64 t] 104)).drew [] 3 (some ⟨W1.heap.size,0,none⟩) 1 1 (ecells [((u:Int),(v:Int),t)]):=
          (Sl.of_blk (Blk.new W1 104 #[.int .i64 u,.int .i64 v,.int .i64 t]) rfl (fun x hx=>by match x,hx with | 0,_ | 1,_ | 2,_=>rfl) (by simp) (by unfold maxLen;omega)).drew
        have O2:=OW1.out.alloc (.cells #[.int .i64 u,.int .i64 v,.int .i64 t] 104)
        have szl:=hb1.size
        refine wpList_append_sl _ rfl (.tmp 25) (.tmp 27) _ rfl w.heap.size 104 ie _ 3 24 Tryz.underlying28 hie hze he1 he2 rfl (by omega) (.slice Ao (unlikeE (l.take k) b).length co) (unlikeE (l.take k) b).length _ rfl O2 [] _ 1 1 (ecells [((u:Int),(v:Int),t)]) rfl N2 ecells_one (by simp only [maxLen];omega) (by omega) (by simp;omega) ?_
        intro A5 c5 w5 own5 g5 _
        rw [← ecells_append,← HF.out] at own5
        have hl5:(unlikeE (l.take k) b).length + 1=(unlikeE (l.take (k + 1)) b).length:=by rw [HF.out,List.length_append];rfl
        rw [hl5] at own5 ⊢
        clear hl5
        have hg5:=below_grown (w:=(W1.alloc (.cells #[.int .i64 u,.int .i64 v,.int .i64 t] 104)).drew) O2 g5 (Nat.le_refl _) (by simp;omega)
        have hb5:Below w.heap.size w w5:=((hb1.alloc hb1.size _).drew).trans hg5
        have OW5:=hide own5
        clear own5 g5 hg5 O2 N2
        go_wp2_with (fail)
        exact ⟨⟨k + 1,A5,c5,by omega,by go_num,rfl,hb5,OW5.out⟩,by simp [intOf];omega⟩
    · have HF:=hide (show l.take k=l from List.take_of_length_le (by have:=HL.out;omega))
      rw [HF.out] at hown
      rw [HF.out]
      go_wp2_with (fail)
      go_ret
      exact ⟨Ao,co,rfl,own_sl hown K HK.out,hbr⟩
end Go.Proofs.YtppblcbgkadldaaGreatDoor
namespace Go.Proofs.YtppblcbgkadldaaGreatDoor
open Go Go.RowKit
set_option maxRecDepth 100000
attribute [local go_sem] Heavy heavyUpon
theorem chainE_mem {n:Int}:∀ {l:List E3} {p:Option E3},chainE n p l=true → ∀ e ∈ l,okE n e=true
  | [],_,_,e,he=>by cases he
  | x :: l,p,h,e,he=>by
    simp only [chainE,Bool.and_eq_true] at h
    rcases List.mem_cons.1 he with rfl | he
    · exact h.1.1
    · exact chainE_mem h.2 e he
theorem rightE_n {n:Int} {l:List E3} (h:rightE n l=true):0 ≤ n ∧ n ≤ 1024:=by
  by_cases h0:0 ≤ n ∧ n ≤ 1024
  · exact h0
  · rw [rightE_out h0] at h;cases h
theorem okE_facts {n:Int} {e:E3} (h:okE n e=true):0 ≤ e.1 ∧ e.1 < e.2.1 ∧ e.2.1 < n ∧ 0 ≤ e.2.2 ∧ e.2.2 ≤ 16:=by
  simp only [okE,Bool.and_eq_true,Bool.not_eq_true',decide_eq_false_iff_not] at h
  omega
theorem rightE_mem {n:Int} {l:List E3} (h:rightE n l=true) {e:E3} (he:e ∈ l):0 ≤ e.1 ∧ e.1 < e.2.1 ∧ e.2.1 < n ∧ 0 ≤ e.2.2 ∧ e.2.2 ≤ 16:=by
  rw [rightE_in (rightE_n h).1 (rightE_n h).2] at h
  exact okE_facts (chainE_mem h e he)
theorem fitsE_parts {n:Int} {l:List E3} {set:List Int} (h:fitsE n l set=true):rightE n l=true ∧ ∀ v ∈ set,0 ≤ v ∧ v < n:=by
  unfold fitsE at h
  rw [Bool.and_eq_true] at h
  exact ⟨h.1,fun v hv=>inN_iff.1 (List.all_eq_true.1 h.2 v hv)⟩
def markOn (b:List Bool) (v:Int):List Bool:=b.set v.toNat true
def marksB (f:List Bool → Int → List Bool) (n:Nat) (set:List Int):List Bool:=set.foldl f (List.replicate n false)
theorem marksB_len (f:List Bool → Int → List Bool) (hf:∀ b v,(f b v).length=b.length) (n:Nat) (set:List Int):(marksB f n set).length=n:=by
  have H:∀ (s:List Int) (b:List Bool),(s.foldl f b).length=b.length:=by
    intro s
    induction s with
    | nil=>intro b;rfl
    | cons v s ih=>intro b;rw [List.foldl_cons,ih,hf]
  unfold marksB
  rw [H,List.length_replicate]
theorem markOn_len (b:List Bool) (v:Int):(markOn b v).length=b.length:=by simp [markOn]
theorem markOn_at (b:List Bool) (v:Nat):markOn b (v:Int)=b.set v true:=rfl
theorem marksB_step (f:List Bool → Int → List Bool) (n:Nat) {set:List Int} {k:Nat} (h:k < set.length):marksB f n (set.take (k + 1))=f (marksB f n (set.take k)) set[k]:=by
  unfold marksB
  rw [List.take_succ_eq_append_getElem h,List.foldl_append]
  rfl
theorem bools_set (b:List Bool) (i:Nat) (x:Bool):(bools b).toArray.setIfInBounds i (.bool x)=(bools (b.set i x)).toArray:=by
  simp [bools,List.map_set]
theorem bools_made (n:Nat):madeCells (Value.bool false).cells n=(bools (List.replicate n false)).toArray:=by
  apply Array.ext
  · simp [size_madeCells,bools]
  · intro i h1 h2
    have h3:i < n:=by simpa [size_madeCells] using h1
    simp [bools,madeCells,Value.cells,Nat.mod_one]
theorem bool_info:(Tryz.prog.info? 4).map (fun i=>(i.zero,i.size,i.bytes))=some (some (.bool false),1,1):=by kernel_rfl
def outE (f:List Bool → Int → List Bool) (n:Int) (l:List E3) (set:List Int):List E3:=if fitsE n l set=true then unlikeE l (marksB f n.toNat set) else []
def outC (n:Int) (l:List E3) (set:List Int):Int:=if fitsE n l set=true then 0 else 1
set_option maxHeartbeats 1600000 in
theorem cut_ok (l:List E3) (set:List Int) (M N:List Nat) (A B:Option Addr) (n:Int) (m c ms cs:Nat) (w:World) (hS:ESl w M A m c l) (hT:Sl w N 1 B ms cs (ints .i64 set))
    (hm:m ≤ 4096) (K:List Nat) (hK:∀ x ∈ K,x < w.heap.size) :
    Calls Tryz.prog 211 #[.int .i64 n,.slice A m c,.slice B ms cs] w fun e w'=>∃ R d,e=.returned (.tuple #[.slice R (outE markOn n l set).length d,.int .i64 (outC n l set)]) ∧ ESl w' K R (outE markOn n l set).length d (outE markOn n l set) ∧ Below w.heap.size w w':=by
  unfold outE outC
  cases hf:fitsE n l set
  case false =>
    have q:∀ W,ESl W M A m c l → Sl W N 1 B ms cs (ints .i64 set) → Calls Tryz.prog 221 #[.int .i64 n,.slice A m c,.slice B ms cs] W (Ret (.bool false) W):=fun W h1 h2=>by have:=fits_any l set M N A B n m c ms cs W h1 h2;rwa [hf] at this
    clear hf
    have Q:=hide q
    clear q
    go_enter Tryz.func211,Tryz.ntmps211
    go_wp2_with (fail)
    refine (Q.out w hS hT).mono ?_
    rintro e w1 ⟨rfl,b1⟩
    go_wp2_with (fail)
    refine bodyPost_ret (v:=.tuple #[.slice none 0 0,.int .i64 1]) (by simp [results,Tryz.results211,go_sem]) rfl ⟨none,0,rfl,Sl.nil_ _ _ _,b1⟩
  case true =>
    have q:∀ W,ESl W M A m c l → Sl W N 1 B ms cs (ints .i64 set) → Calls Tryz.prog 221 #[.int .i64 n,.slice A m c,.slice B ms cs] W (Ret (.bool true) W):=fun W h1 h2=>by have:=fits_any l set M N A B n m c ms cs W h1 h2;rwa [hf] at this
    obtain ⟨hr,hset⟩:=fitsE_parts hf
    obtain ⟨hn0,hn1⟩:=rightE_n hr
    have HMEM:=hide (fun e (he:e ∈ l)=>rightE_mem hr he)
    have HSET:=hide hset
    clear hf hr hset
    obtain ⟨n,rfl⟩:=Int.eq_ofNat_of_zero_le hn0
    have Q:=hide q
    clear q
    obtain ⟨i0,hi0,hz0,hz1,hz2⟩:=info_parts bool_info
    have hmk:=fun W=>run_make_rowN (P:=Tryz.prog) 288 4 i0 _ Tryz.underlying288 hi0 hz0 .i64 .i64 n n (Nat.le_refl _) (by rw [hz2];omega) (by omega) W
    rw [hz1] at hmk
    simp only [Nat.mul_one] at hmk
    rw [bools_made] at hmk
    have HLS:=hide (show set.length=ms by have:=hT.len;simpa using this)
    have HK:=hide hK
    clear hi0 hz0 hz1 hz2 hK
    have hcap:ms ≤ maxLen:=Nat.le_trans hT.le hT.cap
    unfold maxLen at hcap
    rw [if_pos rfl,if_pos rfl]
    go_enter Tryz.func211,Tryz.ntmps211
    go_wp2_with (fail)
    refine (Q.out w hS hT).mono ?_
    rintro e w1 ⟨rfl,b1⟩
    go_wp2_with (fail)
    have hz:=hide b1.size
    go_loopw [20] (fun i wr=>∃ k:Nat,k ≤ ms ∧ i=.int .i64 k ∧ Below w.heap.size w wr ∧ Blk wr w1.heap.size 4 (bools (marksB markOn n (set.take k))).toArray) (fun i _=>ms - (intOf i).toNat)
    case atStart=>exact ⟨0,Nat.zero_le _,rfl,b1.alloc b1.size _,by simpa [marksB] using Blk.new w1 4 (bools (List.replicate n false)).toArray⟩
    case round =>
      obtain ⟨k,hk,rfl,hbr,R0⟩:=hrel
      have hTr:=hT.below hbr
      by_cases hlt:k < ms
      · obtain ⟨ad,rfl,had,_,hc⟩:=hTr.at_ (by omega)
        have hx:k < set.length:=by have:=HLS.out;omega
        have c0:=hc _ _ (ints_get hx)
        have hv:=HSET.out _ (List.getElem_mem hx)
        have HST:=hide (marksB_step markOn n hx)
        clear hc
        generalize set[k]=v at *
        obtain ⟨hv0,hv1⟩:=hv
        obtain ⟨v,rfl⟩:=Int.eq_ofNat_of_zero_le hv0
        have hlb:=marksB_len markOn markOn_len n (set.take k)
        have hvb:v < (marksB markOn n (set.take k)).length:=by rw [hlb];omega
        obtain ⟨r0,e0,s0⟩:=R0.facts
        have c1:wr.cell? ⟨w1.heap.size,v,none⟩=some (.bool (marksB markOn n (set.take k))[v]):=by rw [r0];simpa using bools_get hvb
        generalize (marksB markOn n (set.take k))[v]=p at *
        clear r0
        have R1:=hide (show Blk (wr.setCell ⟨w1.heap.size,v,none⟩ (.bool true)) w1.heap.size 4 (bools (marksB markOn n (set.take (k + 1)))).toArray by
          rw [HST.out,markOn_at,← bools_set];exact R0.set_ _ _)
        clear R0
        go_wp2_with (fail)
        exact ⟨⟨k + 1,by omega,by go_num,hbr.setCell hz.out _,R1.out⟩,by simp [intOf];omega⟩
      · have hlb:=marksB_len markOn markOn_len n set
        have HF:=hide (show set.take k=set from List.take_of_length_le (by have:=HLS.out;omega))
        rw [HF.out] at R0
        have R1:=hide R0
        clear R0
        go_wp2_with (fail)
        refine (unlike_ok l (marksB markOn n set) M [] A _ m c n n wr (hS.below hbr) (Sl.of_blk R1.out (by rw [bools_len,hlb,Nat.mul_one]) (fun x hx=>by simp [bools_get (show x < (marksB markOn n set).length by rw [hlb];omega)]) (by simp) (by unfold maxLen;omega)) (fun e he=>by have:=HMEM.out e he;omega) hm K (fun x hx=>Nat.lt_of_lt_of_le (HK.out x hx) hbr.size)).mono ?_
        rintro e w2 ⟨R,d,rfl,hR,b2⟩
        go_wp2_with (fail)
        refine bodyPost_ret (v:=.tuple #[.slice R (unlikeE l (marksB markOn n set)).length d,.int .i64 0]) (by simp [results,Tryz.results211,go_sem]) rfl ⟨R,d,rfl,hR,hbr.trans (b2.mono hbr.size)⟩
end Go.Proofs.YtppblcbgkadldaaGreatDoor
namespace Go.Proofs.YtppblcbgkadldaaGreatDoor
open Go Go.RowKit
set_option maxRecDepth 100000
attribute [local go_sem] Heavy heavyUpon
def endsI (n:Int):Int × Int × Bool:=if n / 16777216 < 16777216 ∧ n / 16777216 < n % 16777216 then (n / 16777216,n % 16777216,true) else (0,0,false)
set_option maxHeartbeats 400000 in
theorem nends_any (n:Int) (h0:0 ≤ n) (h1:n < 18446744073709551616) (w:World) :
    Calls Tryz.prog 192 #[.int .u64 n] w (Ret (.tuple #[.int .i64 (endsI n).1,.int .i64 (endsI n).2.1,.bool (endsI n).2.2]) w):=by
  have d0:0 ≤ n / 16777216:=by omega
  have d1:n / 16777216 ≤ 1099511627775:=by omega
  have d2:0 ≤ n % 16777216:=by omega
  have d3:n % 16777216 < 16777216:=by omega
  by_cases hv:n % 16777216 ≤ n / 16777216
  · have HE:=hide (show endsI n=(0,0,false) from if_neg (fun h=>by omega))
    rw [HE.out]
    go_enter Tryz.func192,Tryz.ntmps192
    go_wp2_with (fail)
    go_ret3
    exact ⟨rfl,Below.refl _ _⟩
  · have HE:=hide (show endsI n=(n / 16777216,n % 16777216,true) from if_pos ⟨by omega,by omega⟩)
    rw [HE.out]
    go_enter Tryz.func192,Tryz.ntmps192
    go_wp2_with (fail)
    go_ret3
    exact ⟨rfl,Below.refl _ _⟩
end Go.Proofs.YtppblcbgkadldaaGreatDoor
namespace Go.Proofs.YtppblcbgkadldaaGreatDoor
open Go Go.RowKit
set_option maxRecDepth 100000
attribute [local go_sem] Heavy heavyUpon low_eq
theorem right_any (A:Option Addr) (n c:Nat) (at_:Int) (w:World) :
    Calls Tryz.prog 27 #[.agg #[.slice A n c,.int .i64 at_]] w fun e w'=>e=.returned (.bool (decide (0 ≤ at_ ∧ at_ ≤ n))) ∧ Below w.heap.size w w':=by
  by_cases h0:0 ≤ at_
  · go_enter Tryz.func27,Tryz.ntmps27
    go_wp2
    go_ret
    exact ⟨by simp [h0],(Below.refl _ _).alloc (Nat.le_refl _) _⟩
  · go_enter Tryz.func27,Tryz.ntmps27
    go_wp2
    go_ret
    exact ⟨by simp;omega,(Below.refl _ _).alloc (Nat.le_refl _) _⟩
theorem below_ok (xs:List Int) (M:List Nat) (A:Option Addr) (n c:Nat) (at_:Nat) (w:World) (h:at_ ≤ n) (hS:Sl w M 1 A n c (ints .u64 xs)) :
    Calls Tryz.prog 28 #[.agg #[.slice A n c,.int .i64 at_]] w fun e w'=>e=.returned (.tuple #[.int .u64 (drawB xs at_).1,.agg #[.slice A n c,.int .i64 (drawB xs at_).2.1],.int .i64 (drawB xs at_).2.2]) ∧ Below w.heap.size w w':=by
  have hd:decide (0 ≤ (at_:Int) ∧ (at_:Int) ≤ n)=true:=by simp;omega
  have hl:=hS.len
  have hcap:=hS.cap
  have hle:=hS.le
  unfold maxLen at hcap
  have HL:xs.length=n:=by simpa using hl
  have HL2:=hide HL
  have HD:=hide hd
  clear hd hl HL
  go_enter Tryz.func28,Tryz.ntmps28
  go_wp2_with (go_at_call 27;refine (right_any A n c at_ _).mono ?_;rw [HD.out];rintro e w1 ⟨rfl,hb⟩;obtain ⟨hc,hf⟩:=bcell hb)
  have hbb:Below w.heap.size w w1:=(((Below.refl _ _).alloc (Nat.le_refl _) _).alloc (by simp) _).trans (hb.mono (by simp;omega))
  have hS1:=hS.below hbb
  go_loop [5] (fun i=>∃ k:Nat,at_ ≤ k ∧ k ≤ n ∧ i=.int .i64 k ∧ scan (xs.drop k) k=scan (xs.drop at_) at_) (fun i=>n - (intOf i).toNat)
  case atStart=>exact ⟨at_,Nat.le_refl _,h,rfl,rfl⟩
  case round =>
    obtain ⟨k,hk1,hk2,rfl,hk3⟩:=hrel
    have HK:=hide hk3
    clear hk3
    by_cases hlt:k < n
    · obtain ⟨ad,rfl,had,hM,hcell⟩:=hS1.at_ (by omega)
      have hx:k < xs.length:=by have:=HL2.out;omega
      have hck:=hcell k _ (ints_get hx)
      have HX:=hide (show xs.drop k=xs[k] :: xs.drop (k + 1) from List.drop_eq_getElem_cons hx)
      have HC:=hide hcell
      clear hcell
      generalize xs[k]=x at *
      cases hpx:isLow x
      case true =>
        have HF:=hide (drawB_some (HK.out.symm.trans (by rw [HX.out];exact scan_yes hpx _ _)))
        have hp:=isLow_lt hpx
        clear hpx
        go_wp2
        refine wp_region_lex [7] (fun w'=>∀ o,w'.cell? ⟨w.heap.size,o,none⟩=w1.cell? ⟨w.heap.size,o,none⟩) (by kernel_rfl) (by kernel_rfl) ?_ ?_
        · intro o;rfl
        (repeat ((with_reducible refine wpLex_step (fun K hK=>?_));go_simp;first | ((with_reducible refine hK _ _ ?_);clear hK K) | ((with_reducible apply Exists.intro);refine ⟨fun w' hw'=>?_,hK _ _ ?_⟩;(· (apply valEq;(· (go_simp;first | done | (with_reducible rfl)));(· ((try go_bits);with_reducible rfl))));clear hK K)))
        try ((with_reducible refine wpLex_step (fun K hK=>?_));go_simp;first | (refine hK _ _ ?_;clear hK K) | (refine ⟨?_,hK _ _ ?_⟩;(· (intro o;go_simp));clear hK K))
        (repeat ((with_reducible refine wpLex_step (fun K hK=>?_));go_simp;first | ((with_reducible refine hK _ _ ?_);clear hK K) | ((with_reducible apply Exists.intro);refine ⟨fun w' hw'=>?_,hK _ _ ?_⟩;(· (apply valEq;(· (go_simp;first | done | (with_reducible rfl)));(· ((try go_bits);with_reducible rfl))));clear hK K)))
        refine wpLex_nil (fun hw=>?_)
        go_wp2
        refine bodyPost_ret (v:=.tuple #[.int .u64 (low x),.agg #[.slice (some ad) n c,.int .i64 ((k:Int) + 1)],.int .i64 0]) (by simp [results,Tryz.results28,go_sem,hc]) rfl ⟨?_,((hbb.setCell (by simp) _).setCell (by simp) _).drew⟩
        rw [HF.out];try rfl
      case false =>
        have HN:=hide (show scan (xs.drop (k + 1)) (k + 1)=scan (xs.drop at_) at_ from by rw [← HK.out,HX.out,scan_no hpx])
        have hp:=isLow_not hpx
        clear hpx
        go_wp2
        exact ⟨⟨k + 1,by omega,by omega,by go_num,HN.out⟩,by simp [intOf];omega⟩
    · have hkn:k=n:=by omega
      have HF:=hide (drawB_none (xs:=xs) (HK.out.symm.trans (by rw [hkn,← HL2.out,List.drop_length];rfl)))
      clear hkn
      go_wp2
      refine wp_region_lex [2] (fun w'=>∀ o,w'.cell? ⟨w.heap.size,o,none⟩=w1.cell? ⟨w.heap.size,o,none⟩) (by kernel_rfl) (by kernel_rfl) ?_ ?_
      · intro o;rfl
      (repeat ((with_reducible refine wpLex_step (fun K hK=>?_));go_simp;first | ((with_reducible refine hK _ _ ?_);clear hK K) | ((with_reducible apply Exists.intro);refine ⟨fun w' hw'=>?_,hK _ _ ?_⟩;(· (apply valEq;(· (go_simp;first | done | (with_reducible rfl)));(· ((try go_bits);with_reducible rfl))));clear hK K)))
      try ((with_reducible refine wpLex_step (fun K hK=>?_));go_simp;first | (refine hK _ _ ?_;clear hK K) | (refine ⟨?_,hK _ _ ?_⟩;(· (intro o;go_simp));clear hK K))
      (repeat ((with_reducible refine wpLex_step (fun K hK=>?_));go_simp;first | ((with_reducible refine hK _ _ ?_);clear hK K) | ((with_reducible apply Exists.intro);refine ⟨fun w' hw'=>?_,hK _ _ ?_⟩;(· (apply valEq;(· (go_simp;first | done | (with_reducible rfl)));(· ((try go_bits);with_reducible rfl))));clear hK K)))
      refine wpLex_nil (fun hw=>?_)
      go_wp2
      refine bodyPost_ret (v:=.tuple #[.int .u64 0,.agg #[.slice A n c,.int .i64 at_],.int .i64 5]) (by simp [results,Tryz.results28,go_sem,hc]) rfl ⟨?_,((hbb.setCell (by simp) _).setCell (by simp) _).drew⟩
      rw [HF.out];try rfl
end Go.Proofs.YtppblcbgkadldaaGreatDoor
namespace Go.Proofs.YtppblcbgkadldaaGreatDoor
open Go
set_option maxRecDepth 100000
def SortedTo (l:List Int) (i:Nat):Prop:=∀ p q,p < q → q < i → l.getD p 0 ≤ l.getD q 0
def HoleAt (l:List Int) (i j:Nat):Prop:=(∀ p q,p < q → q ≤ i → p ≠ j → q ≠ j → l.getD p 0 ≤ l.getD q 0) ∧ (∀ q,j < q → q ≤ i → l.getD j 0 ≤ l.getD q 0)
def swapI (l:List Int) (j:Nat):List Int:=(l.set j (l.getD (j - 1) 0)).set (j - 1) (l.getD j 0)
theorem hole_start {l:List Int} {i:Nat} (h:SortedTo l i):HoleAt l i i:=
  ⟨fun p q hpq hq hp hqi=>h p q hpq (by omega),fun q h1 h2=>by omega⟩
theorem hole_end {l:List Int} {i j:Nat} (h:HoleAt l i j) (hj:j ≤ i) (he:j=0 ∨ ¬ l.getD j 0 < l.getD (j - 1) 0):SortedTo l (i + 1):=by
  intro p q hpq hq
  by_cases h1:p=j
  · subst h1;exact h.2 q hpq (by omega)
  · by_cases h2:q=j
    · subst h2
      rcases he with he | he
      · omega
      · by_cases h3:p=q - 1
        · subst h3;omega
        · have:=h.1 p (q - 1) (by omega) (by omega) h1 (by omega)
          omega
    · exact h.1 p q hpq (by omega) h1 h2
theorem swapI_len (l:List Int) (j:Nat):(swapI l j).length=l.length:=by simp [swapI]
theorem swapI_get {l:List Int} {j:Nat} (h0:0 < j) (hj:j < l.length) (p:Nat):(swapI l j).getD p 0=if p=j - 1 then l.getD j 0 else if p=j then l.getD (j - 1) 0 else l.getD p 0:=by
  unfold swapI
  rw [getD_setI _ _ _ _ (by rw [List.length_set];omega),getD_setI _ _ _ _ hj]
  simp only [eq_comm]
theorem swapI_perm {l:List Int} {j:Nat} (h0:0 < j) (hj:j < l.length):(swapI l j).Perm l:=by
  have h1:j - 1 < l.length:=by omega
  have e1:l.getD j 0=l[j]:=by simp [List.getD_eq_getElem?_getD,List.getElem?_eq_getElem hj]
  have e2:l.getD (j - 1) 0=l[j - 1]:=by simp [List.getD_eq_getElem?_getD,List.getElem?_eq_getElem h1]
  unfold swapI
  rw [e1,e2]
  exact List.set_set_perm hj h1
theorem hole_step {l:List Int} {i j:Nat} (h:HoleAt l i j) (h0:0 < j) (hj:j ≤ i) (hi:i < l.length) (hl:l.getD j 0 < l.getD (j - 1) 0):HoleAt (swapI l j) i (j - 1):=by
  have hjl:j < l.length:=by omega
  refine ⟨fun p q hpq hq hp hq1=>?_,fun q h1 h2=>?_⟩
  · rw [swapI_get h0 hjl,swapI_get h0 hjl,if_neg hp,if_neg hq1]
    by_cases h1:p=j
    · rw [if_pos h1,if_neg (by omega)]
      exact h.1 (j - 1) q (by omega) hq (by omega) (by omega)
    · rw [if_neg h1]
      by_cases h2:q=j
      · rw [if_pos h2]
        exact h.1 p (j - 1) (by omega) (by omega) h1 (by omega)
      · rw [if_neg h2]
        exact h.1 p q hpq hq h1 h2
  · rw [swapI_get h0 hjl,swapI_get h0 hjl,if_pos rfl,if_neg (by omega)]
    by_cases h3:q=j
    · rw [if_pos h3];omega
    · rw [if_neg h3]
      exact h.2 q (by omega) h2
theorem sorted_pair {l:List Int} (h:SortedTo l l.length):l.Pairwise (· ≤ ·):=by
  rw [List.pairwise_iff_getElem]
  intro i j hi hj hij
  have:=h i j hij hj
  simpa [List.getD_eq_getElem?_getD,List.getElem?_eq_getElem hi,List.getElem?_eq_getElem hj] using this
end Go.Proofs.YtppblcbgkadldaaGreatDoor
