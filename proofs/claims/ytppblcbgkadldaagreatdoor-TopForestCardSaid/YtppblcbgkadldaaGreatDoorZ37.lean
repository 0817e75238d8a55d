/-
  A part of the proof that the law TopForest returns true for every input and leaves its arguments as they were: Rising, NearK, PBfs.
-/
import Derived.Test.YtppblcbgkadldaaGreatDoorZ23
import Derived.Test.YtppblcbgkadldaaGreatDoorZ36
set_option linter.all false
namespace Go.Proofs.YtppblcbgkadldaaGreatDoor
open Go Go.RowKit
set_option maxRecDepth 100000
attribute [local go_sem] Heavy heavyUpon
attribute [local go_sem ↓] usl_hi usl_lo
set_option maxHeartbeats 6400000 in
theorem rising_ok (Kb:List Nat) (l:List Int) (A:Option Addr) (n c:Nat) (w:World) (hS:Sl w [] 1 A n c (ints .u64 l)) (hn:n ≤ 1000) (hKb:∀ k ∈ Kb,k < w.heap.size) :
    Calls Tryz.prog 26 #[.slice A n c] w fun e w'=>∃ R d,e=.returned (.slice R n d) ∧ Sl w' Kb 1 R n d (ints .u64 (sortA l)) ∧ Below w.heap.size w w':=by
  obtain ⟨ie,hie,hze,he1,he2⟩:=info_parts u64_info
  have HL:=hide (show l.length=n by have:=hS.len;simpa using this)
  have HS:=hide hS
  have HKB:=hide hKb
  clear hS hKb
  go_enter Tryz.func26,Tryz.ntmps26
  go_wp2_with (fail)
  go_loopw [3,4] (fun a u wr=>∃ (i:Nat) (Ao:Option Addr) (co:Nat),i ≤ n ∧ u=.int .i64 i ∧ a=.slice Ao i co ∧ Below w.heap.size w wr ∧ Hid (Sl wr Kb 1 Ao i co (ints .u64 (sortA (l.take i))))) (fun _ u _=>n - (intOf u).toNat)
  case atStart=>exact ⟨0,none,0,Nat.zero_le _,rfl,rfl,Below.refl _ _,hide (Sl.nil_ _ _ _)⟩
  case round =>
    obtain ⟨i,Ao,co,hi,rfl,rfl,hbr,HO⟩:=hrel
    obtain ⟨w0,hw0⟩:∃ w0,w0=wr:=⟨_,rfl⟩
    subst hw0
    have HSr:=hide (Sl.below HS.out hbr)
    by_cases hlt:i < n
    · have hli:i < l.length:=by have:=HL.out;omega
      obtain ⟨a1,rfl,ha1,_,hc1⟩:=HSr.out.at_ (by omega)
      have c1:=hc1 _ _ (ints_get hli)
      have k1:(a1.add i).block < w0.heap.size:=by rw [block_of_add];exact ha1
      have HT:=hide (sortA_step l hli)
      have HOL:=hide (show (sortA (l.take i)).length=i by rw [sortA_len,List.length_take];omega)
      clear hc1
      generalize l[i]=x at *
      generalize sortA (l.take i)=o at *
      have szr:=hbr.size
      go_wp2_with (fail)
      go_loopw [5] (fun u wq=>∃ k:Nat,u=.int .i64 k ∧ k ≤ i ∧ Hid (∀ (j:Nat) (h:j < o.length),j < k → o[j] < x) ∧ Below w0.heap.size w0 wq) (fun u _=>i - (intOf u).toNat)
      case atStart=>exact ⟨0,rfl,Nat.zero_le _,hide (fun j h h2=>by omega),Below.refl _ _⟩
      case round =>
        obtain ⟨k,rfl,hk,HK,hbq⟩:=hrel
        have HOq:=hide (Sl.below HO.out hbq)
        have c1q:=(hbq.cell k1).trans c1
        have k1q:=Nat.lt_of_lt_of_le k1 hbq.size
        have hbw:=hbr.trans (hbq.mono szr)
        by_cases hki:k < i
        · have hko:k < o.length:=by have:=HOL.out;omega
          obtain ⟨a2,rfl,ha2,_,hc2⟩:=HOq.out.at_ (by omega)
          have c2:=hc2 _ _ (ints_get hko)
          have k2:(a2.add k).block < wr.heap.size:=by rw [block_of_add];exact ha2
          have HS1:=hide (show o[k] < x → ∀ (j:Nat) (h:j < o.length),j < k + 1 → o[j] < x from fun h1 j h h2=>by
            by_cases hjk:j=k
            · subst hjk;exact h1
            · exact HK.out j h (by omega))
          have HI:=hide (show ¬ o[k] < x → insA o x=o.take k ++ x :: o.drop k from fun h1=>insA_at HK.out (Nat.le_of_lt hko) (.inr ⟨hko,h1⟩))
          clear hc2
          generalize o[k]=z at *
          by_cases hzx:z < x
          · have HS2:=hide (HS1.out hzx)
            clear HS1 HI c1
            go_wp2_with (fail)
            refine wp_region_lexD [] (fun w'=>Below (wr).heap.size (wr) w') (by kernel_rfl) (by kernel_rfl) (Below.refl _ _).drew ?_
            (repeat ((with_reducible refine wpLex_step (fun K hK=>?_));go_simp;first | ((with_reducible refine hK _ _ ?_);clear hK K) | ((with_reducible apply Exists.intro);refine ⟨fun w' hw'=>?_,hK _ _ ?_⟩;(· (have hq:=bcells hw';apply valEq;(· (go_simp;first | done | (with_reducible rfl)));(· ((try go_bits);with_reducible rfl))));clear hK K)))
            refine wpLex_nil (fun g3=>?_)
            go_wp2_with (fail)
            exact ⟨⟨k + 1,by go_num,by omega,HS2,hbq.drew⟩,by simp [intOf];omega⟩
          · have HI2:=hide (HI.out hzx)
            clear HS1 HI c1
            go_wp2_with (fail)
            refine wp_region_lexD [] (fun w'=>Below (wr).heap.size (wr) w') (by kernel_rfl) (by kernel_rfl) (Below.refl _ _).drew ?_
            (repeat ((with_reducible refine wpLex_step (fun K hK=>?_));go_simp;first | ((with_reducible refine hK _ _ ?_);clear hK K) | ((with_reducible apply Exists.intro);refine ⟨fun w' hw'=>?_,hK _ _ ?_⟩;(· (have hq:=bcells hw';apply valEq;(· (go_simp;first | done | (with_reducible rfl)));(· ((try go_bits);with_reducible rfl))));clear hK K)))
            refine wpLex_nil (fun g3=>?_)
            clear c2 k2 g3 HK ha2
            (have hbW:=(show Below w.heap.size w wr.drew from hbw.drew);have HOW:=hide (show Sl wr.drew Kb 1 _ _ _ (ints .u64 o) from HOq.out.drew);have c1w:wr.drew.cell? (a1.add i)=some (.int .u64 x):=c1q;have k1w:(a1.add i).block < wr.drew.heap.size:=k1q;clear hbw HOq c1q k1q hbq hbr k1;generalize wr.drew=W at *;(have hkio:k ≤ i:=(by omega);have hcc:=HOW.out.le;have O0:=hide (World.ownsRow_nil W W.heap.size 43 1);have N1:=hide (u_head HOW.out hkio);(go_wp2_with (at_builtin;refine stopAt ?_);refine stopGo ?_);refine wpList_append_sl _ rfl (.tmp 30) (.tmp 33) _ rfl W.heap.size 43 ie _ 1 8 Tryz.underlying24 hie hze he1 he2 rfl (by omega) (.slice none 0 0) 0 _ rfl O0.out [] _ k _ _ rfl N1.out ints_one (by simp only [maxLen];omega) (by omega) (Nat.le_refl _) ?_;intro A5 c5 w5 own5 g5 _;simp only [Nat.zero_add,List.nil_append] at own5;have hB5:=below_grown O0.out g5 (Nat.le_refl _) (Nat.le_refl _);have hB6:=hide (hB5.alloc hB5.size (.cells #[.int .u64 x] 43));have O6:=hide (own5.alloc (.cells #[.int .u64 x] 43));have N6:=u1_new w5 x;(have c1x:=(hB5.cell k1w).trans c1w;have k1x:=Nat.lt_of_lt_of_le k1w hB5.size);clear own5 g5 O0 N1;(go_wp2_with (at_builtin;refine stopAt ?_);refine stopGo ?_);refine wpList_append_sl _ rfl (.tmp 35) (.tmp 40) _ rfl W.heap.size 43 ie _ 1 8 Tryz.underlying24 hie hze he1 he2 rfl (by omega) (.slice A5 k c5) k _ rfl O6.out [] _ 1 1 (ints .u64 [x]) rfl N6 ints_one (by simp only [maxLen];omega) (by omega) hB6.out.size ?_;intro A7 c7 w7 own7 g7 _;have hB7:=hide (hB6.out.trans (below_grown O6.out g7 (Nat.le_refl _) hB6.out.size));have O7:=hide own7;have N7:=hide (u_tail (Sl.below HOW.out hB7.out) hkio);clear own7 g7 O6 N6 hB6 hB5;(go_wp2_with (at_builtin;refine stopAt ?_);refine stopGo ?_);refine wpList_append_sl _ rfl (.tmp 42) (.tmp 45) _ rfl W.heap.size 43 ie _ 1 8 Tryz.underlying24 hie hze he1 he2 rfl (by omega) (.slice A7 (k + 1) c7) (k + 1) _ rfl O7.out [] _ (i - k) _ _ rfl N7.out ints_one (by simp only [maxLen];omega) (by omega) hB7.out.size ?_;intro A9 c9 w9 own9 g9 _;have hB9:=hB7.out.trans (below_grown O7.out g9 (Nat.le_refl _) hB7.out.size);have hlen:k + 1 + (i - k)=i + 1:=(by omega);rw [hlen,show (ints .u64 (o.take k) ++ ints .u64 [x]) ++ ints .u64 (o.drop k)=ints .u64 (insA o x) by rw [HI2.out];simp [ints]] at own9;rw [hlen];have O9:=hide (Sl.of_own own9 (M:=Kb) (fun kk hkk=>Nat.lt_of_lt_of_le (HKB.out kk hkk) hbW.size));have hb9:=hbW.trans (hB9.mono hbW.size);clear own9 g9 O7 N7 hB7 HOW hlen);go_wp2_with (fail);exact ⟨⟨i + 1,A9,c9,by omega,by go_num,rfl,hb9,hide (by rw [HT.out];exact O9.out)⟩,by simp [intOf];omega⟩)
        · have HI2:=hide (show insA o x=o.take k ++ x :: o.drop k from insA_at HK.out (by have:=HOL.out;omega) (.inl (by have:=HOL.out;omega)))
          clear c1
          go_wp2_with (fail)
          refine wp_region_lexD [] (fun w'=>Below (wr).heap.size (wr) w') (by kernel_rfl) (by kernel_rfl) (Below.refl _ _).drew ?_
          (repeat ((with_reducible refine wpLex_step (fun K hK=>?_));go_simp;first | ((with_reducible refine hK _ _ ?_);clear hK K) | ((with_reducible apply Exists.intro);refine ⟨fun w' hw'=>?_,hK _ _ ?_⟩;(· (have hq:=bcells hw';apply valEq;(· (go_simp;first | done | (with_reducible rfl)));(· ((try go_bits);with_reducible rfl))));clear hK K)))
          refine wpLex_nil (fun g3=>?_)
          clear g3 HK
          (have hbW:=(show Below w.heap.size w wr.drew from hbw.drew);have HOW:=hide (show Sl wr.drew Kb 1 _ _ _ (ints .u64 o) from HOq.out.drew);have c1w:wr.drew.cell? (a1.add i)=some (.int .u64 x):=c1q;have k1w:(a1.add i).block < wr.drew.heap.size:=k1q;clear hbw HOq c1q k1q hbq hbr k1;generalize wr.drew=W at *;(have hkio:k ≤ i:=(by omega);have hcc:=HOW.out.le;have O0:=hide (World.ownsRow_nil W W.heap.size 43 1);have N1:=hide (u_head HOW.out hkio);(go_wp2_with (at_builtin;refine stopAt ?_);refine stopGo ?_);refine wpList_append_sl _ rfl (.tmp 30) (.tmp 33) _ rfl W.heap.size 43 ie _ 1 8 Tryz.underlying24 hie hze he1 he2 rfl (by omega) (.slice none 0 0) 0 _ rfl O0.out [] _ k _ _ rfl N1.out ints_one (by simp only [maxLen];omega) (by omega) (Nat.le_refl _) ?_;intro A5 c5 w5 own5 g5 _;simp only [Nat.zero_add,List.nil_append] at own5;have hB5:=below_grown O0.out g5 (Nat.le_refl _) (Nat.le_refl _);have hB6:=hide (hB5.alloc hB5.size (.cells #[.int .u64 x] 43));have O6:=hide (own5.alloc (.cells #[.int .u64 x] 43));have N6:=u1_new w5 x;(have c1x:=(hB5.cell k1w).trans c1w;have k1x:=Nat.lt_of_lt_of_le k1w hB5.size);clear own5 g5 O0 N1;(go_wp2_with (at_builtin;refine stopAt ?_);refine stopGo ?_);refine wpList_append_sl _ rfl (.tmp 35) (.tmp 40) _ rfl W.heap.size 43 ie _ 1 8 Tryz.underlying24 hie hze he1 he2 rfl (by omega) (.slice A5 k c5) k _ rfl O6.out [] _ 1 1 (ints .u64 [x]) rfl N6 ints_one (by simp only [maxLen];omega) (by omega) hB6.out.size ?_;intro A7 c7 w7 own7 g7 _;have hB7:=hide (hB6.out.trans (below_grown O6.out g7 (Nat.le_refl _) hB6.out.size));have O7:=hide own7;have N7:=hide (u_tail (Sl.below HOW.out hB7.out) hkio);clear own7 g7 O6 N6 hB6 hB5;(go_wp2_with (at_builtin;refine stopAt ?_);refine stopGo ?_);refine wpList_append_sl _ rfl (.tmp 42) (.tmp 45) _ rfl W.heap.size 43 ie _ 1 8 Tryz.underlying24 hie hze he1 he2 rfl (by omega) (.slice A7 (k + 1) c7) (k + 1) _ rfl O7.out [] _ (i - k) _ _ rfl N7.out ints_one (by simp only [maxLen];omega) (by omega) hB7.out.size ?_;intro A9 c9 w9 own9 g9 _;have hB9:=hB7.out.trans (below_grown O7.out g9 (Nat.le_refl _) hB7.out.size);have hlen:k + 1 + (i - k)=i + 1:=(by omega);rw [hlen,show (ints .u64 (o.take k) ++ ints .u64 [x]) ++ ints .u64 (o.drop k)=ints .u64 (insA o x) by rw [HI2.out];simp [ints]] at own9;rw [hlen];have O9:=hide (Sl.of_own own9 (M:=Kb) (fun kk hkk=>Nat.lt_of_lt_of_le (HKB.out kk hkk) hbW.size));have hb9:=hbW.trans (hB9.mono hbW.size);clear own9 g9 O7 N7 hB7 HOW hlen);go_wp2_with (fail);exact ⟨⟨i + 1,A9,c9,by omega,by go_num,rfl,hb9,hide (by rw [HT.out];exact O9.out)⟩,by simp [intOf];omega⟩)
    · obtain rfl:i=n:=by omega
      have HE:=hide (show l.take i=l from List.take_of_length_le (by rw [HL.out];exact Nat.le_refl _))
      go_wp2_with (fail)
      go_ret
      exact ⟨Ao,co,rfl,by have:=HO.out;rwa [HE.out] at this,hbr⟩
end Go.Proofs.YtppblcbgkadldaaGreatDoor
namespace Go.Proofs.YtppblcbgkadldaaGreatDoor
open Go Go.RowKit
set_option maxRecDepth 100000
attribute [local go_sem] Heavy heavyUpon
attribute [local go_sem ↓] usl_hi usl_lo
def IsW (x:Int):Prop:=0 ≤ x ∧ x < 18446744073709551616
def PU (ps:List (Int × Int)):Prop:=∀ p ∈ ps,IsW p.1 ∧ IsW p.2
theorem back_l {a x:Int} (hx:IsW x):IntKind.u64.wrap (IntKind.u64.wrap (a + x) - a)=x:=by
  unfold IsW at hx
  simp only [IntKind.wrap,IntKind.signed,IntKind.bits]
  simp
  omega
theorem back_r {a x:Int} (hx:IsW x):IntKind.u64.wrap (IntKind.u64.wrap (x + a) - a)=x:=by rw [Int.add_comm];exact back_l hx
section
variable {w w':World} {ks:List Int} {ps:List (Int × Int)} {A:Option Addr} {m c:Nat} {B:Option Addr} {b d:Nat}
set_option maxHeartbeats 6400000 in
theorem neark_ok (Kb:List Nat) (N:Nat) (a:Int) (w:World) (hM:MM w ks ps A m c B b d) (hP:PU ps) (hb:b ≤ 1000) (hKb:∀ k ∈ Kb,k < w.heap.size) :
    Calls Tryz.prog 23 #[mV N A m c B b d,.int .u64 a] w fun e w'=>∃ R d,e=.returned (.slice R (nearK ps a).length d) ∧ Sl w' Kb 1 R (nearK ps a).length d (ints .u64 (sortA (nearK ps a))) ∧ Below w.heap.size w w':=by
  obtain ⟨ie,hie,hze,he1,he2⟩:=info_parts u64_info
  have HL:=hide (show ps.length=b from hM.p.length)
  have B0:=Blk.new w 42 #[.int .i64 N,.slice A m c,.slice B b d]
  have hb0:=(Below.refl w.heap.size w).alloc (Nat.le_refl _) (.cells #[.int .i64 N,.slice A m c,.slice B b d] 42)
  have HM:=hide (hM.alloc (.cells #[.int .i64 N,.slice A m c,.slice B b d] 42))
  have HPU:=hide hP
  unfold mV
  have HKB:=hide hKb
  clear hM hP hKb
  go_enter Tryz.func23,Tryz.ntmps23
  go_wp2_with (fail)
  generalize w.alloc (.cells #[.int .i64 N,.slice A m c,.slice B b d] 42)=Wb at *
  have HB0:=hide B0
  have hz0:=hide hb0.size
  clear B0
  go_loopw [5,6] (fun x u wr=>∃ (q i:Nat) (Ao:Option Addr) (co:Nat),q ≤ b ∧ u=.int .i64 q ∧ x=.slice Ao i co ∧ Hid (i=(nearK (ps.take q) a).length) ∧ Below w.heap.size w wr ∧ Hid (Below Wb.heap.size Wb wr) ∧ Hid (Sl wr Kb 1 Ao i co (ints .u64 (sortA (nearK (ps.take q) a))))) (fun _ u _=>b - (intOf u).toNat)
  case atStart=>exact ⟨0,0,none,0,Nat.zero_le _,rfl,rfl,hide rfl,hb0,hide (Below.refl _ _),hide (Sl.nil_ _ _ _)⟩
  case round =>
    clear hb0
    obtain ⟨q,i,Ao,co,hq,rfl,rfl,HI,hbr,HBB,HO⟩:=hrel
    obtain ⟨w0,hw0⟩:∃ w0,w0=wr:=⟨_,rfl⟩
    subst hw0
    obtain ⟨r0,e0,s0⟩:=(HB0.out.below HBB.out HB0.out.lt).facts
    have x2:w0.cell? ⟨w.heap.size,2,none⟩=some (.slice B b d):=r0 2
    clear r0
    by_cases hlt:q < b
    · have hql:q < ps.length:=by have:=HL.out;omega
      obtain ⟨a2,rfl,ha2,c0,c1⟩:=HSl.get (HM.out.below HBB.out).p hql
      have HT:=hide (nearK_step ps a hql)
      obtain ⟨hp0,hp1⟩:=HPU.out _ (List.getElem_mem hql)
      have hiq:i ≤ q:=by
        have h1:=HI.out
        have h2:=nearK_len (ps.take q) a
        rw [List.length_take] at h2
        omega
      generalize ps[q]=p at *
      obtain ⟨p0,p1⟩:=p
      simp only [] at c0 c1 hp0 hp1 HT
      have szr:=hbr.size
      have hb1:=hbr.alloc szr (.cells #[.int .u64 (p0),.int .u64 (p1)] 51)
      have HB1:=hide (HBB.out.alloc HBB.out.size (.cells #[.int .u64 (p0),.int .u64 (p1)] 51))
      have HO1:=hide (Sl.alloc HO.out (.cells #[.int .u64 (p0),.int .u64 (p1)] 51))
      by_cases h0:p0=a
      · have HE:=hide (show nearK (ps.take (q + 1)) a=nearK (ps.take q) a ++ [p1] by rw [HT.out,if_pos h0])
        subst h0
        have d0:(p0 != p0)=false:=by simp
        have hx1:=hp1
        clear HT
        (go_wp2_with (fail);rw [back_l hx1];have HT9:=hide (show sortA (nearK (ps.take (q + 1)) p0)=insA (sortA (nearK (ps.take q) p0)) p1 by rw [HE.out,sortA_snoc]);have HOL:=hide (show (sortA (nearK (ps.take q) p0)).length=i by rw [sortA_len];exact HI.out.symm);have HI9:=hide (show i + 1=(nearK (ps.take (q + 1)) p0).length by rw [HE.out,List.length_append,HI.out];rfl);generalize sortA (nearK (ps.take q) p0)=o at *;clear c0 c1 x2 e0 s0 HO;generalize w0.alloc (.cells #[.int .u64 (p0),.int .u64 (p1)] 51)=W1 at *;generalize p1=x at *;go_loopw [9] (fun u wr=>∃ k:Nat,u=.int .i64 k ∧ k ≤ i ∧ Hid (∀ (j:Nat) (h:j < o.length),j < k → o[j] < x) ∧ Below W1.heap.size W1 wr) (fun u _=>i - (intOf u).toNat);(case atStart=>exact ⟨0,rfl,Nat.zero_le _,hide (fun j h h2=>by omega),Below.refl _ _⟩);(case round=>(obtain ⟨k,rfl,hk,HK,hbq⟩:=hrel;have HOq:=hide (Sl.below HO1.out hbq);have hbw:=hb1.trans (hbq.mono hb1.size);have HBw:=hide (HB1.out.trans (hbq.mono HB1.out.size));by_cases hki:k < i;(· (have hko:k < o.length:=(by have:=HOL.out;omega);obtain ⟨a3,rfl,ha3,_,hc2⟩:=HOq.out.at_ (by omega);have c2:=hc2 _ _ (ints_get hko);have HS1:=hide (show o[k] < x → ∀ (j:Nat) (h:j < o.length),j < k + 1 → o[j] < x from fun h1 j h h2=>(by by_cases hjk:j=k;(· (subst hjk;exact h1));(· exact HK.out j h (by omega))));have HI2:=hide (show ¬ o[k] < x → insA o x=o.take k ++ x :: o.drop k from fun h1=>insA_at HK.out (Nat.le_of_lt hko) (.inr ⟨hko,h1⟩));clear hc2;generalize o[k]=z at *;by_cases hzx:z < x;(· (have HS2:=hide (HS1.out hzx);clear HS1 HI2;go_wp2_with (fail);exact ⟨⟨k + 1,by go_num,by omega,HS2,hbq⟩,by simp [intOf];omega⟩));(· (replace HI2:=hide (HI2.out hzx);clear HS1;(have hbW:=hbw;have HOW:=HOq;have HBW:=HBw;clear hbw HOq HBw hbq;generalize wr=W at *;(have hkio:k ≤ i:=(by omega);have hcc:=HOW.out.le;have O0:=hide (World.ownsRow_nil W W.heap.size 43 1);have N1:=hide (u_head HOW.out hkio);(go_wp2_with (at_builtin;refine stopAt ?_);refine stopGo ?_);refine wpList_append_sl _ rfl (.tmp 54) (.tmp 57) _ rfl W.heap.size 43 ie _ 1 8 Tryz.underlying24 hie hze he1 he2 rfl (by omega) (.slice none 0 0) 0 _ rfl O0.out [] _ k _ _ rfl N1.out ints_one (by simp only [maxLen];omega) (by omega) (Nat.le_refl _) ?_;intro A5 c5 w5 own5 g5 _;simp only [Nat.zero_add,List.nil_append] at own5;have hB5:=below_grown O0.out g5 (Nat.le_refl _) (Nat.le_refl _);have hB6:=hide (hB5.alloc hB5.size (.cells #[.int .u64 x] 43));have O6:=hide (own5.alloc (.cells #[.int .u64 x] 43));have N6:=u1_new w5 x;skip;clear own5 g5 O0 N1;(go_wp2_with (at_builtin;refine stopAt ?_);refine stopGo ?_);refine wpList_append_sl _ rfl (.tmp 59) (.tmp 61) _ rfl W.heap.size 43 ie _ 1 8 Tryz.underlying24 hie hze he1 he2 rfl (by omega) (.slice A5 k c5) k _ rfl O6.out [] _ 1 1 (ints .u64 [x]) rfl N6 ints_one (by simp only [maxLen];omega) (by omega) hB6.out.size ?_;intro A7 c7 w7 own7 g7 _;have hB7:=hide (hB6.out.trans (below_grown O6.out g7 (Nat.le_refl _) hB6.out.size));have O7:=hide own7;have N7:=hide (u_tail (Sl.below HOW.out hB7.out) hkio);clear own7 g7 O6 N6 hB6 hB5;(go_wp2_with (at_builtin;refine stopAt ?_);refine stopGo ?_);refine wpList_append_sl _ rfl (.tmp 63) (.tmp 66) _ rfl W.heap.size 43 ie _ 1 8 Tryz.underlying24 hie hze he1 he2 rfl (by omega) (.slice A7 (k + 1) c7) (k + 1) _ rfl O7.out [] _ (i - k) _ _ rfl N7.out ints_one (by simp only [maxLen];omega) (by omega) hB7.out.size ?_;intro A9 c9 w9 own9 g9 _;have hB9:=hB7.out.trans (below_grown O7.out g9 (Nat.le_refl _) hB7.out.size);have hlen:k + 1 + (i - k)=i + 1:=(by omega);rw [hlen,show (ints .u64 (o.take k) ++ ints .u64 [x]) ++ ints .u64 (o.drop k)=ints .u64 (insA o x) by rw [HI2.out];simp [ints]] at own9;rw [hlen];have O9:=hide (Sl.of_own own9 (M:=Kb) (fun kk hkk=>Nat.lt_of_lt_of_le (HKB.out kk hkk) hbW.size));have hb9:=hbW.trans (hB9.mono hbW.size);clear own9 g9 O7 N7 hB7 HOW hlen);have HB9:=hide (HBW.out.trans (hB9.mono HBW.out.size));go_wp2_with (fail);exact ⟨⟨q + 1,i + 1,A9,c9,by omega,by go_num,rfl,HI9,hb9,HB9,hide (by rw [HT9.out];exact O9.out)⟩,by simp [intOf];omega⟩)))));(· (have HI2:=hide (show insA o x=o.take k ++ x :: o.drop k from insA_at HK.out (by have:=HOL.out;omega) (.inl (by have:=HOL.out;omega)));(have hbW:=hbw;have HOW:=HOq;have HBW:=HBw;clear hbw HOq HBw hbq;generalize wr=W at *;(have hkio:k ≤ i:=(by omega);have hcc:=HOW.out.le;have O0:=hide (World.ownsRow_nil W W.heap.size 43 1);have N1:=hide (u_head HOW.out hkio);(go_wp2_with (at_builtin;refine stopAt ?_);refine stopGo ?_);refine wpList_append_sl _ rfl (.tmp 54) (.tmp 57) _ rfl W.heap.size 43 ie _ 1 8 Tryz.underlying24 hie hze he1 he2 rfl (by omega) (.slice none 0 0) 0 _ rfl O0.out [] _ k _ _ rfl N1.out ints_one (by simp only [maxLen];omega) (by omega) (Nat.le_refl _) ?_;intro A5 c5 w5 own5 g5 _;simp only [Nat.zero_add,List.nil_append] at own5;have hB5:=below_grown O0.out g5 (Nat.le_refl _) (Nat.le_refl _);have hB6:=hide (hB5.alloc hB5.size (.cells #[.int .u64 x] 43));have O6:=hide (own5.alloc (.cells #[.int .u64 x] 43));have N6:=u1_new w5 x;skip;clear own5 g5 O0 N1;(go_wp2_with (at_builtin;refine stopAt ?_);refine stopGo ?_);refine wpList_append_sl _ rfl (.tmp 59) (.tmp 61) _ rfl W.heap.size 43 ie _ 1 8 Tryz.underlying24 hie hze he1 he2 rfl (by omega) (.slice A5 k c5) k _ rfl O6.out [] _ 1 1 (ints .u64 [x]) rfl N6 ints_one (by simp only [maxLen];omega) (by omega) hB6.out.size ?_;intro A7 c7 w7 own7 g7 _;have hB7:=hide (hB6.out.trans (below_grown O6.out g7 (Nat.le_refl _) hB6.out.size));have O7:=hide own7;have N7:=hide (u_tail (Sl.below HOW.out hB7.out) hkio);clear own7 g7 O6 N6 hB6 hB5;(go_wp2_with (at_builtin;refine stopAt ?_);refine stopGo ?_);refine wpList_append_sl _ rfl (.tmp 63) (.tmp 66) _ rfl W.heap.size 43 ie _ 1 8 Tryz.underlying24 hie hze he1 he2 rfl (by omega) (.slice A7 (k + 1) c7) (k + 1) _ rfl O7.out [] _ (i - k) _ _ rfl N7.out ints_one (by simp only [maxLen];omega) (by omega) hB7.out.size ?_;intro A9 c9 w9 own9 g9 _;have hB9:=hB7.out.trans (below_grown O7.out g9 (Nat.le_refl _) hB7.out.size);have hlen:k + 1 + (i - k)=i + 1:=(by omega);rw [hlen,show (ints .u64 (o.take k) ++ ints .u64 [x]) ++ ints .u64 (o.drop k)=ints .u64 (insA o x) by rw [HI2.out];simp [ints]] at own9;rw [hlen];have O9:=hide (Sl.of_own own9 (M:=Kb) (fun kk hkk=>Nat.lt_of_lt_of_le (HKB.out kk hkk) hbW.size));have hb9:=hbW.trans (hB9.mono hbW.size);clear own9 g9 O7 N7 hB7 HOW hlen);have HB9:=hide (HBW.out.trans (hB9.mono HBW.out.size));go_wp2_with (fail);exact ⟨⟨q + 1,i + 1,A9,c9,by omega,by go_num,rfl,HI9,hb9,HB9,hide (by rw [HT9.out];exact O9.out)⟩,by simp [intOf];omega⟩))))))
      · by_cases h1:p1=a
        · have HE:=hide (show nearK (ps.take (q + 1)) a=nearK (ps.take q) a ++ [p0] by rw [HT.out,if_neg h0,if_pos h1])
          subst h1
          have d0:(p0 != p1)=true:=by simpa using h0
          have d1:(p1 != p1)=false:=by simp
          have hx1:=hp0
          clear HT
          (go_wp2_with (fail);rw [back_r hx1];have HT9:=hide (show sortA (nearK (ps.take (q + 1)) p1)=insA (sortA (nearK (ps.take q) p1)) p0 by rw [HE.out,sortA_snoc]);have HOL:=hide (show (sortA (nearK (ps.take q) p1)).length=i by rw [sortA_len];exact HI.out.symm);have HI9:=hide (show i + 1=(nearK (ps.take (q + 1)) p1).length by rw [HE.out,List.length_append,HI.out];rfl);generalize sortA (nearK (ps.take q) p1)=o at *;clear c0 c1 x2 e0 s0 HO;generalize w0.alloc (.cells #[.int .u64 (p0),.int .u64 (p1)] 51)=W1 at *;generalize p0=x at *;go_loopw [9] (fun u wr=>∃ k:Nat,u=.int .i64 k ∧ k ≤ i ∧ Hid (∀ (j:Nat) (h:j < o.length),j < k → o[j] < x) ∧ Below W1.heap.size W1 wr) (fun u _=>i - (intOf u).toNat);(case atStart=>exact ⟨0,rfl,Nat.zero_le _,hide (fun j h h2=>by omega),Below.refl _ _⟩);(case round=>(obtain ⟨k,rfl,hk,HK,hbq⟩:=hrel;have HOq:=hide (Sl.below HO1.out hbq);have hbw:=hb1.trans (hbq.mono hb1.size);have HBw:=hide (HB1.out.trans (hbq.mono HB1.out.size));by_cases hki:k < i;(· (have hko:k < o.length:=(by have:=HOL.out;omega);obtain ⟨a3,rfl,ha3,_,hc2⟩:=HOq.out.at_ (by omega);have c2:=hc2 _ _ (ints_get hko);have HS1:=hide (show o[k] < x → ∀ (j:Nat) (h:j < o.length),j < k + 1 → o[j] < x from fun h1 j h h2=>(by by_cases hjk:j=k;(· (subst hjk;exact h1));(· exact HK.out j h (by omega))));have HI2:=hide (show ¬ o[k] < x → insA o x=o.take k ++ x :: o.drop k from fun h1=>insA_at HK.out (Nat.le_of_lt hko) (.inr ⟨hko,h1⟩));clear hc2;generalize o[k]=z at *;by_cases hzx:z < x;(· (have HS2:=hide (HS1.out hzx);clear HS1 HI2;go_wp2_with (fail);exact ⟨⟨k + 1,by go_num,by omega,HS2,hbq⟩,by simp [intOf];omega⟩));(· (replace HI2:=hide (HI2.out hzx);clear HS1;(have hbW:=hbw;have HOW:=HOq;have HBW:=HBw;clear hbw HOq HBw hbq;generalize wr=W at *;(have hkio:k ≤ i:=(by omega);have hcc:=HOW.out.le;have O0:=hide (World.ownsRow_nil W W.heap.size 43 1);have N1:=hide (u_head HOW.out hkio);(go_wp2_with (at_builtin;refine stopAt ?_);refine stopGo ?_);refine wpList_append_sl _ rfl (.tmp 54) (.tmp 57) _ rfl W.heap.size 43 ie _ 1 8 Tryz.underlying24 hie hze he1 he2 rfl (by omega) (.slice none 0 0) 0 _ rfl O0.out [] _ k _ _ rfl N1.out ints_one (by simp only [maxLen];omega) (by omega) (Nat.le_refl _) ?_;intro A5 c5 w5 own5 g5 _;simp only [Nat.zero_add,List.nil_append] at own5;have hB5:=below_grown O0.out g5 (Nat.le_refl _) (Nat.le_refl _);have hB6:=hide (hB5.alloc hB5.size (.cells #[.int .u64 x] 43));have O6:=hide (own5.alloc (.cells #[.int .u64 x] 43));have N6:=u1_new w5 x;skip;clear own5 g5 O0 N1;(go_wp2_with (at_builtin;refine stopAt ?_);refine stopGo ?_);refine wpList_append_sl _ rfl (.tmp 59) (.tmp 61) _ rfl W.heap.size 43 ie _ 1 8 Tryz.underlying24 hie hze he1 he2 rfl (by omega) (.slice A5 k c5) k _ rfl O6.out [] _ 1 1 (ints .u64 [x]) rfl N6 ints_one (by simp only [maxLen];omega) (by omega) hB6.out.size ?_;intro A7 c7 w7 own7 g7 _;have hB7:=hide (hB6.out.trans (below_grown O6.out g7 (Nat.le_refl _) hB6.out.size));have O7:=hide own7;have N7:=hide (u_tail (Sl.below HOW.out hB7.out) hkio);clear own7 g7 O6 N6 hB6 hB5;(go_wp2_with (at_builtin;refine stopAt ?_);refine stopGo ?_);refine wpList_append_sl _ rfl (.tmp 63) (.tmp 66) _ rfl W.heap.size 43 ie _ 1 8 Tryz.underlying24 hie hze he1 he2 rfl (by omega) (.slice A7 (k + 1) c7) (k + 1) _ rfl O7.out [] _ (i - k) _ _ rfl N7.out ints_one (by simp only [maxLen];omega) (by omega) hB7.out.size ?_;intro A9 c9 w9 own9 g9 _;have hB9:=hB7.out.trans (below_grown O7.out g9 (Nat.le_refl _) hB7.out.size);have hlen:k + 1 + (i - k)=i + 1:=(by omega);rw [hlen,show (ints .u64 (o.take k) ++ ints .u64 [x]) ++ ints .u64 (o.drop k)=ints .u64 (insA o x) by rw [HI2.out];simp [ints]] at own9;rw [hlen];have O9:=hide (Sl.of_own own9 (M:=Kb) (fun kk hkk=>Nat.lt_of_lt_of_le (HKB.out kk hkk) hbW.size));have hb9:=hbW.trans (hB9.mono hbW.size);clear own9 g9 O7 N7 hB7 HOW hlen);have HB9:=hide (HBW.out.trans (hB9.mono HBW.out.size));go_wp2_with (fail);exact ⟨⟨q + 1,i + 1,A9,c9,by omega,by go_num,rfl,HI9,hb9,HB9,hide (by rw [HT9.out];exact O9.out)⟩,by simp [intOf];omega⟩)))));(· (have HI2:=hide (show insA o x=o.take k ++ x :: o.drop k from insA_at HK.out (by have:=HOL.out;omega) (.inl (by have:=HOL.out;omega)));(have hbW:=hbw;have HOW:=HOq;have HBW:=HBw;clear hbw HOq HBw hbq;generalize wr=W at *;(have hkio:k ≤ i:=(by omega);have hcc:=HOW.out.le;have O0:=hide (World.ownsRow_nil W W.heap.size 43 1);have N1:=hide (u_head HOW.out hkio);(go_wp2_with (at_builtin;refine stopAt ?_);refine stopGo ?_);refine wpList_append_sl _ rfl (.tmp 54) (.tmp 57) _ rfl W.heap.size 43 ie _ 1 8 Tryz.underlying24 hie hze he1 he2 rfl (by omega) (.slice none 0 0) 0 _ rfl O0.out [] _ k _ _ rfl N1.out ints_one (by simp only [maxLen];omega) (by omega) (Nat.le_refl _) ?_;intro A5 c5 w5 own5 g5 _;simp only [Nat.zero_add,List.nil_append] at own5;have hB5:=below_grown O0.out g5 (Nat.le_refl _) (Nat.le_refl _);have hB6:=hide (hB5.alloc hB5.size (.cells #[.int .u64 x] 43));have O6:=hide (own5.alloc (.cells #[.int .u64 x] 43));have N6:=u1_new w5 x;skip;clear own5 g5 O0 N1;(go_wp2_with (at_builtin;refine stopAt ?_);refine stopGo ?_);refine wpList_append_sl _ rfl (.tmp 59) (.tmp 61) _ rfl W.heap.size 43 ie _ 1 8 Tryz.underlying24 hie hze he1 he2 rfl (by omega) (.slice A5 k c5) k _ rfl O6.out [] _ 1 1 (ints .u64 [x]) rfl N6 ints_one (by simp only [maxLen];omega) (by omega) hB6.out.size ?_;intro A7 c7 w7 own7 g7 _;have hB7:=hide (hB6.out.trans (below_grown O6.out g7 (Nat.le_refl _) hB6.out.size));have O7:=hide own7;have N7:=hide (u_tail (Sl.below HOW.out hB7.out) hkio);clear own7 g7 O6 N6 hB6 hB5;(go_wp2_with (at_builtin;refine stopAt ?_);refine stopGo ?_);refine wpList_append_sl _ rfl (.tmp 63) (.tmp 66) _ rfl W.heap.size 43 ie _ 1 8 Tryz.underlying24 hie hze he1 he2 rfl (by omega) (.slice A7 (k + 1) c7) (k + 1) _ rfl O7.out [] _ (i - k) _ _ rfl N7.out ints_one (by simp only [maxLen];omega) (by omega) hB7.out.size ?_;intro A9 c9 w9 own9 g9 _;have hB9:=hB7.out.trans (below_grown O7.out g9 (Nat.le_refl _) hB7.out.size);have hlen:k + 1 + (i - k)=i + 1:=(by omega);rw [hlen,show (ints .u64 (o.take k) ++ ints .u64 [x]) ++ ints .u64 (o.drop k)=ints .u64 (insA o x) by rw [HI2.out];simp [ints]] at own9;rw [hlen];have O9:=hide (Sl.of_own own9 (M:=Kb) (fun kk hkk=>Nat.lt_of_lt_of_le (HKB.out kk hkk) hbW.size));have hb9:=hbW.trans (hB9.mono hbW.size);clear own9 g9 O7 N7 hB7 HOW hlen);have HB9:=hide (HBW.out.trans (hB9.mono HBW.out.size));go_wp2_with (fail);exact ⟨⟨q + 1,i + 1,A9,c9,by omega,by go_num,rfl,HI9,hb9,HB9,hide (by rw [HT9.out];exact O9.out)⟩,by simp [intOf];omega⟩))))))
        · have HE:=hide (show nearK (ps.take (q + 1)) a=nearK (ps.take q) a by rw [HT.out,if_neg h0,if_neg h1,List.append_nil])
          have d0:(p0 != a)=true:=by simpa using h0
          have d1:(p1 != a)=true:=by simpa using h1
          clear HT
          go_wp2_with (fail)
          exact ⟨⟨q + 1,i,Ao,co,by omega,by go_num,rfl,hide (by rw [HE.out];exact HI.out),hb1,HB1,hide (by rw [HE.out];exact HO1.out)⟩,by simp [intOf];omega⟩
    · obtain rfl:q=b:=by omega
      have HE:=hide (show ps.take q=ps from List.take_of_length_le (by rw [HL.out];exact Nat.le_refl _))
      rw [HE.out] at HI HO
      have HI2:=hide HI.out.symm
      go_wp2_with (fail)
      go_ret
      exact ⟨Ao,co,by rw [HI2.out];rfl,by rw [HI2.out];exact HO.out,hbr⟩
end
end Go.Proofs.YtppblcbgkadldaaGreatDoor
namespace Go.Proofs.YtppblcbgkadldaaGreatDoor
open Go Go.RowKit
set_option maxRecDepth 100000
structure RI (ps:List (Int × Int)) (a:Int) (l:List Int) (i:Nat):Prop where
  nd:l.Nodup
  st:a ∈ l
  rk:∀ b ∈ l,RK ps a b
  cl:∀ (j:Nat) (h:j < l.length),j < i → ∀ c ∈ nearK ps l[j],c ∈ l
structure RJ (ps:List (Int × Int)) (a:Int) (l:List Int) (i:Nat) (x:Int) (ns:List Int) (k:Nat):Prop where
  nd:l.Nodup
  st:a ∈ l
  rk:∀ b ∈ l,RK ps a b
  cl:∀ (j:Nat) (h:j < l.length),j < i → ∀ c ∈ nearK ps l[j],c ∈ l
  at_:l[i]? = some x
  np:ns.Perm (nearK ps x)
  mid:∀ (j:Nat) (h:j < ns.length),j < k → ns[j] ∈ l
section
variable {ps:List (Int × Int)} {a x:Int} {l ns:List Int} {i k:Nat}
theorem ri_start (ps:List (Int × Int)) (a:Int):RI ps a [a] 0:=⟨by simp,by simp,fun b hb=>by rw [List.mem_singleton.1 hb];exact .refl,fun j _ h=>by omega⟩
theorem rj_start (h:RI ps a l i) (hi:i < l.length) (hn:ns.Perm (nearK ps l[i])):RJ ps a l i l[i] ns 0:=⟨h.nd,h.st,h.rk,h.cl,List.getElem?_eq_getElem hi,hn,fun j _ h=>by omega⟩
theorem rj_skip (h:RJ ps a l i x ns k) (hk:k < ns.length) (hm:ns[k] ∈ l):RJ ps a l i x ns (k + 1):=
  ⟨h.nd,h.st,h.rk,h.cl,h.at_,h.np,fun j hj h2=>by
    by_cases e:j=k
    · subst e;exact hm
    · exact h.mid j hj (by omega)⟩
theorem rj_add (h:RJ ps a l i x ns k) (hk:k < ns.length) (hm:ns[k] ∉ l):RJ ps a (l ++ [ns[k]]) i x ns (k + 1):=by
  have hi:i < l.length:=by
    rcases Nat.lt_or_ge i l.length with h1 | h1
    · exact h1
    · have:=h.at_;rw [List.getElem?_eq_none h1] at this;cases this
  have hx:x ∈ l:=by
    have:=h.at_
    rw [List.getElem?_eq_getElem hi] at this
    injection this with this
    rw [← this];exact List.getElem_mem hi
  refine ⟨?_,List.mem_append_left _ h.st,fun b hb=>?_,fun j hj h2 c hc=>?_,?_,h.np,fun j hj h2=>?_⟩
  · rw [List.nodup_append]
    refine ⟨h.nd,by simp,fun b hb c hc=>?_⟩
    rw [List.mem_singleton.1 hc]
    rintro rfl
    exact hm hb
  · rcases List.mem_append.1 hb with hb | hb
    · exact h.rk b hb
    · rw [List.mem_singleton.1 hb]
      exact .step (h.rk x hx) (h.np.mem_iff.1 (List.getElem_mem hk))
  · have hjl:j < l.length:=by omega
    rw [List.getElem_append_left hjl] at hc
    exact List.mem_append_left _ (h.cl j hjl h2 c hc)
  · rw [List.getElem?_append_left hi];exact h.at_
  · by_cases e:j=k
    · subst e;simp
    · exact List.mem_append_left _ (h.mid j hj (by omega))
theorem rj_end (h:RJ ps a l i x ns ns.length):RI ps a l (i + 1):=by
  refine ⟨h.nd,h.st,h.rk,fun j hj h2 c hc=>?_⟩
  by_cases e:j=i
  · subst e
    have:=h.at_
    rw [List.getElem?_eq_getElem hj] at this
    injection this with this
    rw [this] at hc
    obtain ⟨q,hq,rfl⟩:=List.getElem_of_mem (h.np.mem_iff.2 hc)
    exact h.mid q hq hq
  · exact h.cl j hj (by omega) c hc
theorem ri_end (h:RI ps a l l.length) (b:Int):b ∈ l ↔ RK ps a b:=by
  constructor
  · exact h.rk b
  · intro hr
    induction hr with
    | refl=>exact h.st
    | step _ hc ih =>
      obtain ⟨j,hj,rfl⟩:=List.getElem_of_mem ih
      exact h.cl j hj hj _ hc
def endsK (ps:List (Int × Int)):List Int:=ps.flatMap fun p=>[p.1,p.2]
theorem endsK_len (ps:List (Int × Int)):(endsK ps).length=2 * ps.length:=by
  unfold endsK
  induction ps with
  | nil=>rfl
  | cons p ps ih=>rw [List.flatMap_cons,List.length_append,ih,List.length_cons];simp;omega
theorem rk_ends {b:Int} (h:RK ps a b):b ∈ a :: endsK ps:=by
  cases h with
  | refl=>simp
  | step _ hc =>
    rw [mem_nearK] at hc
    obtain ⟨p,hp,h⟩:=hc
    refine List.mem_cons_of_mem _ (List.mem_flatMap.2 ⟨p,hp,?_⟩)
    rcases h with ⟨_,rfl⟩ | ⟨_,_,rfl⟩ <;> simp
theorem rk_len (hn:l.Nodup) (hr:∀ b ∈ l,RK ps a b):l.length ≤ 2 * ps.length + 1:=by
  have h1:=List.Nodup.length_le_of_subset hn (fun b hb=>rk_ends (hr b hb))
  rw [List.length_cons,endsK_len] at h1
  exact h1
theorem idxK_mem {l:List Int} {x:Int}:0 ≤ idxP (keyP x) l ↔ x ∈ l:=by
  rw [idxP_pos]
  constructor
  · rintro ⟨y,hy,h⟩
    have:y=x:=by simpa [keyP] using h
    rwa [← this]
  · intro h
    exact ⟨x,h,by simp [keyP]⟩
end
end Go.Proofs.YtppblcbgkadldaaGreatDoor
