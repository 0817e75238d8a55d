/-
  A part of the proof that the law TopForest returns true for every input and leaves its arguments as they were: Add, Remove.
-/
import Derived.Test.YtppblcbgkadldaaGreatDoorZ00
import Derived.Test.YtppblcbgkadldaaGreatDoorZ07
import Derived.Test.YtppblcbgkadldaaGreatDoorZ08
import Derived.Test.YtppblcbgkadldaaGreatDoorZ15
set_option linter.all false
namespace Go.Proofs.YtppblcbgkadldaaGreatDoor
open Go Go.RowKit
set_option maxRecDepth 100000
attribute [local go_sem] Heavy heavyUpon
attribute [local go_sem ↓] esl_hi esl_lo
theorem add_call (W:World) (l:List E3) (A:Option Addr) (m c k:Nat) (p q t:Int) (hS:ESl W [] A m c l) (hk:k ≤ m) (hm:m ≤ 4096) :
    Calls Tryz.prog 120 #[.slice (some ⟨W.heap.size + 1,0,none⟩) 3 3] ((W.alloc (.cells #[.int .i64 p,.int .i64 q,.int .i64 t] 104)).alloc (.cells #[.slice A k c,.slice (some ⟨W.heap.size,0,none⟩) 1 1,.slice (cutA A c k 3) (m - k) (c - k)] 28))
      fun e w'=>∃ R d,e=.returned (.slice R (m + 1) d) ∧ ESl w' [] R (m + 1) d (l.take k ++ (p,q,t) :: l.drop k) ∧ Below ((W.alloc (.cells #[.int .i64 p,.int .i64 q,.int .i64 t] 104)).alloc (.cells #[.slice A k c,.slice (some ⟨W.heap.size,0,none⟩) 1 1,.slice (cutA A c k 3) (m - k) (c - k)] 28)).heap.size ((W.alloc (.cells #[.int .i64 p,.int .i64 q,.int .i64 t] 104)).alloc (.cells #[.slice A k c,.slice (some ⟨W.heap.size,0,none⟩) 1 1,.slice (cutA A c k 3) (m - k) (c - k)] 28)) w':=by
  have hl:=hS.length
  have S1:=(e1_new W p q t).alloc (.cells #[.slice A k c,.slice (some ⟨W.heap.size,0,none⟩) 1 1,.slice (cutA A c k 3) (m - k) (c - k)] 28)
  have hb:=Blk.new (W.alloc (.cells #[.int .i64 p,.int .i64 q,.int .i64 t] 104)) 28 #[.slice A k c,.slice (some ⟨W.heap.size,0,none⟩) 1 1,.slice (cutA A c k 3) (m - k) (c - k)]
  rw [heap_alloc_size] at hb
  have S0:=(hS.alloc (.cells #[.int .i64 p,.int .i64 q,.int .i64 t] 104)).alloc (.cells #[.slice A k c,.slice (some ⟨W.heap.size,0,none⟩) 1 1,.slice (cutA A c k 3) (m - k) (c - k)] 28)
  generalize ((W.alloc (.cells #[.int .i64 p,.int .i64 q,.int .i64 t] 104)).alloc (.cells #[.slice A k c,.slice (some ⟨W.heap.size,0,none⟩) 1 1,.slice (cutA A c k 3) (m - k) (c - k)] 28))=W2 at *
  have hP:=concatE_ok [(A,k,c,ecells (l.take k)),(some ⟨W.heap.size,0,none⟩,1,1,ecells [(p,q,t)]),(cutA A c k 3,m - k,c - k,ecells (l.drop k))] [] (some ⟨W.heap.size + 1,0,none⟩) 3 3 W2
    (Sl.of_blk hb rfl (fun x hx=>by match x,hx with | 0,_ | 1,_ | 2,_=>rfl) (by simp) (by unfold maxLen;omega))
    (by
      intro x hx
      simp only [List.mem_cons,List.not_mem_nil,or_false] at hx
      rcases hx with rfl | rfl | rfl
      · exact ⟨p_head S0 hk,ecells_one⟩
      · exact ⟨S1,ecells_one⟩
      · exact ⟨p_tail S0 hk,ecells_one⟩)
    (by decide) (by simp [ptot];omega)
  have e1:ptot [(A,k,c,ecells (l.take k)),(some ⟨W.heap.size,0,none⟩,1,1,ecells [(p,q,t)]),(cutA A c k 3,m - k,c - k,ecells (l.drop k))]=m + 1:=by simp [ptot];omega
  have e2:pcat [(A,k,c,ecells (l.take k)),(some ⟨W.heap.size,0,none⟩,1,1,ecells [(p,q,t)]),(cutA A c k 3,m - k,c - k,ecells (l.drop k))]=ecells (l.take k ++ (p,q,t) :: l.drop k):=by
    rw [show l.take k ++ (p,q,t) :: l.drop k=l.take k ++ ([(p,q,t)] ++ l.drop k) from rfl,ecells_append,ecells_append]
    simp [pcat]
  rw [e1,e2] at hP
  exact hP
theorem insE_at {l:List E3} {x:E3} {k:Nat} (hk:k ≤ l.length) (h1:∀ (i:Nat) (h:i < l.length),i < k → ltE l[i] x=true) (h2:k=l.length ∨ ∃ h:k < l.length,ltE l[k] x=false):l.take k ++ x :: l.drop k=insE l x:=by
  obtain ⟨e1,e2⟩:=takeWhile_step (fun y=>ltE y x) l h1 hk h2
  unfold insE
  rw [e1,e2]
set_option maxHeartbeats 3200000 in
theorem add_ok (l:List E3) (n u v:Int) (A:Option Addr) (m c:Nat) (w:World) (hS:ESl w [] A m c l) (hm:m ≤ 4096) :
    Calls Tryz.prog 91 #[.int .i64 n,.slice A m c,.int .i64 u,.int .i64 v] w fun e w'=>∃ R d,e=.returned (.tuple #[.slice R (addE n l u v).1.length d,.int .i64 (addE n l u v).2]) ∧ ESl w' [] R (addE n l u v).1.length d (addE n l u v).1 ∧ Below w.heap.size w w':=by
  have qr:=fun W h=>tright_any l [] A n m c W h
  have qu:=fun W=>vertexT_any n u W
  have qv:=fun W=>vertexT_any n v W
  have qf:=fun W h=>nfind_any l u v [] A m c W h
  have HL:=hide hS.length
  unfold addE
  cases h1:rightE n l
  case false =>
    rw [h1] at qr
    have QR:=hide qr
    clear qr qu qv qf h1
    simp only [Bool.false_and,Bool.false_eq_true,if_false]
    (go_enter Tryz.func91,Tryz.ntmps91)
    (go_wp2_with (fail);refine (QR.out w hS).mono ?_;rintro e w1 ⟨rfl,b1⟩)
    (go_wp2_with (fail);refine bodyPost_ret (v:=.tuple #[.slice A m c,.int .i64 1]) (by simp [results,Tryz.results91,go_sem]) rfl ⟨A,c,by rw [HL.out],by rw [HL.out];exact hS.below b1,b1⟩)
  rw [h1] at qr
  have QR:=hide qr
  clear qr h1
  cases h2:inN n u
  case false =>
    rw [h2] at qu
    have QU:=hide qu
    clear qu qv qf h2
    simp only [Bool.true_and,Bool.false_and,Bool.false_eq_true,if_false]
    (go_enter Tryz.func91,Tryz.ntmps91)
    (go_wp2_with (fail);refine (QR.out w hS).mono ?_;rintro e w1 ⟨rfl,b1⟩)
    (go_wp2_with (fail);refine (QU.out w1).mono ?_;rintro e w2 ⟨rfl,b2⟩;have b12:=b1.trans (b2.mono b1.size);clear b1 b2)
    (go_wp2_with (fail);refine bodyPost_ret (v:=.tuple #[.slice A m c,.int .i64 1]) (by simp [results,Tryz.results91,go_sem]) rfl ⟨A,c,by rw [HL.out],by rw [HL.out];exact hS.below b12,b12⟩)
  rw [h2] at qu
  have QU:=hide qu
  clear qu h2
  cases h3:inN n v
  case false =>
    rw [h3] at qv
    have QV:=hide qv
    clear qv qf h3
    simp only [Bool.true_and,Bool.false_eq_true,if_false]
    (go_enter Tryz.func91,Tryz.ntmps91)
    (go_wp2_with (fail);refine (QR.out w hS).mono ?_;rintro e w1 ⟨rfl,b1⟩)
    (go_wp2_with (fail);refine (QU.out w1).mono ?_;rintro e w2 ⟨rfl,b2⟩;have b12:=b1.trans (b2.mono b1.size);clear b1 b2)
    (go_wp2_with (fail);refine (QV.out w2).mono ?_;rintro e w3 ⟨rfl,b3⟩;have b13:=b12.trans (b3.mono b12.size);clear b12 b3)
    (go_wp2_with (fail);refine bodyPost_ret (v:=.tuple #[.slice A m c,.int .i64 1]) (by simp [results,Tryz.results91,go_sem]) rfl ⟨A,c,by rw [HL.out],by rw [HL.out];exact hS.below b13,b13⟩)
  rw [h3] at qv
  have QV:=hide qv
  clear qv h3
  rw [if_pos (by rfl)]
  by_cases huv:u=v
  · have hd:(u == v)=true:=by simp [huv]
    rw [if_pos huv]
    clear huv qf
    (go_enter Tryz.func91,Tryz.ntmps91)
    (go_wp2_with (fail);refine (QR.out w hS).mono ?_;rintro e w1 ⟨rfl,b1⟩)
    (go_wp2_with (fail);refine (QU.out w1).mono ?_;rintro e w2 ⟨rfl,b2⟩;have b12:=b1.trans (b2.mono b1.size);clear b1 b2)
    (go_wp2_with (fail);refine (QV.out w2).mono ?_;rintro e w3 ⟨rfl,b3⟩;have b13:=b12.trans (b3.mono b12.size);clear b12 b3)
    (go_wp2_with (fail);refine bodyPost_ret (v:=.tuple #[.slice A m c,.int .i64 8]) (by simp [results,Tryz.results91,go_sem]) rfl ⟨A,c,by rw [HL.out],by rw [HL.out];exact hS.below b13,b13⟩)
  have hd:(u == v)=false:=by simp [huv]
  rw [if_neg huv]
  unfold placeT thereT at qf
  by_cases hfd:0 ≤ findI l u v 0
  · rw [if_pos hfd]
    rw [decide_eq_true hfd,if_pos hfd] at qf
    generalize findI l u v 0=F at *
    have QF:=hide qf
    clear qf hfd huv
    (go_enter Tryz.func91,Tryz.ntmps91)
    (go_wp2_with (fail);refine (QR.out w hS).mono ?_;rintro e w1 ⟨rfl,b1⟩)
    (go_wp2_with (fail);refine (QU.out w1).mono ?_;rintro e w2 ⟨rfl,b2⟩;have b12:=b1.trans (b2.mono b1.size);clear b1 b2)
    (go_wp2_with (fail);refine (QV.out w2).mono ?_;rintro e w3 ⟨rfl,b3⟩;have b13:=b12.trans (b3.mono b12.size);clear b12 b3)
    (go_wp2_with (fail);refine (QF.out w3 (hS.below b13)).mono ?_;rintro e w4 ⟨rfl,b4⟩;have b14:=b13.trans (b4.mono b13.size);clear b13 b4)
    (go_wp2_with (fail);refine bodyPost_ret (v:=.tuple #[.slice A m c,.int .i64 4]) (by simp [results,Tryz.results91,go_sem]) rfl ⟨A,c,by rw [HL.out],by rw [HL.out];exact hS.below b14,b14⟩)
  rw [if_neg hfd]
  rw [decide_eq_false hfd,if_neg hfd] at qf
  have QF:=hide qf
  have HNE:=hide huv
  clear qf hfd huv
  have hlu:u < v ∨ v < u:=by have:=HNE.out;omega
  rcases hlu with hlt | hlt
  · have HX:=hide (show edgeE u v 0=(u,v,0) by unfold edgeE;rw [if_pos hlt])
    ((go_enter Tryz.func91,Tryz.ntmps91);(go_wp2_with (fail);refine (QR.out w hS).mono ?_;rintro e w1 ⟨rfl,b1⟩);(go_wp2_with (fail);refine (QU.out w1).mono ?_;rintro e w2 ⟨rfl,b2⟩;have b12:=b1.trans (b2.mono b1.size);clear b1 b2);(go_wp2_with (fail);refine (QV.out w2).mono ?_;rintro e w3 ⟨rfl,b3⟩;have b13:=b12.trans (b3.mono b12.size);clear b12 b3);(go_wp2_with (fail);refine (QF.out w3 (hS.below b13)).mono ?_;rintro e w4 ⟨rfl,b4⟩;have b14:=b13.trans (b4.mono b13.size);clear b13 b4);go_wp2_with (fail);go_loopw [13] (fun i wr=>∃ k:Nat,k ≤ m ∧ i=.int .i64 k ∧ Below w.heap.size w wr ∧ Blk wr w4.heap.size 104 #[.int .i64 u,.int .i64 v,.int .i64 0] ∧ Hid (∀ (i:Nat) (h:i < l.length),i < k → ltE l[i] (u,v,0)=true)) (fun i _=>m - (intOf i).toNat);(case atStart=>exact ⟨0,Nat.zero_le _,rfl,b14.alloc b14.size _,Blk.new w4 104 #[.int .i64 u,.int .i64 v,.int .i64 0],hide (fun i h hi=>absurd hi (Nat.not_lt_zero _))⟩);(case round=>obtain ⟨k,hk,rfl,hbr,B0,HR⟩:=hrel;have Sr:ESl wr [] A m c l:=hS.below hbr;by_cases hlt2:k < m;(· have hx:k < l.length:=(by have:=HL.out;omega);obtain ⟨ad,hA,had,_,c0,c1,c2⟩:=Sr.get hx;subst hA;obtain ⟨x0,x1,x2⟩:=B0.facts;have hwk:(ad.add (k * 3)).block < wr.heap.size:=(by rw [block_of_add];exact had);have HXK:=hide (show ∀ y,l[k]=y → ltE y (u,v,0)=true → ∀ (i:Nat) (h:i < l.length),i < k + 1 → ltE l[i] (u,v,0)=true from fun y hy hl i h hi=>(by rcases Nat.lt_or_ge i k with h2 | h2;exact HR.out i h h2;obtain rfl:i=k:=(by omega);rw [hy];exact hl));have HXN:=hide (show ∀ y,l[k]=y → ltE y (u,v,0)=false → l.take k ++ (u,v,0) :: l.drop k=insE l (edgeE u v 0) from fun y hy hl=>(by rw [HX.out];exact insE_at (Nat.le_of_lt hx) HR.out (.inr ⟨hx,by rw [hy];exact hl⟩)));generalize hyy:l[k]=y at *;have HY:=hide hyy;clear hyy;obtain ⟨y0,y1,y2⟩:=y;simp only [] at c0 c1 c2;cases hl:ltE (y0,y1,y2) (u,v,0);(· have ql:∀ W,Calls Tryz.prog 96 #[.agg #[.int .i64 y0,.int .i64 y1,.int .i64 y2],.agg #[.int .i64 u,.int .i64 v,.int .i64 0]] W (Ret (.bool false) W):=fun W=>(by have:=less_any y0 y1 y2 u v 0 W;rwa [hl] at this);have HIN:=hide (HXN.out _ rfl hl);clear hl HXK HXN;go_wp2_with (fail);refine wp_region_lex [10] (fun w'=>Below (wr).heap.size (wr) w') (by kernel_rfl) (by kernel_rfl) (Below.refl _ _).drew ?_;(repeat ((with_reducible refine wpLex_step (fun K hK=>?_));go_simp;first | ((with_reducible refine hK _ _ ?_);clear hK K) | ((with_reducible apply Exists.intro);refine ⟨fun w' hw'=>?_,hK _ _ ?_⟩;(· (have hq:=bcells hw';apply valEq;(· (go_simp;first | done | (with_reducible rfl)));(· ((try go_bits);with_reducible rfl))));clear hK K)));((with_reducible refine wpLex_step (fun K hK=>?_));go_simp;refine (ql _).mono ?_;rintro e w5 ⟨rfl,hbx⟩;have g5:=((Below.refl wr.heap.size wr).drew).trans (hbx.mono ((Below.refl wr.heap.size wr).drew).size);refine ⟨_,rfl,g5,hK _ _ ?_⟩;clear hK K hbx);(repeat ((with_reducible refine wpLex_step (fun K hK=>?_));go_simp;first | ((with_reducible refine hK _ _ ?_);clear hK K) | ((with_reducible apply Exists.intro);refine ⟨fun w' hw'=>?_,hK _ _ ?_⟩;(· (have hq:=bcells hw';apply valEq;(· (go_simp;first | done | (with_reducible rfl)));(· ((try go_bits);with_reducible rfl))));clear hK K)));refine wpLex_nil (fun _=>?_);have hb5:=hbr.trans (g5.mono hbr.size);have B5:=B0.below g5 x2;clear c0 c1 c2 x0 x1 x2;(have hkc:k ≤ c:=Nat.le_trans hk hS.le;have hkc':(k:Int) ≤ (c:Int):=(by omega);have hkm':(k:Int) ≤ (m:Int):=(by omega);obtain ⟨x0,x1,x2⟩:=(B5).facts;have g6:=((Below.refl (w5).heap.size w5).drew.alloc (Nat.le_refl _) (.cells #[.int .i64 u,.int .i64 v,.int .i64 0] 104)).alloc (by simp) (.cells #[.slice (some ad) k c,.slice (some ⟨(w5).drew.heap.size,0,none⟩) 1 1,.slice (cutA (some ad) c k 3) (m - k) (c - k)] 28);go_wp2_with (fail);refine wp_region_lexD [4,8,9] (fun w'=>Below (w5).heap.size (w5) w') (by kernel_rfl) (by kernel_rfl) (Below.refl _ _).drew ?_;(repeat ((with_reducible refine wpLex_step (fun K hK=>?_));go_simp;first | ((with_reducible refine hK _ _ ?_);clear hK K) | ((with_reducible apply Exists.intro);refine ⟨fun w' hw'=>?_,hK _ _ ?_⟩;(· (have hq:=bcells hw';apply valEq;(· (go_simp;first | done | (with_reducible rfl)));(· ((try go_bits);with_reducible rfl))));clear hK K)));((with_reducible refine wpLex_step (fun K hK=>?_));go_simp;first | (refine hK _ _ ?_;clear hK K) | (refine ⟨?_,hK _ _ ?_⟩;(· (exact (Below.refl (w5).heap.size w5).drew.alloc (Nat.le_refl _) _));clear hK K));(repeat ((with_reducible refine wpLex_step (fun K hK=>?_));go_simp;first | ((with_reducible refine hK _ _ ?_);clear hK K) | ((with_reducible apply Exists.intro);refine ⟨fun w' hw'=>?_,hK _ _ ?_⟩;(· (have hq:=bcells hw';apply valEq;(· (go_simp;first | done | (with_reducible rfl)));(· ((try go_bits);with_reducible rfl))));clear hK K)));((with_reducible refine wpLex_step (fun K hK=>?_));go_simp;first | (refine hK _ _ ?_;clear hK K) | (refine ⟨?_,hK _ _ ?_⟩;(· (exact g6));clear hK K));((with_reducible refine wpLex_step (fun K hK=>?_));go_simp;refine (add_call (w5).drew l (some ad) m c k u v 0 (hS.below hb5).drew hk hm).mono ?_;rintro e w7 ⟨R5,d5,rfl,N5,hbx⟩;have g7:=(g6).trans (hbx.mono (g6).size);skip;refine ⟨_,rfl,g7,hK _ _ ?_⟩;clear hK K hbx);(repeat ((with_reducible refine wpLex_step (fun K hK=>?_));go_simp;first | ((with_reducible refine hK _ _ ?_);clear hK K) | ((with_reducible apply Exists.intro);refine ⟨fun w' hw'=>?_,hK _ _ ?_⟩;(· (have hq:=bcells hw';apply valEq;(· (go_simp;first | done | (with_reducible rfl)));(· ((try go_bits);with_reducible rfl))));clear hK K)));refine wpLex_nil (fun _=>?_);have hb7:=(hb5).trans (g7.mono (hb5).size);go_wp2_with (fail);refine bodyPost_ret (v:=.tuple #[.slice R5 (m + 1) d5,.int .i64 0]) (by simp [results,Tryz.results91,go_sem]) rfl ⟨R5,d5,by rw [insE_len,HL.out],by rw [insE_len,HL.out,← HIN.out];exact N5,hb7⟩));(· have ql:∀ W,Calls Tryz.prog 96 #[.agg #[.int .i64 y0,.int .i64 y1,.int .i64 y2],.agg #[.int .i64 u,.int .i64 v,.int .i64 0]] W (Ret (.bool true) W):=fun W=>(by have:=less_any y0 y1 y2 u v 0 W;rwa [hl] at this);have HF:=hide (HXK.out _ rfl hl);clear hl HXK HXN;go_wp2_with (fail);refine wp_region_lex [10] (fun w'=>Below (wr).heap.size (wr) w') (by kernel_rfl) (by kernel_rfl) (Below.refl _ _).drew ?_;(repeat ((with_reducible refine wpLex_step (fun K hK=>?_));go_simp;first | ((with_reducible refine hK _ _ ?_);clear hK K) | ((with_reducible apply Exists.intro);refine ⟨fun w' hw'=>?_,hK _ _ ?_⟩;(· (have hq:=bcells hw';apply valEq;(· (go_simp;first | done | (with_reducible rfl)));(· ((try go_bits);with_reducible rfl))));clear hK K)));((with_reducible refine wpLex_step (fun K hK=>?_));go_simp;refine (ql _).mono ?_;rintro e w5 ⟨rfl,hbx⟩;have g5:=((Below.refl wr.heap.size wr).drew).trans (hbx.mono ((Below.refl wr.heap.size wr).drew).size);refine ⟨_,rfl,g5,hK _ _ ?_⟩;clear hK K hbx);(repeat ((with_reducible refine wpLex_step (fun K hK=>?_));go_simp;first | ((with_reducible refine hK _ _ ?_);clear hK K) | ((with_reducible apply Exists.intro);refine ⟨fun w' hw'=>?_,hK _ _ ?_⟩;(· (have hq:=bcells hw';apply valEq;(· (go_simp;first | done | (with_reducible rfl)));(· ((try go_bits);with_reducible rfl))));clear hK K)));refine wpLex_nil (fun _=>?_);have hb5:=hbr.trans (g5.mono hbr.size);have B5:=B0.below g5 x2;go_wp2_with (fail);exact ⟨⟨k + 1,by omega,by go_num,hb5,B5,HF⟩,by simp [intOf];omega⟩));(· have HIN:=hide (show l.take k ++ (u,v,0) :: l.drop k=insE l (edgeE u v 0) by rw [HX.out];exact insE_at (by have:=HL.out;omega) HR.out (.inl (by have:=HL.out;omega)));obtain ⟨x0,x1,x2⟩:=B0.facts;go_wp2_with (fail);refine wp_region_lex [10] (fun w'=>Below (wr).heap.size (wr) w') (by kernel_rfl) (by kernel_rfl) (Below.refl _ _).drew ?_;(repeat ((with_reducible refine wpLex_step (fun K hK=>?_));go_simp;first | ((with_reducible refine hK _ _ ?_);clear hK K) | ((with_reducible apply Exists.intro);refine ⟨fun w' hw'=>?_,hK _ _ ?_⟩;(· (have hq:=bcells hw';apply valEq;(· (go_simp;first | done | (with_reducible rfl)));(· ((try go_bits);with_reducible rfl))));clear hK K)));refine wpLex_nil (fun _=>?_);have hb5:=hbr.drew;have B5:=B0.drew;clear x0 x1 x2;generalize wr.drew=w5 at *;(have hkc:k ≤ c:=Nat.le_trans hk hS.le;have hkc':(k:Int) ≤ (c:Int):=(by omega);have hkm':(k:Int) ≤ (m:Int):=(by omega);obtain ⟨x0,x1,x2⟩:=(B5).facts;have g6:=((Below.refl (w5).heap.size w5).drew.alloc (Nat.le_refl _) (.cells #[.int .i64 u,.int .i64 v,.int .i64 0] 104)).alloc (by simp) (.cells #[.slice A k c,.slice (some ⟨(w5).drew.heap.size,0,none⟩) 1 1,.slice (cutA A c k 3) (m - k) (c - k)] 28);go_wp2_with (fail);refine wp_region_lexD [4,8,9] (fun w'=>Below (w5).heap.size (w5) w') (by kernel_rfl) (by kernel_rfl) (Below.refl _ _).drew ?_;(repeat ((with_reducible refine wpLex_step (fun K hK=>?_));go_simp;first | ((with_reducible refine hK _ _ ?_);clear hK K) | ((with_reducible apply Exists.intro);refine ⟨fun w' hw'=>?_,hK _ _ ?_⟩;(· (have hq:=bcells hw';apply valEq;(· (go_simp;first | done | (with_reducible rfl)));(· ((try go_bits);with_reducible rfl))));clear hK K)));((with_reducible refine wpLex_step (fun K hK=>?_));go_simp;first | (refine hK _ _ ?_;clear hK K) | (refine ⟨?_,hK _ _ ?_⟩;(· (exact (Below.refl (w5).heap.size w5).drew.alloc (Nat.le_refl _) _));clear hK K));(repeat ((with_reducible refine wpLex_step (fun K hK=>?_));go_simp;first | ((with_reducible refine hK _ _ ?_);clear hK K) | ((with_reducible apply Exists.intro);refine ⟨fun w' hw'=>?_,hK _ _ ?_⟩;(· (have hq:=bcells hw';apply valEq;(· (go_simp;first | done | (with_reducible rfl)));(· ((try go_bits);with_reducible rfl))));clear hK K)));((with_reducible refine wpLex_step (fun K hK=>?_));go_simp;first | (refine hK _ _ ?_;clear hK K) | (refine ⟨?_,hK _ _ ?_⟩;(· (exact g6));clear hK K));((with_reducible refine wpLex_step (fun K hK=>?_));go_simp;refine (add_call (w5).drew l A m c k u v 0 (hS.below hb5).drew hk hm).mono ?_;rintro e w7 ⟨R5,d5,rfl,N5,hbx⟩;have g7:=(g6).trans (hbx.mono (g6).size);skip;refine ⟨_,rfl,g7,hK _ _ ?_⟩;clear hK K hbx);(repeat ((with_reducible refine wpLex_step (fun K hK=>?_));go_simp;first | ((with_reducible refine hK _ _ ?_);clear hK K) | ((with_reducible apply Exists.intro);refine ⟨fun w' hw'=>?_,hK _ _ ?_⟩;(· (have hq:=bcells hw';apply valEq;(· (go_simp;first | done | (with_reducible rfl)));(· ((try go_bits);with_reducible rfl))));clear hK K)));refine wpLex_nil (fun _=>?_);have hb7:=(hb5).trans (g7.mono (hb5).size);go_wp2_with (fail);refine bodyPost_ret (v:=.tuple #[.slice R5 (m + 1) d5,.int .i64 0]) (by simp [results,Tryz.results91,go_sem]) rfl ⟨R5,d5,by rw [insE_len,HL.out],by rw [insE_len,HL.out,← HIN.out];exact N5,hb7⟩))))
  · have HX:=hide (show edgeE u v 0=(v,u,0) by unfold edgeE;rw [if_neg (by omega)])
    ((go_enter Tryz.func91,Tryz.ntmps91);(go_wp2_with (fail);refine (QR.out w hS).mono ?_;rintro e w1 ⟨rfl,b1⟩);(go_wp2_with (fail);refine (QU.out w1).mono ?_;rintro e w2 ⟨rfl,b2⟩;have b12:=b1.trans (b2.mono b1.size);clear b1 b2);(go_wp2_with (fail);refine (QV.out w2).mono ?_;rintro e w3 ⟨rfl,b3⟩;have b13:=b12.trans (b3.mono b12.size);clear b12 b3);(go_wp2_with (fail);refine (QF.out w3 (hS.below b13)).mono ?_;rintro e w4 ⟨rfl,b4⟩;have b14:=b13.trans (b4.mono b13.size);clear b13 b4);go_wp2_with (fail);go_loopw [13] (fun i wr=>∃ k:Nat,k ≤ m ∧ i=.int .i64 k ∧ Below w.heap.size w wr ∧ Blk wr w4.heap.size 104 #[.int .i64 v,.int .i64 u,.int .i64 0] ∧ Hid (∀ (i:Nat) (h:i < l.length),i < k → ltE l[i] (v,u,0)=true)) (fun i _=>m - (intOf i).toNat);(case atStart=>exact ⟨0,Nat.zero_le _,rfl,b14.alloc b14.size _,Blk.new w4 104 #[.int .i64 v,.int .i64 u,.int .i64 0],hide (fun i h hi=>absurd hi (Nat.not_lt_zero _))⟩);(case round=>obtain ⟨k,hk,rfl,hbr,B0,HR⟩:=hrel;have Sr:ESl wr [] A m c l:=hS.below hbr;by_cases hlt2:k < m;(· have hx:k < l.length:=(by have:=HL.out;omega);obtain ⟨ad,hA,had,_,c0,c1,c2⟩:=Sr.get hx;subst hA;obtain ⟨x0,x1,x2⟩:=B0.facts;have hwk:(ad.add (k * 3)).block < wr.heap.size:=(by rw [block_of_add];exact had);have HXK:=hide (show ∀ y,l[k]=y → ltE y (v,u,0)=true → ∀ (i:Nat) (h:i < l.length),i < k + 1 → ltE l[i] (v,u,0)=true from fun y hy hl i h hi=>(by rcases Nat.lt_or_ge i k with h2 | h2;exact HR.out i h h2;obtain rfl:i=k:=(by omega);rw [hy];exact hl));have HXN:=hide (show ∀ y,l[k]=y → ltE y (v,u,0)=false → l.take k ++ (v,u,0) :: l.drop k=insE l (edgeE u v 0) from fun y hy hl=>(by rw [HX.out];exact insE_at (Nat.le_of_lt hx) HR.out (.inr ⟨hx,by rw [hy];exact hl⟩)));generalize hyy:l[k]=y at *;have HY:=hide hyy;clear hyy;obtain ⟨y0,y1,y2⟩:=y;simp only [] at c0 c1 c2;cases hl:ltE (y0,y1,y2) (v,u,0);(· have ql:∀ W,Calls Tryz.prog 96 #[.agg #[.int .i64 y0,.int .i64 y1,.int .i64 y2],.agg #[.int .i64 v,.int .i64 u,.int .i64 0]] W (Ret (.bool false) W):=fun W=>(by have:=less_any y0 y1 y2 v u 0 W;rwa [hl] at this);have HIN:=hide (HXN.out _ rfl hl);clear hl HXK HXN;go_wp2_with (fail);refine wp_region_lex [10] (fun w'=>Below (wr).heap.size (wr) w') (by kernel_rfl) (by kernel_rfl) (Below.refl _ _).drew ?_;(repeat ((with_reducible refine wpLex_step (fun K hK=>?_));go_simp;first | ((with_reducible refine hK _ _ ?_);clear hK K) | ((with_reducible apply Exists.intro);refine ⟨fun w' hw'=>?_,hK _ _ ?_⟩;(· (have hq:=bcells hw';apply valEq;(· (go_simp;first | done | (with_reducible rfl)));(· ((try go_bits);with_reducible rfl))));clear hK K)));((with_reducible refine wpLex_step (fun K hK=>?_));go_simp;refine (ql _).mono ?_;rintro e w5 ⟨rfl,hbx⟩;have g5:=((Below.refl wr.heap.size wr).drew).trans (hbx.mono ((Below.refl wr.heap.size wr).drew).size);refine ⟨_,rfl,g5,hK _ _ ?_⟩;clear hK K hbx);(repeat ((with_reducible refine wpLex_step (fun K hK=>?_));go_simp;first | ((with_reducible refine hK _ _ ?_);clear hK K) | ((with_reducible apply Exists.intro);refine ⟨fun w' hw'=>?_,hK _ _ ?_⟩;(· (have hq:=bcells hw';apply valEq;(· (go_simp;first | done | (with_reducible rfl)));(· ((try go_bits);with_reducible rfl))));clear hK K)));refine wpLex_nil (fun _=>?_);have hb5:=hbr.trans (g5.mono hbr.size);have B5:=B0.below g5 x2;clear c0 c1 c2 x0 x1 x2;(have hkc:k ≤ c:=Nat.le_trans hk hS.le;have hkc':(k:Int) ≤ (c:Int):=(by omega);have hkm':(k:Int) ≤ (m:Int):=(by omega);obtain ⟨x0,x1,x2⟩:=(B5).facts;have g6:=((Below.refl (w5).heap.size w5).drew.alloc (Nat.le_refl _) (.cells #[.int .i64 v,.int .i64 u,.int .i64 0] 104)).alloc (by simp) (.cells #[.slice (some ad) k c,.slice (some ⟨(w5).drew.heap.size,0,none⟩) 1 1,.slice (cutA (some ad) c k 3) (m - k) (c - k)] 28);go_wp2_with (fail);refine wp_region_lexD [4,8,9] (fun w'=>Below (w5).heap.size (w5) w') (by kernel_rfl) (by kernel_rfl) (Below.refl _ _).drew ?_;(repeat ((with_reducible refine wpLex_step (fun K hK=>?_));go_simp;first | ((with_reducible refine hK _ _ ?_);clear hK K) | ((with_reducible apply Exists.intro);refine ⟨fun w' hw'=>?_,hK _ _ ?_⟩;(· (have hq:=bcells hw';apply valEq;(· (go_simp;first | done | (with_reducible rfl)));(· ((try go_bits);with_reducible rfl))));clear hK K)));((with_reducible refine wpLex_step (fun K hK=>?_));go_simp;first | (refine hK _ _ ?_;clear hK K) | (refine ⟨?_,hK _ _ ?_⟩;(· (exact (Below.refl (w5).heap.size w5).drew.alloc (Nat.le_refl _) _));clear hK K));(repeat ((with_reducible refine wpLex_step (fun K hK=>?_));go_simp;first | ((with_reducible refine hK _ _ ?_);clear hK K) | ((with_reducible apply Exists.intro);refine ⟨fun w' hw'=>?_,hK _ _ ?_⟩;(· (have hq:=bcells hw';apply valEq;(· (go_simp;first | done | (with_reducible rfl)));(· ((try go_bits);with_reducible rfl))));clear hK K)));((with_reducible refine wpLex_step (fun K hK=>?_));go_simp;first | (refine hK _ _ ?_;clear hK K) | (refine ⟨?_,hK _ _ ?_⟩;(· (exact g6));clear hK K));((with_reducible refine wpLex_step (fun K hK=>?_));go_simp;refine (add_call (w5).drew l (some ad) m c k v u 0 (hS.below hb5).drew hk hm).mono ?_;rintro e w7 ⟨R5,d5,rfl,N5,hbx⟩;have g7:=(g6).trans (hbx.mono (g6).size);skip;refine ⟨_,rfl,g7,hK _ _ ?_⟩;clear hK K hbx);(repeat ((with_reducible refine wpLex_step (fun K hK=>?_));go_simp;first | ((with_reducible refine hK _ _ ?_);clear hK K) | ((with_reducible apply Exists.intro);refine ⟨fun w' hw'=>?_,hK _ _ ?_⟩;(· (have hq:=bcells hw';apply valEq;(· (go_simp;first | done | (with_reducible rfl)));(· ((try go_bits);with_reducible rfl))));clear hK K)));refine wpLex_nil (fun _=>?_);have hb7:=(hb5).trans (g7.mono (hb5).size);go_wp2_with (fail);refine bodyPost_ret (v:=.tuple #[.slice R5 (m + 1) d5,.int .i64 0]) (by simp [results,Tryz.results91,go_sem]) rfl ⟨R5,d5,by rw [insE_len,HL.out],by rw [insE_len,HL.out,← HIN.out];exact N5,hb7⟩));(· have ql:∀ W,Calls Tryz.prog 96 #[.agg #[.int .i64 y0,.int .i64 y1,.int .i64 y2],.agg #[.int .i64 v,.int .i64 u,.int .i64 0]] W (Ret (.bool true) W):=fun W=>(by have:=less_any y0 y1 y2 v u 0 W;rwa [hl] at this);have HF:=hide (HXK.out _ rfl hl);clear hl HXK HXN;go_wp2_with (fail);refine wp_region_lex [10] (fun w'=>Below (wr).heap.size (wr) w') (by kernel_rfl) (by kernel_rfl) (Below.refl _ _).drew ?_;(repeat ((with_reducible refine wpLex_step (fun K hK=>?_));go_simp;first | ((with_reducible refine hK _ _ ?_);clear hK K) | ((with_reducible apply Exists.intro);refine ⟨fun w' hw'=>?_,hK _ _ ?_⟩;(· (have hq:=bcells hw';apply valEq;(· (go_simp;first | done | (with_reducible rfl)));(· ((try go_bits);with_reducible rfl))));clear hK K)));((with_reducible refine wpLex_step (fun K hK=>?_));go_simp;refine (ql _).mono ?_;rintro e w5 ⟨rfl,hbx⟩;have g5:=((Below.refl wr.heap.size wr).drew).trans (hbx.mono ((Below.refl wr.heap.size wr).drew).size);refine ⟨_,rfl,g5,hK _ _ ?_⟩;clear hK K hbx);(repeat ((with_reducible refine wpLex_step (fun K hK=>?_));go_simp;first | ((with_reducible refine hK _ _ ?_);clear hK K) | ((with_reducible apply Exists.intro);refine ⟨fun w' hw'=>?_,hK _ _ ?_⟩;(· (have hq:=bcells hw';apply valEq;(· (go_simp;first | done | (with_reducible rfl)));(· ((try go_bits);with_reducible rfl))));clear hK K)));refine wpLex_nil (fun _=>?_);have hb5:=hbr.trans (g5.mono hbr.size);have B5:=B0.below g5 x2;go_wp2_with (fail);exact ⟨⟨k + 1,by omega,by go_num,hb5,B5,HF⟩,by simp [intOf];omega⟩));(· have HIN:=hide (show l.take k ++ (v,u,0) :: l.drop k=insE l (edgeE u v 0) by rw [HX.out];exact insE_at (by have:=HL.out;omega) HR.out (.inl (by have:=HL.out;omega)));obtain ⟨x0,x1,x2⟩:=B0.facts;go_wp2_with (fail);refine wp_region_lex [10] (fun w'=>Below (wr).heap.size (wr) w') (by kernel_rfl) (by kernel_rfl) (Below.refl _ _).drew ?_;(repeat ((with_reducible refine wpLex_step (fun K hK=>?_));go_simp;first | ((with_reducible refine hK _ _ ?_);clear hK K) | ((with_reducible apply Exists.intro);refine ⟨fun w' hw'=>?_,hK _ _ ?_⟩;(· (have hq:=bcells hw';apply valEq;(· (go_simp;first | done | (with_reducible rfl)));(· ((try go_bits);with_reducible rfl))));clear hK K)));refine wpLex_nil (fun _=>?_);have hb5:=hbr.drew;have B5:=B0.drew;clear x0 x1 x2;generalize wr.drew=w5 at *;(have hkc:k ≤ c:=Nat.le_trans hk hS.le;have hkc':(k:Int) ≤ (c:Int):=(by omega);have hkm':(k:Int) ≤ (m:Int):=(by omega);obtain ⟨x0,x1,x2⟩:=(B5).facts;have g6:=((Below.refl (w5).heap.size w5).drew.alloc (Nat.le_refl _) (.cells #[.int .i64 v,.int .i64 u,.int .i64 0] 104)).alloc (by simp) (.cells #[.slice A k c,.slice (some ⟨(w5).drew.heap.size,0,none⟩) 1 1,.slice (cutA A c k 3) (m - k) (c - k)] 28);go_wp2_with (fail);refine wp_region_lexD [4,8,9] (fun w'=>Below (w5).heap.size (w5) w') (by kernel_rfl) (by kernel_rfl) (Below.refl _ _).drew ?_;(repeat ((with_reducible refine wpLex_step (fun K hK=>?_));go_simp;first | ((with_reducible refine hK _ _ ?_);clear hK K) | ((with_reducible apply Exists.intro);refine ⟨fun w' hw'=>?_,hK _ _ ?_⟩;(· (have hq:=bcells hw';apply valEq;(· (go_simp;first | done | (with_reducible rfl)));(· ((try go_bits);with_reducible rfl))));clear hK K)));((with_reducible refine wpLex_step (fun K hK=>?_));go_simp;first | (refine hK _ _ ?_;clear hK K) | (refine ⟨?_,hK _ _ ?_⟩;(· (exact (Below.refl (w5).heap.size w5).drew.alloc (Nat.le_refl _) _));clear hK K));(repeat ((with_reducible refine wpLex_step (fun K hK=>?_));go_simp;first | ((with_reducible refine hK _ _ ?_);clear hK K) | ((with_reducible apply Exists.intro);refine ⟨fun w' hw'=>?_,hK _ _ ?_⟩;(· (have hq:=bcells hw';apply valEq;(· (go_simp;first | done | (with_reducible rfl)));(· ((try go_bits);with_reducible rfl))));clear hK K)));((with_reducible refine wpLex_step (fun K hK=>?_));go_simp;first | (refine hK _ _ ?_;clear hK K) | (refine ⟨?_,hK _ _ ?_⟩;(· (exact g6));clear hK K));((with_reducible refine wpLex_step (fun K hK=>?_));go_simp;refine (add_call (w5).drew l A m c k v u 0 (hS.below hb5).drew hk hm).mono ?_;rintro e w7 ⟨R5,d5,rfl,N5,hbx⟩;have g7:=(g6).trans (hbx.mono (g6).size);skip;refine ⟨_,rfl,g7,hK _ _ ?_⟩;clear hK K hbx);(repeat ((with_reducible refine wpLex_step (fun K hK=>?_));go_simp;first | ((with_reducible refine hK _ _ ?_);clear hK K) | ((with_reducible apply Exists.intro);refine ⟨fun w' hw'=>?_,hK _ _ ?_⟩;(· (have hq:=bcells hw';apply valEq;(· (go_simp;first | done | (with_reducible rfl)));(· ((try go_bits);with_reducible rfl))));clear hK K)));refine wpLex_nil (fun _=>?_);have hb7:=(hb5).trans (g7.mono (hb5).size);go_wp2_with (fail);refine bodyPost_ret (v:=.tuple #[.slice R5 (m + 1) d5,.int .i64 0]) (by simp [results,Tryz.results91,go_sem]) rfl ⟨R5,d5,by rw [insE_len,HL.out],by rw [insE_len,HL.out,← HIN.out];exact N5,hb7⟩))))
end Go.Proofs.YtppblcbgkadldaaGreatDoor
namespace Go.Proofs.YtppblcbgkadldaaGreatDoor
open Go Go.RowKit
set_option maxRecDepth 100000
attribute [local go_sem] Heavy heavyUpon
attribute [local go_sem ↓] esl_hi esl_lo
theorem rem_call (W:World) (l:List E3) (A:Option Addr) (m c k:Nat) (hS:ESl W [] A m c l) (hk:k < m) (hm:m ≤ 4096) :
    Calls Tryz.prog 120 #[.slice (some ⟨W.heap.size,0,none⟩) 2 2] (W.alloc (.cells #[.slice A k c,.slice (cutA A c (k + 1) 3) (m - (k + 1)) (c - (k + 1))] 28))
      fun e w'=>∃ R d,e=.returned (.slice R (m - 1) d) ∧ ESl w' [] R (m - 1) d (l.take k ++ l.drop (k + 1)) ∧ Below (W.alloc (.cells #[.slice A k c,.slice (cutA A c (k + 1) 3) (m - (k + 1)) (c - (k + 1))] 28)).heap.size (W.alloc (.cells #[.slice A k c,.slice (cutA A c (k + 1) 3) (m - (k + 1)) (c - (k + 1))] 28)) w':=by
  have hl:=hS.length
  have hb:=Blk.new W 28 #[.slice A k c,.slice (cutA A c (k + 1) 3) (m - (k + 1)) (c - (k + 1))]
  have S0:=hS.alloc (.cells #[.slice A k c,.slice (cutA A c (k + 1) 3) (m - (k + 1)) (c - (k + 1))] 28)
  generalize (W.alloc (.cells #[.slice A k c,.slice (cutA A c (k + 1) 3) (m - (k + 1)) (c - (k + 1))] 28))=W2 at *
  have hP:=concatE_ok [(A,k,c,ecells (l.take k)),(cutA A c (k + 1) 3,m - (k + 1),c - (k + 1),ecells (l.drop (k + 1)))] [] (some ⟨W.heap.size,0,none⟩) 2 2 W2
    (Sl.of_blk hb rfl (fun x hx=>by match x,hx with | 0,_ | 1,_=>rfl) (by simp) (by unfold maxLen;omega))
    (by
      intro x hx
      simp only [List.mem_cons,List.not_mem_nil,or_false] at hx
      rcases hx with rfl | rfl
      · exact ⟨p_head (k:=k) S0 (by omega),ecells_one⟩
      · exact ⟨p_tail (k:=k + 1) S0 hk,ecells_one⟩)
    (by decide) (by simp [ptot];omega)
  have e1:ptot [(A,k,c,ecells (l.take k)),(cutA A c (k + 1) 3,m - (k + 1),c - (k + 1),ecells (l.drop (k + 1)))]=m - 1:=by simp [ptot];omega
  have e2:pcat [(A,k,c,ecells (l.take k)),(cutA A c (k + 1) 3,m - (k + 1),c - (k + 1),ecells (l.drop (k + 1)))]=ecells (l.take k ++ l.drop (k + 1)):=by
    rw [ecells_append]
    simp [pcat]
  rw [e1,e2] at hP
  exact hP
set_option maxHeartbeats 3200000 in
theorem remove_ok (l:List E3) (n u v:Int) (A:Option Addr) (m c:Nat) (w:World) (hS:ESl w [] A m c l) (hm:m ≤ 4096) :
    Calls Tryz.prog 93 #[.int .i64 n,.slice A m c,.int .i64 u,.int .i64 v] w fun e w'=>∃ R d,e=.returned (.tuple #[.slice R (remE n l u v).1.length d,.int .i64 (remE n l u v).2]) ∧ ESl w' [] R (remE n l u v).1.length d (remE n l u v).1 ∧ Below w.heap.size w w':=by
  have qr:=fun W h=>tright_any l [] A n m c W h
  have qu:=fun W=>vertexT_any n u W
  have qv:=fun W=>vertexT_any n v W
  have qf:=fun W h=>nfind_any l u v [] A m c W h
  have HL:=hide hS.length
  unfold remE
  cases h1:rightE n l
  case false =>
    rw [h1] at qr
    have QR:=hide qr
    clear qr qu qv qf h1
    simp only [Bool.false_and,Bool.false_eq_true,if_false]
    (go_enter Tryz.func93,Tryz.ntmps93)
    (go_wp2_with (fail);refine (QR.out w hS).mono ?_;rintro e w1 ⟨rfl,b1⟩)
    (go_wp2_with (fail);refine bodyPost_ret (v:=.tuple #[.slice A m c,.int .i64 1]) (by simp [results,Tryz.results93,go_sem]) rfl ⟨A,c,by rw [HL.out],by rw [HL.out];exact hS.below b1,b1⟩)
  rw [h1] at qr
  have QR:=hide qr
  clear qr h1
  cases h2:inN n u
  case false =>
    rw [h2] at qu
    have QU:=hide qu
    clear qu qv qf h2
    simp only [Bool.true_and,Bool.false_and,Bool.false_eq_true,if_false]
    (go_enter Tryz.func93,Tryz.ntmps93)
    (go_wp2_with (fail);refine (QR.out w hS).mono ?_;rintro e w1 ⟨rfl,b1⟩)
    (go_wp2_with (fail);refine (QU.out w1).mono ?_;rintro e w2 ⟨rfl,b2⟩;have b12:=b1.trans (b2.mono b1.size);clear b1 b2)
    (go_wp2_with (fail);refine bodyPost_ret (v:=.tuple #[.slice A m c,.int .i64 1]) (by simp [results,Tryz.results93,go_sem]) rfl ⟨A,c,by rw [HL.out],by rw [HL.out];exact hS.below b12,b12⟩)
  rw [h2] at qu
  have QU:=hide qu
  clear qu h2
  cases h3:inN n v
  case false =>
    rw [h3] at qv
    have QV:=hide qv
    clear qv qf h3
    simp only [Bool.true_and,Bool.false_eq_true,if_false]
    (go_enter Tryz.func93,Tryz.ntmps93)
    (go_wp2_with (fail);refine (QR.out w hS).mono ?_;rintro e w1 ⟨rfl,b1⟩)
    (go_wp2_with (fail);refine (QU.out w1).mono ?_;rintro e w2 ⟨rfl,b2⟩;have b12:=b1.trans (b2.mono b1.size);clear b1 b2)
    (go_wp2_with (fail);refine (QV.out w2).mono ?_;rintro e w3 ⟨rfl,b3⟩;have b13:=b12.trans (b3.mono b12.size);clear b12 b3)
    (go_wp2_with (fail);refine bodyPost_ret (v:=.tuple #[.slice A m c,.int .i64 1]) (by simp [results,Tryz.results93,go_sem]) rfl ⟨A,c,by rw [HL.out],by rw [HL.out];exact hS.below b13,b13⟩)
  rw [h3] at qv
  have QV:=hide qv
  clear qv h3
  rw [if_pos (by rfl)]
  unfold placeT thereT at qf
  by_cases hfd:0 ≤ findI l u v 0
  · rw [if_pos hfd]
    rw [decide_eq_true hfd,if_pos hfd] at qf
    obtain ⟨k,ek,hk,_,hdel,_⟩:=find_spec l u v 0 (Int.le_refl _) hfd
    rw [ek,Int.zero_add] at qf
    have HD:=hide (show (delE l u v)=l.take k ++ l.drop (k + 1) from hdel)
    have HDL:=hide (show (delE l u v).length=m - 1 by rw [hdel,List.length_append,List.length_take,List.length_drop];have:=HL.out;omega)
    have hkm:k < m:=by have:=HL.out;omega
    have QF:=hide qf
    clear qf hfd ek hdel
    have hkc:k < c:=Nat.lt_of_lt_of_le hkm hS.le
    have hcap:=hS.cap
    unfold maxLen at hcap
    have i0:(k:Int) ≤ (c:Int):=by omega
    have i1:(k:Int) + 1 ≤ (m:Int):=by omega
    have i2:(0:Int) ≤ (k:Int) + 1:=by omega
    have i3:((k:Int) + 1).toNat=k + 1:=by omega
    (go_enter Tryz.func93,Tryz.ntmps93)
    (go_wp2_with (fail);refine (QR.out w hS).mono ?_;rintro e w1 ⟨rfl,b1⟩)
    (go_wp2_with (fail);refine (QU.out w1).mono ?_;rintro e w2 ⟨rfl,b2⟩;have b12:=b1.trans (b2.mono b1.size);clear b1 b2)
    (go_wp2_with (fail);refine (QV.out w2).mono ?_;rintro e w3 ⟨rfl,b3⟩;have b13:=b12.trans (b3.mono b12.size);clear b12 b3)
    (go_wp2_with (fail);refine (QF.out w3 (hS.below b13)).mono ?_;rintro e w4 ⟨rfl,b4⟩;have b14:=b13.trans (b4.mono b13.size);clear b13 b4)
    have g6:=(Below.refl w4.heap.size w4).drew.alloc (Nat.le_refl _) (.cells #[.slice A k c,.slice (cutA A c (k + 1) 3) (m - (k + 1)) (c - (k + 1))] 28)
    go_wp2_with (fail)
    refine wp_region_lexD [7,8] (fun w'=>Below (w4).heap.size (w4) w') (by kernel_rfl) (by kernel_rfl) (Below.refl _ _).drew ?_
    (repeat ((with_reducible refine wpLex_step (fun K hK=>?_));go_simp;first | ((with_reducible refine hK _ _ ?_);clear hK K) | ((with_reducible apply Exists.intro);refine ⟨fun w' hw'=>?_,hK _ _ ?_⟩;(· (have hq:=bcells hw';apply valEq;(· (go_simp;first | done | (with_reducible rfl)));(· ((try go_bits);with_reducible rfl))));clear hK K)))
    ((with_reducible refine wpLex_step (fun K hK=>?_));go_simp;first | (refine hK _ _ ?_;clear hK K) | (refine ⟨?_,hK _ _ ?_⟩;(· (exact g6));clear hK K))
    ((with_reducible refine wpLex_step (fun K hK=>?_));go_simp;refine (rem_call w4.drew l A m c k (hS.below b14).drew hkm hm).mono ?_;rintro e w7 ⟨R5,d5,rfl,N5,hbx⟩;have g7:=(g6).trans (hbx.mono (g6).size);skip;refine ⟨_,rfl,g7,hK _ _ ?_⟩;clear hK K hbx)
    (repeat ((with_reducible refine wpLex_step (fun K hK=>?_));go_simp;first | ((with_reducible refine hK _ _ ?_);clear hK K) | ((with_reducible apply Exists.intro);refine ⟨fun w' hw'=>?_,hK _ _ ?_⟩;(· (have hq:=bcells hw';apply valEq;(· (go_simp;first | done | (with_reducible rfl)));(· ((try go_bits);with_reducible rfl))));clear hK K)))
    refine wpLex_nil (fun _=>?_)
    have hb7:=b14.trans (g7.mono b14.size)
    go_wp2_with (fail)
    refine bodyPost_ret (v:=.tuple #[.slice R5 (m - 1) d5,.int .i64 0]) (by simp [results,Tryz.results93,go_sem]) rfl ⟨R5,d5,by rw [HDL.out],by rw [HDL.out,HD.out];exact N5,hb7⟩
  · rw [if_neg hfd]
    rw [decide_eq_false hfd,if_neg hfd] at qf
    have QF:=hide qf
    clear qf hfd
    (go_enter Tryz.func93,Tryz.ntmps93)
    (go_wp2_with (fail);refine (QR.out w hS).mono ?_;rintro e w1 ⟨rfl,b1⟩)
    (go_wp2_with (fail);refine (QU.out w1).mono ?_;rintro e w2 ⟨rfl,b2⟩;have b12:=b1.trans (b2.mono b1.size);clear b1 b2)
    (go_wp2_with (fail);refine (QV.out w2).mono ?_;rintro e w3 ⟨rfl,b3⟩;have b13:=b12.trans (b3.mono b12.size);clear b12 b3)
    (go_wp2_with (fail);refine (QF.out w3 (hS.below b13)).mono ?_;rintro e w4 ⟨rfl,b4⟩;have b14:=b13.trans (b4.mono b13.size);clear b13 b4)
    (go_wp2_with (fail);refine bodyPost_ret (v:=.tuple #[.slice A m c,.int .i64 9]) (by simp [results,Tryz.results93,go_sem]) rfl ⟨A,c,by rw [HL.out],by rw [HL.out];exact hS.below b14,b14⟩)
end Go.Proofs.YtppblcbgkadldaaGreatDoor
