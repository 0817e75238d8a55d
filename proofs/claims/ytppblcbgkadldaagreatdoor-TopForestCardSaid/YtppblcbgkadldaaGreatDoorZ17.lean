/-
  A part of the proof that the law TopForest returns true for every input and leaves its arguments as they were: Set.
-/
import Derived.Test.YtppblcbgkadldaaGreatDoorZ16
import Derived.Laws.OwnMore
set_option linter.all false
namespace Go.Proofs.YtppblcbgkadldaaGreatDoor
open Go Go.RowKit
set_option maxRecDepth 100000
attribute [local go_sem] Heavy heavyUpon
theorem ecells_set2 (l:List E3):∀ (k:Nat) (h:k < l.length) (t:Int),(ecells l).set (k * 3 + 2) (.int .i64 t)=ecells (l.set k (l[k].1,l[k].2.1,t)):=by
  induction l with
  | nil=>intro k h;simp at h
  | cons x l ih =>
    intro k h t
    cases k with
    | zero=>rfl
    | succ k =>
      have h':k < l.length:=by simpa using h
      have e:ecells (x :: l)=ecell x ++ ecells l:=rfl
      rw [e,List.set_append_right _ _ (by rw [ecell_len];omega),ecell_len,show (k + 1) * 3 + 2 - 3=k * 3 + 2 by omega,ih k h' t]
      rfl
theorem inT_yes {t:Int} (h:(decide (0 ≤ t) && decide (t ≤ 16))=true):0 ≤ t ∧ t ≤ 16:=by simpa using h
theorem inT_no {t:Int} (h:(decide (0 ≤ t) && decide (t ≤ 16))=false):¬ (0 ≤ t ∧ t ≤ 16):=by
  intro h2;rw [decide_eq_true h2.1,decide_eq_true h2.2] at h;cases h
set_option maxHeartbeats 3200000 in
theorem set_ok (l:List E3) (n u v t:Int) (A:Option Addr) (m c:Nat) (w:World) (hS:ESl w [] A m c l) (hm:m ≤ 4096) :
    Calls Tryz.prog 162 #[.int .i64 n,.slice A m c,.int .i64 u,.int .i64 v,.int .i64 t] w fun e w'=>∃ R d,e=.returned (.tuple #[.slice R (putE n l u v t).1.length d,.int .i64 (putE n l u v t).2]) ∧ ESl w' [] R (putE n l u v t).1.length d (putE n l u v t).1 ∧ Below w.heap.size w w':=by
  have qr:=fun W h=>tright_any l [] A n m c W h
  have qu:=fun W=>vertexT_any n u W
  have qv:=fun W=>vertexT_any n v W
  have qf:=fun W h=>nfind_any l u v [] A m c W h
  have HL:=hide hS.length
  unfold putE
  cases h1:rightE n l
  case false =>
    rw [h1] at qr
    have QR:=hide qr
    clear qr qu qv qf h1
    simp only [Bool.false_and,Bool.false_eq_true,if_false]
    (go_enter Tryz.func162,Tryz.ntmps162)
    (go_wp2_with (fail);refine (QR.out w hS).mono ?_;rintro e w1 ⟨rfl,b1⟩)
    (go_wp2_with (fail);refine bodyPost_ret (v:=.tuple #[.slice A m c,.int .i64 1]) (by simp [results,Tryz.results162,go_sem]) rfl ⟨A,c,by rw [HL.out],by rw [HL.out];exact hS.below b1,b1⟩)
  rw [h1] at qr
  have QR:=hide qr
  clear qr h1
  cases h2:inN n u
  case false =>
    rw [h2] at qu
    have QU:=hide qu
    clear qu qv qf h2
    simp only [Bool.true_and,Bool.false_and,Bool.false_eq_true,if_false]
    (go_enter Tryz.func162,Tryz.ntmps162)
    (go_wp2_with (fail);refine (QR.out w hS).mono ?_;rintro e w1 ⟨rfl,b1⟩)
    (go_wp2_with (fail);refine (QU.out w1).mono ?_;rintro e w2 ⟨rfl,b2⟩;have b12:=b1.trans (b2.mono b1.size);clear b1 b2)
    (go_wp2_with (fail);refine bodyPost_ret (v:=.tuple #[.slice A m c,.int .i64 1]) (by simp [results,Tryz.results162,go_sem]) rfl ⟨A,c,by rw [HL.out],by rw [HL.out];exact hS.below b12,b12⟩)
  rw [h2] at qu
  have QU:=hide qu
  clear qu h2
  cases h3:inN n v
  case false =>
    rw [h3] at qv
    have QV:=hide qv
    clear qv qf h3
    simp only [Bool.true_and,Bool.false_and,Bool.false_eq_true,if_false]
    (go_enter Tryz.func162,Tryz.ntmps162)
    (go_wp2_with (fail);refine (QR.out w hS).mono ?_;rintro e w1 ⟨rfl,b1⟩)
    (go_wp2_with (fail);refine (QU.out w1).mono ?_;rintro e w2 ⟨rfl,b2⟩;have b12:=b1.trans (b2.mono b1.size);clear b1 b2)
    (go_wp2_with (fail);refine (QV.out w2).mono ?_;rintro e w3 ⟨rfl,b3⟩;have b13:=b12.trans (b3.mono b12.size);clear b12 b3)
    (go_wp2_with (fail);refine bodyPost_ret (v:=.tuple #[.slice A m c,.int .i64 1]) (by simp [results,Tryz.results162,go_sem]) rfl ⟨A,c,by rw [HL.out],by rw [HL.out];exact hS.below b13,b13⟩)
  rw [h3] at qv
  have QV:=hide qv
  clear qv h3
  cases h4:(decide (0 ≤ t) && decide (t ≤ 16))
  case false =>
    have QT:=hide (fun W=>tiered_no W (inT_no h4))
    clear h4 qf
    simp only [Bool.true_and,Bool.false_eq_true,if_false]
    (go_enter Tryz.func162,Tryz.ntmps162)
    (go_wp2_with (fail);refine (QR.out w hS).mono ?_;rintro e w1 ⟨rfl,b1⟩)
    (go_wp2_with (fail);refine (QU.out w1).mono ?_;rintro e w2 ⟨rfl,b2⟩;have b12:=b1.trans (b2.mono b1.size);clear b1 b2)
    (go_wp2_with (fail);refine (QV.out w2).mono ?_;rintro e w3 ⟨rfl,b3⟩;have b13:=b12.trans (b3.mono b12.size);clear b12 b3)
    go_wp2_with (fail)
    refine (QT.out w3).mono ?_
    rintro e w4 ⟨rfl,b4⟩
    have b14:=b13.trans (b4.mono b13.size)
    (go_wp2_with (fail);refine bodyPost_ret (v:=.tuple #[.slice A m c,.int .i64 1]) (by simp [results,Tryz.results162,go_sem]) rfl ⟨A,c,by rw [HL.out],by rw [HL.out];exact hS.below b14,b14⟩)
  have QT:=hide (fun W=>tiered_yes W (inT_yes h4))
  clear h4
  rw [if_pos (by rfl)]
  unfold placeT thereT at qf
  by_cases hfd:0 ≤ findI l u v 0
  · rw [if_pos hfd]
    rw [decide_eq_true hfd,if_pos hfd] at qf
    obtain ⟨k,ek,hk,_,_,hset⟩:=find_spec l u v 0 (Int.le_refl _) hfd
    rw [ek,Int.zero_add] at qf
    have HSE:=hide (hset t)
    have HSL:=hide (show (setE l u v t).length=m by rw [hset t,List.length_set];exact HL.out)
    have HEC:=hide (show (ecells l).set (k * 3 + 2) (.int .i64 t)=ecells (setE l u v t) by rw [ecells_set2 l k hk t,hset t])
    have hkm:k < m:=by have:=HL.out;omega
    have QF:=hide qf
    clear qf hfd ek hset
    have hcap:=hS.cap
    have hle:=hS.le
    unfold maxLen at hcap
    (go_enter Tryz.func162,Tryz.ntmps162)
    (go_wp2_with (fail);refine (QR.out w hS).mono ?_;rintro e w1 ⟨rfl,b1⟩)
    (go_wp2_with (fail);refine (QU.out w1).mono ?_;rintro e w2 ⟨rfl,b2⟩;have b12:=b1.trans (b2.mono b1.size);clear b1 b2)
    (go_wp2_with (fail);refine (QV.out w2).mono ?_;rintro e w3 ⟨rfl,b3⟩;have b13:=b12.trans (b3.mono b12.size);clear b12 b3)
    go_wp2_with (fail)
    refine (QT.out w3).mono ?_
    rintro e w4 ⟨rfl,b4⟩
    have b14:=b13.trans (b4.mono b13.size)
    clear b4 b13
    go_wp2_with (fail)
    refine (QF.out w4 (hS.below b14)).mono ?_
    rintro e w5 ⟨rfl,b5⟩
    have b15:=b14.trans (b5.mono b14.size)
    clear b5 b14
    go_wp2_with (fail)
    refine (cloneE_ok (ecells l) [] A m c w5 (hS.below b15) ecells_one (by omega)).mono ?_
    rintro e w6 ⟨R6,d6,rfl,own6,b6⟩
    have b16:=b15.trans (b6.mono b15.size)
    obtain ⟨g,cap,hv,hg1,hg2⟩:=own6.form (by omega)
    injection hv with hv1 hv2 hv3
    subst hv1 hv3
    have fz:=own6.frozenAt
    have cz:=own6.cellAt (k * 3 + 2) (by omega)
    rw [ecells_get2 l k hk] at cz
    have hgw:w.heap.size ≤ g:=Nat.le_trans b15.size hg1
    have OW:=hide (own6.stored (k * 3 + 2) (.int .i64 t)).1
    rw [HEC.out] at OW
    clear own6 b6 b15 hg1 HEC
    go_wp2_with (fail)
    refine bodyPost_ret (v:=.tuple #[.slice (some ⟨g,0,none⟩) m d6,.int .i64 0]) (by simp [results,Tryz.results162,go_sem]) rfl ⟨some ⟨g,0,none⟩,d6,by rw [HSL.out],by rw [HSL.out];exact own_sl OW.out [] (by simp),b16.setCell hgw _⟩
  · rw [if_neg hfd]
    rw [decide_eq_false hfd,if_neg hfd] at qf
    have QF:=hide qf
    clear qf hfd
    (go_enter Tryz.func162,Tryz.ntmps162)
    (go_wp2_with (fail);refine (QR.out w hS).mono ?_;rintro e w1 ⟨rfl,b1⟩)
    (go_wp2_with (fail);refine (QU.out w1).mono ?_;rintro e w2 ⟨rfl,b2⟩;have b12:=b1.trans (b2.mono b1.size);clear b1 b2)
    (go_wp2_with (fail);refine (QV.out w2).mono ?_;rintro e w3 ⟨rfl,b3⟩;have b13:=b12.trans (b3.mono b12.size);clear b12 b3)
    go_wp2_with (fail)
    refine (QT.out w3).mono ?_
    rintro e w4 ⟨rfl,b4⟩
    have b14:=b13.trans (b4.mono b13.size)
    clear b4 b13
    go_wp2_with (fail)
    refine (QF.out w4 (hS.below b14)).mono ?_
    rintro e w5 ⟨rfl,b5⟩
    have b15:=b14.trans (b5.mono b14.size)
    clear b5 b14
    (go_wp2_with (fail);refine bodyPost_ret (v:=.tuple #[.slice A m c,.int .i64 9]) (by simp [results,Tryz.results162,go_sem]) rfl ⟨A,c,by rw [HL.out],by rw [HL.out];exact hS.below b15,b15⟩)
end Go.Proofs.YtppblcbgkadldaaGreatDoor
