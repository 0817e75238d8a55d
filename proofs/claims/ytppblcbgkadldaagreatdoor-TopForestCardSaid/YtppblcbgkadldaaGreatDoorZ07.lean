/-
  A part of the proof that the law TopForest returns true for every input and leaves its arguments as they were: Right, Find0, InN, TFind, Forest.
-/
import Derived.Test.YtppblcbgkadldaaGreatDoorZ03
import Derived.Test.YtppblcbgkadldaaGreatDoorZ06
set_option linter.all false
namespace Go.Proofs.YtppblcbgkadldaaGreatDoor
open Go Go.RowKit
set_option maxRecDepth 100000
attribute [local go_sem] Heavy heavyUpon
def okE (n:Int) (e:E3):Bool:=!(decide (e.1 < 0)) && !(decide (e.2.1 ≤ e.1)) && !(decide (n ≤ e.2.1)) && (!(decide (e.2.2 < 0)) && !(decide (16 < e.2.2)))
def chainE (n:Int):Option E3 → List E3 → Bool
  | _,[]=>true
  | p,e :: l=>okE n e && (match p with | none=>true | some p=>ltE p e) && chainE n (some e) l
def rightE (n:Int) (l:List E3):Bool:=!(decide (n < 0)) && !(decide (1024 < n)) && chainE n none l
def prevE (l:List E3):Nat → Option E3
  | 0=>none
  | k + 1=>l[k]?
theorem tiered_any (t:Int) (w:World):Calls Tryz.prog 95 #[.int .i64 t] w (Ret (.bool (!(decide (t < 0)) && !(decide (16 < t)))) w):=by
  by_cases h:0 ≤ t
  · have HF:=hide (show (!(decide (t < 0)) && !(decide (16 < t)))=decide (t ≤ 16) by
      rw [decide_eq_false (by omega)]
      by_cases h2:t ≤ 16
      · rw [decide_eq_false (show ¬ 16 < t by omega),decide_eq_true h2];rfl
      · rw [decide_eq_true (show 16 < t by omega),decide_eq_false h2];rfl)
    go_enter Tryz.func95,Tryz.ntmps95
    go_wp2
    go_ret
    exact ⟨congrArg (fun x=>Ending.returned (.bool x)) HF.out.symm,Below.refl _ _⟩
  · have HF:=hide (show (!(decide (t < 0)) && !(decide (16 < t)))=false by rw [decide_eq_true (show t < 0 by omega)];rfl)
    rw [HF.out]
    go_enter Tryz.func95,Tryz.ntmps95
    go_wp2
    go_ret
    exact ⟨rfl,Below.refl _ _⟩
theorem tiered_yes {t:Int} (w:World) (h:0 ≤ t ∧ t ≤ 16):Calls Tryz.prog 95 #[.int .i64 t] w (Ret (.bool true) w):=by
  have:=tiered_any t w
  rwa [decide_eq_false (show ¬ t < 0 by omega),decide_eq_false (show ¬ 16 < t by omega)] at this
theorem tiered_no {t:Int} (w:World) (h:¬ (0 ≤ t ∧ t ≤ 16)):Calls Tryz.prog 95 #[.int .i64 t] w (Ret (.bool false) w):=by
  have:=tiered_any t w
  have e:(!(decide (t < 0)) && !(decide (16 < t)))=false:=by
    by_cases h1:t < 0
    · rw [decide_eq_true h1];rfl
    · rw [decide_eq_true (show 16 < t by omega)];simp
  rwa [e] at this
theorem chain_step {n:Int} {l:List E3} {k:Nat} (hk:k < l.length) :
    chainE n (prevE l k) (l.drop k)=(okE n l[k] && (match prevE l k with | none=>true | some p=>ltE p l[k]) && chainE n (prevE l (k + 1)) (l.drop (k + 1))):=by
  rw [List.drop_eq_getElem_cons hk]
  simp only [chainE]
  have:prevE l (k + 1)=some l[k]:=List.getElem?_eq_getElem hk
  rw [this]
set_option maxHeartbeats 1200000 in
theorem tright_ok (l:List E3) (M:List Nat) (A:Option Addr) (n:Int) (m c:Nat) (w:World) (hS:ESl w M A m c l) (h0:0 ≤ n) (h1:n ≤ 1024) :
    Calls Tryz.prog 57 #[.int .i64 n,.slice A m c] w (Ret (.bool (chainE n none l)) w):=by
  have HL:=hide hS.length
  have hcap:m ≤ maxLen:=Nat.le_trans hS.le hS.cap
  unfold maxLen at hcap
  have d0:decide (n < 0)=false:=decide_eq_false (by omega)
  have d1:decide (1024 < n)=false:=decide_eq_false (by omega)
  go_enter Tryz.func57,Tryz.ntmps57
  go_wp2_with (fail)
  go_loopw [15] (fun i wr=>∃ k:Nat,k ≤ m ∧ i=.int .i64 k ∧ Below w.heap.size w wr ∧ Hid (chainE n (prevE l k) (l.drop k)=chainE n none l)) (fun i _=>m - (intOf i).toNat)
  case atStart=>exact ⟨0,Nat.zero_le _,rfl,Below.refl _ _,hide rfl⟩
  case round =>
    obtain ⟨k,hk,rfl,hbr,HR⟩:=hrel
    have hSr:ESl wr M A m c l:=hS.below hbr
    by_cases hlt:k < m
    · have hx:k < l.length:=by have:=HL.out;omega
      have HC:=hide (chain_step (n:=n) hx)
      obtain ⟨ad,rfl,had,_,c0,c1,c2⟩:=hSr.get hx
      have HP:=hide (show ∀ j,k=j + 1 → ∃ hj:j < l.length,prevE l k=some l[j] from fun j e=>⟨by omega,by subst e;exact List.getElem?_eq_getElem (by omega)⟩)
      generalize hx':l[k]=x at *
      obtain ⟨u,v,t⟩:=x
      have HC2:=hide (show chainE n none l=(okE n (u,v,t) && (match prevE l k with | none=>true | some p=>ltE p (u,v,t)) && chainE n (prevE l (k + 1)) (l.drop (k + 1))) from HR.out.symm.trans HC.out)
      clear hx' HC
      simp only [] at c0 c1 c2
      have hb1:=hbr.alloc hbr.size (.cells #[.int .i64 u,.int .i64 v,.int .i64 t] 104)
      by_cases a1:u < 0
      · have HF:=hide (show chainE n none l=false by rw [HC2.out];simp [okE,a1])
        go_wp2_with (fail)
        go_ret
        exact ⟨congrArg (fun x=>Ending.returned (.bool x)) HF.out.symm,hb1⟩
      · by_cases a2:v ≤ u
        · have HF:=hide (show chainE n none l=false by rw [HC2.out];simp [okE,a2])
          go_wp2_with (fail)
          go_ret
          exact ⟨congrArg (fun x=>Ending.returned (.bool x)) HF.out.symm,hb1⟩
        · by_cases a3:n ≤ v
          · have HF:=hide (show chainE n none l=false by rw [HC2.out];simp [okE,a3])
            go_wp2_with (fail)
            go_ret
            exact ⟨congrArg (fun x=>Ending.returned (.bool x)) HF.out.symm,hb1⟩
          · by_cases a4:0 ≤ t ∧ t ≤ 16
            · have HO:=hide (show okE n (u,v,t)=true by
                simp only [okE];rw [decide_eq_false a1,decide_eq_false a2,decide_eq_false a3,decide_eq_false (show ¬ t < 0 by omega),decide_eq_false (show ¬ 16 < t by omega)];rfl)
              by_cases hk0:0 < k
              · have hd:decide ((0:Int) < (k:Int))=true:=decide_eq_true (by omega)
                obtain ⟨hj,hprev⟩:=HP.out (k - 1) (by omega)
                obtain ⟨ad',e',had',_,p0,p1,p2⟩:=hSr.get hj
                injection e' with e'
                subst e'
                generalize l[k - 1]=y at *
                obtain ⟨u',v',t'⟩:=y
                simp only [] at p0 p1 p2
                have HL2:=hide (show chainE n none l=(ltE (u',v',t') (u,v,t) && chainE n (prevE l (k + 1)) (l.drop (k + 1))) by rw [HC2.out,HO.out,hprev];simp)
                clear hprev
                have i0:(0:Int) ≤ (k:Int) - 1:=by omega
                have i0':(1:Int) ≤ (k:Int):=by omega
                have i1:(k:Int) - 1 < (m:Int):=by omega
                have i2:((k:Int) - 1).toNat=k - 1:=by omega
                cases hl:ltE (u',v',t') (u,v,t)
                case false =>
                  have ql:∀ W,Calls Tryz.prog 96 #[.agg #[.int .i64 u',.int .i64 v',.int .i64 t'],.agg #[.int .i64 u,.int .i64 v,.int .i64 t]] W (Ret (.bool false) W):=fun W=>by have:=less_any u' v' t' u v t W;rwa [hl] at this
                  have HF:=hide (show chainE n none l=false by rw [HL2.out,hl];rfl)
                  clear hl
                  go_wp2_with (fail)
                  refine (tiered_yes _ a4).mono ?_
                  rintro e w2 ⟨rfl,b2⟩
                  have E0:=(Blk.new wr 104 #[.int .i64 u,.int .i64 v,.int .i64 t]).below b2 (by simp)
                  have hb2:=hb1.trans (b2.mono hb1.size)
                  have f0:w2.cell? (ad.add ((k - 1) * 3))=some (.int .i64 u'):=(b2.cell (by rw [block_of_add,heap_alloc_size];omega)).trans ((World.cell?_of_block (Below.heap_alloc wr _ _ (by rw [block_of_add];exact had))).trans p0)
                  have f1:w2.cell? ⟨(ad.add ((k - 1) * 3)).block,(ad.add ((k - 1) * 3)).off + 1,none⟩=some (.int .i64 v'):=(b2.cell (p:=⟨(ad.add ((k - 1) * 3)).block,(ad.add ((k - 1) * 3)).off + 1,none⟩) (by simp only [];rw [block_of_add,heap_alloc_size];omega)).trans ((World.cell?_of_block (a:=⟨(ad.add ((k - 1) * 3)).block,(ad.add ((k - 1) * 3)).off + 1,none⟩) (Below.heap_alloc wr _ _ (by simp only [];rw [block_of_add];exact had))).trans p1)
                  have f2:w2.cell? ⟨(ad.add ((k - 1) * 3)).block,(ad.add ((k - 1) * 3)).off + 2,none⟩=some (.int .i64 t'):=(b2.cell (p:=⟨(ad.add ((k - 1) * 3)).block,(ad.add ((k - 1) * 3)).off + 2,none⟩) (by simp only [];rw [block_of_add,heap_alloc_size];omega)).trans ((World.cell?_of_block (a:=⟨(ad.add ((k - 1) * 3)).block,(ad.add ((k - 1) * 3)).off + 2,none⟩) (Below.heap_alloc wr _ _ (by simp only [];rw [block_of_add];exact had))).trans p2)
                  have hw2:(ad.add ((k - 1) * 3)).block < w2.heap.size:=by rw [block_of_add];have:=hbr.size;have:=b2.size;rw [heap_alloc_size] at this;omega
                  obtain ⟨x0,y0,z0⟩:=E0.facts
                  clear p0 p1 p2 c0 c1 c2 b2
                  go_wp2_with (fail)
                  refine wp_region_lex [9] (fun w'=>Below (w2).heap.size (w2) w') (by kernel_rfl) (by kernel_rfl) (Below.refl _ _).drew ?_
                  (repeat ((with_reducible refine wpLex_step (fun K hK=>?_));go_simp;first | ((with_reducible refine hK _ _ ?_);clear hK K) | ((with_reducible apply Exists.intro);refine ⟨fun w' hw'=>?_,hK _ _ ?_⟩;(· (have hq:=bcells hw';apply valEq;(· (go_simp;first | done | (with_reducible rfl)));(· ((try go_bits);with_reducible rfl))));clear hK K)))
                  ((with_reducible refine wpLex_step (fun K hK=>?_));go_simp;refine (ql _).mono ?_;rintro e w3 ⟨rfl,hbx⟩;have g3:=((Below.refl w2.heap.size w2).drew).trans (hbx.mono ((Below.refl w2.heap.size w2).drew).size);refine ⟨_,rfl,g3,hK _ _ ?_⟩;clear hK K hbx)
                  (repeat ((with_reducible refine wpLex_step (fun K hK=>?_));go_simp;first | ((with_reducible refine hK _ _ ?_);clear hK K) | ((with_reducible apply Exists.intro);refine ⟨fun w' hw'=>?_,hK _ _ ?_⟩;(· (have hq:=bcells hw';apply valEq;(· (go_simp;first | done | (with_reducible rfl)));(· ((try go_bits);with_reducible rfl))));clear hK K)))
                  refine wpLex_nil (fun _=>?_)
                  have hb3:=hb2.trans (g3.mono hb2.size)
                  go_wp2_with (fail)
                  go_ret
                  exact ⟨congrArg (fun x=>Ending.returned (.bool x)) HF.out.symm,hb3⟩
                case true =>
                  have ql:∀ W,Calls Tryz.prog 96 #[.agg #[.int .i64 u',.int .i64 v',.int .i64 t'],.agg #[.int .i64 u,.int .i64 v,.int .i64 t]] W (Ret (.bool true) W):=fun W=>by have:=less_any u' v' t' u v t W;rwa [hl] at this
                  have HF:=hide (show chainE n (prevE l (k + 1)) (l.drop (k + 1))=chainE n none l by rw [HL2.out,hl];rfl)
                  clear hl
                  go_wp2_with (fail)
                  refine (tiered_yes _ a4).mono ?_
                  rintro e w2 ⟨rfl,b2⟩
                  have E0:=(Blk.new wr 104 #[.int .i64 u,.int .i64 v,.int .i64 t]).below b2 (by simp)
                  have hb2:=hb1.trans (b2.mono hb1.size)
                  have f0:w2.cell? (ad.add ((k - 1) * 3))=some (.int .i64 u'):=(b2.cell (by rw [block_of_add,heap_alloc_size];omega)).trans ((World.cell?_of_block (Below.heap_alloc wr _ _ (by rw [block_of_add];exact had))).trans p0)
                  have f1:w2.cell? ⟨(ad.add ((k - 1) * 3)).block,(ad.add ((k - 1) * 3)).off + 1,none⟩=some (.int .i64 v'):=(b2.cell (p:=⟨(ad.add ((k - 1) * 3)).block,(ad.add ((k - 1) * 3)).off + 1,none⟩) (by simp only [];rw [block_of_add,heap_alloc_size];omega)).trans ((World.cell?_of_block (a:=⟨(ad.add ((k - 1) * 3)).block,(ad.add ((k - 1) * 3)).off + 1,none⟩) (Below.heap_alloc wr _ _ (by simp only [];rw [block_of_add];exact had))).trans p1)
                  have f2:w2.cell? ⟨(ad.add ((k - 1) * 3)).block,(ad.add ((k - 1) * 3)).off + 2,none⟩=some (.int .i64 t'):=(b2.cell (p:=⟨(ad.add ((k - 1) * 3)).block,(ad.add ((k - 1) * 3)).off + 2,none⟩) (by simp only [];rw [block_of_add,heap_alloc_size];omega)).trans ((World.cell?_of_block (a:=⟨(ad.add ((k - 1) * 3)).block,(ad.add ((k - 1) * 3)).off + 2,none⟩) (Below.heap_alloc wr _ _ (by simp only [];rw [block_of_add];exact had))).trans p2)
                  have hw2:(ad.add ((k - 1) * 3)).block < w2.heap.size:=by rw [block_of_add];have:=hbr.size;have:=b2.size;rw [heap_alloc_size] at this;omega
                  obtain ⟨x0,y0,z0⟩:=E0.facts
                  clear p0 p1 p2 c0 c1 c2 b2
                  go_wp2_with (fail)
                  refine wp_region_lex [9] (fun w'=>Below (w2).heap.size (w2) w') (by kernel_rfl) (by kernel_rfl) (Below.refl _ _).drew ?_
                  (repeat ((with_reducible refine wpLex_step (fun K hK=>?_));go_simp;first | ((with_reducible refine hK _ _ ?_);clear hK K) | ((with_reducible apply Exists.intro);refine ⟨fun w' hw'=>?_,hK _ _ ?_⟩;(· (have hq:=bcells hw';apply valEq;(· (go_simp;first | done | (with_reducible rfl)));(· ((try go_bits);with_reducible rfl))));clear hK K)))
                  ((with_reducible refine wpLex_step (fun K hK=>?_));go_simp;refine (ql _).mono ?_;rintro e w3 ⟨rfl,hbx⟩;have g3:=((Below.refl w2.heap.size w2).drew).trans (hbx.mono ((Below.refl w2.heap.size w2).drew).size);refine ⟨_,rfl,g3,hK _ _ ?_⟩;clear hK K hbx)
                  (repeat ((with_reducible refine wpLex_step (fun K hK=>?_));go_simp;first | ((with_reducible refine hK _ _ ?_);clear hK K) | ((with_reducible apply Exists.intro);refine ⟨fun w' hw'=>?_,hK _ _ ?_⟩;(· (have hq:=bcells hw';apply valEq;(· (go_simp;first | done | (with_reducible rfl)));(· ((try go_bits);with_reducible rfl))));clear hK K)))
                  refine wpLex_nil (fun _=>?_)
                  have hb3:=hb2.trans (g3.mono hb2.size)
                  go_wp2_with (fail)
                  exact ⟨⟨k + 1,by omega,by go_num,hb3,HF⟩,by simp [intOf];omega⟩
              · have hd:decide ((0:Int) < (k:Int))=false:=decide_eq_false (by omega)
                have HN:=hide (show chainE n (prevE l (k + 1)) (l.drop (k + 1))=chainE n none l by
                  have:k=0:=by omega
                  subst this
                  rw [HC2.out,HO.out];simp [prevE])
                go_wp2_with (fail)
                refine (tiered_yes _ a4).mono ?_
                rintro e w2 ⟨rfl,b2⟩
                have hb2:=hb1.trans (b2.mono hb1.size)
                have E0:=(Blk.new wr 104 #[.int .i64 u,.int .i64 v,.int .i64 t]).below b2 (by simp)
                obtain ⟨x0,y0,z0⟩:=E0.facts
                go_wp2_with (fail)
                refine wp_region_lex [9] (fun w'=>Below (w2).heap.size (w2) w') (by kernel_rfl) (by kernel_rfl) (Below.refl _ _).drew ?_
                (repeat ((with_reducible refine wpLex_step (fun K hK=>?_));go_simp;first | ((with_reducible refine hK _ _ ?_);clear hK K) | ((with_reducible apply Exists.intro);refine ⟨fun w' hw'=>?_,hK _ _ ?_⟩;(· (have hq:=bcells hw';apply valEq;(· (go_simp;first | done | (with_reducible rfl)));(· ((try go_bits);with_reducible rfl))));clear hK K)))
                refine wpLex_nil (fun _=>?_)
                go_wp2_with (fail)
                exact ⟨⟨k + 1,by omega,by go_num,hb2.drew,HN⟩,by simp [intOf];omega⟩
            · have HF:=hide (show chainE n none l=false by
                rw [HC2.out]
                have:okE n (u,v,t)=false:=by
                  simp only [okE]
                  by_cases h1:t < 0
                  · rw [decide_eq_true h1];simp
                  · rw [decide_eq_true (show 16 < t by omega)];simp
                rw [this];rfl)
              go_wp2_with (fail)
              refine (tiered_no _ a4).mono ?_
              rintro e w2 ⟨rfl,b2⟩
              go_wp2_with (fail)
              go_ret
              exact ⟨congrArg (fun x=>Ending.returned (.bool x)) HF.out.symm,hb1.trans (b2.mono hb1.size)⟩
    · have HF:=hide (show chainE n none l=true by
        rw [← HR.out,List.drop_eq_nil_of_le (by have:=HL.out;omega)];cases prevE l k <;> rfl)
      go_wp2_with (fail)
      go_ret
      exact ⟨congrArg (fun x=>Ending.returned (.bool x)) HF.out.symm,hbr⟩
theorem rightE_in {n:Int} {l:List E3} (h0:0 ≤ n) (h1:n ≤ 1024):rightE n l=chainE n none l:=by
  unfold rightE;rw [decide_eq_false (show ¬ n < 0 by omega),decide_eq_false (show ¬ 1024 < n by omega)];rfl
theorem rightE_out {n:Int} {l:List E3} (h:¬ (0 ≤ n ∧ n ≤ 1024)):rightE n l=false:=by
  unfold rightE
  by_cases h0:n < 0
  · rw [decide_eq_true h0];rfl
  · rw [decide_eq_true (show 1024 < n by omega)];simp
theorem tright_any (l:List E3) (M:List Nat) (A:Option Addr) (n:Int) (m c:Nat) (w:World) (hS:ESl w M A m c l) :
    Calls Tryz.prog 57 #[.int .i64 n,.slice A m c] w (Ret (.bool (rightE n l)) w):=by
  by_cases h:0 ≤ n ∧ n ≤ 1024
  · rw [rightE_in h.1 h.2]
    exact tright_ok l M A n m c w hS h.1 h.2
  · rw [rightE_out h]
    by_cases h0:n < 0
    · go_enter Tryz.func57,Tryz.ntmps57
      go_wp2_with (fail)
      go_ret
      exact ⟨rfl,Below.refl _ _⟩
    · have h1:1024 < n:=by omega
      clear h
      go_enter Tryz.func57,Tryz.ntmps57
      go_wp2_with (fail)
      go_ret
      exact ⟨rfl,Below.refl _ _⟩
end Go.Proofs.YtppblcbgkadldaaGreatDoor
namespace Go.Proofs.YtppblcbgkadldaaGreatDoor
open Go Go.RowKit
set_option maxRecDepth 100000
def hitE (u v:Int) (e:E3):Bool:=(e.1 == u && e.2.1 == v) || (e.1 == v && e.2.1 == u)
def findI:List E3 → Int → Int → Int → Int
  | [],_,_,_=>-1
  | x :: l,u,v,k=>if hitE u v x=true then k else findI l u v (k + 1)
theorem findI_mem (l:List E3) (u v k:Int) (h:0 ≤ k):0 ≤ findI l u v k ↔ ∃ e ∈ l,hitE u v e=true:=by
  induction l generalizing k with
  | nil=>simp [findI]
  | cons x l ih =>
    unfold findI
    by_cases hx:hitE u v x=true
    · simp [hx,h]
    · rw [if_neg hx,ih _ (by omega)]
      simp [hx]
theorem findI_step (l:List E3) (u v:Int) {k:Nat} (h:k < l.length):findI (l.drop k) u v k=if hitE u v l[k]=true then (k:Int) else findI (l.drop (k + 1)) u v ((k + 1:Nat):Int):=by
  rw [List.drop_eq_getElem_cons h,findI];rfl
end Go.Proofs.YtppblcbgkadldaaGreatDoor
namespace Go.Proofs.YtppblcbgkadldaaGreatDoor
open Go Go.RowKit
set_option maxRecDepth 100000
def inN (n v:Int):Bool:=!(decide (v < 0)) && !(decide (n ≤ v))
theorem inN_yes {n v:Int} (h:0 ≤ v ∧ v < n):inN n v=true:=by unfold inN;rw [decide_eq_false (by omega),decide_eq_false (by omega)];rfl
theorem inN_no {n v:Int} (h:¬ (0 ≤ v ∧ v < n)):inN n v=false:=by
  unfold inN
  by_cases h0:v < 0
  · rw [decide_eq_true h0];rfl
  · rw [decide_eq_true (show n ≤ v by omega)];simp
theorem inN_iff {n v:Int}:inN n v=true ↔ 0 ≤ v ∧ v < n:=by
  by_cases h:0 ≤ v ∧ v < n
  · simp [inN_yes h,h]
  · simp [inN_no h,h]
end Go.Proofs.YtppblcbgkadldaaGreatDoor
namespace Go.Proofs.YtppblcbgkadldaaGreatDoor
open Go Go.RowKit
set_option maxRecDepth 100000
attribute [local go_sem] Heavy heavyUpon
def placeT (l:List E3) (u v:Int):Int:=if 0 ≤ findI l u v 0 then findI l u v 0 else 0
def thereT (l:List E3) (u v:Int):Bool:=decide (0 ≤ findI l u v 0)
set_option maxHeartbeats 1600000 in
theorem nfind_any (l:List E3) (u v:Int) (M:List Nat) (A:Option Addr) (m c:Nat) (w:World) (hS:ESl w M A m c l) :
    Calls Tryz.prog 43 #[.slice A m c,.int .i64 u,.int .i64 v] w (Ret (.tuple #[.int .i64 (placeT l u v),.bool (thereT l u v)]) w):=by
  have HY:=hide (show ∀ k:Nat,findI l u v 0=(k:Int) → placeT l u v=(k:Int) ∧ thereT l u v=true from fun k h=>by
    unfold placeT thereT;rw [h,if_pos (by omega)];exact ⟨rfl,decide_eq_true (by omega)⟩)
  have HN:=hide (show findI l u v 0 = -1 → placeT l u v=0 ∧ thereT l u v=false from fun h=>by
    unfold placeT thereT;rw [h];exact ⟨rfl,rfl⟩)
  generalize placeT l u v=PT at *
  generalize thereT l u v=TT at *
  have HL:=hide hS.length
  have hcap:m ≤ maxLen:=Nat.le_trans hS.le hS.cap
  unfold maxLen at hcap
  go_enter Tryz.func43,Tryz.ntmps43
  go_wp2_with (fail)
  go_loopw [12] (fun i wr=>∃ k:Nat,k ≤ m ∧ i=.int .i64 k ∧ Below w.heap.size w wr ∧ Hid (findI (l.drop k) u v k=findI l u v 0)) (fun i _=>m - (intOf i).toNat)
  case atStart=>exact ⟨0,Nat.zero_le _,rfl,Below.refl _ _,hide rfl⟩
  case round =>
    obtain ⟨k,hk,rfl,hbr,HR⟩:=hrel
    have Sr:ESl wr M A m c l:=hS.below hbr
    by_cases hlt:k < m
    · have hx:k < l.length:=by have:=HL.out;omega
      obtain ⟨ad,rfl,had,_,c0,c1,c2⟩:=Sr.get hx
      have HS:=hide ((findI_step l u v hx).symm.trans HR.out)
      generalize l[k]=x at *
      obtain ⟨x,y,t⟩:=x
      simp only [] at c0 c1 c2
      have hb1:=hbr.alloc hbr.size (.cells #[.int .i64 x,.int .i64 y,.int .i64 t] 104)
      have YES:=hide (show hitE u v (x,y,t)=true → PT=(k:Int) ∧ TT=true from fun h=>HY.out k (by rw [← HS.out,if_pos h]))
      have NO:=hide (show hitE u v (x,y,t)=false → findI (l.drop (k + 1)) u v ((k + 1:Nat):Int)=findI l u v 0 from fun h=>by rw [← HS.out,if_neg (by rw [h];decide)])
      cases p1:x == u
      · cases p3:x == v
        · (have HF:=hide (NO.out (by simp [hitE,p1,p3]));clear YES NO HS HR;go_wp2_with (fail);exact ⟨⟨k + 1,by omega,by go_num,hb1,HF⟩,by simp [intOf];omega⟩)
        · cases p4:y == u
          · (have HF:=hide (NO.out (by simp [hitE,p1,p3,p4]));clear YES NO HS HR;go_wp2_with (fail);exact ⟨⟨k + 1,by omega,by go_num,hb1,HF⟩,by simp [intOf];omega⟩)
          · (have HF:=hide (YES.out (by simp [hitE,p1,p3,p4]));clear YES NO HS HR;go_wp2_with (fail);go_ret2;exact ⟨by rw [HF.out.1,HF.out.2];rfl,hb1⟩)
      · cases p2:y == v
        · cases p3:x == v
          · (have HF:=hide (NO.out (by simp [hitE,p1,p2,p3]));clear YES NO HS HR;go_wp2_with (fail);exact ⟨⟨k + 1,by omega,by go_num,hb1,HF⟩,by simp [intOf];omega⟩)
          · cases p4:y == u
            · (have HF:=hide (NO.out (by simp [hitE,p1,p2,p3,p4]));clear YES NO HS HR;go_wp2_with (fail);exact ⟨⟨k + 1,by omega,by go_num,hb1,HF⟩,by simp [intOf];omega⟩)
            · (have HF:=hide (YES.out (by simp [hitE,p1,p2,p3,p4]));clear YES NO HS HR;go_wp2_with (fail);go_ret2;exact ⟨by rw [HF.out.1,HF.out.2];rfl,hb1⟩)
        · (have HF:=hide (YES.out (by simp [hitE,p1,p2]));clear YES NO HS HR;go_wp2_with (fail);go_ret2;exact ⟨by rw [HF.out.1,HF.out.2];rfl,hb1⟩)
    · have HF:=hide (HN.out (by
        rw [← HR.out,List.drop_eq_nil_of_le (by have:=HL.out;omega)];rfl))
      go_wp2_with (fail)
      go_ret2
      exact ⟨by rw [HF.out.1,HF.out.2];rfl,hbr⟩
theorem vertexT_any (n v:Int) (w:World):Calls Tryz.prog 115 #[.int .i64 n,.int .i64 v] w (Ret (.bool (inN n v)) w):=by
  by_cases h:0 ≤ v
  · by_cases h2:v < n
    · rw [inN_yes ⟨h,h2⟩]
      go_enter Tryz.func115,Tryz.ntmps115
      go_wp2
      go_ret
      exact ⟨rfl,Below.refl _ _⟩
    · rw [inN_no (fun h=>h2 h.2)]
      have h3:n ≤ v:=by omega
      clear h2
      go_enter Tryz.func115,Tryz.ntmps115
      go_wp2
      go_ret
      exact ⟨congrArg (fun x=>Ending.returned (.bool x)) (decide_eq_false (by omega)),Below.refl _ _⟩
  · rw [inN_no (fun h2=>h h2.1)]
    have h3:v < 0:=by omega
    clear h
    go_enter Tryz.func115,Tryz.ntmps115
    go_wp2
    go_ret
    exact ⟨rfl,Below.refl _ _⟩
end Go.Proofs.YtppblcbgkadldaaGreatDoor
namespace Go.Proofs.YtppblcbgkadldaaGreatDoor
open Go Go.RowKit
set_option maxRecDepth 100000
attribute [local go_sem] Heavy heavyUpon
theorem e1_new (w:World) (p q t:Int):Sl (w.alloc (.cells #[.int .i64 p,.int .i64 q,.int .i64 t] 104)) [] 3 (some ⟨w.heap.size,0,none⟩) 1 1 (ecells [(p,q,t)]):=
  Sl.of_blk (Blk.new w 104 #[.int .i64 p,.int .i64 q,.int .i64 t]) rfl (fun x hx=>by match x,hx with | 0,_ | 1,_ | 2,_=>rfl) (by simp) (by unfold maxLen;omega)
theorem i1_new (w:World) (v:Int):Sl (w.alloc (.cells #[.int .i64 v] 3)) [] 1 (some ⟨w.heap.size,0,none⟩) 1 1 (ints .i64 [v]):=
  Sl.of_blk (Blk.new w 3 #[.int .i64 v]) rfl (fun x hx=>by match x,hx with | 0,_=>rfl) (by simp) (by unfold maxLen;omega)
theorem int_info:(Tryz.prog.info? 3).map (fun i=>(i.zero,i.size,i.bytes))=some (some (.int .i64 0),1,8):=by kernel_rfl
theorem filter_step {α:Type} (p:α → Bool) (l:List α) {k:Nat} (h:k < l.length):(l.take (k + 1)).filter p=(l.take k).filter p ++ (if p l[k]=true then [l[k]] else []):=by
  rw [List.take_succ_eq_append_getElem h,List.filter_append,List.filter_cons];rfl
theorem filter_len {α:Type} (p:α → Bool) (l:List α) (k:Nat):((l.take k).filter p).length ≤ k:=by
  have:=List.length_filter_le p (l.take k)
  rw [List.length_take] at this
  omega
def tierT (tier:Int) (e:E3):Bool:=decide (1 ≤ e.2.2) && decide (e.2.2 ≤ tier)
def forestE (l:List E3) (tier:Int):List E3:=l.filter (tierT tier)
def outF (n:Int) (l:List E3) (tier:Int):List E3:=if rightE n l=true then forestE l tier else []
set_option maxHeartbeats 1600000 in
theorem forest_ok (l:List E3) (n tier:Int) (M:List Nat) (A:Option Addr) (m c:Nat) (w:World) (hS:ESl w M A m c l) (hm:m ≤ 4096) :
    Calls Tryz.prog 59 #[.int .i64 n,.slice A m c,.int .i64 tier] w fun e w'=>∃ R d,e=.returned (.slice R (outF n l tier).length d) ∧ ESl w' [] R (outF n l tier).length d (outF n l tier) ∧ Below w.heap.size w w':=by
  have q:=fun W h=>tright_any l M A n m c W h
  unfold outF
  cases hr:rightE n l
  case false =>
    rw [hr] at q
    have Q:=hide q
    clear q hr
    go_enter Tryz.func59,Tryz.ntmps59
    go_wp2_with (fail)
    refine (Q.out w hS).mono ?_
    rintro e w1 ⟨rfl,b1⟩
    go_wp2_with (fail)
    go_ret
    exact ⟨none,0,rfl,Sl.nil_ _ _ _,b1⟩
  case true =>
    rw [hr] at q
    have Q:=hide q
    clear q hr
    rw [if_pos rfl]
    obtain ⟨ie,hie,hze,he1,he2⟩:=info_parts edge_info
    have HL:=hide hS.length
    obtain ⟨G,hG⟩:∃ G:Nat → List E3,G=fun k=>forestE (l.take k) tier:=⟨_,rfl⟩
    have H0:=hide (show G 0=[] by rw [hG];rfl)
    have HST:=hide (show ∀ (k:Nat) (h:k < l.length),G (k + 1)=G k ++ (if tierT tier l[k]=true then [l[k]] else []) from fun k h=>by rw [hG];exact filter_step _ l h)
    have HLN:=hide (show ∀ k,(G k).length ≤ k from fun k=>by rw [hG];exact filter_len _ l k)
    have HE:=hide (show G m=forestE l tier by rw [hG];simp only [];rw [List.take_of_length_le (by have:=HL.out;omega)])
    clear hG
    go_enter Tryz.func59,Tryz.ntmps59
    go_wp2_with (fail)
    refine (Q.out w hS).mono ?_
    rintro e w1 ⟨rfl,b1⟩
    go_wp2_with (fail)
    go_loopw [7,16] (fun a i wr=>∃ (k:Nat) (Ao:Option Addr) (co:Nat),k ≤ m ∧ i=.int .i64 k ∧ a=.slice Ao (G k).length co ∧ Below w.heap.size w wr ∧
        wr.ownsRow w.heap.size 104 3 (.slice Ao (G k).length co) (G k).length (ecells (G k))) (fun _ i _=>m - (intOf i).toNat)
    case atStart=>exact ⟨0,none,0,Nat.zero_le _,rfl,by rw [H0.out];rfl,b1,by rw [H0.out];exact World.ownsRow_nil w1 w.heap.size 104 3⟩
    case round =>
      obtain ⟨k,Ao,co,hk,rfl,rfl,hbr,hown⟩:=hrel
      have hSr:ESl wr M A m c l:=hS.below hbr
      have hlen:=HLN.out k
      by_cases hlt:k < m
      · have hx:k < l.length:=by have:=HL.out;omega
        obtain ⟨ad,rfl,had,_,c0,c1,c2⟩:=hSr.get hx
        have HU:=hide (HST.out k hx)
        generalize l[k]=x at *
        obtain ⟨u,v,t⟩:=x
        simp only [] at c0 c1 c2
        have HOW:=hide hown
        clear hown
        have HRV:=hide (show ∃ A c,(Value.slice Ao (G k).length co)=.slice A (G k).length c from ⟨_,_,rfl⟩)
        generalize Value.slice Ao (G k).length co=RV at *
        have hb1:=hbr.alloc hbr.size (.cells #[.int .i64 u,.int .i64 v,.int .i64 t] 104)
        have HO1:=hide (HOW.out.alloc (.cells #[.int .i64 u,.int .i64 v,.int .i64 t] 104))
        by_cases a1:1 ≤ t
        · by_cases a2:t ≤ tier
          · have HF:=hide (show G (k + 1)=G k ++ [(u,v,t)] by rw [HU.out,if_pos (by simp [tierT,a1,a2])])
            ((go_wp2_with (at_builtin;refine stopAt ?_);refine stopGo ?_);have N2:Sl ((wr.alloc (.cells #[.int .i64 u,.int .i64 v,.int .i64 t] 104)).alloc (.cells #[.int .i64 u,.int .i64 v,.int .i64 t] 104)) [] 3 (some ⟨(wr.alloc (.cells #[.int .i64 u,.int .i64 v,.int .i64 t] 104)).heap.size,0,none⟩) 1 1 (ecells [(u,v,t)]):=e1_new (wr.alloc (.cells #[.int .i64 u,.int .i64 v,.int .i64 t] 104)) u v t;have O2:=(HO1.out).alloc (.cells #[.int .i64 u,.int .i64 v,.int .i64 t] 104);have hb2:=(hb1).alloc (hb1).size (.cells #[.int .i64 u,.int .i64 v,.int .i64 t] 104);have szl:=hb2.size;(try rw [heap_alloc_size] at N2);generalize (wr.alloc (.cells #[.int .i64 u,.int .i64 v,.int .i64 t] 104)).alloc (.cells #[.int .i64 u,.int .i64 v,.int .i64 t] 104)=W2 at *;refine wpList_append_sl _ rfl (.tmp 29) (.tmp 31) _ rfl w.heap.size 104 ie _ 3 24 Tryz.underlying28 hie hze he1 he2 rfl (by omega) RV _ _ rfl O2 [] _ 1 1 (ecells [(u,v,t)]) rfl N2 ecells_one (by simp only [maxLen];omega) (by omega) (by first | omega | (simp;done) | (simp;omega)) ?_;intro A5 c5 w5 own5 g5 _;rw [← ecells_append,← HF.out] at own5;have hl5:(G k).length + 1=(G (k + 1)).length:=(by rw [HF.out,List.length_append];rfl);rw [hl5] at own5 ⊢;clear hl5;have hg5:=below_grown O2 g5 (Nat.le_refl _) (by first | omega | (simp;omega));have hb5:=hb2.trans hg5;have OW5:=hide own5;clear own5 g5 hg5 O2 N2;go_wp2_with (fail);exact ⟨⟨k + 1,A5,c5,by omega,by go_num,rfl,hb5,OW5.out⟩,by simp [intOf];omega⟩)
          · have HF:=hide (show G (k + 1)=G k by rw [HU.out,if_neg (by simp [tierT,a2]),List.append_nil])
            (go_wp2_with (fail);obtain ⟨A6,c6,rfl⟩:=HRV.out;exact ⟨⟨k + 1,A6,c6,by omega,by go_num,by rw [HF.out],hb1,by rw [HF.out];exact HO1.out⟩,by simp [intOf];omega⟩)
        · have HF:=hide (show G (k + 1)=G k by rw [HU.out,if_neg (by simp [tierT,a1]),List.append_nil])
          (go_wp2_with (fail);obtain ⟨A6,c6,rfl⟩:=HRV.out;exact ⟨⟨k + 1,A6,c6,by omega,by go_num,by rw [HF.out],hb1,by rw [HF.out];exact HO1.out⟩,by simp [intOf];omega⟩)
      · have hkm:k=m:=by omega
        subst hkm
        rw [HE.out] at hown
        rw [HE.out]
        go_wp2_with (fail)
        go_ret
        exact ⟨Ao,co,rfl,own_sl hown [] (by simp),hbr⟩
def nearOf (v:Int) (e:E3):List Int:=if v=e.1 then [e.2.1] else if v=e.2.1 then [e.1] else []
def nearI (l:List E3) (v:Int):List Int:=l.flatMap (nearOf v)
def outN (n:Int) (l:List E3) (v:Int):List Int:=if (rightE n l && inN n v)=true then nearI l v else []
theorem nearI_step (l:List E3) (v:Int) {k:Nat} (h:k < l.length):nearI (l.take (k + 1)) v=nearI (l.take k) v ++ nearOf v l[k]:=by
  unfold nearI
  rw [List.take_succ_eq_append_getElem h,List.flatMap_append];simp
theorem nearI_len (l:List E3) (v:Int):(nearI l v).length ≤ l.length:=by
  induction l with
  | nil=>simp [nearI]
  | cons x l ih =>
    have:(nearOf v x).length ≤ 1:=by unfold nearOf;split <;> (try split) <;> simp
    have e:nearI (x :: l) v=nearOf v x ++ nearI l v:=rfl
    rw [e,List.length_append,List.length_cons];omega
set_option maxHeartbeats 1600000 in
theorem near_ok (l:List E3) (n v0:Int) (M:List Nat) (A:Option Addr) (m c:Nat) (w:World) (hS:ESl w M A m c l) (hm:m ≤ 4096) :
    Calls Tryz.prog 76 #[.int .i64 n,.slice A m c,.int .i64 v0] w fun e w'=>∃ R d,e=.returned (.slice R (outN n l v0).length d) ∧ Sl w' [] 1 R (outN n l v0).length d (ints .i64 (outN n l v0)) ∧ Below w.heap.size w w':=by
  have q:=fun W h=>tright_any l M A n m c W h
  have qv:=fun W=>vertexT_any n v0 W
  unfold outN
  cases hr:rightE n l
  case false =>
    rw [hr] at q
    have Q:=hide q
    clear q hr qv
    go_enter Tryz.func76,Tryz.ntmps76
    go_wp2_with (fail)
    refine (Q.out w hS).mono ?_
    rintro e w1 ⟨rfl,b1⟩
    go_wp2_with (fail)
    go_ret
    exact ⟨none,0,rfl,Sl.nil_ _ _ _,b1⟩
  case true =>
    rw [hr] at q
    have Q:=hide q
    clear q hr
    cases hv:inN n v0
    case false =>
      rw [hv] at qv
      have QV:=hide qv
      clear qv hv
      go_enter Tryz.func76,Tryz.ntmps76
      go_wp2_with (fail)
      refine (Q.out w hS).mono ?_
      rintro e w1 ⟨rfl,b1⟩
      go_wp2_with (fail)
      refine (QV.out w1).mono ?_
      rintro e w2 ⟨rfl,b2⟩
      go_wp2_with (fail)
      go_ret
      exact ⟨none,0,rfl,Sl.nil_ _ _ _,b1.trans (b2.mono b1.size)⟩
    case true =>
      rw [hv] at qv
      have QV:=hide qv
      clear qv hv
      rw [if_pos (by rfl)]
      obtain ⟨ie,hie,hze,he1,he2⟩:=info_parts int_info
      have HL:=hide hS.length
      obtain ⟨G,hG⟩:∃ G:Nat → List Int,G=fun k=>nearI (l.take k) v0:=⟨_,rfl⟩
      have H0:=hide (show G 0=[] by rw [hG];rfl)
      have HST:=hide (show ∀ (k:Nat) (h:k < l.length),G (k + 1)=G k ++ nearOf v0 l[k] from fun k h=>by rw [hG];exact nearI_step l v0 h)
      have HLN:=hide (show ∀ k,(G k).length ≤ k from fun k=>by rw [hG];exact Nat.le_trans (nearI_len (l.take k) v0) (List.length_take_le _ _))
      have HE:=hide (show G m=nearI l v0 by rw [hG];simp only [];rw [List.take_of_length_le (by have:=HL.out;omega)])
      clear hG
      go_enter Tryz.func76,Tryz.ntmps76
      go_wp2_with (fail)
      refine (Q.out w hS).mono ?_
      rintro e w1 ⟨rfl,b1⟩
      go_wp2_with (fail)
      refine (QV.out w1).mono ?_
      rintro e w2 ⟨rfl,b2⟩
      have hb0:=b1.trans (b2.mono b1.size)
      clear b1 b2
      go_wp2_with (fail)
      go_loopw [7,22] (fun a i wr=>∃ (k:Nat) (Ao:Option Addr) (co:Nat),k ≤ m ∧ i=.int .i64 k ∧ a=.slice Ao (G k).length co ∧ Below w.heap.size w wr ∧
          wr.ownsRow w.heap.size 3 1 (.slice Ao (G k).length co) (G k).length (ints .i64 (G k))) (fun _ i _=>m - (intOf i).toNat)
      case atStart=>exact ⟨0,none,0,Nat.zero_le _,rfl,by rw [H0.out];rfl,hb0,by rw [H0.out];exact World.ownsRow_nil w2 w.heap.size 3 1⟩
      case round =>
        obtain ⟨k,Ao,co,hk,rfl,rfl,hbr,hown⟩:=hrel
        have hSr:ESl wr M A m c l:=hS.below hbr
        have hlen:=HLN.out k
        by_cases hlt:k < m
        · have hx:k < l.length:=by have:=HL.out;omega
          obtain ⟨ad,rfl,had,_,c0,c1,c2⟩:=hSr.get hx
          have HU:=hide (HST.out k hx)
          generalize l[k]=x at *
          obtain ⟨u,v,t⟩:=x
          simp only [] at c0 c1 c2
          have HOW:=hide hown
          clear hown
          have HRV:=hide (show ∃ A c,(Value.slice Ao (G k).length co)=.slice A (G k).length c from ⟨_,_,rfl⟩)
          generalize Value.slice Ao (G k).length co=RV at *
          have hb1:=hbr.alloc hbr.size (.cells #[.int .i64 u,.int .i64 v,.int .i64 t] 104)
          have HO1:=hide (HOW.out.alloc (.cells #[.int .i64 u,.int .i64 v,.int .i64 t] 104))
          by_cases a1:v0=u
          · have HF:=hide (show G (k + 1)=G k ++ [v] by rw [HU.out];unfold nearOf;rw [if_pos a1])
            have d1:(v0 == u)=true:=by simp [a1]
            clear a1
            ((go_wp2_with (at_builtin;refine stopAt ?_);refine stopGo ?_);have N2:Sl ((wr.alloc (.cells #[.int .i64 u,.int .i64 v,.int .i64 t] 104)).alloc (.cells #[.int .i64 v] 3)) [] 1 (some ⟨(wr.alloc (.cells #[.int .i64 u,.int .i64 v,.int .i64 t] 104)).heap.size,0,none⟩) 1 1 (ints .i64 [v]):=i1_new (wr.alloc (.cells #[.int .i64 u,.int .i64 v,.int .i64 t] 104)) v;have O2:=(HO1.out).alloc (.cells #[.int .i64 v] 3);have hb2:=(hb1).alloc (hb1).size (.cells #[.int .i64 v] 3);have szl:=hb2.size;(try rw [heap_alloc_size] at N2);generalize (wr.alloc (.cells #[.int .i64 u,.int .i64 v,.int .i64 t] 104)).alloc (.cells #[.int .i64 v] 3)=W2 at *;refine wpList_append_sl _ rfl (.tmp 31) (.tmp 34) _ rfl w.heap.size 3 ie _ 1 8 Tryz.underlying113 hie hze he1 he2 rfl (by omega) RV _ _ rfl O2 [] _ 1 1 (ints .i64 [v]) rfl N2 ints_one (by simp only [maxLen];omega) (by omega) (by first | omega | (simp;done) | (simp;omega)) ?_;intro A5 c5 w5 own5 g5 _;rw [← ints_append,← HF.out] at own5;have hl5:(G k).length + 1=(G (k + 1)).length:=(by rw [HF.out,List.length_append];rfl);rw [hl5] at own5 ⊢;clear hl5;have hg5:=below_grown O2 g5 (Nat.le_refl _) (by first | omega | (simp;omega));have hb5:=hb2.trans hg5;have OW5:=hide own5;clear own5 g5 hg5 O2 N2;go_wp2_with (fail);exact ⟨⟨k + 1,A5,c5,by omega,by go_num,rfl,hb5,OW5.out⟩,by simp [intOf];omega⟩)
          · have d1:(v0 == u)=false:=by simp [a1]
            by_cases a2:v0=v
            · have HF:=hide (show G (k + 1)=G k ++ [u] by rw [HU.out];unfold nearOf;rw [if_neg a1,if_pos a2])
              have d2:(v0 == v)=true:=by simp [a2]
              clear a1 a2
              ((go_wp2_with (at_builtin;refine stopAt ?_);refine stopGo ?_);have N2:Sl ((wr.alloc (.cells #[.int .i64 u,.int .i64 v,.int .i64 t] 104)).alloc (.cells #[.int .i64 u] 3)) [] 1 (some ⟨(wr.alloc (.cells #[.int .i64 u,.int .i64 v,.int .i64 t] 104)).heap.size,0,none⟩) 1 1 (ints .i64 [u]):=i1_new (wr.alloc (.cells #[.int .i64 u,.int .i64 v,.int .i64 t] 104)) u;have O2:=(HO1.out).alloc (.cells #[.int .i64 u] 3);have hb2:=(hb1).alloc (hb1).size (.cells #[.int .i64 u] 3);have szl:=hb2.size;(try rw [heap_alloc_size] at N2);generalize (wr.alloc (.cells #[.int .i64 u,.int .i64 v,.int .i64 t] 104)).alloc (.cells #[.int .i64 u] 3)=W2 at *;refine wpList_append_sl _ rfl (.tmp 40) (.tmp 43) _ rfl w.heap.size 3 ie _ 1 8 Tryz.underlying113 hie hze he1 he2 rfl (by omega) RV _ _ rfl O2 [] _ 1 1 (ints .i64 [u]) rfl N2 ints_one (by simp only [maxLen];omega) (by omega) (by first | omega | (simp;done) | (simp;omega)) ?_;intro A5 c5 w5 own5 g5 _;rw [← ints_append,← HF.out] at own5;have hl5:(G k).length + 1=(G (k + 1)).length:=(by rw [HF.out,List.length_append];rfl);rw [hl5] at own5 ⊢;clear hl5;have hg5:=below_grown O2 g5 (Nat.le_refl _) (by first | omega | (simp;omega));have hb5:=hb2.trans hg5;have OW5:=hide own5;clear own5 g5 hg5 O2 N2;go_wp2_with (fail);exact ⟨⟨k + 1,A5,c5,by omega,by go_num,rfl,hb5,OW5.out⟩,by simp [intOf];omega⟩)
            · have d2:(v0 == v)=false:=by simp [a2]
              have HF:=hide (show G (k + 1)=G k by rw [HU.out];unfold nearOf;rw [if_neg a1,if_neg a2,List.append_nil])
              clear a1 a2
              (go_wp2_with (fail);obtain ⟨A6,c6,rfl⟩:=HRV.out;exact ⟨⟨k + 1,A6,c6,by omega,by go_num,by rw [HF.out],hb1,by rw [HF.out];exact HO1.out⟩,by simp [intOf];omega⟩)
        · have hkm:k=m:=by omega
          subst hkm
          rw [HE.out] at hown
          rw [HE.out]
          go_wp2_with (fail)
          go_ret
          exact ⟨Ao,co,rfl,own_sl hown [] (by simp),hbr⟩
end Go.Proofs.YtppblcbgkadldaaGreatDoor
