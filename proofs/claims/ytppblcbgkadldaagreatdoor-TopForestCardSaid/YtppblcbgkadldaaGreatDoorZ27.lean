/-
  A part of the proof that the law TopForest returns true for every input and leaves its arguments as they were: TiersC, TiersD, IdxB, SMore.
-/
import Derived.Test.YtppblcbgkadldaaGreatDoorZ09
import Derived.Test.YtppblcbgkadldaaGreatDoorZ13
import Derived.Test.YtppblcbgkadldaaGreatDoorZ26
set_option linter.all false
namespace Go.Proofs.YtppblcbgkadldaaGreatDoor
open Go Go.RowKit
set_option maxRecDepth 100000
attribute [local go_sem] Heavy heavyUpon
section
variable {w w':World} {N L R:Nat} {hs:List (Int × Int)} {es:List E3} {H:Option Addr} {hc:Nat} {E:Option Addr} {m c:Nat}
def POS (N u:Nat) (es es':List E3):Prop:=es=[(0,1,0)] → N=3 → u=1 → ∃ s:Int,1 ≤ s ∧ es'=[(0,1,s)]
def POSk (N u k:Nat) (es es':List E3):Prop:=es=[(0,1,0)] → N=3 → u=1 → (k=0 ∧ es'=[(0,1,0)]) ∨ ∃ s:Int,1 ≤ s ∧ es'=[(0,1,s)]
theorem POSk.step {N u v k:Nat} {es a b d:List E3} (h:POSk N u k es a) (h1:RES N k u a b) (h2:RES N k v b d):POSk N u (k + 1) es d:=by
  intro he hN hu
  refine .inr ?_
  have hb:∃ s:Int,1 ≤ s ∧ b=[(0,1,s)]:=by
    rcases h he hN hu with ⟨hk,ha⟩ | ⟨s,hs,ha⟩
    · rw [ha] at h1;exact res_pos h1 (.inr ⟨hN,hk,hu,rfl⟩)
    · rw [ha] at h1;exact res_pos h1 (.inl hs)
  obtain ⟨s,hs,hb⟩:=hb
  rw [hb] at h2
  exact res_pos h2 (.inl hs)
set_option maxHeartbeats 6400000 in
theorem mended_ok (u v:Nat) (hu:u < N) (hv:v < N) (w:World) (hG:GM w N L R hs es H hc E m c) :
    Calls Tryz.prog 92 #[gV N L R H hc E m c,.int .i64 u,.int .i64 v] w (RetG N L R hs H hc (L * R) (fun es'=>SameE es es' ∧ POS N u es es') w):=by
  have l1:=hG.l1
  have l2:=hG.l2
  have QR:=hide (fun es E m c i v W (hi:i < L) (hv:v < N) (h:GM W N L R hs es H hc E m c)=>raised_ok i v hi hv W h)
  have B0:=(Blk.new w 30 #[.int .i64 N,.int .i64 L,.int .i64 R,.slice H (L * R) hc,.slice E m c]).alloc (.cells #[.int .i64 0,.int .i64 0,.int .i64 0,.slice none 0 0,.slice none 0 0] 30)
  have B1:=Blk.new (w.alloc (.cells #[.int .i64 N,.int .i64 L,.int .i64 R,.slice H (L * R) hc,.slice E m c] 30)) 30 #[.int .i64 0,.int .i64 0,.int .i64 0,.slice none 0 0,.slice none 0 0]
  rw [heap_alloc_size] at B1
  have hb0:=((Below.refl w.heap.size w).alloc (Nat.le_refl _) (.cells #[.int .i64 N,.int .i64 L,.int .i64 R,.slice H (L * R) hc,.slice E m c] 30)).alloc (by simp) (.cells #[.int .i64 0,.int .i64 0,.int .i64 0,.slice none 0 0,.slice none 0 0] 30)
  have HG0:=hide ((hG.alloc (.cells #[.int .i64 N,.int .i64 L,.int .i64 R,.slice H (L * R) hc,.slice E m c] 30)).alloc (.cells #[.int .i64 0,.int .i64 0,.int .i64 0,.slice none 0 0,.slice none 0 0] 30))
  unfold gV at QR
  unfold gV
  generalize hK:L * R=K at *
  clear hG
  have HUV:=hide (And.intro hu hv)
  go_enter Tryz.func92,Tryz.ntmps92
  go_wp2_with (fail)
  have HB0:=hide B0
  have HB1:=hide B1
  clear B0 B1
  generalize (w.alloc (.cells #[.int .i64 N,.int .i64 L,.int .i64 R,.slice H K hc,.slice E m c] 30)).alloc (.cells #[.int .i64 0,.int .i64 0,.int .i64 0,.slice none 0 0,.slice none 0 0] 30)=W0 at *
  go_loopw [11] (fun i wr=>∃ (k:Nat) (E1:Option Addr) (m1 c1:Nat) (es1:List E3),k ≤ L ∧ i=.int .i64 k ∧ Below w.heap.size w wr ∧ Hid (GM wr N L R hs es1 H hc E1 m1 c1) ∧ Hid (Blk wr w.heap.size 30 #[.int .i64 N,.int .i64 L,.int .i64 R,.slice H K hc,.slice E1 m1 c1]) ∧ Hid (Blk wr (w.heap.size + 1) 30 #[.int .i64 0,.int .i64 0,.int .i64 0,.slice none 0 0,.slice none 0 0]) ∧ Hid (SameE es es1) ∧ Hid (POSk N u k es es1)) (fun i _=>L - (intOf i).toNat)
  case atStart=>exact ⟨0,E,m,c,es,Nat.zero_le _,rfl,hb0,HG0,HB0,HB1,hide (SameE.refl es),hide (fun h _ _=>.inl ⟨rfl,h⟩)⟩
  case round =>
    clear hb0 HG0 HB0 HB1
    obtain ⟨k,E1,m1,c1,es1,hk,rfl,hbr,HG,BG,BR,HS,HP⟩:=hrel
    by_cases hlt:k < L
    · have BGo:=BG.out
      (obtain ⟨x0,x1,x2,x3,x4,e0,s0⟩:=(BGo).f5)
      clear BGo
      go_wp2_with (fail)
      refine (QR.out es1 E1 m1 c1 k u _ hlt HUV.out.1 HG.out).mono ?_
      rintro e w2 ⟨E2,m2,c2,es2,rfl,G2,⟨S2,R2⟩,b2⟩
      have hb2:=hbr.trans (b2.mono hbr.size)
      have B02:=BG.out.below b2 BG.out.lt
      have B12:=BR.out.below b2 BR.out.lt
      have HG3:=hide (G2.set5 B02 (gcells_n _ _ _ _ _ _ _ _ _) (.int .i64 N) (.int .i64 L) (.int .i64 R) (.slice H K hc) (.slice E2 m2 c2))
      have B03:=hide (Blk.set5 B02 (.int .i64 N) (.int .i64 L) (.int .i64 R) (.slice H K hc) (.slice E2 m2 c2))
      have B13:=hide (((((B12.far (p:=⟨w.heap.size,0,none⟩) (by simp) (.int .i64 N)).far (p:=⟨w.heap.size,1,none⟩) (by simp) (.int .i64 L)).far (p:=⟨w.heap.size,2,none⟩) (by simp) (.int .i64 R)).far (p:=⟨w.heap.size,3,none⟩) (by simp) (.slice H K hc)).far (p:=⟨w.heap.size,4,none⟩) (by simp) (.slice E2 m2 c2))
      have hb3:=below_set5 hb2 (g:=w.heap.size) (Nat.le_refl _) (.int .i64 N) (.int .i64 L) (.int .i64 R) (.slice H K hc) (.slice E2 m2 c2)
      have HS2:=hide (HS.out.trans S2)
      have HR2:=hide R2
      clear x0 x1 x2 x3 x4 e0 s0 b2 hbr G2 S2 R2 BG BR HG HS hb2
      (obtain ⟨x0,x1,x2,x3,x4,e0,s0⟩:=(B02).f5)
      obtain ⟨z0,z1,z2,z3,z4⟩:=five_z B02 (.int .i64 N) (.int .i64 L) (.int .i64 R) (.slice H K hc) (.slice E2 m2 c2)
      clear B02 B12
      go_wp2_with (fail)
      generalize (((((w2.setCell ⟨w.heap.size,0,none⟩ (Value.int .i64 N)).setCell ⟨w.heap.size,1,none⟩ (Value.int .i64 L)).setCell ⟨w.heap.size,2,none⟩ (Value.int .i64 R)).setCell ⟨w.heap.size,3,none⟩ (Value.slice H K hc)).setCell ⟨w.heap.size,4,none⟩ (Value.slice E2 m2 c2))=W3 at *
      clear x0 x1 x2 x3 x4 e0 s0 z0 z1 z2 z3 z4
      refine (QR.out es2 E2 m2 c2 k v _ hlt HUV.out.2 HG3.out).mono ?_
      rintro e w4 ⟨E4,m4,c4,es4,rfl,G4,⟨S4,R4⟩,b4⟩
      have hb4:=hb3.trans (b4.mono hb3.size)
      have B04:=B03.out.below b4 B03.out.lt
      have B14:=B13.out.below b4 B13.out.lt
      have HG5:=hide (G4.set5 B04 (gcells_n _ _ _ _ _ _ _ _ _) (.int .i64 N) (.int .i64 L) (.int .i64 R) (.slice H K hc) (.slice E4 m4 c4))
      have B05:=hide (Blk.set5 B04 (.int .i64 N) (.int .i64 L) (.int .i64 R) (.slice H K hc) (.slice E4 m4 c4))
      have B15:=hide (((((B14.far (p:=⟨w.heap.size,0,none⟩) (by simp) (.int .i64 N)).far (p:=⟨w.heap.size,1,none⟩) (by simp) (.int .i64 L)).far (p:=⟨w.heap.size,2,none⟩) (by simp) (.int .i64 R)).far (p:=⟨w.heap.size,3,none⟩) (by simp) (.slice H K hc)).far (p:=⟨w.heap.size,4,none⟩) (by simp) (.slice E4 m4 c4))
      have hb5:=below_set5 hb4 (g:=w.heap.size) (Nat.le_refl _) (.int .i64 N) (.int .i64 L) (.int .i64 R) (.slice H K hc) (.slice E4 m4 c4)
      have HS5:=hide (HS2.out.trans S4)
      have HP5:=hide (HP.out.step HR2.out R4)
      clear b4 G4 S4 R4 B03 B13 HG3 HS2 HP HR2 hb4 hb3
      (obtain ⟨x0,x1,x2,x3,x4,e0,s0⟩:=(B04).f5)
      clear B04 B14
      go_wp2_with (fail)
      exact ⟨⟨k + 1,E4,m4,c4,es4,by omega,by go_num,hb5,HG5,B05,B15,HS5,HP5⟩,by simp [intOf];omega⟩
    · obtain rfl:k=L:=by omega
      obtain ⟨L,rfl⟩:∃ L':Nat,L'=k:=⟨_,rfl⟩
      have BGo:=BG.out
      (obtain ⟨x0,x1,x2,x3,x4,e0,s0⟩:=(BGo).f5)
      clear BGo
      have HPF:=hide (show POS N u es es1 from fun h1 h2 h3=>by
        rcases HP.out h1 h2 h3 with ⟨hk0,_⟩ | h
        · omega
        · exact h)
      (obtain ⟨q0,q1,q2,q3,q4,eb,sb⟩:=(BR.out).f5;have Z:=hide (five_z (BR.out) (.int .i64 N) (.int .i64 L) (.int .i64 R) (.slice H K hc) (.slice E1 m1 c1));go_wp2_with (fail);refine bodyPost_ret (v:=.agg #[.int .i64 N,.int .i64 L,.int .i64 R,.slice H K hc,.slice E1 m1 c1]) (by simp [results,Tryz.results92,go_sem,Z.out.1,Z.out.2.1,Z.out.2.2.1,Z.out.2.2.2.1,Z.out.2.2.2.2]) rfl ?_)
      exact ⟨E1,m1,c1,es1,rfl,HG.out.set5 BR.out (gcells_z N) _ _ _ _ _,⟨HS.out,HPF.out⟩,below_set5 hbr (by simp) _ _ _ _ _⟩
set_option maxHeartbeats 3200000 in
theorem tfits_ok (u v:Nat) (hu:u < N) (hv:v < N) (w:World) (hG:GM w N L R hs es H hc E m c) :
    Calls Tryz.prog 90 #[gV N L R H hc E m c,.int .i64 u,.int .i64 v] w (Ret (.bool true) w):=by
  have QR:=hide (fun W (h:GM W N L R hs es H hc E m c)=>sright_ok W h)
  have B0:=Blk.new w 30 #[.int .i64 N,.int .i64 L,.int .i64 R,.slice H (L * R) hc,.slice E m c]
  have hb0:=(Below.refl w.heap.size w).alloc (Nat.le_refl _) (.cells #[.int .i64 N,.int .i64 L,.int .i64 R,.slice H (L * R) hc,.slice E m c] 30)
  have HG0:=hide (hG.alloc (.cells #[.int .i64 N,.int .i64 L,.int .i64 R,.slice H (L * R) hc,.slice E m c] 30))
  unfold gV at QR
  unfold gV
  generalize L * R=K at *
  have d1:decide ((u:Int) < (N:Int))=true:=by simp;omega
  have d2:decide ((v:Int) < (N:Int))=true:=by simp;omega
  clear hG
  go_enter Tryz.func90,Tryz.ntmps90
  go_wp2_with (fail)
  generalize w.alloc (.cells #[.int .i64 N,.int .i64 L,.int .i64 R,.slice H K hc,.slice E m c] 30)=W0 at *
  refine (QR.out _ HG0.out).mono ?_
  rintro e w1 ⟨rfl,b1⟩
  have hb1:=hb0.trans (b1.mono hb0.size)
  clear b1 B0 HG0 hb0
  go_wp2_with (fail)
  go_ret
  exact ⟨congrArg (fun x=>Ending.returned (.bool x)) (by simp),hb1⟩
end
end Go.Proofs.YtppblcbgkadldaaGreatDoor
namespace Go.Proofs.YtppblcbgkadldaaGreatDoor
open Go Go.RowKit
set_option maxRecDepth 100000
attribute [local go_sem] Heavy heavyUpon
theorem inN_nat {N u:Nat} (hu:u < N):inN N u=true:=inN_iff.2 (by omega)
theorem ge_ins {N L u v:Nat} {es:List E3} (h:GE N L es) (hu:u < N) (hv:v < N) (huv:u ≠ v) (hf:¬ 0 ≤ findI es u v 0):GE N L (insE es (edgeE u v 0)):=by
  have e0:(edgeE (u:Int) (v:Int) 0).2.2=0:=by unfold edgeE;split <;> rfl
  refine ⟨insE_right h.right (inN_nat hu) (inN_nat hv) (by omega) hf,fun e he=>?_,?_⟩
  · rcases insE_mem.1 he with rfl | he
    · rw [e0];omega
    · exact h.tier e he
  · have e1:forestE (insE es (edgeE u v 0)) L=forestE es L:=by
      have hx:tierT L (edgeE (u:Int) (v:Int) 0)=false:=by
        unfold tierT;rw [e0];rfl
      unfold insE
      rw [forestE_append]
      have e2:forestE (edgeE (u:Int) (v:Int) 0 :: es.dropWhile (fun y=>ltE y (edgeE u v 0))) L=forestE (es.dropWhile (fun y=>ltE y (edgeE u v 0))) L:=by
        unfold forestE
        rw [List.filter_cons_of_neg (by rw [hx];decide)]
      rw [e2,← forestE_append,List.takeWhile_append_dropWhile]
    have:=h.acyc
    unfold forN at this ⊢
    rw [e1]
    exact this
theorem ge_del {N L:Nat} {u v:Int} {es:List E3} (h:GE N L es) (hf:0 ≤ findI es u v 0):GE N L (delE es u v):=by
  obtain ⟨i,_,hi,_,hd,_⟩:=find_spec es u v 0 (Int.le_refl _) hf
  have hsub:∀ e ∈ delE es u v,e ∈ es:=fun e he=>by
    rw [hd] at he
    rcases List.mem_append.1 he with he | he
    · exact List.mem_of_mem_take he
    · exact List.mem_of_mem_drop he
  obtain ⟨hn,h1,h2⟩:=rightE_iff.1 h.right
  have hr:rightE N (delE es u v)=true:=rightE_iff.2 ⟨hn,fun e he=>h1 e (hsub e he),by
    rw [hd]
    have hs:(es.take i ++ es.drop (i + 1)).Sublist es:=by
      have h3:=List.take_append_drop i es
      have h4:(es.drop (i + 1)).Sublist (es.drop i):=by
        rw [← List.drop_drop]
        exact List.drop_sublist _ _
      have:=(List.Sublist.refl (es.take i)).append h4
      rwa [h3] at this
    exact h2.sublist hs⟩
  refine ⟨hr,fun e he=>h.tier e (hsub e he),?_⟩
  have p:=forN_self (l:=es) (L:Int) hi
  have ho:=forN_ok h.right (L:Int)
  have e1:forN (delE es u v) L=forN (es.take i) L ++ forN (es.drop (i + 1)) L:=by
    rw [hd];unfold forN;rw [forestE_append];simp [endsE]
  have ha:=h.acyc
  show acyc N (forN (delE es u v) L)
  rw [e1]
  split at p
  · exact (acyc_bridge p ho ha).1
  · rw [List.nil_append] at p
    exact acyc_perm p ho ha
section
variable {w w':World} {N L R:Nat} {hs:List (Int × Int)} {es:List E3} {H:Option Addr} {hc:Nat} {E:Option Addr} {m c:Nat}
def RetGC (N L R:Nat) (hs:List (Int × Int)) (H:Option Addr) (hc K:Nat) (P:List E3 → Int → Prop) (w:World) (e:Ending) (w':World):Prop:=
  ∃ E m c es code,e=.returned (.tuple #[.agg #[.int .i64 N,.int .i64 L,.int .i64 R,.slice H K hc,.slice E m c],.int .i64 code]) ∧ GM w' N L R hs es H hc E m c ∧ P es code ∧ Below w.heap.size w w'
def PIns (N u v:Nat) (es es':List E3) (code:Int):Prop:=
  (addE N es u v).2=code ∧ (code ≠ 0 → es'=es) ∧ (code=0 → SameE (insE es (edgeE u v 0)) es' ∧ POS N u (insE es (edgeE u v 0)) es')
def PDel (N u v:Nat) (es es':List E3) (code:Int):Prop:=
  (remE N es u v).2=code ∧ (code ≠ 0 → es'=es) ∧ (code=0 → SameE (delE es u v) es')
theorem add_parts {u v:Nat} (h:GE N L es) (hu:u < N) (hv:v < N):(addE N es u v).2 ≠ 0 ∨ ((addE N es u v)=(insE es (edgeE u v 0),0) ∧ GE N L (insE es (edgeE u v 0))):=by
  by_cases huv:u=v
  · left;unfold addE;rw [h.right,inN_nat hu,inN_nat hv,if_pos (by rfl),if_pos (by omega)];exact (by decide:(8:Int) ≠ 0)
  · by_cases hf:0 ≤ findI es u v 0
    · left;unfold addE;rw [h.right,inN_nat hu,inN_nat hv,if_pos (by rfl),if_neg (by omega),if_pos hf];exact (by decide:(4:Int) ≠ 0)
    · right
      refine ⟨?_,ge_ins h hu hv huv hf⟩
      unfold addE;rw [h.right,inN_nat hu,inN_nat hv,if_pos (by rfl),if_neg (by omega),if_neg hf]
theorem rem_parts {u v:Nat} (h:GE N L es) (hu:u < N) (hv:v < N):(remE N es u v).2 ≠ 0 ∨ ((remE N es u v)=(delE es u v,0) ∧ GE N L (delE es u v)):=by
  by_cases hf:0 ≤ findI es u v 0
  · right
    refine ⟨?_,ge_del h hf⟩
    unfold remE;rw [h.right,inN_nat hu,inN_nat hv,if_pos (by rfl),if_pos hf]
  · left;unfold remE;rw [h.right,inN_nat hu,inN_nat hv,if_pos (by rfl),if_neg hf];exact (by decide:(9:Int) ≠ 0)
set_option maxHeartbeats 6400000 in
theorem tinsert_ok (u v:Nat) (hu:u < N) (hv:v < N) (w:World) (hG:GM w N L R hs es H hc E m c) :
    Calls Tryz.prog 54 #[gV N L R H hc E m c,.int .i64 u,.int .i64 v] w (RetGC N L R hs H hc (L * R) (PIns N u v es) w):=by
  (have hml:=hG.m_le;have QF:=hide (fun W (h:GM W N L R hs es H hc E m c)=>tfits_ok u v hu hv W h);have QA:=hide (fun W (h:GM W N L R hs es H hc E m c)=>add_ok es N u v E m c W h.em (by omega));have QM:=hide (fun es E m c W (h:GM W N L R hs es H hc E m c)=>mended_ok u v hu hv W h);have hparts:=add_parts hG.ge hu hv;have B0:=(Blk.new w 30 #[.int .i64 N,.int .i64 L,.int .i64 R,.slice H (L * R) hc,.slice E m c]).alloc (.cells #[.int .i64 0,.int .i64 0,.int .i64 0,.slice none 0 0,.slice none 0 0] 30);have B1:=Blk.new (w.alloc (.cells #[.int .i64 N,.int .i64 L,.int .i64 R,.slice H (L * R) hc,.slice E m c] 30)) 30 #[.int .i64 0,.int .i64 0,.int .i64 0,.slice none 0 0,.slice none 0 0];rw [heap_alloc_size] at B1;have hb0:=((Below.refl w.heap.size w).alloc (Nat.le_refl _) (.cells #[.int .i64 N,.int .i64 L,.int .i64 R,.slice H (L * R) hc,.slice E m c] 30)).alloc (by simp) (.cells #[.int .i64 0,.int .i64 0,.int .i64 0,.slice none 0 0,.slice none 0 0] 30);have HG0:=hide ((hG.alloc (.cells #[.int .i64 N,.int .i64 L,.int .i64 R,.slice H (L * R) hc,.slice E m c] 30)).alloc (.cells #[.int .i64 0,.int .i64 0,.int .i64 0,.slice none 0 0,.slice none 0 0] 30));unfold gV at QF QM;unfold gV;generalize hK:L * R=K at *;clear hG;go_enter Tryz.func54,Tryz.ntmps54;go_wp2_with (fail);generalize (w.alloc (.cells #[.int .i64 N,.int .i64 L,.int .i64 R,.slice H K hc,.slice E m c] 30)).alloc (.cells #[.int .i64 0,.int .i64 0,.int .i64 0,.slice none 0 0,.slice none 0 0] 30)=W0 at *;(obtain ⟨x0,x1,x2,x3,x4,e0,s0⟩:=(B0).f5);refine (QF.out _ HG0.out).mono ?_;rintro e w1 ⟨rfl,b1⟩;have hb1:=hb0.trans (b1.mono hb0.size);have B01:=B0.below b1 B0.lt;have B11:=B1.below b1 B1.lt;have HG1:=hide (HG0.out.below b1);clear x0 x1 x2 x3 x4 e0 s0 hb0 B0 B1 HG0 b1;(obtain ⟨x0,x1,x2,x3,x4,e0,s0⟩:=(B01).f5);go_wp2_with (fail);clear x0 x1 x2 x3 x4 e0 s0;refine (QA.out _ HG1.out).mono ?_;rintro e w2 ⟨R2,d2,rfl,S2,b2⟩;have hb2:=hb1.trans (b2.mono hb1.size);have B02:=B01.below b2 B01.lt;have B12:=hide (B11.below b2 B11.lt);have HG2:=hide (HG1.out.below b2);have HG1':=HG1;clear hb1 B01 B11 HG1;rcases hparts with hne | ⟨heq,hge⟩;(· (have HP:=hide (show PIns N u v es es (addE N es u v).2 from ⟨rfl,fun _=>rfl,fun h=>absurd h hne⟩);have hd:((addE N es u v).2 == 0)=false:=(by rw [beq_eq_false_iff_ne];exact hne);clear hne S2;generalize (addE N es u v).2=code at *;(obtain ⟨x0,x1,x2,x3,x4,e0,s0⟩:=(B02).f5);(obtain ⟨q0,q1,q2,q3,q4,eb,sb⟩:=(B12.out).f5;have Z:=hide (five_z (B12.out) (.int .i64 N) (.int .i64 L) (.int .i64 R) (.slice H K hc) (.slice E m c));go_wp2_with (fail);refine bodyPost_ret (v:=.tuple #[.agg #[.int .i64 N,.int .i64 L,.int .i64 R,.slice H K hc,.slice E m c],.int .i64 code]) (by simp [results,Tryz.results54,go_sem,Z.out.1,Z.out.2.1,Z.out.2.2.1,Z.out.2.2.2.1,Z.out.2.2.2.2]) rfl ?_);exact ⟨E,m,c,es,code,rfl,HG2.out.set5 B12.out (gcells_z N) _ _ _ _ _,HP.out,below_set5 hb2 (by simp) _ _ _ _ _⟩));(· (rw [heq] at S2 ⊢;have HQ:=hide heq;have HG3:=HG1'.out.reset b2 S2 hge;simp only [] at HG3 S2 ⊢;clear heq S2 HG1' b2;have HG4:=hide (HG3.set1 B02 (gcells_n _ _ _ _ _ _ _ _ _) 4 (.slice R2 (insE es (edgeE u v 0)).length d2));have zz:=(B02.set_ 4 (.slice R2 (insE es (edgeE u v 0)).length d2)).cell 4;have B04:=hide (show Blk (w2.setCell ⟨w.heap.size,4,none⟩ (.slice R2 (insE es (edgeE u v 0)).length d2)) w.heap.size 30 #[.int .i64 N,.int .i64 L,.int .i64 R,.slice H K hc,.slice R2 (insE es (edgeE u v 0)).length d2] from B02.set_ 4 (.slice R2 (insE es (edgeE u v 0)).length d2));have B14:=hide (B12.out.far (p:=⟨w.heap.size,4,none⟩) (by simp) (.slice R2 (insE es (edgeE u v 0)).length d2));have hb4:=hb2.setCell (p:=⟨w.heap.size,4,none⟩) (Nat.le_refl _) (.slice R2 (insE es (edgeE u v 0)).length d2);(obtain ⟨x0,x1,x2,x3,x4,e0,s0⟩:=(B02).f5);clear hb2 B02 B12 HG2 HG3;go_wp2_with (fail);generalize w2.setCell ⟨w.heap.size,4,none⟩ (.slice R2 (insE es (edgeE u v 0)).length d2)=W4 at *;clear x0 x1 x2 x3 x4 e0 s0 zz;refine (QM.out _ _ _ _ _ HG4.out).mono ?_;rintro e w5 ⟨E5,m5,c5,es5,rfl,G5,HP5,b5⟩;have HPP:=hide (show PIns N u v es es5 0 from ⟨by rw [HQ.out],fun h=>absurd rfl h,fun _=>HP5⟩);have hb5:=hb4.trans (b5.mono hb4.size);have B15:=B14.out.below b5 B14.out.lt;have HG5:=hide G5;clear G5 HP5 b5 hb4 B14 B04 HG4;(obtain ⟨q0,q1,q2,q3,q4,eb,sb⟩:=(B15).f5;have Z:=hide (five_z (B15) (.int .i64 N) (.int .i64 L) (.int .i64 R) (.slice H K hc) (.slice E5 m5 c5));go_wp2_with (fail);refine bodyPost_ret (v:=.tuple #[.agg #[.int .i64 N,.int .i64 L,.int .i64 R,.slice H K hc,.slice E5 m5 c5],.int .i64 0]) (by simp [results,Tryz.results54,go_sem,Z.out.1,Z.out.2.1,Z.out.2.2.1,Z.out.2.2.2.1,Z.out.2.2.2.2]) rfl ?_);exact ⟨E5,m5,c5,es5,0,rfl,HG5.out.set5 B15 (gcells_z N) _ _ _ _ _,HPP.out,below_set5 hb5 (by simp) _ _ _ _ _⟩)))
set_option maxHeartbeats 6400000 in
theorem tdelete_ok (u v:Nat) (hu:u < N) (hv:v < N) (w:World) (hG:GM w N L R hs es H hc E m c) :
    Calls Tryz.prog 55 #[gV N L R H hc E m c,.int .i64 u,.int .i64 v] w (RetGC N L R hs H hc (L * R) (PDel N u v es) w):=by
  (have hml:=hG.m_le;have QF:=hide (fun W (h:GM W N L R hs es H hc E m c)=>tfits_ok u v hu hv W h);have QA:=hide (fun W (h:GM W N L R hs es H hc E m c)=>remove_ok es N u v E m c W h.em (by omega));have QM:=hide (fun es E m c W (h:GM W N L R hs es H hc E m c)=>mended_ok u v hu hv W h);have hparts:=rem_parts hG.ge hu hv;have B0:=(Blk.new w 30 #[.int .i64 N,.int .i64 L,.int .i64 R,.slice H (L * R) hc,.slice E m c]).alloc (.cells #[.int .i64 0,.int .i64 0,.int .i64 0,.slice none 0 0,.slice none 0 0] 30);have B1:=Blk.new (w.alloc (.cells #[.int .i64 N,.int .i64 L,.int .i64 R,.slice H (L * R) hc,.slice E m c] 30)) 30 #[.int .i64 0,.int .i64 0,.int .i64 0,.slice none 0 0,.slice none 0 0];rw [heap_alloc_size] at B1;have hb0:=((Below.refl w.heap.size w).alloc (Nat.le_refl _) (.cells #[.int .i64 N,.int .i64 L,.int .i64 R,.slice H (L * R) hc,.slice E m c] 30)).alloc (by simp) (.cells #[.int .i64 0,.int .i64 0,.int .i64 0,.slice none 0 0,.slice none 0 0] 30);have HG0:=hide ((hG.alloc (.cells #[.int .i64 N,.int .i64 L,.int .i64 R,.slice H (L * R) hc,.slice E m c] 30)).alloc (.cells #[.int .i64 0,.int .i64 0,.int .i64 0,.slice none 0 0,.slice none 0 0] 30));unfold gV at QF QM;unfold gV;generalize hK:L * R=K at *;clear hG;go_enter Tryz.func55,Tryz.ntmps55;go_wp2_with (fail);generalize (w.alloc (.cells #[.int .i64 N,.int .i64 L,.int .i64 R,.slice H K hc,.slice E m c] 30)).alloc (.cells #[.int .i64 0,.int .i64 0,.int .i64 0,.slice none 0 0,.slice none 0 0] 30)=W0 at *;(obtain ⟨x0,x1,x2,x3,x4,e0,s0⟩:=(B0).f5);refine (QF.out _ HG0.out).mono ?_;rintro e w1 ⟨rfl,b1⟩;have hb1:=hb0.trans (b1.mono hb0.size);have B01:=B0.below b1 B0.lt;have B11:=B1.below b1 B1.lt;have HG1:=hide (HG0.out.below b1);clear x0 x1 x2 x3 x4 e0 s0 hb0 B0 B1 HG0 b1;(obtain ⟨x0,x1,x2,x3,x4,e0,s0⟩:=(B01).f5);go_wp2_with (fail);clear x0 x1 x2 x3 x4 e0 s0;refine (QA.out _ HG1.out).mono ?_;rintro e w2 ⟨R2,d2,rfl,S2,b2⟩;have hb2:=hb1.trans (b2.mono hb1.size);have B02:=B01.below b2 B01.lt;have B12:=hide (B11.below b2 B11.lt);have HG2:=hide (HG1.out.below b2);have HG1':=HG1;clear hb1 B01 B11 HG1;rcases hparts with hne | ⟨heq,hge⟩;(· (have HP:=hide (show PDel N u v es es (remE N es u v).2 from ⟨rfl,fun _=>rfl,fun h=>absurd h hne⟩);have hd:((remE N es u v).2 == 0)=false:=(by rw [beq_eq_false_iff_ne];exact hne);clear hne S2;generalize (remE N es u v).2=code at *;(obtain ⟨x0,x1,x2,x3,x4,e0,s0⟩:=(B02).f5);(obtain ⟨q0,q1,q2,q3,q4,eb,sb⟩:=(B12.out).f5;have Z:=hide (five_z (B12.out) (.int .i64 N) (.int .i64 L) (.int .i64 R) (.slice H K hc) (.slice E m c));go_wp2_with (fail);refine bodyPost_ret (v:=.tuple #[.agg #[.int .i64 N,.int .i64 L,.int .i64 R,.slice H K hc,.slice E m c],.int .i64 code]) (by simp [results,Tryz.results55,go_sem,Z.out.1,Z.out.2.1,Z.out.2.2.1,Z.out.2.2.2.1,Z.out.2.2.2.2]) rfl ?_);exact ⟨E,m,c,es,code,rfl,HG2.out.set5 B12.out (gcells_z N) _ _ _ _ _,HP.out,below_set5 hb2 (by simp) _ _ _ _ _⟩));(· (rw [heq] at S2 ⊢;have HQ:=hide heq;have HG3:=HG1'.out.reset b2 S2 hge;simp only [] at HG3 S2 ⊢;clear heq S2 HG1' b2;have HG4:=hide (HG3.set1 B02 (gcells_n _ _ _ _ _ _ _ _ _) 4 (.slice R2 (delE es u v).length d2));have zz:=(B02.set_ 4 (.slice R2 (delE es u v).length d2)).cell 4;have B04:=hide (show Blk (w2.setCell ⟨w.heap.size,4,none⟩ (.slice R2 (delE es u v).length d2)) w.heap.size 30 #[.int .i64 N,.int .i64 L,.int .i64 R,.slice H K hc,.slice R2 (delE es u v).length d2] from B02.set_ 4 (.slice R2 (delE es u v).length d2));have B14:=hide (B12.out.far (p:=⟨w.heap.size,4,none⟩) (by simp) (.slice R2 (delE es u v).length d2));have hb4:=hb2.setCell (p:=⟨w.heap.size,4,none⟩) (Nat.le_refl _) (.slice R2 (delE es u v).length d2);(obtain ⟨x0,x1,x2,x3,x4,e0,s0⟩:=(B02).f5);clear hb2 B02 B12 HG2 HG3;go_wp2_with (fail);generalize w2.setCell ⟨w.heap.size,4,none⟩ (.slice R2 (delE es u v).length d2)=W4 at *;clear x0 x1 x2 x3 x4 e0 s0 zz;refine (QM.out _ _ _ _ _ HG4.out).mono ?_;rintro e w5 ⟨E5,m5,c5,es5,rfl,G5,HP5,b5⟩;have HPP:=hide (show PDel N u v es es5 0 from ⟨by rw [HQ.out],fun h=>absurd rfl h,fun _=>HP5.1⟩);have hb5:=hb4.trans (b5.mono hb4.size);have B15:=B14.out.below b5 B14.out.lt;have HG5:=hide G5;clear G5 HP5 b5 hb4 B14 B04 HG4;(obtain ⟨q0,q1,q2,q3,q4,eb,sb⟩:=(B15).f5;have Z:=hide (five_z (B15) (.int .i64 N) (.int .i64 L) (.int .i64 R) (.slice H K hc) (.slice E5 m5 c5));go_wp2_with (fail);refine bodyPost_ret (v:=.tuple #[.agg #[.int .i64 N,.int .i64 L,.int .i64 R,.slice H K hc,.slice E5 m5 c5],.int .i64 0]) (by simp [results,Tryz.results55,go_sem,Z.out.1,Z.out.2.1,Z.out.2.2.1,Z.out.2.2.2.1,Z.out.2.2.2.2]) rfl ?_);exact ⟨E5,m5,c5,es5,0,rfl,HG5.out.set5 B15 (gcells_z N) _ _ _ _ _,HPP.out,below_set5 hb5 (by simp) _ _ _ _ _⟩)))
end
end Go.Proofs.YtppblcbgkadldaaGreatDoor
namespace Go.Proofs.YtppblcbgkadldaaGreatDoor
open Go Go.RowKit
set_option maxRecDepth 100000
attribute [local go_sem] Heavy heavyUpon
def SCells (N:Nat) (cs:Array Value):Prop:=∃ x y z A1 n1 c1 A2 n2 c2 A3 n3 c3,cs=#[.int .i64 x,.int .i64 y,.int .i64 z,.slice A1 n1 c1,.slice A2 n2 c2,.slice A3 n3 c3] ∧ (x=N ∨ (x=0 ∧ y=0))
theorem scells_no64 {N:Nat} {cs:Array Value} (h:SCells N cs) (i:Nat) (v:Int):cs[i]? ≠ some (.int .u64 v):=by
  obtain ⟨x,y,z,A1,n1,c1,A2,n2,c2,A3,n3,c3,rfl,_⟩:=h
  match i with
  | 0 | 1 | 2 | 3 | 4 | 5=>intro he;simp at he
  | i + 6=>intro he;simp at he
theorem scells_nobool {N:Nat} {cs:Array Value} (h:SCells N cs) (i:Nat) (v:Bool):cs[i]? ≠ some (.bool v):=by
  obtain ⟨x,y,z,A1,n1,c1,A2,n2,c2,A3,n3,c3,rfl,_⟩:=h
  match i with
  | 0 | 1 | 2 | 3 | 4 | 5=>intro he;simp at he
  | i + 6=>intro he;simp at he
theorem scells_noedge {N:Nat} {cs:Array Value} (h:SCells N cs) (i:Nat) (e:E3) (he:0 ≤ e.1 ∧ e.1 < e.2.1 ∧ e.2.1 < N):¬ (cs[i]? = some (.int .i64 e.1) ∧ cs[i + 1]? = some (.int .i64 e.2.1) ∧ cs[i + 2]? = some (.int .i64 e.2.2)):=by
  obtain ⟨x,y,z,A1,n1,c1,A2,n2,c2,A3,n3,c3,rfl,hx⟩:=h
  rintro ⟨h0,h1,h2⟩
  match i with
  | 0=>simp at h0 h1;omega
  | 1 | 2 | 3=>simp at h2
  | 4 | 5=>simp at h0
  | i + 6=>simp at h0
section
variable {w w':World} {N L R:Nat} {hs:List (Int × Int)} {es:List E3} {ls:List S2} {H:Option Addr} {hc:Nat} {E:Option Addr} {m c:Nat} {S:Option Addr} {d:Nat}
theorem SM.av (h:SM w N L R hs es ls H hc E m c S d) {g:Nat} {t:TypeId} {cs:Array Value} (hB:Blk w g t cs) (hcs:SCells N cs):Sl w [g] 2 H (L * R) hc (hcells hs) ∧ Sl w [g] 3 E m c (ecells es) ∧ Sl w [g] 2 S N d (scells ls):=by
  refine ⟨?_,?_,?_⟩
  · refine ⟨h.g.hm.len,h.g.hm.le,h.g.hm.cap,fun hn=>?_⟩
    obtain ⟨ad,e,hb,hm,hc'⟩:=h.g.hm.at_ hn
    refine ⟨ad,e,hb,?_,hc'⟩
    intro hg
    simp only [List.mem_singleton] at hg
    have hl:0 < hs.length:=by have:=HSl.length h.g.hm;omega
    obtain ⟨ad',e',_,c0,_⟩:=HSl.get h.g.hm hl
    rw [e] at e';injection e' with e';subst e'
    rw [Nat.zero_mul,add_zero_] at c0
    subst hg
    exact scells_no64 hcs _ _ (cell_blk hB c0)
  · refine ⟨h.g.em.len,h.g.em.le,h.g.em.cap,fun hn=>?_⟩
    obtain ⟨ad,e,hb,hm,hc'⟩:=h.g.em.at_ hn
    refine ⟨ad,e,hb,?_,hc'⟩
    intro hg
    simp only [List.mem_singleton] at hg
    have hl:0 < es.length:=by have:=ESl.length h.g.em;omega
    obtain ⟨ad',e',_,_,c0,c1,c2⟩:=ESl.get h.g.em hl
    rw [e] at e';injection e' with e';subst e'
    rw [Nat.zero_mul,add_zero_] at c0 c1 c2
    subst hg
    obtain ⟨h0,h1,h2,_⟩:=right_edge h.g.ge.right (List.getElem_mem hl)
    refine scells_noedge hcs ad.off es[0] ⟨h0,h1,h2⟩ ⟨cell_blk hB c0,?_,?_⟩
    · have:=hB.cell (ad.off + 1);rw [c1] at this;exact this.symm
    · have:=hB.cell (ad.off + 2);rw [c2] at this;exact this.symm
  · refine ⟨h.s.len,h.s.le,h.s.cap,fun hn=>?_⟩
    obtain ⟨ad,e,hb,hm,hc'⟩:=h.s.at_ hn
    refine ⟨ad,e,hb,?_,hc'⟩
    intro hg
    simp only [List.mem_singleton] at hg
    have hl:0 < ls.length:=by have:=SSl.length h.s;omega
    obtain ⟨ad',e',_,c0,_⟩:=SSl.get h.s hl
    rw [e] at e';injection e' with e';subst e'
    rw [Nat.zero_mul,add_zero_] at c0
    subst hg
    exact scells_nobool hcs _ _ (cell_blk hB c0)
theorem SM.sets (h:SM w N L R hs es ls H hc E m c S d) {g:Nat} {t:TypeId} {cs:Array Value} (hB:Blk w g t cs) (hcs:SCells N cs) (ps:List (Addr × Value)) (hp:∀ p ∈ ps,p.1.block=g):SM (sets w ps) N L R hs es ls H hc E m c S d:=by
  obtain ⟨h1,h2,h3⟩:=h.av hB hcs
  exact ⟨⟨h.g.n1,h.g.n2,h.g.l1,h.g.l2,h.g.r1,h.g.r2,h.g.hok,(Sl.sets (by simp) ps w h1 hp).less (by simp),(Sl.sets (by simp) ps w h2 hp).less (by simp),h.g.ge⟩,(Sl.sets (by simp) ps w h3 hp).less (by simp),h.ok,h.used⟩
theorem SM.set1 (h:SM w N L R hs es ls H hc E m c S d) {g:Nat} {t:TypeId} {cs:Array Value} (hB:Blk w g t cs) (hcs:SCells N cs) (i:Nat) (u:Value):SM (w.setCell ⟨g,i,none⟩ u) N L R hs es ls H hc E m c S d:=
  h.sets hB hcs [(⟨g,i,none⟩,u)] (by simp)
theorem SM.set5 (h:SM w N L R hs es ls H hc E m c S d) {g:Nat} {t:TypeId} {cs:Array Value} (hB:Blk w g t cs) (hcs:SCells N cs) (a b k e f:Value):SM (((((w.setCell ⟨g,0,none⟩ a).setCell ⟨g,1,none⟩ b).setCell ⟨g,2,none⟩ k).setCell ⟨g,3,none⟩ e).setCell ⟨g,4,none⟩ f) N L R hs es ls H hc E m c S d:=
  h.sets hB hcs [(⟨g,0,none⟩,a),(⟨g,1,none⟩,b),(⟨g,2,none⟩,k),(⟨g,3,none⟩,e),(⟨g,4,none⟩,f)] (by simp)
theorem SM.set6 (h:SM w N L R hs es ls H hc E m c S d) {g:Nat} {t:TypeId} {cs:Array Value} (hB:Blk w g t cs) (hcs:SCells N cs) (a b k e f i:Value):SM ((((((w.setCell ⟨g,0,none⟩ a).setCell ⟨g,1,none⟩ b).setCell ⟨g,2,none⟩ k).setCell ⟨g,3,none⟩ e).setCell ⟨g,4,none⟩ f).setCell ⟨g,5,none⟩ i) N L R hs es ls H hc E m c S d:=
  h.sets hB hcs [(⟨g,0,none⟩,a),(⟨g,1,none⟩,b),(⟨g,2,none⟩,k),(⟨g,3,none⟩,e),(⟨g,4,none⟩,f),(⟨g,5,none⟩,i)] (by simp)
theorem scells_n (N L R:Nat) (H:Option Addr) (hc K:Nat) (E:Option Addr) (m c:Nat) (S:Option Addr) (n d:Nat):SCells N #[.int .i64 N,.int .i64 L,.int .i64 R,.slice H K hc,.slice E m c,.slice S n d]:=⟨_,_,_,_,_,_,_,_,_,_,_,_,rfl,.inl rfl⟩
theorem scells_z (N:Nat):SCells N #[.int .i64 0,.int .i64 0,.int .i64 0,.slice none 0 0,.slice none 0 0,.slice none 0 0]:=⟨_,_,_,_,_,_,_,_,_,_,_,_,rfl,.inr ⟨rfl,rfl⟩⟩
end
theorem Blk.set6 {w:World} {g:Nat} {t:TypeId} {x0 x1 x2 x3 x4 x5:Value} (h:Blk w g t #[x0,x1,x2,x3,x4,x5]) (a b d e f i:Value):Blk ((((((w.setCell ⟨g,0,none⟩ a).setCell ⟨g,1,none⟩ b).setCell ⟨g,2,none⟩ d).setCell ⟨g,3,none⟩ e).setCell ⟨g,4,none⟩ f).setCell ⟨g,5,none⟩ i) g t #[a,b,d,e,f,i]:=by
  have:=(((((h.set_ 0 a).set_ 1 b).set_ 2 d).set_ 3 e).set_ 4 f).set_ 5 i
  simpa using this
theorem Blk.set5of {w:World} {g:Nat} {t:TypeId} {x0 x1 x2 x3 x4 x5:Value} (h:Blk w g t #[x0,x1,x2,x3,x4,x5]) (a b d e f:Value):Blk (((((w.setCell ⟨g,0,none⟩ a).setCell ⟨g,1,none⟩ b).setCell ⟨g,2,none⟩ d).setCell ⟨g,3,none⟩ e).setCell ⟨g,4,none⟩ f) g t #[a,b,d,e,f,x5]:=by
  have:=((((h.set_ 0 a).set_ 1 b).set_ 2 d).set_ 3 e).set_ 4 f
  simpa using this
theorem six_z {w:World} {g:Nat} {t:TypeId} {x0 x1 x2 x3 x4 x5:Value} (h:Blk w g t #[x0,x1,x2,x3,x4,x5]) (a b d e f i:Value) :
    (w.setCell ⟨g,0,none⟩ a).cell? ⟨g,0,none⟩=some a ∧ ((w.setCell ⟨g,0,none⟩ a).setCell ⟨g,1,none⟩ b).cell? ⟨g,1,none⟩=some b ∧ (((w.setCell ⟨g,0,none⟩ a).setCell ⟨g,1,none⟩ b).setCell ⟨g,2,none⟩ d).cell? ⟨g,2,none⟩=some d ∧
    ((((w.setCell ⟨g,0,none⟩ a).setCell ⟨g,1,none⟩ b).setCell ⟨g,2,none⟩ d).setCell ⟨g,3,none⟩ e).cell? ⟨g,3,none⟩=some e ∧ (((((w.setCell ⟨g,0,none⟩ a).setCell ⟨g,1,none⟩ b).setCell ⟨g,2,none⟩ d).setCell ⟨g,3,none⟩ e).setCell ⟨g,4,none⟩ f).cell? ⟨g,4,none⟩=some f ∧ ((((((w.setCell ⟨g,0,none⟩ a).setCell ⟨g,1,none⟩ b).setCell ⟨g,2,none⟩ d).setCell ⟨g,3,none⟩ e).setCell ⟨g,4,none⟩ f).setCell ⟨g,5,none⟩ i).cell? ⟨g,5,none⟩=some i:=
  ⟨(h.set_ 0 a).cell 0,((h.set_ 0 a).set_ 1 b).cell 1,(((h.set_ 0 a).set_ 1 b).set_ 2 d).cell 2,((((h.set_ 0 a).set_ 1 b).set_ 2 d).set_ 3 e).cell 3,(Blk.set5of h a b d e f).cell 4,(Blk.set6 h a b d e f i).cell 5⟩
theorem five_z6 {w:World} {g:Nat} {t:TypeId} {x0 x1 x2 x3 x4 x5:Value} (h:Blk w g t #[x0,x1,x2,x3,x4,x5]) (a b d e f:Value) :
    (w.setCell ⟨g,0,none⟩ a).cell? ⟨g,0,none⟩=some a ∧ ((w.setCell ⟨g,0,none⟩ a).setCell ⟨g,1,none⟩ b).cell? ⟨g,1,none⟩=some b ∧ (((w.setCell ⟨g,0,none⟩ a).setCell ⟨g,1,none⟩ b).setCell ⟨g,2,none⟩ d).cell? ⟨g,2,none⟩=some d ∧
    ((((w.setCell ⟨g,0,none⟩ a).setCell ⟨g,1,none⟩ b).setCell ⟨g,2,none⟩ d).setCell ⟨g,3,none⟩ e).cell? ⟨g,3,none⟩=some e ∧ (((((w.setCell ⟨g,0,none⟩ a).setCell ⟨g,1,none⟩ b).setCell ⟨g,2,none⟩ d).setCell ⟨g,3,none⟩ e).setCell ⟨g,4,none⟩ f).cell? ⟨g,4,none⟩=some f:=
  ⟨(h.set_ 0 a).cell 0,((h.set_ 0 a).set_ 1 b).cell 1,(((h.set_ 0 a).set_ 1 b).set_ 2 d).cell 2,((((h.set_ 0 a).set_ 1 b).set_ 2 d).set_ 3 e).cell 3,(Blk.set5of h a b d e f).cell 4⟩
theorem below_set6 {B:Nat} {w w':World} (h:Below B w w') {g:Nat} (hg:B ≤ g) (a b d e f i:Value):Below B w ((((((w'.setCell ⟨g,0,none⟩ a).setCell ⟨g,1,none⟩ b).setCell ⟨g,2,none⟩ d).setCell ⟨g,3,none⟩ e).setCell ⟨g,4,none⟩ f).setCell ⟨g,5,none⟩ i):=
  (((((h.setCell (p:=⟨g,0,none⟩) hg a).setCell (p:=⟨g,1,none⟩) hg b).setCell (p:=⟨g,2,none⟩) hg d).setCell (p:=⟨g,3,none⟩) hg e).setCell (p:=⟨g,4,none⟩) hg f).setCell (p:=⟨g,5,none⟩) hg i
end Go.Proofs.YtppblcbgkadldaaGreatDoor
namespace Go.Proofs.YtppblcbgkadldaaGreatDoor
open Go Go.RowKit
set_option maxRecDepth 100000
structure NC (cs:Array Value):Prop where
  no64:∀ (i:Nat) (v:Int),cs[i]? ≠ some (.int .u64 v)
  nob:∀ (i:Nat) (v:Bool),cs[i]? ≠ some (.bool v)
  no3:∀ (i:Nat) (x y z:Int),¬ (cs[i]? = some (.int .i64 x) ∧ cs[i + 1]? = some (.int .i64 y) ∧ cs[i + 2]? = some (.int .i64 z))
theorem nc_words (A:Option Addr) (n c:Nat) (x:Int):NC #[.slice A n c,.int .i64 x]:=by
  refine ⟨fun i v=>?_,fun i v=>?_,fun i x y z h=>?_⟩
  · match i with
    | 0 | 1=>simp
    | i + 2=>simp
  · match i with
    | 0 | 1=>simp
    | i + 2=>simp
  · match i,h with
    | 0,h=>simp at h
    | 1,h=>simp at h
    | i + 2,h=>simp at h
theorem nc_model (x:Int) (A:Option Addr) (n c:Nat) (B:Option Addr) (m d:Nat):NC #[.int .i64 x,.slice A n c,.slice B m d]:=by
  refine ⟨fun i v=>?_,fun i v=>?_,fun i x y z h=>?_⟩
  · match i with
    | 0 | 1 | 2=>simp
    | i + 3=>simp
  · match i with
    | 0 | 1 | 2=>simp
    | i + 3=>simp
  · match i,h with
    | 0,h=>simp at h
    | 1,h=>simp at h
    | 2,h=>simp at h
    | i + 3,h=>simp at h
section
variable {w w':World} {N L R:Nat} {hs:List (Int × Int)} {es:List E3} {ls:List S2} {H:Option Addr} {hc:Nat} {E:Option Addr} {m c:Nat} {S:Option Addr} {d:Nat}
theorem SM.av2 (h:SM w N L R hs es ls H hc E m c S d) {g:Nat} {t:TypeId} {cs:Array Value} (hB:Blk w g t cs) (hcs:NC cs):Sl w [g] 2 H (L * R) hc (hcells hs) ∧ Sl w [g] 3 E m c (ecells es) ∧ Sl w [g] 2 S N d (scells ls):=by
  refine ⟨?_,?_,?_⟩
  · refine ⟨h.g.hm.len,h.g.hm.le,h.g.hm.cap,fun hn=>?_⟩
    obtain ⟨ad,e,hb,hm,hc'⟩:=h.g.hm.at_ hn
    refine ⟨ad,e,hb,?_,hc'⟩
    intro hg
    simp only [List.mem_singleton] at hg
    have hl:0 < hs.length:=by have:=HSl.length h.g.hm;omega
    obtain ⟨ad',e',_,c0,_⟩:=HSl.get h.g.hm hl
    rw [e] at e';injection e' with e';subst e'
    rw [Nat.zero_mul,add_zero_] at c0
    subst hg
    exact hcs.no64 _ _ (cell_blk hB c0)
  · refine ⟨h.g.em.len,h.g.em.le,h.g.em.cap,fun hn=>?_⟩
    obtain ⟨ad,e,hb,hm,hc'⟩:=h.g.em.at_ hn
    refine ⟨ad,e,hb,?_,hc'⟩
    intro hg
    simp only [List.mem_singleton] at hg
    have hl:0 < es.length:=by have:=ESl.length h.g.em;omega
    obtain ⟨ad',e',_,_,c0,c1,c2⟩:=ESl.get h.g.em hl
    rw [e] at e';injection e' with e';subst e'
    rw [Nat.zero_mul,add_zero_] at c0 c1 c2
    subst hg
    refine hcs.no3 ad.off es[0].1 es[0].2.1 es[0].2.2 ⟨cell_blk hB c0,?_,?_⟩
    · have:=hB.cell (ad.off + 1);rw [c1] at this;exact this.symm
    · have:=hB.cell (ad.off + 2);rw [c2] at this;exact this.symm
  · refine ⟨h.s.len,h.s.le,h.s.cap,fun hn=>?_⟩
    obtain ⟨ad,e,hb,hm,hc'⟩:=h.s.at_ hn
    refine ⟨ad,e,hb,?_,hc'⟩
    intro hg
    simp only [List.mem_singleton] at hg
    have hl:0 < ls.length:=by have:=SSl.length h.s;omega
    obtain ⟨ad',e',_,c0,_⟩:=SSl.get h.s hl
    rw [e] at e';injection e' with e';subst e'
    rw [Nat.zero_mul,add_zero_] at c0
    subst hg
    exact hcs.nob _ _ (cell_blk hB c0)
theorem sm_sets2 (h:SM w N L R hs es ls H hc E m c S d) {g:Nat} {t:TypeId} {cs:Array Value} (hB:Blk w g t cs) (hcs:NC cs) (ps:List (Addr × Value)) (hp:∀ p ∈ ps,p.1.block=g):SM (sets w ps) N L R hs es ls H hc E m c S d:=by
  obtain ⟨h1,h2,h3⟩:=h.av2 hB hcs
  exact ⟨⟨h.g.n1,h.g.n2,h.g.l1,h.g.l2,h.g.r1,h.g.r2,h.g.hok,(Sl.sets (by simp) ps w h1 hp).less (by simp),(Sl.sets (by simp) ps w h2 hp).less (by simp),h.g.ge⟩,(Sl.sets (by simp) ps w h3 hp).less (by simp),h.ok,h.used⟩
theorem sm_setw (h:SM w N L R hs es ls H hc E m c S d) {g:Nat} {t:TypeId} {cs:Array Value} (hB:Blk w g t cs) (hcs:NC cs) (a b:Value):SM ((w.setCell ⟨g,0,none⟩ a).setCell ⟨g,1,none⟩ b) N L R hs es ls H hc E m c S d:=
  sm_sets2 h hB hcs [(⟨g,0,none⟩,a),(⟨g,1,none⟩,b)] (by simp)
theorem sm_setm (h:SM w N L R hs es ls H hc E m c S d) {g:Nat} {t:TypeId} {cs:Array Value} (hB:Blk w g t cs) (hcs:NC cs) (a b e:Value):SM (((w.setCell ⟨g,0,none⟩ a).setCell ⟨g,1,none⟩ b).setCell ⟨g,2,none⟩ e) N L R hs es ls H hc E m c S d:=
  sm_sets2 h hB hcs [(⟨g,0,none⟩,a),(⟨g,1,none⟩,b),(⟨g,2,none⟩,e)] (by simp)
end
theorem far6 {w:World} {g k:Nat} {u:TypeId} {cs:Array Value} (h2:Blk w k u cs) (hk:k ≠ g) (a b d e f i:Value):Blk ((((((w.setCell ⟨g,0,none⟩ a).setCell ⟨g,1,none⟩ b).setCell ⟨g,2,none⟩ d).setCell ⟨g,3,none⟩ e).setCell ⟨g,4,none⟩ f).setCell ⟨g,5,none⟩ i) k u cs:=by
  have k0:=h2.far (p:=⟨g,0,none⟩) hk a
  have k1:=k0.far (p:=⟨g,1,none⟩) hk b
  have k2:=k1.far (p:=⟨g,2,none⟩) hk d
  have k3:=k2.far (p:=⟨g,3,none⟩) hk e
  have k4:=k3.far (p:=⟨g,4,none⟩) hk f
  exact k4.far (p:=⟨g,5,none⟩) hk i
theorem two_boxes {w:World} {g:Nat} {t u:TypeId} {x0 x1 x2 x3 x4 x5 y0 y1:Value} (h1:Blk w g t #[x0,x1,x2,x3,x4,x5]) (h2:Blk w (g + 1) u #[y0,y1]) (a b d e f i p q:Value) :
    Blk ((((((((w.setCell ⟨g,0,none⟩ a).setCell ⟨g,1,none⟩ b).setCell ⟨g,2,none⟩ d).setCell ⟨g,3,none⟩ e).setCell ⟨g,4,none⟩ f).setCell ⟨g,5,none⟩ i).setCell ⟨g + 1,0,none⟩ p).setCell ⟨g + 1,1,none⟩ q) g t #[a,b,d,e,f,i] ∧ Blk ((((((((w.setCell ⟨g,0,none⟩ a).setCell ⟨g,1,none⟩ b).setCell ⟨g,2,none⟩ d).setCell ⟨g,3,none⟩ e).setCell ⟨g,4,none⟩ f).setCell ⟨g,5,none⟩ i).setCell ⟨g + 1,0,none⟩ p).setCell ⟨g + 1,1,none⟩ q) (g + 1) u #[p,q]:=by
  constructor
  · exact ((Blk.set6 h1 a b d e f i).far (p:=⟨g + 1,0,none⟩) (by simp) p).far (p:=⟨g + 1,1,none⟩) (by simp) q
  · have k0:=h2.far (p:=⟨g,0,none⟩) (by simp) a
    have k1:=k0.far (p:=⟨g,1,none⟩) (by simp) b
    have k2:=k1.far (p:=⟨g,2,none⟩) (by simp) d
    have k3:=k2.far (p:=⟨g,3,none⟩) (by simp) e
    have k4:=k3.far (p:=⟨g,4,none⟩) (by simp) f
    have k5:=k4.far (p:=⟨g,5,none⟩) (by simp) i
    exact Blk.set2 k5
end Go.Proofs.YtppblcbgkadldaaGreatDoor
