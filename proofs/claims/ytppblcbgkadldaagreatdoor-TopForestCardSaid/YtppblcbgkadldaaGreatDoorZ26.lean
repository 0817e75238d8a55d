/-
  A part of the proof that the law TopForest returns true for every input and leaves its arguments as they were: TiersB, SnapR, IdxA.
-/
import Derived.Test.YtppblcbgkadldaaGreatDoorZ13
import Derived.Test.YtppblcbgkadldaaGreatDoorZ22
import Derived.Test.YtppblcbgkadldaaGreatDoorZ25
set_option linter.all false
namespace Go.Proofs.YtppblcbgkadldaaGreatDoor
open Go Go.RowKit
set_option maxRecDepth 100000
attribute [local go_sem] Heavy heavyUpon
section
variable {w w':World} {N L R:Nat} {hs:List (Int × Int)} {es:List E3} {H:Option Addr} {hc:Nat} {E:Option Addr} {m c:Nat}
def RetG (N L R:Nat) (hs:List (Int × Int)) (H:Option Addr) (hc K:Nat) (P:List E3 → Prop) (w:World) (e:Ending) (w':World):Prop:=
  ∃ E m c es,e=.returned (.agg #[.int .i64 N,.int .i64 L,.int .i64 R,.slice H K hc,.slice E m c]) ∧ GM w' N L R hs es H hc E m c ∧ P es ∧ Below w.heap.size w w'
theorem gcells_n (N L R:Nat) (H:Option Addr) (hc K:Nat) (E:Option Addr) (m c:Nat):GCells N #[.int .i64 N,.int .i64 L,.int .i64 R,.slice H K hc,.slice E m c]:=⟨_,_,_,_,_,_,_,_,_,rfl,.inl rfl⟩
theorem gcells_z (N:Nat):GCells N #[.int .i64 0,.int .i64 0,.int .i64 0,.slice none 0 0,.slice none 0 0]:=⟨_,_,_,_,_,_,_,_,_,rfl,.inr ⟨rfl,rfl⟩⟩
set_option maxHeartbeats 6400000 in
theorem raised_ok (i v:Nat) (hi:i < L) (hv:v < N) (w:World) (hG:GM w N L R hs es H hc E m c) :
    Calls Tryz.prog 121 #[gV N L R H hc E m c,.int .i64 i,.int .i64 v] w (RetG N L R hs H hc (L * R) (fun es'=>SameE es es' ∧ RES N i v es es') w):=by
  have n2:=hG.n2
  have l2:=hG.l2
  have hml:=hG.m_le
  have QA:=hide (fun W (h:GM W N L R hs es H hc E m c)=>sTree_ok i v (by omega) hv W h)
  have QB:=hide (fun W (h:GM W N L R hs es H hc E m c)=>sTree_ok (i + 1) v (by omega) hv W h)
  have QS:=hide (fun W (h:GM W N L R hs es H hc E m c)=>search_any i v hi hv W h)
  have HSUB:=hide (cutT_sub N es i v)
  have HRES:=hide (show ¬ ((treeN N es i v).length=(treeN N es (i + 1) v).length ∧ ∃ a,cutT N es i v=[a]) → RES N i v es es from fun h=>.inl ⟨rfl,h⟩)
  have B0:=(Blk.new w 30 #[.int .i64 N,.int .i64 L,.int .i64 R,.slice H (L * R) hc,.slice E m c]).alloc (.cells #[.int .i64 0,.int .i64 0,.int .i64 0,.slice none 0 0,.slice none 0 0] 30)
  have B1:=Blk.new (w.alloc (.cells #[.int .i64 N,.int .i64 L,.int .i64 R,.slice H (L * R) hc,.slice E m c] 30)) 30 #[.int .i64 0,.int .i64 0,.int .i64 0,.slice none 0 0,.slice none 0 0]
  rw [heap_alloc_size] at B1
  have hb0:=((Below.refl w.heap.size w).alloc (Nat.le_refl _) (.cells #[.int .i64 N,.int .i64 L,.int .i64 R,.slice H (L * R) hc,.slice E m c] 30)).alloc (by simp) (.cells #[.int .i64 0,.int .i64 0,.int .i64 0,.slice none 0 0,.slice none 0 0] 30)
  have HG0:=hide ((hG.alloc (.cells #[.int .i64 N,.int .i64 L,.int .i64 R,.slice H (L * R) hc,.slice E m c] 30)).alloc (.cells #[.int .i64 0,.int .i64 0,.int .i64 0,.slice none 0 0,.slice none 0 0] 30))
  have HGE:=hide hG.ge
  unfold gV at QA QB QS
  unfold gV
  have HLR:=hide (show L * R=L * R from rfl)
  generalize hK:L * R=K at *
  generalize hT1:treeN N es i v=T1 at *
  generalize hT2:treeN N es (i + 1) v=T2 at *
  generalize cutT N es i v=C at *
  clear hG
  go_enter Tryz.func121,Tryz.ntmps121
  go_wp2_with (fail)
  generalize (w.alloc (.cells #[.int .i64 N,.int .i64 L,.int .i64 R,.slice H K hc,.slice E m c] 30)).alloc (.cells #[.int .i64 0,.int .i64 0,.int .i64 0,.slice none 0 0,.slice none 0 0] 30)=W0 at *
  (obtain ⟨x0,x1,x2,x3,x4,e0,s0⟩:=(B0).f5)
  refine wp_region_lexD [3,9] (fun w'=>Below (W0).heap.size (W0) w') (by kernel_rfl) (by kernel_rfl) (Below.refl _ _).drew ?_
  (repeat ((with_reducible refine wpLex_step (fun K hK=>?_));go_simp;first | ((with_reducible refine hK _ _ ?_);clear hK K) | ((with_reducible apply Exists.intro);refine ⟨fun w' hw'=>?_,hK _ _ ?_⟩;(· (have hq:=bcells hw';apply valEq;(· (go_simp;first | done | (with_reducible rfl)));(· ((try go_bits);with_reducible rfl))));clear hK K)))
  ((with_reducible refine wpLex_step (fun K hK=>?_));go_simp;refine (QA.out _ HG0.out.drew).mono ?_;rintro e w3 ⟨A3,d3,rfl,S3,hbx⟩;have g3:=((Below.refl (W0).heap.size W0).drew).trans (hbx.mono ((Below.refl (W0).heap.size W0).drew).size);skip;refine ⟨_,rfl,g3,hK _ _ ?_⟩;clear hK K hbx)
  (repeat ((with_reducible refine wpLex_step (fun K hK=>?_));go_simp;first | ((with_reducible refine hK _ _ ?_);clear hK K) | ((with_reducible apply Exists.intro);refine ⟨fun w' hw'=>?_,hK _ _ ?_⟩;(· (have hq:=bcells hw';apply valEq;(· (go_simp;first | done | (with_reducible rfl)));(· ((try go_bits);with_reducible rfl))));clear hK K)))
  ((with_reducible refine wpLex_step (fun K hK=>?_));go_simp;refine (QB.out _ (HG0.out.below g3)).mono ?_;rintro e w4 ⟨A4,d4,rfl,S4,hbx⟩;have g4:=(g3).trans (hbx.mono (g3).size);skip;refine ⟨_,rfl,g4,hK _ _ ?_⟩;clear hK K hbx)
  (repeat ((with_reducible refine wpLex_step (fun K hK=>?_));go_simp;first | ((with_reducible refine hK _ _ ?_);clear hK K) | ((with_reducible apply Exists.intro);refine ⟨fun w' hw'=>?_,hK _ _ ?_⟩;(· (have hq:=bcells hw';apply valEq;(· (go_simp;first | done | (with_reducible rfl)));(· ((try go_bits);with_reducible rfl))));clear hK K)))
  refine wpLex_nil (fun _=>?_)
  have hb4:=hb0.trans (g4.mono hb0.size)
  have HG4:=hide (HG0.out.below g4)
  have B04:=B0.below g4 B0.lt
  have B14:=hide (B1.below g4 B1.lt)
  clear B0 B1 hb0 HG0 g3 g4 S3 S4 x0 x1 x2 x3 x4 e0 s0 QA QB
  (obtain ⟨x0,x1,x2,x3,x4,e0,s0⟩:=(B04).f5)
  by_cases hT:T1.length=T2.length
  · have HT:=hide hT
    have hd:((T1.length:Int) == (T2.length:Int))=true:=by rw [beq_iff_eq];omega
    clear hT
    go_wp2_with (fail)
    refine (QS.out _ HG4.out).mono ?_
    rintro e w5 ⟨x,b,he5,hx5,hone,b5⟩
    unfold edgeV at he5
    subst he5
    obtain ⟨p,q,t⟩:=x
    have hb5:=hb4.trans (b5.mono hb4.size)
    have HG5:=hide (HG4.out.below b5)
    have B05:=B04.below b5 B04.lt
    have B15:=hide (B14.out.below b5 B14.out.lt)
    have B05a:=hide (B05.alloc (.cells #[.int .i64 p,.int .i64 q,.int .i64 t] 104))
    have B15a:=hide (B15.out.alloc (.cells #[.int .i64 p,.int .i64 q,.int .i64 t] 104))
    have B25:=hide (Blk.new w5 104 #[.int .i64 p,.int .i64 q,.int .i64 t])
    have hb6:=hb5.alloc hb5.size (.cells #[.int .i64 p,.int .i64 q,.int .i64 t] 104)
    clear b5 B04 B14 x0 x1 x2 x3 x4 e0 s0 QS hb4 HG4
    cases b with
    | false =>
      have HR:=hide (HRES.out (fun h=>by obtain ⟨_,a,ha⟩:=h;have:=hone a ha;cases this))
      (obtain ⟨x0,x1,x2,x3,x4,e0,s0⟩:=(B05).f5)
      (obtain ⟨q0,q1,q2,q3,q4,eb,sb⟩:=(B15.out).f5;have Z:=hide (five_z (B15.out) (.int .i64 N) (.int .i64 L) (.int .i64 R) (.slice H K hc) (.slice E m c));go_wp2_with (fail);refine bodyPost_ret (v:=.agg #[.int .i64 N,.int .i64 L,.int .i64 R,.slice H K hc,.slice E m c]) (by simp [results,Tryz.results121,go_sem,sb,sz_set,Z.out.1,Z.out.2.1,Z.out.2.2.1,Z.out.2.2.2.1,Z.out.2.2.2.2]) rfl ?_)
      exact ⟨E,m,c,es,rfl,(HG5.out.set5 B15.out (gcells_z N) _ _ _ _ _).alloc _,⟨SameE.refl es,HR.out⟩,(below_set5 hb5 (by simp) _ _ _ _ _).alloc (by simp [sz_set];exact hb5.size) _⟩
    | true =>
      have HX:=hide (HSUB.out _ (hx5 rfl))
      clear hx5 hone HRES hT1 hT2 HSUB HT
      have hre:=right_edge HGE.out.right HX.out
      simp only [] at hre
      obtain ⟨p,rfl⟩:=Int.eq_ofNat_of_zero_le hre.1
      obtain ⟨q,rfl⟩:=Int.eq_ofNat_of_zero_le (show 0 ≤ q by omega)
      have h16:L ≤ 16:=by omega
      (obtain ⟨x0,x1,x2,x3,x4,e0,s0⟩:=(B05).f5)
      by_cases ht:t=0
      · subst ht
        have hpq:p ≠ q:=by omega
        have hpN:p < N:=by omega
        have hqN:q < N:=by omega
        have e1:outF N es L=forestE es L:=by unfold outF;rw [if_pos HGE.out.right]
        have hfl:(forestE es L).length ≤ m:=by
          have:=filter_len (tierT L) es es.length
          rw [List.take_length] at this
          have h2:=ESl.length HG5.out.em
          unfold forestE
          omega
        have QF:=hide (fun W (h:GM W N L R hs es H hc E m c)=>forest_ok es N L [] E m c W h.em (by omega))
        rw [e1] at QF
        have QP:=hide (fun R d W (h:ESl W [] R (forestE es L).length d (forestE es L))=>path_ok (forestE es L) N p q (by omega) (HG5.out.ends.forest L) (fun e he=>by have:=right_edge HGE.out.right (List.mem_filter.1 he).1;omega) HGE.out.acyc hpN hqN hpq R _ d W h (by omega))
        have HTT:=hide (show 1 ≤ (i:Int) + 1 ∧ (i:Int) + 1 ≤ L by omega)
        have HPQ:=hide (And.intro hpq hfl)
        have HG6:=hide (HG5.out.alloc (.cells #[.int .i64 p,.int .i64 q,.int .i64 0] 104))
        clear hre HG5 e1 hfl hpq
        go_wp2_with (fail)
        generalize w5.alloc (.cells #[.int .i64 p,.int .i64 q,.int .i64 0] 104)=W6 at *
        refine (QF.out _ HG6.out).mono ?_
        rintro e w7 ⟨RF,dF,rfl,SF,b7⟩
        have HSF:=hide SF
        have hb7:=hb6.trans (b7.mono hb6.size)
        have B07:=hide (B05a.out.below b7 B05a.out.lt)
        have B17:=hide (B15a.out.below b7 B15a.out.lt)
        have B27:=B25.out.below b7 B25.out.lt
        have HG7:=hide (HG6.out.below b7)
        have HGNE:=hide (show w5.heap.size ≠ w.heap.size by have:=B05a.out.lt;have:=hb5.size;have:=B15.out.lt;omega)
        generalize w5.heap.size=gE at *
        clear SF b7 hb6 B05a B15a B25 HG6 hb5 x0 x1 x2 x3 x4 e0 s0
        obtain ⟨ry,ey,sy⟩:=B27.facts
        have y0:w7.cell? ⟨gE,0,none⟩=some (.int .i64 p):=ry 0
        have y1:w7.cell? ⟨gE,1,none⟩=some (.int .i64 q):=ry 1
        clear ry
        go_wp2_with (fail)
        refine (QP.out _ _ _ HSF.out).mono ?_
        rintro e w8 ⟨hcase,b8⟩
        have hb8:=hb7.trans (b8.mono hb7.size)
        have B08:=B07.out.below b8 B07.out.lt
        have B18:=hide (B17.out.below b8 B17.out.lt)
        have B28:=B27.below b8 B27.lt
        have HG8:=hide (HG7.out.below b8)
        clear b8 hb7 B07 B17 B27 HG7 HSF QF QP y0 y1 ey sy
        rcases hcase with ⟨rfl,hnc⟩ | ⟨RP,kk,dP,path,rfl,SP,hway,hnd,hsub,hkl⟩
        · have HGN:=hide (raise_new HGE.out h16 HX.out rfl HTT.out (by simpa [e2,forN] using hnc))
          have HSM:=hide (set_same HGE.out.right HX.out ((i:Int) + 1))
          have HRS:=hide (show RES N i v es (setE es (p:Int) (q:Int) ((i:Int) + 1)) from .inr ⟨((p:Int),(q:Int),0),HX.out,es,SameE.refl es,rfl⟩)
          clear hnc
          go_wp2_with (fail)
          refine (greatest_none _ _ _).mono ?_
          rintro e w9 ⟨he9,b9⟩
          unfold edgeV at he9
          subst he9
          have hb9:=hb8.trans (b9.mono hb8.size)
          have BT0:=hide ((B08.below b9 B08.lt).alloc (.cells #[.int .i64 0,.int .i64 0,.int .i64 0] 104))
          have BT1:=hide ((B18.out.below b9 B18.out.lt).alloc (.cells #[.int .i64 0,.int .i64 0,.int .i64 0] 104))
          have BT2:=hide ((B28.below b9 B28.lt).alloc (.cells #[.int .i64 0,.int .i64 0,.int .i64 0] 104))
          have HGt:=hide ((HG8.out.below b9).alloc (.cells #[.int .i64 0,.int .i64 0,.int .i64 0] 104))
          have hbt:=hb9.alloc hb9.size (.cells #[.int .i64 0,.int .i64 0,.int .i64 0] 104)
          have B09:=B08.below b9 B08.lt
          have B29:=B28.below b9 B28.lt
          (obtain ⟨x0,x1,x2,x3,x4,e0,s0⟩:=(B09).f5)
          obtain ⟨ry,ey,sy⟩:=B29.facts
          have y0:w9.cell? ⟨gE,0,none⟩=some (.int .i64 p):=ry 0
          have y1:w9.cell? ⟨gE,1,none⟩=some (.int .i64 q):=ry 1
          clear ry b9 hb8 B08 B18 B28 HG8 hb9 B09 B29
          go_wp2_with (fail)
          generalize w9.alloc (.cells #[.int .i64 0,.int .i64 0,.int .i64 0] 104)=WT at *
          clear x0 x1 x2 x3 x4 e0 s0 y0 y1 ey sy
          (refine (set_put HGE.out.right HX.out (by omega) _ _ _ _ HGt.out.em (by have:=HGt.out.m_le;omega)).mono ?_;rintro e w9 ⟨R9,d9,rfl,S9,b9⟩;have hb9:=hbt.trans (b9.mono hbt.size);have B09:=BT0.out.below b9 BT0.out.lt;have B19:=BT1.out.below b9 BT1.out.lt;have HG9:=hide (HGt.out.reset b9 S9 HGN.out);clear S9 b9 hbt BT2;(obtain ⟨x0,x1,x2,x3,x4,e0,s0⟩:=(B09).f5);have B09s:=B09.set_ 4 (.slice R9 (setE es (p:Int) (q:Int) ((i:Int) + 1)).length d9);have B19s:=B19.far (p:=⟨w.heap.size,4,none⟩) (by simp) (.slice R9 (setE es (p:Int) (q:Int) ((i:Int) + 1)).length d9);have zz:=B09s.cell 4;have HGF:=hide ((HG9.out.set1 B09 (gcells_n _ _ _ _ _ _ _ _ _) 4 (.slice R9 (setE es (p:Int) (q:Int) ((i:Int) + 1)).length d9)).set5 B19s (gcells_z N) (.int .i64 N) (.int .i64 L) (.int .i64 R) (.slice H K hc) (.slice R9 (setE es (p:Int) (q:Int) ((i:Int) + 1)).length d9));have HBF:=hide (below_set5 (hb9.setCell (p:=⟨w.heap.size,4,none⟩) (Nat.le_refl _) (.slice R9 (setE es (p:Int) (q:Int) ((i:Int) + 1)).length d9)) (g:=w.heap.size + 1) (by simp) (.int .i64 N) (.int .i64 L) (.int .i64 R) (.slice H K hc) (.slice R9 (setE es (p:Int) (q:Int) ((i:Int) + 1)).length d9));generalize setE es (p:Int) (q:Int) ((i:Int) + 1)=SE at *;clear B09s HG9;(obtain ⟨q0,q1,q2,q3,q4,eb,sb⟩:=(B19).f5;have Z:=hide (five_z (B19s) (.int .i64 N) (.int .i64 L) (.int .i64 R) (.slice H K hc) (.slice R9 SE.length d9));go_wp2_with (fail);refine bodyPost_ret (v:=.agg #[.int .i64 N,.int .i64 L,.int .i64 R,.slice H K hc,.slice R9 SE.length d9]) (by simp [results,Tryz.results121,go_sem,Z.out.1,Z.out.2.1,Z.out.2.2.1,Z.out.2.2.2.1,Z.out.2.2.2.2]) rfl ?_);exact ⟨R9,_,d9,SE,rfl,HGF.out,⟨HSM.out,HRS.out⟩,HBF.out⟩)
        · have hkp:0 < kk:=by
            rcases Nat.eq_zero_or_pos kk with h0 | h0
            · subst h0
              have hl:=ESl.length SP
              have hpn:path=[]:=List.eq_nil_of_length_eq_zero hl
              rw [hpn] at hway
              exact absurd hway HPQ.out.1
            · exact h0
          have HSP:=hide SP
          have HW:=hide (fun x hx=>raise_way (top:=x) HGE.out h16 HX.out rfl HTT.out (path:=path) (by simpa [e2] using hway) hnd hsub hx)
          have HTP:=hide (fun x (hx:x ∈ path)=>(List.mem_filter.1 (hsub x hx)).1)
          have hkk:kk ≤ 4096:=by have:=HPQ.out.2;omega
          clear hway hnd hsub SP hkl
          go_wp2_with (fail)
          refine (greatest_ok path RP kk dP _ HSP.out hkp hkk).mono ?_
          rintro e w9 ⟨x,he9,hxp,b9⟩
          obtain ⟨a,b,s⟩:=x
          unfold edgeV at he9
          subst he9
          have HWX:=hide (HW.out _ hxp)
          have HTX:=hide (HTP.out _ hxp)
          have hb9:=hb8.trans (b9.mono hb8.size)
          have BT0:=hide ((B08.below b9 B08.lt).alloc (.cells #[.int .i64 a,.int .i64 b,.int .i64 s] 104))
          have BT1:=hide ((B18.out.below b9 B18.out.lt).alloc (.cells #[.int .i64 a,.int .i64 b,.int .i64 s] 104))
          have BT2:=hide ((B28.below b9 B28.lt).alloc (.cells #[.int .i64 a,.int .i64 b,.int .i64 s] 104))
          have HGt:=hide ((HG8.out.below b9).alloc (.cells #[.int .i64 a,.int .i64 b,.int .i64 s] 104))
          have hbt:=hb9.alloc hb9.size (.cells #[.int .i64 a,.int .i64 b,.int .i64 s] 104)
          have B09:=B08.below b9 B08.lt
          (obtain ⟨x0,x1,x2,x3,x4,e0,s0⟩:=(B09).f5)
          clear b9 hb8 B08 B18 B28 HG8 hb9 B09 HSP HW HTP hxp
          go_wp2_with (fail)
          generalize w9.alloc (.cells #[.int .i64 a,.int .i64 b,.int .i64 s] 104)=WT at *
          clear x0 x1 x2 x3 x4 e0 s0
          refine (set_put (e:=(a,b,s)) HGE.out.right HTX.out (t:=0) (by omega) _ _ _ _ HGt.out.em (by have:=HGt.out.m_le;omega)).mono ?_
          rintro e w10 ⟨R10,d10,rfl,S10,b10⟩
          obtain ⟨gl,sml,hem,glf⟩:=HWX.out
          have HGN:=hide glf
          have HGL:=hide gl
          have HEM:=hide hem
          have HSM:=hide (sml.trans (set_same gl.right hem ((i:Int) + 1)))
          have HRS:=hide (show RES N i v es (setE (setE es a b 0) (p:Int) (q:Int) ((i:Int) + 1)) from .inr ⟨((p:Int),(q:Int),0),HX.out,_,sml,rfl⟩)
          have B010:=BT0.out.below b10 BT0.out.lt
          have HG10:=HGt.out.reset b10 S10 gl
          have hb10:=hbt.trans (b10.mono hbt.size)
          have B110:=BT1.out.below b10 BT1.out.lt
          have B210:=BT2.out.below b10 BT2.out.lt
          simp only [] at HGN HGL HEM HSM HG10
          have hgE:gE ≠ w.heap.size:=HGNE.out
          have y0:w10.cell? ⟨gE,0,none⟩=some (.int .i64 p):=B210.cell 0
          have y1:w10.cell? ⟨gE,1,none⟩=some (.int .i64 q):=B210.cell 1
          clear HWX gl sml hem glf b10 S10 BT0 BT1 BT2 HGt hbt
          generalize setE es a b 0=es1 at *
          (obtain ⟨x0,x1,x2,x3,x4,e0,s0⟩:=(B010).f5)
          have zz:=(B010.set_ 4 (.slice R10 es1.length d10)).cell 4
          have BT0:=hide (show Blk (w10.setCell ⟨w.heap.size,4,none⟩ (.slice R10 es1.length d10)) w.heap.size 30 #[.int .i64 N,.int .i64 L,.int .i64 R,.slice H K hc,.slice R10 es1.length d10] from B010.set_ 4 (.slice R10 es1.length d10))
          have BT1:=hide (B110.far (p:=⟨w.heap.size,4,none⟩) (by simp) (.slice R10 es1.length d10))
          have BT2:=hide (B210.far (p:=⟨w.heap.size,4,none⟩) hgE (.slice R10 es1.length d10))
          have HGt:=hide (HG10.set1 B010 (gcells_n _ _ _ _ _ _ _ _ _) 4 (.slice R10 es1.length d10))
          have hbt:=hb10.setCell (p:=⟨w.heap.size,4,none⟩) (Nat.le_refl _) (.slice R10 es1.length d10)
          clear hb10 B010 B110 B210 HG10
          go_wp2_with (fail)
          generalize w10.setCell ⟨w.heap.size,4,none⟩ (.slice R10 es1.length d10)=WS at *
          clear x0 x1 x2 x3 x4 e0 s0 y0 y1 zz
          (refine (set_put HGL.out.right HEM.out (by omega) _ _ _ _ HGt.out.em (by have:=HGt.out.m_le;omega)).mono ?_;rintro e w9 ⟨R9,d9,rfl,S9,b9⟩;have hb9:=hbt.trans (b9.mono hbt.size);have B09:=BT0.out.below b9 BT0.out.lt;have B19:=BT1.out.below b9 BT1.out.lt;have HG9:=hide (HGt.out.reset b9 S9 HGN.out);clear S9 b9 hbt BT2;(obtain ⟨x0,x1,x2,x3,x4,e0,s0⟩:=(B09).f5);have B09s:=B09.set_ 4 (.slice R9 (setE es1 (p:Int) (q:Int) ((i:Int) + 1)).length d9);have B19s:=B19.far (p:=⟨w.heap.size,4,none⟩) (by simp) (.slice R9 (setE es1 (p:Int) (q:Int) ((i:Int) + 1)).length d9);have zz:=B09s.cell 4;have HGF:=hide ((HG9.out.set1 B09 (gcells_n _ _ _ _ _ _ _ _ _) 4 (.slice R9 (setE es1 (p:Int) (q:Int) ((i:Int) + 1)).length d9)).set5 B19s (gcells_z N) (.int .i64 N) (.int .i64 L) (.int .i64 R) (.slice H K hc) (.slice R9 (setE es1 (p:Int) (q:Int) ((i:Int) + 1)).length d9));have HBF:=hide (below_set5 (hb9.setCell (p:=⟨w.heap.size,4,none⟩) (Nat.le_refl _) (.slice R9 (setE es1 (p:Int) (q:Int) ((i:Int) + 1)).length d9)) (g:=w.heap.size + 1) (by simp) (.int .i64 N) (.int .i64 L) (.int .i64 R) (.slice H K hc) (.slice R9 (setE es1 (p:Int) (q:Int) ((i:Int) + 1)).length d9));generalize setE es1 (p:Int) (q:Int) ((i:Int) + 1)=SE at *;clear B09s HG9;(obtain ⟨q0,q1,q2,q3,q4,eb,sb⟩:=(B19).f5;have Z:=hide (five_z (B19s) (.int .i64 N) (.int .i64 L) (.int .i64 R) (.slice H K hc) (.slice R9 SE.length d9));go_wp2_with (fail);refine bodyPost_ret (v:=.agg #[.int .i64 N,.int .i64 L,.int .i64 R,.slice H K hc,.slice R9 SE.length d9]) (by simp [results,Tryz.results121,go_sem,Z.out.1,Z.out.2.1,Z.out.2.2.1,Z.out.2.2.2.1,Z.out.2.2.2.2]) rfl ?_);exact ⟨R9,_,d9,SE,rfl,HGF.out,⟨HSM.out,HRS.out⟩,HBF.out⟩)
      · have hd0:(t == 0)=false:=by rw [beq_eq_false_iff_ne];exact ht
        have HGN:=hide (raise_same HGE.out h16 HX.out (by simp only [];omega) (t:=(i:Int) + 1) (by omega))
        have HSM:=hide (set_same HGE.out.right HX.out ((i:Int) + 1))
        have HRS:=hide (show RES N i v es (setE es (p:Int) (q:Int) ((i:Int) + 1)) from .inr ⟨(p,q,t),HX.out,es,SameE.refl es,rfl⟩)
        have HGt:=hide (HG5.out.alloc (.cells #[.int .i64 p,.int .i64 q,.int .i64 t] 104))
        have hbt:=hb6
        have BT0:=B05a
        have BT1:=B15a
        have BT2:=B25
        clear ht hre HG5 hb6 hb5 B05a B15a B25
        go_wp2_with (fail)
        generalize w5.alloc (.cells #[.int .i64 p,.int .i64 q,.int .i64 t] 104)=W6 at *
        (refine (set_put HGE.out.right HX.out (by omega) _ _ _ _ HGt.out.em (by have:=HGt.out.m_le;omega)).mono ?_;rintro e w9 ⟨R9,d9,rfl,S9,b9⟩;have hb9:=hbt.trans (b9.mono hbt.size);have B09:=BT0.out.below b9 BT0.out.lt;have B19:=BT1.out.below b9 BT1.out.lt;have HG9:=hide (HGt.out.reset b9 S9 HGN.out);clear S9 b9 hbt BT2;(obtain ⟨x0,x1,x2,x3,x4,e0,s0⟩:=(B09).f5);have B09s:=B09.set_ 4 (.slice R9 (setE es (p:Int) (q:Int) ((i:Int) + 1)).length d9);have B19s:=B19.far (p:=⟨w.heap.size,4,none⟩) (by simp) (.slice R9 (setE es (p:Int) (q:Int) ((i:Int) + 1)).length d9);have zz:=B09s.cell 4;have HGF:=hide ((HG9.out.set1 B09 (gcells_n _ _ _ _ _ _ _ _ _) 4 (.slice R9 (setE es (p:Int) (q:Int) ((i:Int) + 1)).length d9)).set5 B19s (gcells_z N) (.int .i64 N) (.int .i64 L) (.int .i64 R) (.slice H K hc) (.slice R9 (setE es (p:Int) (q:Int) ((i:Int) + 1)).length d9));have HBF:=hide (below_set5 (hb9.setCell (p:=⟨w.heap.size,4,none⟩) (Nat.le_refl _) (.slice R9 (setE es (p:Int) (q:Int) ((i:Int) + 1)).length d9)) (g:=w.heap.size + 1) (by simp) (.int .i64 N) (.int .i64 L) (.int .i64 R) (.slice H K hc) (.slice R9 (setE es (p:Int) (q:Int) ((i:Int) + 1)).length d9));generalize setE es (p:Int) (q:Int) ((i:Int) + 1)=SE at *;clear B09s HG9;(obtain ⟨q0,q1,q2,q3,q4,eb,sb⟩:=(B19).f5;have Z:=hide (five_z (B19s) (.int .i64 N) (.int .i64 L) (.int .i64 R) (.slice H K hc) (.slice R9 SE.length d9));go_wp2_with (fail);refine bodyPost_ret (v:=.agg #[.int .i64 N,.int .i64 L,.int .i64 R,.slice H K hc,.slice R9 SE.length d9]) (by simp [results,Tryz.results121,go_sem,Z.out.1,Z.out.2.1,Z.out.2.2.1,Z.out.2.2.2.1,Z.out.2.2.2.2]) rfl ?_);exact ⟨R9,_,d9,SE,rfl,HGF.out,⟨HSM.out,HRS.out⟩,HBF.out⟩)
  · have hd:((T1.length:Int) == (T2.length:Int))=false:=by rw [beq_eq_false_iff_ne];omega
    have HR:=hide (HRES.out fun h=>hT h.1)
    clear hT
    (obtain ⟨q0,q1,q2,q3,q4,eb,sb⟩:=(B14.out).f5;have Z:=hide (five_z (B14.out) (.int .i64 N) (.int .i64 L) (.int .i64 R) (.slice H K hc) (.slice E m c));go_wp2_with (fail);refine bodyPost_ret (v:=.agg #[.int .i64 N,.int .i64 L,.int .i64 R,.slice H K hc,.slice E m c]) (by simp [results,Tryz.results121,go_sem,Z.out.1,Z.out.2.1,Z.out.2.2.1,Z.out.2.2.2.1,Z.out.2.2.2.2]) rfl ?_)
    exact ⟨E,m,c,es,rfl,HG4.out.set5 B14.out (gcells_z N) _ _ _ _ _,⟨SameE.refl es,HR.out⟩,below_set5 hb4 (by simp) _ _ _ _ _⟩
end
end Go.Proofs.YtppblcbgkadldaaGreatDoor
namespace Go.Proofs.YtppblcbgkadldaaGreatDoor
open Go Go.RowKit
set_option maxRecDepth 100000
attribute [local go_sem] Heavy heavyUpon
def usedB (ls:List S2) (v:Int):Prop:=∃ h:v.toNat < ls.length,ls[v.toNat].1=true
structure SM (w:World) (N L R:Nat) (hs:List (Int × Int)) (es:List E3) (ls:List S2) (H:Option Addr) (hc:Nat) (E:Option Addr) (m c:Nat) (S:Option Addr) (d:Nat):Prop where
  g:GM w N L R hs es H hc E m c
  s:SSl w S N d ls
  ok:SOK ls
  used:∀ e ∈ es,usedB ls e.1 ∧ usedB ls e.2.1
def sV (N L R:Nat) (H:Option Addr) (hc:Nat) (E:Option Addr) (m c:Nat) (S:Option Addr) (d:Nat):Value:=.agg #[.int .i64 N,.int .i64 L,.int .i64 R,.slice H (L * R) hc,.slice E m c,.slice S N d]
section
variable {w w':World} {N L R:Nat} {hs:List (Int × Int)} {es:List E3} {ls:List S2} {H:Option Addr} {hc:Nat} {E:Option Addr} {m c:Nat} {S:Option Addr} {d:Nat}
theorem SM.below (h:SM w N L R hs es ls H hc E m c S d) (hb:Below w.heap.size w w'):SM w' N L R hs es ls H hc E m c S d:=⟨h.g.below hb,SSl.below h.s hb,h.ok,h.used⟩
theorem SM.alloc (h:SM w N L R hs es ls H hc E m c S d) (o:Obj):SM (w.alloc o) N L R hs es ls H hc E m c S d:=⟨h.g.alloc o,Sl.alloc h.s o,h.ok,h.used⟩
theorem SM.drew (h:SM w N L R hs es ls H hc E m c S d):SM w.drew N L R hs es ls H hc E m c S d:=⟨h.g.drew,Sl.drew h.s,h.ok,h.used⟩
set_option maxHeartbeats 6400000 in
theorem snapR_ok (w:World) (hS:SM w N L R hs es ls H hc E m c S d):Calls Tryz.prog 16 #[sV N L R H hc E m c S d] w (Ret (.bool true) w):=by
  have n1:=hS.g.n1
  have n2:=hS.g.n2
  have hml:=hS.g.m_le
  have QR:=hide (fun W (h:SM W N L R hs es ls H hc E m c S d)=>sright_ok W h.g)
  have QV:=hide (fun W (h:SM W N L R hs es ls H hc E m c S d)=>vright_ok ls h.ok S N d W h.s n1 (by omega))
  have HEL:=hide (ESl.length hS.g.em)
  have HUS:=hide hS.used
  have HGE:=hide hS.g.ge.right
  have HSL:=hide (SSl.length hS.s)
  have B0:=Blk.new w 33 #[.int .i64 N,.int .i64 L,.int .i64 R,.slice H (L * R) hc,.slice E m c,.slice S N d]
  have hb0:=(Below.refl w.heap.size w).alloc (Nat.le_refl _) (.cells #[.int .i64 N,.int .i64 L,.int .i64 R,.slice H (L * R) hc,.slice E m c,.slice S N d] 33)
  have HS0:=hide (hS.alloc (.cells #[.int .i64 N,.int .i64 L,.int .i64 R,.slice H (L * R) hc,.slice E m c,.slice S N d] 33))
  unfold gV at QR
  unfold sV
  generalize L * R=K at *
  clear hS
  have hnn:((N:Int) == (N:Int))=true:=by simp
  go_enter Tryz.func16,Tryz.ntmps16
  go_wp2_with (fail)
  generalize w.alloc (.cells #[.int .i64 N,.int .i64 L,.int .i64 R,.slice H K hc,.slice E m c,.slice S N d] 33)=W0 at *
  refine (QR.out _ HS0.out).mono ?_
  rintro e w1 ⟨rfl,b1⟩
  have hb1:=hb0.trans (b1.mono hb0.size)
  have HS1:=hide (HS0.out.below b1)
  have B1:=B0.below b1 B0.lt
  clear b1 B0 HS0 hb0
  (obtain ⟨x0,x1,x2,x3,x4,x5,e0,s0⟩:=(B1).f6)
  go_wp2_with (fail)
  clear x0 x1 x2 x3 x4 x5 e0 s0
  refine (QV.out _ HS1.out).mono ?_
  rintro e w2 ⟨rfl,b2⟩
  have hb2:=hb1.trans (b2.mono hb1.size)
  have HS2:=hide (HS1.out.below b2)
  have B2:=B1.below b2 B1.lt
  clear b2 B1 HS1 hb1
  (obtain ⟨x0,x1,x2,x3,x4,x5,e0,s0⟩:=(B2).f6)
  go_wp2_with (fail)
  clear x0 x1 x2 x3 x4 x5 e0 s0
  have HB2:=hide B2
  clear B2
  go_loopw [29] (fun i wr=>∃ k:Nat,k ≤ m ∧ i=.int .i64 k ∧ Below w.heap.size w wr ∧ Hid (Below w2.heap.size w2 wr)) (fun i _=>m - (intOf i).toNat)
  case atStart=>exact ⟨0,Nat.zero_le _,rfl,hb2,hide (Below.refl _ _)⟩
  case round =>
    clear hb2
    obtain ⟨k,hk,rfl,hbr,HBW⟩:=hrel
    by_cases hlt:k < m
    · have hx:k < es.length:=by have:=HEL.out;omega
      have HSr:=HS2.out.below HBW.out
      obtain ⟨ad,rfl,had,_,c0,c1,c2⟩:=ESl.get HSr.g.em hx
      have hu:=HUS.out _ (List.getElem_mem hx)
      have hre:=right_edge HGE.out (List.getElem_mem hx)
      generalize es[k]=h at *
      obtain ⟨p,q,t⟩:=h
      simp only [] at c0 c1 c2 hu hre
      obtain ⟨p,rfl⟩:=Int.eq_ofNat_of_zero_le hre.1
      obtain ⟨q,rfl⟩:=Int.eq_ofNat_of_zero_le (show 0 ≤ q by omega)
      obtain ⟨⟨hp,up⟩,hq,uq⟩:=hu
      simp only [Int.toNat_natCast] at hp hq up uq
      obtain ⟨a2,rfl,ha2,d0,_⟩:=SSl.get HSr.s hp
      obtain ⟨a3,ea3,ha3,d1,_⟩:=SSl.get HSr.s hq
      injection ea3 with ea3
      subst ea3
      rw [up] at d0
      rw [uq] at d1
      have hpN:p < N:=by have:=HSL.out;omega
      have hqN:q < N:=by have:=HSL.out;omega
      have BR:=HB2.out.below HBW.out HB2.out.lt
      (obtain ⟨x0,x1,x2,x3,x4,x5,e0,s0⟩:=(BR).f6)
      have szr:=hbr.size
      have HBW2:=hide (HBW.out.alloc HBW.out.size (.cells #[.int .i64 p,.int .i64 q,.int .i64 t] 104))
      have hb3:=hbr.alloc hbr.size (.cells #[.int .i64 p,.int .i64 q,.int .i64 t] 104)
      have hwp:(a2.add (p * 2)).block < wr.heap.size:=by rw [block_of_add];exact ha2
      have hwq:(a2.add (q * 2)).block < wr.heap.size:=by rw [block_of_add];exact ha2
      have g0:=(Below.heap_alloc wr (.cells #[.int .i64 p,.int .i64 q,.int .i64 t] 104) _ hwp)
      have f0:(wr.alloc (.cells #[.int .i64 p,.int .i64 q,.int .i64 t] 104)).cell? (a2.add (p * 2))=some (.bool true):=(World.cell?_of_block (Below.heap_alloc wr (.cells #[.int .i64 p,.int .i64 q,.int .i64 t] 104) _ hwp)).trans d0
      have f1:(wr.alloc (.cells #[.int .i64 p,.int .i64 q,.int .i64 t] 104)).cell? (a2.add (q * 2))=some (.bool true):=(World.cell?_of_block (Below.heap_alloc wr (.cells #[.int .i64 p,.int .i64 q,.int .i64 t] 104) _ hwq)).trans d1
      clear g0
      clear hre HSr up uq BR
      go_wp2_with (fail)
      exact ⟨⟨k + 1,by omega,by go_num,hb3,HBW2⟩,by simp [intOf];omega⟩
    · obtain rfl:k=m:=by omega
      go_wp2_with (fail)
      go_ret
      exact ⟨rfl,hbr⟩
end
end Go.Proofs.YtppblcbgkadldaaGreatDoor
namespace Go.Proofs.YtppblcbgkadldaaGreatDoor
open Go Go.RowKit
set_option maxRecDepth 100000
attribute [local go_sem] Heavy heavyUpon
section
variable {w w':World} {N L R:Nat} {hs:List (Int × Int)} {es:List E3} {ls:List S2} {H:Option Addr} {hc:Nat} {E:Option Addr} {m c:Nat} {S:Option Addr} {d:Nat}
set_option maxHeartbeats 3200000 in
theorem inear_ok (v:Nat) (w:World) (hS:SM w N L R hs es ls H hc E m c S d) :
    Calls Tryz.prog 46 #[sV N L R H hc E m c S d,.int .i64 v] w fun e w'=>∃ A k,e=.returned (.slice A (outN N es v).length k) ∧ Sl w' [] 1 A (outN N es v).length k (ints .i64 (outN N es v)) ∧ Below w.heap.size w w':=by
  have hml:=hS.g.m_le
  have QN:=hide (fun W (h:SM W N L R hs es ls H hc E m c S d)=>near_ok es N v [] E m c W h.g.em (by omega))
  have B0:=Blk.new w 33 #[.int .i64 N,.int .i64 L,.int .i64 R,.slice H (L * R) hc,.slice E m c,.slice S N d]
  have hb0:=(Below.refl w.heap.size w).alloc (Nat.le_refl _) (.cells #[.int .i64 N,.int .i64 L,.int .i64 R,.slice H (L * R) hc,.slice E m c,.slice S N d] 33)
  have HS0:=hide (hS.alloc (.cells #[.int .i64 N,.int .i64 L,.int .i64 R,.slice H (L * R) hc,.slice E m c,.slice S N d] 33))
  unfold sV
  generalize L * R=K at *
  generalize outN N es v=O at *
  clear hS
  go_enter Tryz.func46,Tryz.ntmps46
  go_wp2_with (fail)
  refine (QN.out _ HS0.out).mono ?_
  rintro e w1 ⟨R1,d1,rfl,S1,b1⟩
  have hb1:=hb0.trans (b1.mono hb0.size)
  have HS1:=hide S1
  clear S1
  go_wp2_with (fail)
  go_ret
  exact ⟨_,_,rfl,HS1.out,hb1⟩
set_option maxHeartbeats 3200000 in
theorem degree_ok (v:Nat) (w:World) (hS:SM w N L R hs es ls H hc E m c S d) :
    Calls Tryz.prog 44 #[sV N L R H hc E m c S d,.int .i64 v] w (Ret (.int .i64 ((outN N es v).length:Nat)) w):=by
  have QN:=hide (fun W (h:SM W N L R hs es ls H hc E m c S d)=>inear_ok v W h)
  have B0:=Blk.new w 33 #[.int .i64 N,.int .i64 L,.int .i64 R,.slice H (L * R) hc,.slice E m c,.slice S N d]
  have hb0:=(Below.refl w.heap.size w).alloc (Nat.le_refl _) (.cells #[.int .i64 N,.int .i64 L,.int .i64 R,.slice H (L * R) hc,.slice E m c,.slice S N d] 33)
  have HS0:=hide (hS.alloc (.cells #[.int .i64 N,.int .i64 L,.int .i64 R,.slice H (L * R) hc,.slice E m c,.slice S N d] 33))
  unfold sV at QN
  unfold sV
  generalize L * R=K at *
  generalize outN N es v=O at *
  clear hS
  go_enter Tryz.func44,Tryz.ntmps44
  go_wp2_with (fail)
  generalize w.alloc (.cells #[.int .i64 N,.int .i64 L,.int .i64 R,.slice H K hc,.slice E m c,.slice S N d] 33)=W0 at *
  refine (QN.out _ HS0.out).mono ?_
  rintro e w1 ⟨R1,d1,rfl,S1,b1⟩
  have hb1:=hb0.trans (b1.mono hb0.size)
  clear S1
  go_wp2_with (fail)
  go_ret
  exact ⟨rfl,hb1⟩
end
def asksAB (n:Nat):Bool:=decide (2 ≤ n) && decide (n ≤ 11) && !(n == 10)
def asksBB (n:Nat):Bool:=n == 3 || n == 4 || n == 5 || n == 8
theorem asksA_1 (w:World):Calls Tryz.prog 18 #[.int .i64 1] w (Ret (.bool (asksAB 1)) w):=by
  go_enter Tryz.func18,Tryz.ntmps18
  go_wp2_with (fail)
  go_ret
  exact ⟨rfl,Below.refl _ _⟩
theorem asksB_1 (w:World):Calls Tryz.prog 19 #[.int .i64 1] w (Ret (.bool (asksBB 1)) w):=by
  go_enter Tryz.func19,Tryz.ntmps19
  go_wp2_with (fail)
  go_ret
  exact ⟨rfl,Below.refl _ _⟩
theorem asksA_2 (w:World):Calls Tryz.prog 18 #[.int .i64 2] w (Ret (.bool (asksAB 2)) w):=by
  go_enter Tryz.func18,Tryz.ntmps18
  go_wp2_with (fail)
  go_ret
  exact ⟨rfl,Below.refl _ _⟩
theorem asksB_2 (w:World):Calls Tryz.prog 19 #[.int .i64 2] w (Ret (.bool (asksBB 2)) w):=by
  go_enter Tryz.func19,Tryz.ntmps19
  go_wp2_with (fail)
  go_ret
  exact ⟨rfl,Below.refl _ _⟩
theorem asksA_3 (w:World):Calls Tryz.prog 18 #[.int .i64 3] w (Ret (.bool (asksAB 3)) w):=by
  go_enter Tryz.func18,Tryz.ntmps18
  go_wp2_with (fail)
  go_ret
  exact ⟨rfl,Below.refl _ _⟩
theorem asksB_3 (w:World):Calls Tryz.prog 19 #[.int .i64 3] w (Ret (.bool (asksBB 3)) w):=by
  go_enter Tryz.func19,Tryz.ntmps19
  go_wp2_with (fail)
  go_ret
  exact ⟨rfl,Below.refl _ _⟩
theorem asksA_4 (w:World):Calls Tryz.prog 18 #[.int .i64 4] w (Ret (.bool (asksAB 4)) w):=by
  go_enter Tryz.func18,Tryz.ntmps18
  go_wp2_with (fail)
  go_ret
  exact ⟨rfl,Below.refl _ _⟩
theorem asksB_4 (w:World):Calls Tryz.prog 19 #[.int .i64 4] w (Ret (.bool (asksBB 4)) w):=by
  go_enter Tryz.func19,Tryz.ntmps19
  go_wp2_with (fail)
  go_ret
  exact ⟨rfl,Below.refl _ _⟩
theorem asksA_8 (w:World):Calls Tryz.prog 18 #[.int .i64 8] w (Ret (.bool (asksAB 8)) w):=by
  go_enter Tryz.func18,Tryz.ntmps18
  go_wp2_with (fail)
  go_ret
  exact ⟨rfl,Below.refl _ _⟩
theorem asksB_8 (w:World):Calls Tryz.prog 19 #[.int .i64 8] w (Ret (.bool (asksBB 8)) w):=by
  go_enter Tryz.func19,Tryz.ntmps19
  go_wp2_with (fail)
  go_ret
  exact ⟨rfl,Below.refl _ _⟩
theorem asksA_9 (w:World):Calls Tryz.prog 18 #[.int .i64 9] w (Ret (.bool (asksAB 9)) w):=by
  go_enter Tryz.func18,Tryz.ntmps18
  go_wp2_with (fail)
  go_ret
  exact ⟨rfl,Below.refl _ _⟩
theorem asksB_9 (w:World):Calls Tryz.prog 19 #[.int .i64 9] w (Ret (.bool (asksBB 9)) w):=by
  go_enter Tryz.func19,Tryz.ntmps19
  go_wp2_with (fail)
  go_ret
  exact ⟨rfl,Below.refl _ _⟩
theorem asksA_11 (w:World):Calls Tryz.prog 18 #[.int .i64 11] w (Ret (.bool (asksAB 11)) w):=by
  go_enter Tryz.func18,Tryz.ntmps18
  go_wp2_with (fail)
  go_ret
  exact ⟨rfl,Below.refl _ _⟩
theorem asksB_11 (w:World):Calls Tryz.prog 19 #[.int .i64 11] w (Ret (.bool (asksBB 11)) w):=by
  go_enter Tryz.func19,Tryz.ntmps19
  go_wp2_with (fail)
  go_ret
  exact ⟨rfl,Below.refl _ _⟩
theorem asksA_12 (w:World):Calls Tryz.prog 18 #[.int .i64 12] w (Ret (.bool (asksAB 12)) w):=by
  go_enter Tryz.func18,Tryz.ntmps18
  go_wp2_with (fail)
  go_ret
  exact ⟨rfl,Below.refl _ _⟩
theorem asksB_12 (w:World):Calls Tryz.prog 19 #[.int .i64 12] w (Ret (.bool (asksBB 12)) w):=by
  go_enter Tryz.func19,Tryz.ntmps19
  go_wp2_with (fail)
  go_ret
  exact ⟨rfl,Below.refl _ _⟩
theorem asksA_13 (w:World):Calls Tryz.prog 18 #[.int .i64 13] w (Ret (.bool (asksAB 13)) w):=by
  go_enter Tryz.func18,Tryz.ntmps18
  go_wp2_with (fail)
  go_ret
  exact ⟨rfl,Below.refl _ _⟩
theorem asksB_13 (w:World):Calls Tryz.prog 19 #[.int .i64 13] w (Ret (.bool (asksBB 13)) w):=by
  go_enter Tryz.func19,Tryz.ntmps19
  go_wp2_with (fail)
  go_ret
  exact ⟨rfl,Below.refl _ _⟩
end Go.Proofs.YtppblcbgkadldaaGreatDoor
