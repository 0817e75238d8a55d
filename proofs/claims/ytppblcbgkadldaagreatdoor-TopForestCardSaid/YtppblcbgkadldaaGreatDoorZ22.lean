/-
  A part of the proof that the law TopForest returns true for every input and leaves its arguments as they were: Toggle, Graph.
-/
import Derived.Test.YtppblcbgkadldaaGreatDoorZ10
import Derived.Test.YtppblcbgkadldaaGreatDoorZ18
import Derived.Test.YtppblcbgkadldaaGreatDoorZ21
set_option linter.all false
namespace Go.Proofs.YtppblcbgkadldaaGreatDoor
open Go Go.RowKit
set_option maxRecDepth 100000
attribute [local go_sem] Heavy heavyUpon
def hcell (h:Int × Int):List Value:=[.int .u64 h.1,.int .u64 h.2]
def hcells (l:List (Int × Int)):List Value:=l.flatMap hcell
theorem hcell_len (x:Int × Int):(hcell x).length=2:=rfl
theorem hcells_len (l:List (Int × Int)):(hcells l).length=l.length * 2:=flat_len hcell hcell_len l
theorem hcells_get0 (l:List (Int × Int)) (i:Nat) (hi:i < l.length):(hcells l)[i * 2]? = some (.int .u64 l[i].1):=by
  have:=flat_get hcell hcell_len l i 0 hi (by decide);simpa [hcell,hcells] using this
theorem hcells_get1 (l:List (Int × Int)) (i:Nat) (hi:i < l.length):(hcells l)[i * 2 + 1]? = some (.int .u64 l[i].2):=by
  have:=flat_get hcell hcell_len l i 1 hi (by decide);simpa [hcell,hcells] using this
theorem hcells_one {l:List (Int × Int)}:∀ u ∈ hcells l,u.oneCell'=true:=by
  intro u hu
  simp only [hcells,List.mem_flatMap,hcell,List.mem_cons,List.not_mem_nil,or_false] at hu
  obtain ⟨x,_,rfl | rfl⟩:=hu <;> rfl
def HSl (w:World) (A:Option Addr) (n c:Nat) (l:List (Int × Int)):Prop:=Sl w [] 2 A n c (hcells l)
theorem HSl.length {w:World} {A:Option Addr} {n c:Nat} {l:List (Int × Int)} (h:HSl w A n c l):l.length=n:=by
  have:=h.len;rw [hcells_len] at this;omega
theorem HSl.get {w:World} {A:Option Addr} {n c:Nat} {l:List (Int × Int)} (h:HSl w A n c l) {k:Nat} (hk:k < l.length) :
    ∃ ad,A=some ad ∧ ad.block < w.heap.size ∧ w.cell? (ad.add (k * 2))=some (.int .u64 l[k].1) ∧ w.cell? ⟨(ad.add (k * 2)).block,(ad.add (k * 2)).off + 1,none⟩=some (.int .u64 l[k].2):=by
  have hl:=h.length
  obtain ⟨ad,e,hb,_,hc⟩:=h.at_ (by omega)
  exact ⟨ad,e,hb,hc _ _ (hcells_get0 l k hk),cell_off (hc _ _ (hcells_get1 l k hk)) (by decide)⟩
theorem HSl.below {w w':World} {A:Option Addr} {n c:Nat} {l:List (Int × Int)} (h:HSl w A n c l) (hb:Below w.heap.size w w'):HSl w' A n c l:=Sl.below h hb
theorem ints_getD' {p:List Int} {i:Nat} (h:i < p.length):(ints .u64 p)[i]? = some (.int .u64 (p.getD i 0)):=by
  rw [ints_get h];simp [h]
theorem ints_lset (l:List Int) (i:Nat) (x:Int):(ints .u64 l).set i (.int .u64 x)=ints .u64 (l.set i x):=by simp [ints,List.map_set]
structure ZC (name:Int) (ws:List Int) (p:Nat):Prop where
  rest:∀ q,p ≤ q → ws.getD q 0=0
  all:∀ q,ws.getD q 0=0 ∨ ws.getD q 0=name
  first:0 < p → ws.getD 0 0=name
theorem xor_zero {name:Int} (h0:0 ≤ name) (h1:name < 18446744073709551616):bits .xor .u64 0 name=name:=by
  obtain ⟨k,rfl⟩:=Int.eq_ofNat_of_zero_le h0
  have:=bits_xor_u64_nat 0 k (by decide) (by omega)
  simpa using this
theorem xor_range (a b:Int):0 ≤ bits .xor .u64 a b ∧ bits .xor .u64 a b < 18446744073709551616:=by
  have h:=bits_within .xor .u64 a b
  have e1:IntKind.min .u64=0:=by decide
  have e2:IntKind.max .u64=18446744073709551615:=by decide
  rw [e1,e2] at h
  omega
theorem ZC.step {name:Int} {ws:List Int} {p:Nat} (h:ZC name ws p) (hp:p < ws.length) (h0:0 ≤ name) (h1:name < 18446744073709551616):ZC name (ws.set p (bits .xor .u64 (ws.getD p 0) name)) (p + 1):=by
  have e:bits .xor .u64 (ws.getD p 0) name=name:=by rw [h.rest p (Nat.le_refl _),xor_zero h0 h1]
  rw [e]
  refine ⟨fun q hq=>?_,fun q=>?_,fun _=>?_⟩
  · rw [getD_setI _ _ _ _ hp,if_neg (by omega)]
    exact h.rest q (by omega)
  · rw [getD_setI _ _ _ _ hp]
    split
    · exact .inr rfl
    · exact h.all q
  · rw [getD_setI _ _ _ _ hp]
    split
    · rfl
    · exact h.first (by omega)
theorem ZC.mono {name:Int} {ws:List Int} {p q:Nat} (h:ZC name ws p) (hpq:p ≤ q) (hq:q=0 ∨ 0 < p):ZC name ws q:=
  ⟨fun x hx=>h.rest x (by omega),h.all,fun hq0=>h.first (by omega)⟩
theorem ZC.start {name:Int} {ws:List Int} (h:∀ x ∈ ws,x=0):ZC name ws 0:=by
  have key:∀ q,ws.getD q 0=0:=fun q=>by
    rw [List.getD_eq_getElem?_getD]
    cases hq:ws[q]? with
    | none=>rfl
    | some x=>exact h x (List.mem_of_getElem? hq)
  exact ⟨fun q _=>key q,fun q=>.inl (key q),fun h=>by omega⟩
theorem WOK.set {ws:List Int} (h:WOK ws) (p:Nat) (a b:Int):WOK (ws.set p (bits .xor .u64 a b)):=by
  intro x hx
  rcases List.mem_or_eq_of_mem_set hx with hx | rfl
  · exact h x hx
  · exact xor_range a b
def RetToggle (K:List Nat) (r v n:Nat) (name:Int) (ws:List Int) (w:World) (e:Ending) (w':World):Prop:=
  ∃ A d ws',e=.returned (.tuple #[skV r v A n d,.int .i64 0]) ∧ Sl w' K 1 A n d (ints .u64 ws') ∧ WOK ws' ∧ ((∀ x ∈ ws,x=0) → (∀ x ∈ ws',x=0 ∨ x=name) ∧ ws'.getD 0 0=name) ∧ Below w.heap.size w w'
set_option maxHeartbeats 6400000 in
theorem toggle_ok (r v n:Nat) (r1:1 ≤ r) (r2:r ≤ 8) (v1:1 ≤ v) (v2:v ≤ 60) (hn:n=r * v) (hs:List (Int × Int)) (hH:∀ h ∈ hs,HOK h) (name:Int) (n0:0 ≤ name) (n1:name < 18446744073709551616)
    (ws:List Int) (hW:WOK ws) (A Ah:Option Addr) (d dh:Nat) (w:World) (hS:Sl w [] 1 A n d (ints .u64 ws)) (hT:HSl w Ah r dh hs) (K:List Nat) (hK:∀ x ∈ K,x < w.heap.size) :
    Calls Tryz.prog 217 #[skV r v A n d,.slice Ah r dh,.int .u64 name] w (RetToggle K r v n name ws w):=by
  have HKK:=hide hK
  clear hK
  have QR:=hide (fun W=>kright_yes r v n d A r1 r2 v1 v2 hn W)
  have hm:r * v ≤ 8 * 60:=Nat.mul_le_mul r2 v2
  have hn2:n ≤ 480:=by omega
  have HN:=hide hn
  have QC:=hide (fun W (h:Sl W [] 1 A n d (ints .u64 ws))=>cloneU_ok (ints .u64 ws) [] A n d W h ints_one (by omega))
  have HLH:=hide hT.length
  have HLW:=hide (show ws.length=n by have:=hS.len;simpa using this)
  have QD:=hide (fun (h:Int × Int) W (hh:HOK h)=>deep_ok h.1 h.2 name hh n0 n1 v v1 (by omega) W)
  have HH:=hide hH
  have HW:=hide hW
  have HNM:=hide (And.intro n0 n1)
  have hcap:=Nat.le_trans hT.le hT.cap
  unfold maxLen at hcap
  have hbd:=fun W=>build_sketch W r v
  have B0:=(Blk.new w 260 #[.int .i64 r,.int .i64 v,.slice A n d]).alloc (.cells #[.int .i64 0,.int .i64 0,.slice none 0 0] 260)
  have B1:Blk ((w.alloc (.cells #[.int .i64 r,.int .i64 v,.slice A n d] 260)).alloc (.cells #[.int .i64 0,.int .i64 0,.slice none 0 0] 260)) (w.heap.size + 1) 260 #[.int .i64 0,.int .i64 0,.slice none 0 0]:=by
    have:=Blk.new (w.alloc (.cells #[.int .i64 r,.int .i64 v,.slice A n d] 260)) 260 #[.int .i64 0,.int .i64 0,.slice none 0 0]
    rwa [heap_alloc_size] at this
  have hb0:=((Below.refl w.heap.size w).alloc (Nat.le_refl _) (.cells #[.int .i64 r,.int .i64 v,.slice A n d] 260)).alloc (by simp) (.cells #[.int .i64 0,.int .i64 0,.slice none 0 0] 260)
  clear hn hm hH hW n0 n1
  have hrr:((r:Int) == (r:Int))=true:=by simp
  unfold skV at QR
  unfold skV
  go_enter Tryz.func217,Tryz.ntmps217
  go_wp2_with (fail)
  generalize (w.alloc (.cells #[.int .i64 r,.int .i64 v,.slice A n d] 260)).alloc (.cells #[.int .i64 0,.int .i64 0,.slice none 0 0] 260)=W0 at *
  refine (QR.out _).mono ?_
  rintro e w1 ⟨rfl,b1⟩
  have B01:=B0.below b1 B0.lt
  have B11:=B1.below b1 B1.lt
  have hb1:=hb0.trans (b1.mono hb0.size)
  clear B0 B1 b1 hb0
  obtain ⟨r0,e0,s0⟩:=B01.facts
  have x0:w1.cell? ⟨w.heap.size,0,none⟩=some (.int .i64 r):=r0 0
  have x1:w1.cell? ⟨w.heap.size,1,none⟩=some (.int .i64 v):=r0 1
  have x2:w1.cell? ⟨w.heap.size,2,none⟩=some (.slice A n d):=r0 2
  clear r0
  go_wp2_with (fail)
  refine (QC.out _ (hS.below hb1)).mono ?_
  rintro e w2 ⟨R2,d2,rfl,own2,b2⟩
  have hn1:0 < n:=by
    have:=HN.out
    rw [this];exact Nat.mul_pos (by omega) (by omega)
  obtain ⟨g,cap,hv2,hg1,hg2⟩:=own2.form hn1
  injection hv2 with hv1 hv2 hv3
  subst hv1 hv3
  have B02:=hide (B01.below b2 B01.lt)
  have B12:=hide (B11.below b2 B11.lt)
  have hb2:=hb1.trans (b2.mono hb1.size)
  have OW:=hide own2
  have hgw:w.heap.size ≤ g:=Nat.le_trans hb1.size hg1
  have hg0:g ≠ w.heap.size:=by have:=B01.lt;omega
  have hg3:g ≠ w.heap.size + 1:=by have:=B11.lt;omega
  have HBB:=hide (hb1.size)
  generalize hB1:w1.heap.size=BB at *
  clear hB1 B01 B11 x0 x1 x2 e0 s0 own2 b2 hb1 QR QC hg1 hg2
  go_wp2_with (fail)
  go_loopw [28] (fun i wr=>∃ (k:Nat) (ws':List Int),k ≤ r ∧ i=.int .i64 k ∧ Below w.heap.size w wr ∧ Hid (wr.ownsRow BB 43 1 (.slice (some ⟨g,0,none⟩) n d2) n (ints .u64 ws')) ∧ Hid (Blk wr w.heap.size 260 #[.int .i64 r,.int .i64 v,.slice A n d]) ∧
    Hid (Blk wr (w.heap.size + 1) 260 #[.int .i64 0,.int .i64 0,.slice none 0 0]) ∧ Hid (ws'.length=n ∧ WOK ws' ∧ ((∀ x ∈ ws,x=0) → ZC name ws' (k * v)))) (fun i _=>r - (intOf i).toNat)
  case atStart=>exact ⟨0,ws,Nat.zero_le _,rfl,hb2,OW,B02,B12,hide ⟨HLW.out,HW.out,fun h=>by rw [Nat.zero_mul];exact ZC.start h⟩⟩
  case round =>
    clear hb2 OW B02 B12
    obtain ⟨k,ws',hk,rfl,hbr,HOW,HB0,HB1,HZ⟩:=hrel
    by_cases hlt:k < r
    · have hx:k < hs.length:=by have:=HLH.out;omega
      obtain ⟨ad,rfl,had,c0,c1⟩:=(hT.below hbr).get hx
      have QDk:=hide (fun W=>QD.out hs[k] W (HH.out _ (List.getElem_mem hx)))
      generalize hs[k]=h at *
      obtain ⟨p,q⟩:=h
      simp only [] at c0 c1 QDk
      have hb3:=hbr.alloc hbr.size (.cells #[.int .u64 p,.int .u64 q] 79)
      have HO3:=hide (HOW.out.alloc (.cells #[.int .u64 p,.int .u64 q] 79))
      have HB03:=HB0.out.alloc (.cells #[.int .u64 p,.int .u64 q] 79)
      have HB13:=hide (HB1.out.alloc (.cells #[.int .u64 p,.int .u64 q] 79))
      have szr:=hbr.size
      obtain ⟨r0,e0,s0⟩:=HB0.out.facts
      have x1:wr.cell? ⟨w.heap.size,1,none⟩=some (.int .i64 v):=r0 1
      clear r0 HOW HB0 HB1
      go_wp2_with (fail)
      generalize (wr.alloc (.cells #[.int .u64 p,.int .u64 q] 79))=W3 at *
      refine (QDk.out _).mono ?_
      rintro e w4 ⟨dd,rfl,dd1,dd2,b4⟩
      have hb4:=hb3.trans (b4.mono hb3.size)
      have HO4:=hide (own_below HO3.out b4)
      have HB04:=hide (HB03.below b4 HB03.lt)
      have HB14:=hide (HB13.out.below b4 HB13.out.lt)
      have HKV:=hide (show k * v + dd ≤ n by
        have h1:(k + 1) * v ≤ r * v:=Nat.mul_le_mul_right _ hlt
        rw [Nat.add_mul,Nat.one_mul,← HN.out] at h1
        omega)
      clear hb3 HO3 HB03 HB13 b4 c0 c1 x1 e0 s0 QDk szr
      go_wp2_with (fail)
      obtain ⟨wo,rfl⟩:∃ wo:World,wo=wr:=⟨_,rfl⟩
      go_loopw [38,11] (fun i _ wr=>∃ (j:Nat) (ws':List Int),j ≤ dd ∧ i=.int .i64 j ∧ Below w.heap.size w wr ∧ Hid (wr.ownsRow BB 43 1 (.slice (some ⟨g,0,none⟩) n d2) n (ints .u64 ws')) ∧ Hid (Blk wr w.heap.size 260 #[.int .i64 r,.int .i64 v,.slice A n d]) ∧
        Hid (Blk wr (w.heap.size + 1) 260 #[.int .i64 0,.int .i64 0,.slice none 0 0]) ∧ Hid (ws'.length=n ∧ WOK ws' ∧ ((∀ x ∈ ws,x=0) → ZC name ws' (k * v + j)))) (fun i _ _=>dd - (intOf i).toNat)
      case atStart=>exact ⟨0,ws',Nat.zero_le _,rfl,hb4,HO4,HB04,HB14,HZ⟩
      case round =>
        clear hb4 HO4 HB04 HB14 HZ hbr
        obtain ⟨j,ws',hj,rfl,hbr,HOW,HB0,HB1,HZ⟩:=hrel
        by_cases hlt2:j < dd
        · obtain ⟨r0,e0,s0⟩:=HB0.out.facts
          have x1:wr.cell? ⟨w.heap.size,1,none⟩=some (.int .i64 v):=r0 1
          obtain ⟨p0,hp0⟩:∃ p0,p0=k * v:=⟨_,rfl⟩
          have HM:(k:Int) * (v:Int)=(p0:Int):=by rw [hp0];simp
          have hpn:p0 + j < n:=by have:=HKV.out;rw [← hp0] at this;omega
          have hp2:p0 ≤ 480:=by omega
          have hwl:p0 + j < ws'.length:=by rw [HZ.out.1];exact hpn
          have fz:=HOW.out.frozenAt (p0 + j)
          have cz:=HOW.out.cellAt (p0 + j) (by omega)
          rw [ints_getD' hwl] at cz
          have HO2:=hide (HOW.out.stored (p0 + j) (.int .u64 (bits .xor .u64 (ws'.getD (p0 + j) 0) name))).1
          rw [ints_lset] at HO2
          have HB02:=hide (HB0.out.far (p:=⟨g,p0 + j,none⟩) (Ne.symm hg0) (.int .u64 (bits .xor .u64 (ws'.getD (p0 + j) 0) name)))
          have HB12:=hide (HB1.out.far (p:=⟨g,p0 + j,none⟩) (Ne.symm hg3) (.int .u64 (bits .xor .u64 (ws'.getD (p0 + j) 0) name)))
          have HZ2:=hide (show (ws'.set (p0 + j) (bits .xor .u64 (ws'.getD (p0 + j) 0) name)).length=n ∧ WOK (ws'.set (p0 + j) (bits .xor .u64 (ws'.getD (p0 + j) 0) name)) ∧ ((∀ x ∈ ws,x=0) → ZC name (ws'.set (p0 + j) (bits .xor .u64 (ws'.getD (p0 + j) 0) name)) (k * v + (j + 1))) from
            ⟨by rw [List.length_set];exact HZ.out.1,HZ.out.2.1.set _ _ _,fun h=>by
              have h1:=HZ.out.2.2 h
              rw [← hp0] at h1 ⊢
              exact h1.step hwl HNM.out.1 HNM.out.2⟩)
          have hi1:((p0:Int) + (j:Int)).toNat=p0 + j:=by omega
          have hi2:(p0:Int) + (j:Int) < (n:Int):=by omega
          generalize ws'.getD (p0 + j) 0=zz at *
          clear r0 HOW HB0 HB1 HZ hwl hp0
          go_wp2_with (fail)
          exact ⟨⟨j + 1,_,by omega,by go_num,hbr.setCell hgw _,HO2,HB02,HB12,HZ2⟩,by simp [intOf];omega⟩
        · obtain rfl:j=dd:=by omega
          have HZ2:=hide (show ws'.length=n ∧ WOK ws' ∧ ((∀ x ∈ ws,x=0) → ZC name ws' ((k + 1) * v)) from
            ⟨HZ.out.1,HZ.out.2.1,fun h=>(HZ.out.2.2 h).mono (by rw [Nat.add_mul];omega) (.inr (by omega))⟩)
          clear HZ
          go_wp2_with (fail)
          exact ⟨⟨k + 1,ws',by omega,by go_num,hbr,HOW,HB0,HB1,HZ2⟩,by simp [intOf];omega⟩
    · obtain rfl:k=r:=by omega
      obtain ⟨r0,e0,s0⟩:=HB0.out.facts
      have x0:wr.cell? ⟨w.heap.size,0,none⟩=some (.int .i64 k):=r0 0
      have x1:wr.cell? ⟨w.heap.size,1,none⟩=some (.int .i64 v):=r0 1
      obtain ⟨r1,e1,s1⟩:=HB1.out.facts
      have y0:wr.cell? ⟨w.heap.size + 1,0,none⟩=some (.int .i64 0):=r1 0
      have y1:wr.cell? ⟨w.heap.size + 1,1,none⟩=some (.int .i64 0):=r1 1
      have y2:wr.cell? ⟨w.heap.size + 1,2,none⟩=some (.slice none 0 0):=r1 2
      have z0:(wr.setCell ⟨w.heap.size + 1,0,none⟩ (.int .i64 k)).cell? ⟨w.heap.size + 1,0,none⟩=some (.int .i64 k):=(HB1.out.set_ 0 (.int .i64 k)).cell 0
      have z1:((wr.setCell ⟨w.heap.size + 1,0,none⟩ (.int .i64 k)).setCell ⟨w.heap.size + 1,1,none⟩ (.int .i64 v)).cell? ⟨w.heap.size + 1,1,none⟩=some (.int .i64 v):=((HB1.out.set_ 0 (.int .i64 k)).set_ 1 (.int .i64 v)).cell 1
      have z2:(((wr.setCell ⟨w.heap.size + 1,0,none⟩ (.int .i64 k)).setCell ⟨w.heap.size + 1,1,none⟩ (.int .i64 v)).setCell ⟨w.heap.size + 1,2,none⟩ (.slice (some ⟨g,0,none⟩) n d2)).cell? ⟨w.heap.size + 1,2,none⟩=some (.slice (some ⟨g,0,none⟩) n d2):=
        (HB1.out.set3 (x:=.int .i64 k) (y:=.int .i64 v) (z:=.slice (some ⟨g,0,none⟩) n d2)).cell 2
      have Z:=hide (And.intro z0 (And.intro z1 z2))
      have HOF:=hide (show ((((wr.setCell ⟨w.heap.size + 1,0,none⟩ (.int .i64 k)).setCell ⟨w.heap.size + 1,1,none⟩ (.int .i64 v)).setCell ⟨w.heap.size + 1,2,none⟩ (.slice (some ⟨g,0,none⟩) n d2))).ownsRow BB 43 1 (.slice (some ⟨g,0,none⟩) n d2) n (ints .u64 ws') from
        own_keep HOW.out (fun g' hg'=>by
          have hgg:g'=g:=by have:some g=some g':=hg';injection this with this;exact this.symm
          subst hgg
          exact ((Below.heap_setCell _ ⟨w.heap.size + 1,2,none⟩ _ g' hg3).trans (Below.heap_setCell _ ⟨w.heap.size + 1,1,none⟩ _ g' hg3)).trans (Below.heap_setCell _ ⟨w.heap.size + 1,0,none⟩ _ g' hg3)))
      clear r0 r1 z0 z1 z2 HOW HB0 HB1 hrr
      go_wp2_with (fail)
      refine bodyPost_ret (v:=.tuple #[.agg #[.int .i64 k,.int .i64 v,.slice (some ⟨g,0,none⟩) n d2],.int .i64 0]) (by simp [results,Tryz.results217,go_sem,Z.out.1,Z.out.2.1,Z.out.2.2]) rfl ⟨some ⟨g,0,none⟩,d2,ws',rfl,own_sl HOF.out K (fun x hx=>Nat.lt_of_lt_of_le (HKK.out x hx) HBB.out),HZ.out.2.1,fun h=>?_,((hbr.setCell (by simp) _).setCell (by simp) _).setCell (by simp) _⟩
      have hz:=HZ.out.2.2 h
      refine ⟨fun x hx=>?_,hz.first ?_⟩
      · obtain ⟨q,hq,rfl⟩:=List.getElem_of_mem hx
        have:=hz.all q
        simpa [hq] using this
      · have:=HN.out;omega
end Go.Proofs.YtppblcbgkadldaaGreatDoor
namespace Go.Proofs.YtppblcbgkadldaaGreatDoor
open Go Go.RowKit
set_option maxRecDepth 100000
attribute [local go_sem] Heavy heavyUpon
theorem right_len {n:Nat} {l:List E3} (h:rightE n l=true):l.length ≤ n * n:=by
  have hp:=(rightE_iff.1 h).2.2
  have key:(l.map fun e=>e.1.toNat * n + e.2.1.toNat).Nodup:=by
    rw [List.Nodup,List.pairwise_map]
    refine hp.imp_of_mem ?_
    intro a b ha hb hab he
    have h1:=right_edge h ha
    have h2:=right_edge h hb
    have:=ltE_iff.1 hab
    have e1:a.1.toNat=b.1.toNat:=by
      have hn:a.2.1.toNat < n:=by omega
      have hn2:b.2.1.toNat < n:=by omega
      have h3:=congrArg (· / n) he
      rw [Nat.mul_comm,Nat.mul_comm b.1.toNat,Nat.mul_add_div (by omega),Nat.mul_add_div (by omega),Nat.div_eq_of_lt hn,Nat.div_eq_of_lt hn2] at h3
      omega
    rw [e1] at he
    omega
  have:=List.Nodup.length_le_of_subset key (l₂:=List.range (n * n)) (fun x hx=>by
    obtain ⟨e,he,rfl⟩:=List.mem_map.1 hx
    have h1:=right_edge h he
    rw [List.mem_range]
    have h2:e.1.toNat + 1 ≤ n:=by omega
    have h3:(e.1.toNat + 1) * n ≤ n * n:=Nat.mul_le_mul_right _ h2
    rw [Nat.add_mul,Nat.one_mul] at h3
    have h4:e.2.1.toNat < n:=by omega
    omega)
  simpa using this
structure GM (w:World) (N L R:Nat) (hs:List (Int × Int)) (es:List E3) (H:Option Addr) (hc:Nat) (E:Option Addr) (m c:Nat):Prop where
  n1:1 ≤ N
  n2:N ≤ 10
  l1:1 ≤ L
  l2:L ≤ 4
  r1:1 ≤ R
  r2:R ≤ 3
  hok:∀ h ∈ hs,HOK h
  hm:HSl w H (L * R) hc hs
  em:ESl w [] E m c es
  ge:GE N L es
def gV (N L R:Nat) (H:Option Addr) (hc:Nat) (E:Option Addr) (m c:Nat):Value:=.agg #[.int .i64 N,.int .i64 L,.int .i64 R,.slice H (L * R) hc,.slice E m c]
section
variable {w w':World} {N L R:Nat} {hs:List (Int × Int)} {es:List E3} {H:Option Addr} {hc:Nat} {E:Option Addr} {m c:Nat}
theorem GM.below (h:GM w N L R hs es H hc E m c) (hb:Below w.heap.size w w'):GM w' N L R hs es H hc E m c:=⟨h.n1,h.n2,h.l1,h.l2,h.r1,h.r2,h.hok,h.hm.below hb,h.em.below hb,h.ge⟩
theorem GM.alloc (h:GM w N L R hs es H hc E m c) (o:Obj):GM (w.alloc o) N L R hs es H hc E m c:=⟨h.n1,h.n2,h.l1,h.l2,h.r1,h.r2,h.hok,Sl.alloc h.hm o,Sl.alloc h.em o,h.ge⟩
theorem GM.drew (h:GM w N L R hs es H hc E m c):GM w.drew N L R hs es H hc E m c:=⟨h.n1,h.n2,h.l1,h.l2,h.r1,h.r2,h.hok,Sl.drew h.hm,Sl.drew h.em,h.ge⟩
theorem GM.m_le (h:GM w N L R hs es H hc E m c):m ≤ 100:=by
  have h1:=right_len h.ge.right
  have h2:=ESl.length h.em
  have h3:N * N ≤ 10 * 10:=Nat.mul_le_mul h.n2 h.n2
  omega
theorem GM.lr (h:GM w N L R hs es H hc E m c):1 ≤ L * R ∧ L * R ≤ 12:=by
  have h1:L * R ≤ 4 * 3:=Nat.mul_le_mul h.l2 h.r2
  have h2:1 * 1 ≤ L * R:=Nat.mul_le_mul h.l1 h.r1
  omega
theorem GM.ends (h:GM w N L R hs es H hc E m c):Ends_in N es:=Ends_in.of_right h.ge.right
structure GW (w:World) (N L R:Nat) (hs:List (Int × Int)) (es:List E3) (H:Option Addr) (hc:Nat) (E:Option Addr) (m c:Nat):Prop where
  n1:1 ≤ N
  n2:N ≤ 1024
  l1:1 ≤ L
  l2:L ≤ 16
  r1:1 ≤ R
  r2:R ≤ 8
  hok:∀ h ∈ hs,HOK h
  hm:HSl w H (L * R) hc hs
  em:ESl w [] E m c es
  ge:GE N L es
  mm:m ≤ 100
theorem GW.below (h:GW w N L R hs es H hc E m c) (hb:Below w.heap.size w w'):GW w' N L R hs es H hc E m c:=⟨h.n1,h.n2,h.l1,h.l2,h.r1,h.r2,h.hok,h.hm.below hb,h.em.below hb,h.ge,h.mm⟩
theorem GW.alloc (h:GW w N L R hs es H hc E m c) (o:Obj):GW (w.alloc o) N L R hs es H hc E m c:=⟨h.n1,h.n2,h.l1,h.l2,h.r1,h.r2,h.hok,Sl.alloc h.hm o,Sl.alloc h.em o,h.ge,h.mm⟩
theorem GW.drew (h:GW w N L R hs es H hc E m c):GW w.drew N L R hs es H hc E m c:=⟨h.n1,h.n2,h.l1,h.l2,h.r1,h.r2,h.hok,Sl.drew h.hm,Sl.drew h.em,h.ge,h.mm⟩
theorem GW.lr (h:GW w N L R hs es H hc E m c):1 ≤ L * R ∧ L * R ≤ 128:=by
  have h1:L * R ≤ 16 * 8:=Nat.mul_le_mul h.l2 h.r2
  have h2:1 * 1 ≤ L * R:=Nat.mul_le_mul h.l1 h.r1
  omega
theorem GW.ends (h:GW w N L R hs es H hc E m c):Ends_in N es:=Ends_in.of_right h.ge.right
theorem GM.wide (h:GM w N L R hs es H hc E m c):GW w N L R hs es H hc E m c:=
  ⟨h.n1,Nat.le_trans h.n2 (by decide),h.l1,Nat.le_trans h.l2 (by decide),h.r1,Nat.le_trans h.r2 (by decide),h.hok,h.hm,h.em,h.ge,h.m_le⟩
set_option maxHeartbeats 6400000 in
theorem sright_wide (w:World) (hG:GW w N L R hs es H hc E m c):Calls Tryz.prog 30 #[gV N L R H hc E m c] w (Ret (.bool true) w):=by
  have hml:=hG.mm
  have hlr:=hG.lr
  have n1:=hG.n1
  have n2:=hG.n2
  have l1:=hG.l1
  have l2:=hG.l2
  have r1:=hG.r1
  have r2:=hG.r2
  have HHL:=hide hG.hm.length
  have HEL:=hide (ESl.length hG.em)
  have HOKS:=hide hG.hok
  have HGE:=hide hG.ge
  have QT:=hide (fun W (h:GW W N L R hs es H hc E m c)=>tright_any es [] E N m c W h.em)
  rw [hG.ge.right] at QT
  have QF:=hide (fun W (h:GW W N L R hs es H hc E m c)=>forest_ok es N L [] E m c W h.em (by omega))
  have e1:outF N es L=forestE es L:=by unfold outF;rw [if_pos hG.ge.right]
  rw [e1] at QF
  have hfl:(forestE es L).length ≤ m:=by
    have:=filter_len (tierT L) es es.length
    rw [List.take_length] at this
    have h2:=ESl.length hG.em
    unfold forestE
    omega
  have QG:=hide (fun R d W (h:ESl W [] R (forestE es L).length d (forestE es L))=>gright_ok (forestE es L) N (by omega) (hG.ends.forest L) hG.ge.acyc [] R _ d W h (by omega))
  have HM:=(show (L:Int) * (R:Int)=((L * R:Nat):Int) by simp)
  generalize hk:L * R=K at *
  have B0:=Blk.new w 30 #[.int .i64 N,.int .i64 L,.int .i64 R,.slice H K hc,.slice E m c]
  have hb0:=(Below.refl w.heap.size w).alloc (Nat.le_refl _) (.cells #[.int .i64 N,.int .i64 L,.int .i64 R,.slice H K hc,.slice E m c] 30)
  have HG0:=hide (hG.alloc (.cells #[.int .i64 N,.int .i64 L,.int .i64 R,.slice H K hc,.slice E m c] 30))
  have hkk:((K:Int) == (K:Int))=true:=by simp
  unfold gV
  rw [hk]
  have HK:=hide hk
  clear hk hG e1 hfl
  have d1:decide ((N:Int) < 1)=false:=by simp;omega
  have d2:decide ((1024:Int) < (N:Int))=false:=by simp;omega
  have d3:decide ((L:Int) < 1)=false:=by simp;omega
  have d4:decide ((16:Int) < (L:Int))=false:=by simp;omega
  have d5:decide ((R:Int) < 1)=false:=by simp;omega
  have d6:decide ((8:Int) < (R:Int))=false:=by simp;omega
  have hcap:=hide (show K ≤ 128 by omega)
  go_enter Tryz.func30,Tryz.ntmps30
  go_wp2_with (fail)
  have B1:=Blk.new (w.alloc (.cells #[.int .i64 N,.int .i64 L,.int .i64 R,.slice H K hc,.slice E m c] 30)) 23 #[.int .i64 N,.int .i64 L,.int .i64 R]
  rw [heap_alloc_size] at B1
  have B01:=hide (B0.alloc (.cells #[.int .i64 N,.int .i64 L,.int .i64 R] 23))
  have B11:=hide B1
  have hb1:=hb0.alloc (by simp) (.cells #[.int .i64 N,.int .i64 L,.int .i64 R] 23)
  have HG1:=hide (HG0.out.alloc (.cells #[.int .i64 N,.int .i64 L,.int .i64 R] 23))
  clear B0 B1 hb0 HG0
  generalize (w.alloc (.cells #[.int .i64 N,.int .i64 L,.int .i64 R,.slice H K hc,.slice E m c] 30)).alloc (.cells #[.int .i64 N,.int .i64 L,.int .i64 R] 23)=W1 at *
  go_loopw [50] (fun i wr=>∃ k:Nat,k ≤ K ∧ i=.int .i64 k ∧ Below w.heap.size w wr ∧ Hid (Below W1.heap.size W1 wr)) (fun i _=>K - (intOf i).toNat)
  case atStart=>exact ⟨0,Nat.zero_le _,rfl,hb1,hide (Below.refl _ _)⟩
  case round =>
    obtain ⟨k,hk,rfl,hbr,HBW⟩:=hrel
    by_cases hlt:k < K
    · have hx:k < hs.length:=by have:=HHL.out;omega
      obtain ⟨ad,rfl,had,c0,c1⟩:=(HG1.out.below HBW.out).hm.get hx
      have hh:=HOKS.out _ (List.getElem_mem hx)
      generalize hs[k]=h at *
      obtain ⟨p,q⟩:=h
      obtain ⟨p0,p1,q0,q1⟩:=hh
      simp only [] at c0 c1 p0 p1 q0 q1
      have t1:decide ((2305843009213693951:Int) ≤ p)=false:=by simp;omega
      have t2:decide ((2305843009213693951:Int) ≤ q)=false:=by simp;omega
      have szr:=hbr.size
      have HBW2:=hide (HBW.out.alloc HBW.out.size (.cells #[.int .u64 p,.int .u64 q] 79))
      have hb2:=hbr.alloc hbr.size (.cells #[.int .u64 p,.int .u64 q] 79)
      clear hb1 p0 p1 q0 q1
      have hKn:=hcap.out
      go_wp2_with (fail)
      exact ⟨⟨k + 1,by omega,by go_num,hb2,HBW2⟩,by simp [intOf];omega⟩
    · obtain rfl:k=K:=by omega
      clear hb1
      have hG2:=HG1.out.below HBW.out
      have BG:=hide (B01.out.below HBW.out B01.out.lt)
      have BC:=hide (B11.out.below HBW.out B11.out.lt)
      have szr:=hbr.size
      clear HBW B01 B11 HG1 HOKS
      obtain ⟨r0,e0,s0⟩:=BG.out.facts
      have x2:wr.cell? ⟨w.heap.size,4,none⟩=some (.slice E m c):=r0 4
      obtain ⟨r1,e1,s1⟩:=BC.out.facts
      have y0:wr.cell? ⟨w.heap.size + 1,0,none⟩=some (.int .i64 N):=r1 0
      clear r0 r1
      go_wp2_with (fail)
      refine (QT.out _ hG2).mono ?_
      rintro e w1 ⟨rfl,b1⟩
      have hb2:=hbr.trans (b1.mono hbr.size)
      have HG2:=hide (hG2.below b1)
      have BG2:=hide (BG.out.below b1 BG.out.lt)
      have BC2:=hide (BC.out.below b1 BC.out.lt)
      clear b1 BG BC hG2 x2 y0 e0 e1 s0 s1 hbr szr
      obtain ⟨r0,e0,s0⟩:=BG2.out.facts
      have x2:w1.cell? ⟨w.heap.size,4,none⟩=some (.slice E m c):=r0 4
      clear r0
      go_wp2_with (fail)
      clear x2 e0 s0
      go_loopw [72] (fun i wr=>∃ k:Nat,k ≤ m ∧ i=.int .i64 k ∧ Below w.heap.size w wr ∧ Hid (Below w1.heap.size w1 wr)) (fun i _=>m - (intOf i).toNat)
      case atStart=>exact ⟨0,Nat.zero_le _,rfl,hb2,hide (Below.refl _ _)⟩
      case round =>
        obtain ⟨k',hk',rfl,hbr,HBW⟩:=hrel
        have BG:=hide (BG2.out.below HBW.out BG2.out.lt)
        have BC:=hide (BC2.out.below HBW.out BC2.out.lt)
        obtain ⟨r1,e1,s1⟩:=BC.out.facts
        have y0:wr.cell? ⟨w.heap.size + 1,0,none⟩=some (.int .i64 N):=r1 0
        have y1:wr.cell? ⟨w.heap.size + 1,1,none⟩=some (.int .i64 L):=r1 1
        clear r1
        by_cases hlt:k' < m
        · have hx:k' < es.length:=by have:=HEL.out;omega
          obtain ⟨ad,rfl,had,_,c0,c1,c2⟩:=ESl.get (HG2.out.below HBW.out).em hx
          have hh:=HGE.out.tier _ (List.getElem_mem hx)
          generalize es[k']=h at *
          obtain ⟨p,q,t⟩:=h
          simp only [] at c0 c1 c2 hh
          have t1:decide ((L:Int) < t)=false:=by simp;omega
          have szr:=hbr.size
          have HBW2:=hide (HBW.out.alloc HBW.out.size (.cells #[.int .i64 p,.int .i64 q,.int .i64 t] 104))
          have hb3:=hbr.alloc hbr.size (.cells #[.int .i64 p,.int .i64 q,.int .i64 t] 104)
          clear hb2 y0
          go_wp2_with (fail)
          exact ⟨⟨k' + 1,by omega,by go_num,hb3,HBW2⟩,by simp [intOf];omega⟩
        · obtain rfl:k'=m:=by omega
          clear hb2
          have HG3:=hide (HG2.out.below HBW.out)
          obtain ⟨r0,e0,s0⟩:=BG.out.facts
          have x2:wr.cell? ⟨w.heap.size,4,none⟩=some (.slice E k' c):=r0 4
          have szr:=hbr.size
          clear r0 HBW HG2 BG2 BC2
          obtain ⟨wo,rfl⟩:∃ wo:World,wo=wr:=⟨_,rfl⟩
          go_wp2_with (fail)
          refine wp_region_lexD [8,9] (fun w'=>Below (wo).heap.size (wo) w') (by kernel_rfl) (by kernel_rfl) (Below.refl _ _).drew ?_
          (repeat ((with_reducible refine wpLex_step (fun K hK=>?_));go_simp;first | ((with_reducible refine hK _ _ ?_);clear hK K) | ((with_reducible apply Exists.intro);refine ⟨fun w' hw'=>?_,hK _ _ ?_⟩;(· (have hq:=bcells hw';apply valEq;(· (go_simp;first | done | (with_reducible rfl)));(· ((try go_bits);with_reducible rfl))));clear hK K)))
          ((with_reducible refine wpLex_step (fun K hK=>?_));go_simp;refine (QF.out _ HG3.out.drew).mono ?_;rintro e w3 ⟨R5,d5,rfl,N5,hbx⟩;have g3:=((Below.refl (wo).heap.size wo).drew).trans (hbx.mono ((Below.refl (wo).heap.size wo).drew).size);have N6:=hide N5;clear N5;refine ⟨_,rfl,g3,hK _ _ ?_⟩;clear hK K hbx)
          (repeat ((with_reducible refine wpLex_step (fun K hK=>?_));go_simp;first | ((with_reducible refine hK _ _ ?_);clear hK K) | ((with_reducible apply Exists.intro);refine ⟨fun w' hw'=>?_,hK _ _ ?_⟩;(· (have hq:=bcells hw';apply valEq;(· (go_simp;first | done | (with_reducible rfl)));(· ((try go_bits);with_reducible rfl))));clear hK K)))
          ((with_reducible refine wpLex_step (fun K hK=>?_));go_simp;refine (QG.out _ _ _ N6.out).mono ?_;rintro e w4 ⟨rfl,hbx⟩;have g4:=(g3).trans (hbx.mono (g3).size);refine ⟨_,rfl,g4,hK _ _ ?_⟩;clear hK K hbx)
          (repeat ((with_reducible refine wpLex_step (fun K hK=>?_));go_simp;first | ((with_reducible refine hK _ _ ?_);clear hK K) | ((with_reducible apply Exists.intro);refine ⟨fun w' hw'=>?_,hK _ _ ?_⟩;(· (have hq:=bcells hw';apply valEq;(· (go_simp;first | done | (with_reducible rfl)));(· ((try go_bits);with_reducible rfl))));clear hK K)))
          refine wpLex_nil (fun _=>?_)
          have hb9:=hbr.trans (g4.mono hbr.size)
          go_wp2_with (fail)
          go_ret
          exact ⟨rfl,hb9⟩
theorem sright_ok (w:World) (hG:GM w N L R hs es H hc E m c):Calls Tryz.prog 30 #[gV N L R H hc E m c] w (Ret (.bool true) w):=sright_wide w hG.wide
end
end Go.Proofs.YtppblcbgkadldaaGreatDoor
