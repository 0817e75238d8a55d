/-
  A part of the proof that the law TopForest returns true for every input and leaves its arguments as they were: SearchC, TiersA.
-/
import Derived.Test.YtppblcbgkadldaaGreatDoorZ08
import Derived.Test.YtppblcbgkadldaaGreatDoorZ15
import Derived.Test.YtppblcbgkadldaaGreatDoorZ16
import Derived.Test.YtppblcbgkadldaaGreatDoorZ17
import Derived.Test.YtppblcbgkadldaaGreatDoorZ19
import Derived.Test.YtppblcbgkadldaaGreatDoorZ24
set_option linter.all false
namespace Go.Proofs.YtppblcbgkadldaaGreatDoor
open Go Go.RowKit
set_option maxRecDepth 100000
attribute [local go_sem] Heavy heavyUpon
theorem ends_name {N:Nat} {es:List E3} (hr:rightE N es=true) (hN:N ≤ 1024) {a:E3} (ha:a ∈ es):endsI (nameT a)=(a.1,a.2.1,true):=by
  obtain ⟨h0,h1,h2,_⟩:=right_edge hr ha
  have v1:vtx a.1=true:=vtx_iff.2 (by omega)
  have v2:vtx a.2.1=true:=vtx_iff.2 (by omega)
  have e:nameT a=a.1 * 16777216 + a.2.1:=by
    unfold nameT nameE
    rw [if_pos ⟨v1,v2⟩,if_neg (by omega),if_pos h1]
  have e1:nameT a / 16777216=a.1:=by rw [e];omega
  have e2:nameT a % 16777216=a.2.1:=by rw [e];omega
  unfold endsI
  rw [e1,e2,if_pos (by omega)]
theorem there_one {a:E3}:thereT [a] a.1 a.2.1=true:=by
  have:0 ≤ findI [a] a.1 a.2.1 0:=(findI_mem [a] a.1 a.2.1 0 (Int.le_refl _)).2 ⟨a,by simp,by simp [hitE]⟩
  unfold thereT
  exact decide_eq_true this
theorem place_of {l:List E3} {u v:Int} (h:thereT l u v=true):∃ i:Nat,placeT l u v=i ∧ i < l.length:=by
  have h0:0 ≤ findI l u v 0:=of_decide_eq_true h
  obtain ⟨i,h1,h2,_⟩:=find_spec l u v 0 (Int.le_refl _) h0
  refine ⟨i,?_,h2⟩
  unfold placeT
  rw [if_pos h0,h1,Int.zero_add]
theorem ends_ne {x p q:Int} (h:endsI x=(p,q,true)):x ≠ 0:=by
  rintro rfl
  exact absurd h (by simp [endsI])
theorem words_names {out:List E3} {ws:List Int} (h:SKI out out.length ws):∀ k (hk:k < (nmsW ws).length),(0 ≤ (nmsW ws)[k] ∧ (nmsW ws)[k] < 18446744073709551616) ∧ (endsI (nmsW ws)[k]).2.2=true ∧ ∀ a,out=[a] → (nmsW ws)[k]=nameT a:=by
  intro k hk
  have hm:=List.mem_filter.1 (show (nmsW ws)[k] ∈ ws.filter isNm from List.getElem_mem hk)
  refine ⟨h.1 _ hm.1,hm.2,fun a ha=>?_⟩
  have h3:=(h.2.2 (by rw [ha];rfl)).1 _ hm.1
  rw [ha] at h3
  rcases h3 with h3 | h3
  · have h4:=hm.2
    rw [h3] at h4
    exact absurd h4 (by decide)
  · rw [h3];rfl
theorem words_one {out:List E3} {ws:List Int} (h:SKI out out.length ws) {a:E3} (ha:out=[a]) (he:endsI (nameT a)=(a.1,a.2.1,true)):0 < (nmsW ws).length:=by
  have h3:=(h.2.2 (by rw [ha];rfl)).2
  have h5:nameT a ∈ ws:=by
    rw [ha] at h3
    have h6:(namesE [a]).getD 0 0=nameT a:=rfl
    rw [h6] at h3
    cases ws with
    | nil=>exact absurd (by simpa using h3.symm) (ends_ne he)
    | cons b t=>simp at h3;rw [← h3];simp
  have h7:isNm (nameT a)=true:=by
    unfold isNm
    rw [he]
  exact List.length_pos_of_mem (List.mem_filter.2 ⟨h5,h7⟩)
def RetSearch (out:List E3) (w:World) (e:Ending) (w':World):Prop:=
  ∃ x b,e=.returned (.tuple #[edgeV x,.bool b]) ∧ (b=true → x ∈ out) ∧ (∀ a,out=[a] → b=true) ∧ Below w.heap.size w w'
section
variable {w w':World} {N L R:Nat} {hs:List (Int × Int)} {es:List E3} {H:Option Addr} {hc:Nat} {E:Option Addr} {m c:Nat}
set_option maxHeartbeats 6400000 in
theorem search_any (i v:Nat) (hi:i < L) (hv:v < N) (w:World) (hG:GM w N L R hs es H hc E m c) :
    Calls Tryz.prog 159 #[gV N L R H hc E m c,.int .i64 i,.int .i64 v] w (RetSearch (cutT N es i v) w):=by
  have n2:=hG.n2
  have hml:=hG.m_le
  have r1:=hG.r1
  have r2:=hG.r2
  have QS:=hide (fun W (h:GM W N L R hs es H hc E m c)=>hasSketch_ok i v hi hv W h)
  have QC:=hide (fun W (h:GM W N L R hs es H hc E m c)=>cutOf_ok i v (by omega) hv W h)
  have hcl:(cutT N es i v).length ≤ 100:=by
    have h1:=cutT_len N es i v
    have h2:=ESl.length hG.em
    omega
  have QD:=hide (fun A' c' W (h:GM W N L R hs es H hc E m c) (hS:ESl W [] A' (cutT N es i v).length c' (cutT N es i v))=>drawn_ok i hi (cutT N es i v) A' _ c' W h hS (by omega))
  have QN:=hide (fun lv A d ws W (h1:1 ≤ lv) (h2:lv ≤ 60) (hW:WOK ws) (hS:Sl W [] 1 A (R * lv) d (ints .u64 ws))=>knames_ok R lv (R * lv) d A r1 (by omega) h1 h2 rfl ws hW W hS)
  have QE:=hide nends_any
  have HSUB:=hide (cutT_sub N es i v)
  have HEN:=hide (fun a (h:a ∈ es)=>ends_name hG.ge.right (by omega) h)
  generalize cutT N es i v=out at *
  have QF:=hide (fun u v' A' c' W (h:ESl W [] A' out.length c' out)=>nfind_any out u v' [] A' _ c' W h)
  have B0:=(Blk.new w 30 #[.int .i64 N,.int .i64 L,.int .i64 R,.slice H (L * R) hc,.slice E m c]).alloc (.cells #[.int .i64 0,.int .i64 0,.int .i64 0] 104)
  have B1:=Blk.new (w.alloc (.cells #[.int .i64 N,.int .i64 L,.int .i64 R,.slice H (L * R) hc,.slice E m c] 30)) 104 #[.int .i64 0,.int .i64 0,.int .i64 0]
  rw [heap_alloc_size] at B1
  have hb0:=((Below.refl w.heap.size w).alloc (Nat.le_refl _) (.cells #[.int .i64 N,.int .i64 L,.int .i64 R,.slice H (L * R) hc,.slice E m c] 30)).alloc (by simp) (.cells #[.int .i64 0,.int .i64 0,.int .i64 0] 104)
  have HG0:=hide ((hG.alloc (.cells #[.int .i64 N,.int .i64 L,.int .i64 R,.slice H (L * R) hc,.slice E m c] 30)).alloc (.cells #[.int .i64 0,.int .i64 0,.int .i64 0] 104))
  have hbd:∀ W,(Instr.build 104 #[]).run Tryz.prog W=.ok (.agg #[.int .i64 0,.int .i64 0,.int .i64 0]) W:=fun _=>by kernel_rfl
  unfold gV at QS QC QD
  unfold gV
  unfold skV at QN QD
  generalize L * R=K at *
  clear hG r1
  go_enter Tryz.func159,Tryz.ntmps159
  go_wp2_with (fail)
  generalize (w.alloc (.cells #[.int .i64 N,.int .i64 L,.int .i64 R,.slice H K hc,.slice E m c] 30)).alloc (.cells #[.int .i64 0,.int .i64 0,.int .i64 0] 104)=W0 at *
  refine (QS.out _ HG0.out).mono ?_
  rintro e w1 ⟨rfl,b1⟩
  have hb1:=hb0.trans (b1.mono hb0.size)
  have HG1:=hide (HG0.out.below b1)
  have B01:=B0.below b1 B0.lt
  have B11:=B1.below b1 B1.lt
  obtain ⟨r0,e0,s0⟩:=B01.facts
  have x0:w1.cell? ⟨w.heap.size,0,none⟩=some (.int .i64 N):=r0 0
  have x1:w1.cell? ⟨w.heap.size,1,none⟩=some (.int .i64 L):=r0 1
  have x2:w1.cell? ⟨w.heap.size,2,none⟩=some (.int .i64 R):=r0 2
  have x3:w1.cell? ⟨w.heap.size,3,none⟩=some (.slice H K hc):=r0 3
  have x4:w1.cell? ⟨w.heap.size,4,none⟩=some (.slice E m c):=r0 4
  clear r0 b1 B0 B1 HG0 hb0
  go_wp2_with (fail)
  refine (QC.out _ HG1.out).mono ?_
  rintro e w2 ⟨Ac,dc,rfl,SC,b2⟩
  have hb2:=hb1.trans (b2.mono hb1.size)
  have HG2:=hide (HG1.out.below b2)
  have B02:=B01.below b2 B01.lt
  have B12:=B11.below b2 B11.lt
  have HSC:=hide SC
  clear x0 x1 x2 x3 x4 e0 s0 b2 B01 B11 HG1 hb1 SC
  obtain ⟨r0,e0,s0⟩:=B02.facts
  have x0:w2.cell? ⟨w.heap.size,0,none⟩=some (.int .i64 N):=r0 0
  have x1:w2.cell? ⟨w.heap.size,1,none⟩=some (.int .i64 L):=r0 1
  have x2:w2.cell? ⟨w.heap.size,2,none⟩=some (.int .i64 R):=r0 2
  have x3:w2.cell? ⟨w.heap.size,3,none⟩=some (.slice H K hc):=r0 3
  have x4:w2.cell? ⟨w.heap.size,4,none⟩=some (.slice E m c):=r0 4
  clear r0
  go_wp2_with (fail)
  refine (QD.out _ _ _ HG2.out HSC.out).mono ?_
  rintro e w3 ⟨As,ds,ws,lv,nn,rfl,lv1,lv2,rfl,SS,HK,b3⟩
  have hb3:=hb2.trans (b3.mono hb2.size)
  have HSS:=hide SS
  have HKI:=hide HK
  have B13:=hide (B12.below b3 B12.lt)
  have HSC3:=hide (show ESl _ [] _ _ _ _ from Sl.below HSC.out b3)
  clear x0 x1 x2 x3 x4 e0 s0 B02 B12 b3 hb2 HK SS HSC HG2
  go_wp2_with (fail)
  refine (QN.out lv _ _ _ _ lv1 lv2 HKI.out.1 HSS.out).mono ?_
  rintro e w4 ⟨An,y,dn,rfl,hy,SN,b4⟩
  have hb4:=hb3.trans (b4.mono hb3.size)
  have HY:=hide hy
  have HSN:=hide SN
  have B14:=hide (B13.out.below b4 B13.out.lt)
  have HSC4:=hide (show ESl _ [] _ _ _ _ from Sl.below HSC3.out b4)
  have HWN:=hide (words_names HKI.out)
  have HW1:=hide (fun a ha=>words_one HKI.out ha (HEN.out a (HSUB.out a (by rw [ha];simp))))
  rw [← hy] at HW1
  have hyb:=Nat.le_trans SN.le SN.cap
  unfold maxLen at hyb
  clear b4 SN hy B13 HSC3 HSS HKI hb3
  go_wp2_with (fail)
  go_loopw [32] (fun i wr=>∃ k:Nat,k ≤ y ∧ i=.int .i64 k ∧ Below w.heap.size w wr ∧ Hid (Below w4.heap.size w4 wr) ∧ Hid (∀ a,out=[a] → k=0)) (fun i _=>y - (intOf i).toNat)
  case atStart=>exact ⟨0,Nat.zero_le _,rfl,hb4,hide (Below.refl _ _),hide (fun _ _=>rfl)⟩
  case round =>
    clear hb4
    obtain ⟨k,hk,rfl,hbr,HBW,HZ⟩:=hrel
    by_cases hlt:k < y
    · have hx:k < (nmsW ws).length:=by have:=HY.out;omega
      obtain ⟨ad,rfl,had,_,hc0⟩:=(HSN.out.below HBW.out).at_ (by omega)
      have c0:=hc0 _ _ (ints_get hx)
      have HX:=hide (HWN.out k hx)
      generalize (nmsW ws)[k]=x at *
      have QX:=hide (fun W=>QE.out x HX.out.1.1 HX.out.1.2 W)
      rw [HX.out.2.1] at QX
      have HX1:=hide (show ∀ a,out=[a] → thereT out (endsI x).1 (endsI x).2.1=true from fun a ha=>by
        have h1:=HX.out.2.2 a ha
        have h2:=HEN.out a (HSUB.out a (by rw [ha];simp))
        rw [h1,h2,ha]
        exact there_one)
      generalize (endsI x).1=ea at *
      generalize (endsI x).2.1=eb at *
      have QFx:=hide (fun W (h:ESl W [] Ac out.length dc out)=>QF.out ea eb Ac dc W h)
      have HPL:=hide (fun h=>place_of (l:=out) (u:=ea) (v:=eb) h)
      generalize placeT out ea eb=pl at *
      generalize thereT out ea eb=th at *
      clear hc0
      have HSCr:=hide (show ESl wr [] Ac out.length dc out from Sl.below HSC4.out HBW.out)
      have BR:=hide (B14.out.below HBW.out B14.out.lt)
      go_wp2_with (fail)
      refine (QX.out _).mono ?_
      rintro e w5 ⟨rfl,b5⟩
      have hb5:=hbr.trans (b5.mono hbr.size)
      have HBW5:=hide (HBW.out.trans (b5.mono HBW.out.size))
      have HSC5:=hide (show ESl _ [] Ac out.length dc out from Sl.below HSCr.out b5)
      have BR5:=hide (BR.out.below b5 BR.out.lt)
      clear b5 hbr HBW HSCr BR c0
      go_wp2_with (fail)
      refine (QFx.out _ HSC5.out).mono ?_
      rintro e w6 ⟨rfl,b6⟩
      have hb6:=hb5.trans (b6.mono hb5.size)
      have HBW6:=hide (HBW5.out.trans (b6.mono HBW5.out.size))
      have HSC6:=hide (show ESl _ [] Ac out.length dc out from Sl.below HSC5.out b6)
      have BR6:=BR5.out.below b6 BR5.out.lt
      clear b6 hb5 HBW5 HSC5 BR5
      cases th with
      | true =>
        obtain ⟨j,rfl,hj⟩:=HPL.out rfl
        obtain ⟨ad2,rfl,had2,_,d0,d1,d2⟩:=ESl.get HSC6.out hj
        have HM:=hide (List.getElem_mem hj)
        generalize out[j]=z at *
        obtain ⟨p,q,t⟩:=z
        simp only [] at d0 d1 d2
        obtain ⟨r1,e1,s1⟩:=BR6.facts
        have q0:w6.cell? ⟨w.heap.size + 1,0,none⟩=some (.int .i64 0):=r1 0
        have q1:w6.cell? ⟨w.heap.size + 1,1,none⟩=some (.int .i64 0):=r1 1
        have q2:w6.cell? ⟨w.heap.size + 1,2,none⟩=some (.int .i64 0):=r1 2
        have z0:(w6.setCell ⟨w.heap.size + 1,0,none⟩ (.int .i64 p)).cell? ⟨w.heap.size + 1,0,none⟩=some (.int .i64 p):=(BR6.set_ 0 (.int .i64 p)).cell 0
        have z1:((w6.setCell ⟨w.heap.size + 1,0,none⟩ (.int .i64 p)).setCell ⟨w.heap.size + 1,1,none⟩ (.int .i64 q)).cell? ⟨w.heap.size + 1,1,none⟩=some (.int .i64 q):=((BR6.set_ 0 (.int .i64 p)).set_ 1 (.int .i64 q)).cell 1
        have z2:(((w6.setCell ⟨w.heap.size + 1,0,none⟩ (.int .i64 p)).setCell ⟨w.heap.size + 1,1,none⟩ (.int .i64 q)).setCell ⟨w.heap.size + 1,2,none⟩ (.int .i64 t)).cell? ⟨w.heap.size + 1,2,none⟩=some (.int .i64 t):=(BR6.set3 (x:=.int .i64 p) (y:=.int .i64 q) (z:=.int .i64 t)).cell 2
        have Z:=hide (And.intro z0 (And.intro z1 z2))
        clear r1 z0 z1 z2 BR6
        go_wp2_with (fail)
        refine bodyPost_ret (v:=.tuple #[.agg #[.int .i64 p,.int .i64 q,.int .i64 t],.bool true]) (by simp [results,Tryz.results159,go_sem,Z.out.1,Z.out.2.1,Z.out.2.2]) rfl ⟨(p,q,t),true,rfl,fun _=>HM.out,fun _ _=>rfl,((hb6.setCell (by simp) _).setCell (by simp) _).setCell (by simp) _⟩
      | false =>
        have HZ2:=hide (show ∀ a,out=[a] → k + 1=0 from fun a ha=>by have:=HX1.out a ha;cases this)
        go_wp2_with (fail)
        exact ⟨⟨k + 1,by omega,by go_num,hb6,HBW6,HZ2⟩,by simp [intOf];omega⟩
    · obtain rfl:k=y:=by omega
      have BR6:=B14.out.below HBW.out B14.out.lt
      obtain ⟨r1,e1,s1⟩:=BR6.facts
      have q0:wr.cell? ⟨w.heap.size + 1,0,none⟩=some (.int .i64 0):=r1 0
      have q1:wr.cell? ⟨w.heap.size + 1,1,none⟩=some (.int .i64 0):=r1 1
      have q2:wr.cell? ⟨w.heap.size + 1,2,none⟩=some (.int .i64 0):=r1 2
      have z0:(wr.setCell ⟨w.heap.size + 1,0,none⟩ (.int .i64 0)).cell? ⟨w.heap.size + 1,0,none⟩=some (.int .i64 0):=(BR6.set_ 0 (.int .i64 0)).cell 0
      have z1:((wr.setCell ⟨w.heap.size + 1,0,none⟩ (.int .i64 0)).setCell ⟨w.heap.size + 1,1,none⟩ (.int .i64 0)).cell? ⟨w.heap.size + 1,1,none⟩=some (.int .i64 0):=((BR6.set_ 0 (.int .i64 0)).set_ 1 (.int .i64 0)).cell 1
      have z2:(((wr.setCell ⟨w.heap.size + 1,0,none⟩ (.int .i64 0)).setCell ⟨w.heap.size + 1,1,none⟩ (.int .i64 0)).setCell ⟨w.heap.size + 1,2,none⟩ (.int .i64 0)).cell? ⟨w.heap.size + 1,2,none⟩=some (.int .i64 0):=(BR6.set3 (x:=.int .i64 0) (y:=.int .i64 0) (z:=.int .i64 0)).cell 2
      have Z:=hide (And.intro z0 (And.intro z1 z2))
      have HFI:=hide (show ∀ a,out=[a] → false=true from fun a ha=>by
        have h1:=HZ.out a ha
        have h2:=HW1.out a ha
        omega)
      clear r1 z0 z1 z2 BR6
      go_wp2_with (fail)
      refine bodyPost_ret (v:=.tuple #[.agg #[.int .i64 0,.int .i64 0,.int .i64 0],.bool false]) (by simp [results,Tryz.results159,go_sem,Z.out.1,Z.out.2.1,Z.out.2.2]) rfl ⟨(0,0,0),false,rfl,(fun h=>by cases h),HFI.out,((hbr.setCell (by simp) _).setCell (by simp) _).setCell (by simp) _⟩
end
end Go.Proofs.YtppblcbgkadldaaGreatDoor
namespace Go.Proofs.YtppblcbgkadldaaGreatDoor
open Go Go.RowKit
set_option maxRecDepth 100000
attribute [local go_sem] Heavy heavyUpon
theorem cell_blk {w:World} {a:Addr} {t:TypeId} {cs:Array Value} {u:Value} (hB:Blk w a.block t cs) (h:w.cell? a=some u):cs[a.off]? = some u:=by
  unfold World.cell? at h
  unfold Blk at hB
  rw [hB] at h
  simp only [] at h
  split at h
  · cases h
  · exact h
def GCells (N:Nat) (cs:Array Value):Prop:=∃ x y z A1 n1 c1 A2 n2 c2,cs=#[.int .i64 x,.int .i64 y,.int .i64 z,.slice A1 n1 c1,.slice A2 n2 c2] ∧ (x=N ∨ (x=0 ∧ y=0))
theorem gcells_no64 {N:Nat} {cs:Array Value} (h:GCells N cs) (i:Nat) (v:Int):cs[i]? ≠ some (.int .u64 v):=by
  obtain ⟨x,y,z,A1,n1,c1,A2,n2,c2,rfl,_⟩:=h
  match i with
  | 0 | 1 | 2 | 3 | 4=>intro he;simp at he
  | i + 5=>intro he;simp at he
theorem gcells_noedge {N:Nat} {cs:Array Value} (h:GCells N cs) (i:Nat) (e:E3) (he:0 ≤ e.1 ∧ e.1 < e.2.1 ∧ e.2.1 < N):¬ (cs[i]? = some (.int .i64 e.1) ∧ cs[i + 1]? = some (.int .i64 e.2.1) ∧ cs[i + 2]? = some (.int .i64 e.2.2)):=by
  obtain ⟨x,y,z,A1,n1,c1,A2,n2,c2,rfl,hx⟩:=h
  rintro ⟨h0,h1,h2⟩
  match i with
  | 0=>simp at h0 h1;omega
  | 1 | 2 | 3 | 4=>simp at h2
  | i + 5=>simp at h0
section
variable {w w':World} {N L R:Nat} {hs:List (Int × Int)} {es:List E3} {H:Option Addr} {hc:Nat} {E:Option Addr} {m c:Nat}
theorem av_of {K:Nat} (hm0:HSl w H K hc hs) (em:ESl w [] E m c es) (hr:rightE N es=true) {g:Nat} {t:TypeId} {cs:Array Value} (hB:Blk w g t cs) (hcs:GCells N cs):Sl w [g] 2 H K hc (hcells hs) ∧ Sl w [g] 3 E m c (ecells es):=by
  constructor
  · refine ⟨hm0.len,hm0.le,hm0.cap,fun hn=>?_⟩
    obtain ⟨ad,e,hb,hm,hc'⟩:=hm0.at_ hn
    refine ⟨ad,e,hb,?_,hc'⟩
    intro hg
    simp only [List.mem_singleton] at hg
    have hl:0 < hs.length:=by have:=HSl.length hm0;omega
    obtain ⟨ad',e',_,c0,_⟩:=HSl.get hm0 hl
    rw [e] at e';injection e' with e';subst e'
    rw [Nat.zero_mul,add_zero_] at c0
    subst hg
    exact gcells_no64 hcs _ _ (cell_blk hB c0)
  · refine ⟨em.len,em.le,em.cap,fun hn=>?_⟩
    obtain ⟨ad,e,hb,hm,hc'⟩:=em.at_ hn
    refine ⟨ad,e,hb,?_,hc'⟩
    intro hg
    simp only [List.mem_singleton] at hg
    have hl:0 < es.length:=by have:=ESl.length em;omega
    obtain ⟨ad',e',_,_,c0,c1,c2⟩:=ESl.get em hl
    rw [e] at e';injection e' with e';subst e'
    rw [Nat.zero_mul,add_zero_] at c0 c1 c2
    subst hg
    obtain ⟨h0,h1,h2,_⟩:=right_edge hr (List.getElem_mem hl)
    refine gcells_noedge hcs ad.off es[0] ⟨h0,h1,h2⟩ ⟨cell_blk hB c0,?_,?_⟩
    · have:=hB.cell (ad.off + 1);rw [c1] at this;exact this.symm
    · have:=hB.cell (ad.off + 2);rw [c2] at this;exact this.symm
theorem GM.av (h:GM w N L R hs es H hc E m c) {g:Nat} {t:TypeId} {cs:Array Value} (hB:Blk w g t cs) (hcs:GCells N cs):Sl w [g] 2 H (L * R) hc (hcells hs) ∧ Sl w [g] 3 E m c (ecells es):=av_of h.hm h.em h.ge.right hB hcs
theorem GM.reset {es2:List E3} {E2:Option Addr} {m2 c2:Nat} (h:GM w N L R hs es H hc E m c) (hb:Below w.heap.size w w') (hS:ESl w' [] E2 m2 c2 es2) (hg:GE N L es2):GM w' N L R hs es2 H hc E2 m2 c2:=
  ⟨h.n1,h.n2,h.l1,h.l2,h.r1,h.r2,h.hok,h.hm.below hb,hS,hg⟩
theorem set_put {N:Nat} {es:List E3} {e:E3} {t:Int} (hr:rightE N es=true) (he:e ∈ es) (ht:0 ≤ t ∧ t ≤ 16) (A:Option Addr) (m c:Nat) (w:World) (hS:ESl w [] A m c es) (hm:m ≤ 4096) :
    Calls Tryz.prog 162 #[.int .i64 N,.slice A m c,.int .i64 e.1,.int .i64 e.2.1,.int .i64 t] w fun x w'=>∃ R d,x=.returned (.tuple #[.slice R (setE es e.1 e.2.1 t).length d,.int .i64 0]) ∧ ESl w' [] R (setE es e.1 e.2.1 t).length d (setE es e.1 e.2.1 t) ∧ Below w.heap.size w w':=by
  have:=set_ok es N e.1 e.2.1 t A m c w hS hm
  rw [put_at hr he ht] at this
  exact this
def sets (w:World) (ps:List (Addr × Value)):World:=ps.foldl (fun w p=>w.setCell p.1 p.2) w
theorem Sl.sets {size n k:Nat} {A:Option Addr} {xs:List Value} {M:List Nat} {g:Nat} (hg:g ∈ M):∀ (ps:List (Addr × Value)) (w:World),Sl w M size A n k xs → (∀ p ∈ ps,p.1.block=g) → Sl (sets w ps) M size A n k xs
  | [],_,h,_=>h
  | p :: ps,w,h,hp=>Sl.sets hg ps (w.setCell p.1 p.2) (Sl.setCell h (by rw [hp p (by simp)];exact hg) p.2) (fun q hq=>hp q (List.mem_cons_of_mem _ hq))
theorem GM.sets (h:GM w N L R hs es H hc E m c) {g:Nat} {t:TypeId} {cs:Array Value} (hB:Blk w g t cs) (hcs:GCells N cs) (ps:List (Addr × Value)) (hp:∀ p ∈ ps,p.1.block=g):GM (sets w ps) N L R hs es H hc E m c:=by
  obtain ⟨h1,h2⟩:=h.av hB hcs
  exact ⟨h.n1,h.n2,h.l1,h.l2,h.r1,h.r2,h.hok,(Sl.sets (by simp) ps w h1 hp).less (by simp),(Sl.sets (by simp) ps w h2 hp).less (by simp),h.ge⟩
theorem GW.sets (h:GW w N L R hs es H hc E m c) {g:Nat} {t:TypeId} {cs:Array Value} (hB:Blk w g t cs) (hcs:GCells N cs) (ps:List (Addr × Value)) (hp:∀ p ∈ ps,p.1.block=g):GW (sets w ps) N L R hs es H hc E m c:=by
  obtain ⟨h1,h2⟩:=av_of h.hm h.em h.ge.right hB hcs
  exact ⟨h.n1,h.n2,h.l1,h.l2,h.r1,h.r2,h.hok,(Sl.sets (by simp) ps w h1 hp).less (by simp),(Sl.sets (by simp) ps w h2 hp).less (by simp),h.ge,h.mm⟩
theorem GW.set5 (h:GW w N L R hs es H hc E m c) {g:Nat} {t:TypeId} {cs:Array Value} (hB:Blk w g t cs) (hcs:GCells N cs) (a b d e f:Value):GW (((((w.setCell ⟨g,0,none⟩ a).setCell ⟨g,1,none⟩ b).setCell ⟨g,2,none⟩ d).setCell ⟨g,3,none⟩ e).setCell ⟨g,4,none⟩ f) N L R hs es H hc E m c:=
  h.sets hB hcs [(⟨g,0,none⟩,a),(⟨g,1,none⟩,b),(⟨g,2,none⟩,d),(⟨g,3,none⟩,e),(⟨g,4,none⟩,f)] (by simp)
theorem GM.set1 (h:GM w N L R hs es H hc E m c) {g:Nat} {t:TypeId} {cs:Array Value} (hB:Blk w g t cs) (hcs:GCells N cs) (i:Nat) (u:Value):GM (w.setCell ⟨g,i,none⟩ u) N L R hs es H hc E m c:=
  h.sets hB hcs [(⟨g,i,none⟩,u)] (by simp)
theorem GM.set5 (h:GM w N L R hs es H hc E m c) {g:Nat} {t:TypeId} {cs:Array Value} (hB:Blk w g t cs) (hcs:GCells N cs) (a b d e f:Value):GM (((((w.setCell ⟨g,0,none⟩ a).setCell ⟨g,1,none⟩ b).setCell ⟨g,2,none⟩ d).setCell ⟨g,3,none⟩ e).setCell ⟨g,4,none⟩ f) N L R hs es H hc E m c:=
  h.sets hB hcs [(⟨g,0,none⟩,a),(⟨g,1,none⟩,b),(⟨g,2,none⟩,d),(⟨g,3,none⟩,e),(⟨g,4,none⟩,f)] (by simp)
end
theorem Blk.set5 {w:World} {g:Nat} {t:TypeId} {x0 x1 x2 x3 x4:Value} (h:Blk w g t #[x0,x1,x2,x3,x4]) (a b d e f:Value):Blk (((((w.setCell ⟨g,0,none⟩ a).setCell ⟨g,1,none⟩ b).setCell ⟨g,2,none⟩ d).setCell ⟨g,3,none⟩ e).setCell ⟨g,4,none⟩ f) g t #[a,b,d,e,f]:=by
  have:=((((h.set_ 0 a).set_ 1 b).set_ 2 d).set_ 3 e).set_ 4 f
  simpa using this
theorem five_z {w:World} {g:Nat} {t:TypeId} {x0 x1 x2 x3 x4:Value} (h:Blk w g t #[x0,x1,x2,x3,x4]) (a b d e f:Value) :
    (w.setCell ⟨g,0,none⟩ a).cell? ⟨g,0,none⟩=some a ∧ ((w.setCell ⟨g,0,none⟩ a).setCell ⟨g,1,none⟩ b).cell? ⟨g,1,none⟩=some b ∧ (((w.setCell ⟨g,0,none⟩ a).setCell ⟨g,1,none⟩ b).setCell ⟨g,2,none⟩ d).cell? ⟨g,2,none⟩=some d ∧
    ((((w.setCell ⟨g,0,none⟩ a).setCell ⟨g,1,none⟩ b).setCell ⟨g,2,none⟩ d).setCell ⟨g,3,none⟩ e).cell? ⟨g,3,none⟩=some e ∧ (((((w.setCell ⟨g,0,none⟩ a).setCell ⟨g,1,none⟩ b).setCell ⟨g,2,none⟩ d).setCell ⟨g,3,none⟩ e).setCell ⟨g,4,none⟩ f).cell? ⟨g,4,none⟩=some f:=
  ⟨(h.set_ 0 a).cell 0,((h.set_ 0 a).set_ 1 b).cell 1,(((h.set_ 0 a).set_ 1 b).set_ 2 d).cell 2,((((h.set_ 0 a).set_ 1 b).set_ 2 d).set_ 3 e).cell 3,(((((h.set_ 0 a).set_ 1 b).set_ 2 d).set_ 3 e).set_ 4 f).cell 4⟩
theorem below_set5 {B:Nat} {w w':World} (h:Below B w w') {g:Nat} (hg:B ≤ g) (a b d e f:Value):Below B w (((((w'.setCell ⟨g,0,none⟩ a).setCell ⟨g,1,none⟩ b).setCell ⟨g,2,none⟩ d).setCell ⟨g,3,none⟩ e).setCell ⟨g,4,none⟩ f):=
  ((((h.setCell (p:=⟨g,0,none⟩) hg a).setCell (p:=⟨g,1,none⟩) hg b).setCell (p:=⟨g,2,none⟩) hg d).setCell (p:=⟨g,3,none⟩) hg e).setCell (p:=⟨g,4,none⟩) hg f
def RES (N:Nat) (i v:Nat) (es es':List E3):Prop:=
  (es'=es ∧ ¬ ((treeN N es i v).length=(treeN N es (i + 1) v).length ∧ ∃ a,cutT N es i v=[a])) ∨ ∃ e ∈ es,∃ X,SameE es X ∧ es'=setE X e.1 e.2.1 ((i:Int) + 1)
theorem one_of_same {a b t:Int} {X:List E3} (h:SameE [(a,b,t)] X):∃ s,X=[(a,b,s)]:=by
  unfold SameE at h
  match X,h with
  | [(p,q,s)],h=>simp at h;exact ⟨s,by rw [h.1,h.2]⟩
theorem res_pos {N:Nat} {i v:Nat} {t:Int} {es':List E3} (h:RES N i v [(0,1,t)] es') (hp:1 ≤ t ∨ (N=3 ∧ i=0 ∧ v=1 ∧ t=0)):∃ s,1 ≤ s ∧ es'=[(0,1,s)]:=by
  rcases h with ⟨rfl,hn⟩ | ⟨e,he,X,hX,rfl⟩
  · rcases hp with hp | ⟨rfl,rfl,rfl,rfl⟩
    · exact ⟨t,hp,rfl⟩
    · refine absurd ⟨?_,(0,1,0),?_⟩ hn
      · kernel_rfl
      · kernel_rfl
  · rw [List.mem_singleton] at he
    subst he
    obtain ⟨s,rfl⟩:=one_of_same hX
    refine ⟨(i:Int) + 1,by omega,?_⟩
    simp [setE,hitE]
end Go.Proofs.YtppblcbgkadldaaGreatDoor
