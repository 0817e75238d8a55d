/-
  A part of the proof that the law TopForest returns true for every input and leaves its arguments as they were: Path.
-/
import Derived.Test.YtppblcbgkadldaaGreatDoorZ06
import Derived.Test.YtppblcbgkadldaaGreatDoorZ18
set_option linter.all false
namespace Go.Proofs.YtppblcbgkadldaaGreatDoor
open Go Go.RowKit
set_option maxRecDepth 100000
attribute [local go_sem] Heavy heavyUpon
theorem IsWay.snoc:∀ {q:Ends} {x y z:Nat} {a b:Nat},IsWay x q y → ((y=a ∧ z=b) ∨ (y=b ∧ z=a)) → IsWay x (q ++ [(a,b)]) z
  | [],x,y,z,a,b,h,h2=>by
    subst h
    rcases h2 with ⟨h1,h2⟩ | ⟨h1,h2⟩
    · exact .inl ⟨h1,h2.symm⟩
    · exact .inr ⟨h1,h2.symm⟩
  | e :: q,x,y,z,a,b,h,h2=>by
    rcases h with ⟨h1,h⟩ | ⟨h1,h⟩
    · exact .inl ⟨h1,h.snoc h2⟩
    · exact .inr ⟨h1,h.snoc h2⟩
theorem acyc_nodup {n:Nat}:∀ (l:Ends),OkEnds n l → acyc n l → l.Nodup:=by
  intro l
  generalize hk:l.length=k
  induction k generalizing l with
  | zero=>intro _ _;rw [List.eq_nil_of_length_eq_zero hk];exact List.Pairwise.nil
  | succ k ih =>
    intro ho ha
    obtain ⟨l',e,rfl⟩:∃ l' e,l=l' ++ [e]:=⟨l.dropLast,l.getLast (by intro h;rw [h] at hk;simp at hk),(List.dropLast_concat_getLast _).symm⟩
    have h1:=(acyc_snoc ho).1 ha
    have h2:=ih l' (by simpa using hk) ho.left h1.1
    rw [List.nodup_append]
    refine ⟨h2,by simp,fun a hm b hb=>?_⟩
    simp at hb
    subst hb
    rintro rfl
    exact h1.2 (Conn.edge hm)
structure PW (n:Nat) (l:List E3) (lead:List Int) (rk:Nat → Nat) (u x:Nat) (path:List E3) (js:List Nat):Prop where
  eq:path=js.map fun i=>l.getD i (0,0,0)
  lt:∀ i ∈ js,i < l.length
  nd:js.Nodup
  way:IsWay u (endsE path) x
  far:∀ i ∈ js,∃ z,z < n ∧ lead.getD z 0=(i:Int) ∧ rk x < rk z
theorem PW.start (n:Nat) (l:List E3) (lead:List Int) (rk:Nat → Nat) (u:Nat):PW n l lead rk u u [] []:=
  ⟨rfl,by simp,by simp,rfl,by simp⟩
theorem PW.step {n:Nat} {l:List E3} {lead:List Int} {rk:Nat → Nat} {u v x y i:Nat} {path:List E3} {js:List Nat} (h:PW n l lead rk u x path js) (hL:Leads n l v lead rk) (hx:x < n) (hl:lead.getD x 0=(i:Int)) (hi:i < l.length) (hJ:Joins l i x y) (hr:rk y < rk x) :
    PW n l lead rk u y (path ++ [l[i]]) (js ++ [i]):=by
  have e:l.getD i (0,0,0)=l[i]:=by simp [hi]
  refine ⟨by rw [List.map_append,← h.eq];simp [hi],?_,?_,?_,?_⟩
  · intro j hj
    rcases List.mem_append.1 hj with hj | hj
    · exact h.lt j hj
    · simp at hj;subst hj;exact hi
  · rw [List.nodup_append]
    refine ⟨h.nd,by simp,fun a ha b hb=>?_⟩
    simp at hb
    subst hb
    rintro rfl
    obtain ⟨z,hz,h1,h2⟩:=h.far a ha
    have:=hL.inj z x hz hx (by omega) (by omega)
    subst this
    omega
  · rw [endsE,List.map_append]
    refine h.way.snoc ?_
    obtain ⟨_,hJ⟩:=hJ
    rw [e] at hJ
    omega
  · intro j hj
    rcases List.mem_append.1 hj with hj | hj
    · obtain ⟨z,hz,h1,h2⟩:=h.far j hj
      exact ⟨z,hz,h1,by omega⟩
    · simp at hj;subst hj;exact ⟨x,hx,hl,hr⟩
theorem PW.done {n:Nat} {l:List E3} {lead:List Int} {rk:Nat → Nat} {u v:Nat} {path:List E3} {js:List Nat} (h:PW n l lead rk u v path js) (hE:Ends_in n l) (ha:acyc n (endsE l)) :
    IsWay u (endsE path) v ∧ (endsE path).Nodup ∧ ∀ d ∈ path,d ∈ l:=by
  refine ⟨h.way,?_,fun d hd=>?_⟩
  · obtain ⟨h1,h2⟩:=sub_acyc hE ha h.nd h.lt
    have:=acyc_nodup _ h2 h1
    rw [h.eq,endsE,List.map_map]
    exact this
  · rw [h.eq] at hd
    obtain ⟨i,hi,rfl⟩:=List.mem_map.1 hd
    have:=h.lt i hi
    simp [this]
theorem PW.len_le {n:Nat} {l:List E3} {lead:List Int} {rk:Nat → Nat} {u x:Nat} {path:List E3} {js:List Nat} (h:PW n l lead rk u x path js):path.length ≤ l.length:=by
  have:=List.Nodup.length_le_of_subset h.nd (l₂:=List.range l.length) (fun i hi=>List.mem_range.2 (h.lt i hi))
  rw [h.eq];simpa using this
def RetPath (l:List E3) (u v:Nat) (w:World) (e:Ending) (w':World):Prop:=
  ((e=.returned (.tuple #[.slice none 0 0,.int .i64 3]) ∧ ¬ Conn (endsE l) u v) ∨
   (∃ R k d path,e=.returned (.tuple #[.slice R k d,.int .i64 0]) ∧ ESl w' [] R k d path ∧ IsWay u (endsE path) v ∧ (endsE path).Nodup ∧ (∀ x ∈ path,x ∈ l) ∧ k ≤ l.length)) ∧ Below w.heap.size w w'
set_option maxHeartbeats 6400000 in
theorem path_ok (l:List E3) (n u v:Nat) (hn:n ≤ 1000) (hE:Ends_in n l) (hne:∀ e ∈ l,e.1 ≠ e.2.1) (ha:acyc n (endsE l)) (hu:u < n) (hv:v < n) (huv:u ≠ v) (A:Option Addr) (m c:Nat) (w:World) (hS:ESl w [] A m c l) (hm:m ≤ 1000) :
    Calls Tryz.prog 160 #[.int .i64 n,.slice A m c,.int .i64 u,.int .i64 v] w (RetPath l u v w):=by
  obtain ⟨ie,hie,hze,he1,he2⟩:=info_parts edge_info
  have HL:=hide hS.length
  have QR:=hide (fun W (h:ESl W [] A m c l)=>gright_ok l n (by omega) hE ha [] A m c W h (by omega))
  have QU:=hide (fun W=>gvertex_yes n u hu W)
  have QV:=hide (fun W=>gvertex_yes n v hv W)
  have QL:=hide (fun W (h:ESl W [] A m c l)=>leads_ok l n v hn hE hne ha hv A m c W h hm)
  have QO:=hide gother_ok
  have HE:=hide hE
  have HA:=hide ha
  have hcap:=Nat.le_trans hS.le hS.cap
  unfold maxLen at hcap
  clear hE hne ha
  go_enter Tryz.func160,Tryz.ntmps160
  go_wp2_with (fail)
  refine (QR.out _ hS).mono ?_
  rintro e w1 ⟨rfl,b1⟩
  go_wp2_with (fail)
  refine (QU.out _).mono ?_
  rintro e w2 ⟨rfl,b2⟩
  have hb2:=b1.trans (b2.mono b1.size)
  clear b1 b2
  go_wp2_with (fail)
  refine (QV.out _).mono ?_
  rintro e w3 ⟨rfl,b3⟩
  have hb3:=hb2.trans (b3.mono hb2.size)
  clear b3 hb2
  have HS3:=hide (hS.below hb3)
  go_wp2_with (fail)
  refine (QL.out _ HS3.out).mono ?_
  rintro e w4 ⟨R,lead,rk,rfl,S4,L4,b4⟩
  have HS4:=hide S4
  have HLd:=hide L4
  have hb4:=hb3.trans (b4.mono hb3.size)
  clear S4 L4 b4 hb3 HS3 QR QU QV QL
  have O0:=hide (World.ownsRow_nil w4 w4.heap.size 104 3)
  have PW0:=hide (PW.start n l lead rk u)
  have hz4:=hb4.size
  go_wp2_with (fail)
  go_loopg [11,12] (rk u + 1) (fun gk p xv wr=>∃ (x:Nat) (path:List E3) (js:List Nat) (Ao:Option Addr) (co:Nat) (y:Nat),gk=rk x + 1 ∧ xv=.int .i64 x ∧ x < n ∧ p=.slice Ao y co ∧ Hid (y=path.length) ∧ Below w.heap.size w wr ∧ Hid (Below w4.heap.size w4 wr) ∧
    Hid (wr.ownsRow w4.heap.size 104 3 (.slice Ao y co) y (ecells path)) ∧ Hid (PW n l lead rk u x path js) ∧ (x=u ∧ path=[] ∨ x=v ∨ 0 ≤ lead.getD x 0))
  case atStart=>exact ⟨u,[],[],none,0,0,rfl,rfl,hu,rfl,hide rfl,hb4,hide (Below.refl _ _),O0,PW0,.inl ⟨rfl,rfl⟩⟩
  case round =>
    clear O0 PW0
    obtain ⟨x,path,js,Ao,co,y,rfl,rfl,hx,rfl,HY,hbr,HB4,HO,HP,hst⟩:=hrel
    by_cases hxv:x=v
    · subst hxv
      have HD:=hide (HP.out.done HE.out HA.out)
      have HLE:=hide HP.out.len_le
      have N:=own_sl HO.out [] (by simp)
      have hd:((x:Int) == (x:Int))=true:=by simp
      clear HP HO hst
      go_wp2_with (fail)
      refine bodyPost_ret (v:=.tuple #[.slice Ao y co,.int .i64 0]) (by simp [results,Tryz.results160,go_sem]) rfl ⟨.inr ⟨Ao,y,co,path,rfl,N,HD.out.1,HD.out.2.1,HD.out.2.2,by rw [HY.out];exact HLE.out⟩,hbr⟩
    · have hd:((x:Int) == (v:Int))=false:=by rw [beq_eq_false_iff_ne];omega
      have hll:=HLd.out.len
      obtain ⟨ad2,rfl,had2,_,hc2⟩:=(HS4.out.below HB4.out).at_ (by omega)
      have cx:wr.cell? (ad2.add x)=some (.int .i64 (lead.getD x 0)):=hc2 _ _ (ints_getD (by omega))
      clear hc2
      by_cases hlx:lead.getD x 0 < 0
      · have hxu:x=u ∧ path=[]:=by
          rcases hst with h | h | h
          · exact h
          · exact absurd h hxv
          · omega
        obtain ⟨rfl,rfl⟩:=hxu
        have HN:=hide (HLd.out.lo x hx hlx hxv)
        generalize lead.getD x 0=z at *
        clear hst HP HO
        go_wp2_with (fail)
        go_ret2
        exact ⟨.inl ⟨rfl,HN.out⟩,hbr⟩
      · have h0:0 ≤ lead.getD x 0:=by omega
        obtain ⟨y2,hy2,hil,hJ,hr,hst2⟩:=HLd.out.step x hx h0
        obtain ⟨i,hi⟩:=Int.eq_ofNat_of_zero_le h0
        have hit:(lead.getD x 0).toNat=i:=by omega
        rw [hit] at hil hJ
        have HPS:=hide (HP.out.step HLd.out hx hi hil hJ hr)
        have HLE:=HPS.out.len_le
        rw [List.length_append] at HLE
        have hpl:path.length + 1 ≤ l.length:=HLE
        have hy1:=HY.out
        have hlm:=HL.out
        have hyb:y + 1 ≤ 1000:=by omega
        have HOT:=hide (show otherE l[i] (x:Int)=(y2:Int) by
          obtain ⟨_,hJ⟩:=hJ
          have e:l.getD i (0,0,0)=l[i]:=by simp [hil]
          rw [e] at hJ
          unfold otherE
          split <;> omega)
        have HST2:=hide hst2
        rw [hi] at cx
        obtain ⟨ad4,rfl,had4,_,f0,f1,f2⟩:=ESl.get (hS.below hbr) hil
        have him:(i:Int) < (m:Int):=by omega
        generalize l[i]=ed at *
        obtain ⟨p,q,r⟩:=ed
        simp only [] at f0 f1 f2
        have QOT:=hide (fun W=>QO.out p q r (x:Int) W)
        rw [HOT.out] at QOT
        clear hit hlx hst HLE hpl hy1 hlm HOT hst2 hJ hi h0
        have hlt4:=HO.out
        have HLT:=hide (fun g (hg:(Value.slice Ao y co).ownBlock=some g)=>(hlt4.lt g hg).2)
        have hb5:=hbr.alloc hbr.size (.cells #[.int .i64 p,.int .i64 q,.int .i64 r] 104)
        have hb6:=hb5.alloc hb5.size (.cells #[.int .i64 p,.int .i64 q,.int .i64 r] 104)
        have HQ5:=HB4.out.alloc HB4.out.size (.cells #[.int .i64 p,.int .i64 q,.int .i64 r] 104)
        have HQ6:=hide (HQ5.alloc HQ5.size (.cells #[.int .i64 p,.int .i64 q,.int .i64 r] 104))
        have O2:=hide ((HO.out.alloc (.cells #[.int .i64 p,.int .i64 q,.int .i64 r] 104)).alloc (.cells #[.int .i64 p,.int .i64 q,.int .i64 r] 104))
        have N2:Sl ((wr.alloc (.cells #[.int .i64 p,.int .i64 q,.int .i64 r] 104)).alloc (.cells #[.int .i64 p,.int .i64 q,.int .i64 r] 104)) [] 3 (some ⟨wr.heap.size + 1,0,none⟩) 1 1 (ecells [(p,q,r)]):=by
          have:=e1_new (wr.alloc (.cells #[.int .i64 p,.int .i64 q,.int .i64 r] 104)) p q r
          rwa [heap_alloc_size] at this
        have HN2:=hide N2
        have BX:=hide ((Blk.new wr 104 #[.int .i64 p,.int .i64 q,.int .i64 r]).alloc (.cells #[.int .i64 p,.int .i64 q,.int .i64 r] 104))
        have sz4:=HB4.out.size
        have szr:=hbr.size
        clear hlt4 hb5 HQ5 N2 HO HB4 hbr
        (go_wp2_with (at_builtin;refine stopAt ?_);refine stopGo ?_)
        generalize (wr.alloc (.cells #[.int .i64 p,.int .i64 q,.int .i64 r] 104)).alloc (.cells #[.int .i64 p,.int .i64 q,.int .i64 r] 104)=W2 at *
        refine wpList_append_sl _ rfl (.tmp 50) (.tmp 52) _ rfl w4.heap.size 104 ie _ 3 24 Tryz.underlying28 hie hze he1 he2 rfl (by omega) (.slice Ao y co) y _ rfl O2.out [] _ 1 1 (ecells [(p,q,r)]) rfl HN2.out ecells_one (by simp only [maxLen];omega) (by omega) HQ6.out.size ?_
        intro A5 c5 w5 own5 g5 _
        rw [← ecells_append] at own5
        have hg5:=below_grown (B:=w4.heap.size) O2.out g5 (Nat.le_refl _) HQ6.out.size
        have BX5:=BX.out.grown g5 (fun e=>Nat.lt_irrefl _ (HLT.out _ e.symm))
        have HQ7:=hide (HQ6.out.trans hg5)
        have hb7:=hb6.trans (hg5.mono hz4)
        have OW5:=hide own5
        have HY5:=hide (show y + 1=(path ++ [(p,q,r)]).length by rw [List.length_append,HY.out];rfl)
        obtain ⟨r5,e5,s5⟩:=BX5.facts
        have x0:w5.cell? ⟨wr.heap.size,0,none⟩=some (.int .i64 p):=r5 0
        have x1:w5.cell? ⟨wr.heap.size,1,none⟩=some (.int .i64 q):=r5 1
        have x2:w5.cell? ⟨wr.heap.size,2,none⟩=some (.int .i64 r):=r5 2
        clear r5 own5 g5 hg5 O2 HN2 BX HQ6 hb6 HLT BX5 cx f0 f1 f2
        go_wp2_with (fail)
        refine (QOT.out _).mono ?_
        rintro e w6 ⟨rfl,b6⟩
        have hb8:=hb7.trans (b6.mono hb7.size)
        have HQ8:=hide (HQ7.out.trans (b6.mono HQ7.out.size))
        have OW6:=hide (own_below OW5.out b6)
        clear b6 hb7 HQ7 OW5 x0 x1 x2 e5 s5
        go_wp2_with (fail)
        go_roundg (rk y2 + 1)
        case measure=>omega
        case rel=>exact ⟨y2,_,_,A5,c5,y + 1,rfl,rfl,hy2,rfl,HY5,hb8,HQ8,OW6,HPS,HST2.out.elim (fun h=>.inr (.inl h)) (fun h=>.inr (.inr h))⟩
end Go.Proofs.YtppblcbgkadldaaGreatDoor
