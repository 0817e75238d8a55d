/-
  A part of the proof that the law TopForest returns true for every input and leaves its arguments as they were: LinesM, Lines, Writes, Dull.
-/
import Derived.Test.YtppblcbgkadldaaGreatDoorZ14
import Derived.Test.YtppblcbgkadldaaGreatDoorZ39
import Derived.Test.YtppblcbgkadldaaGreatDoorZ46
set_option linter.all false
namespace Go.Proofs.YtppblcbgkadldaaGreatDoor
open Go Go.RowKit
set_option maxRecDepth 100000
theorem str_info:(Tryz.prog.info? 9).map (fun i=>(i.zero,i.size,i.bytes))=some (some (.string ⟨#[]⟩),1,16):=by kernel_rfl
theorem strs_info:(Tryz.prog.info? 93).map (fun i=>(i.zero,i.size,i.bytes))=some (some (.slice none 0 0),1,24):=by kernel_rfl
theorem s1_new (w:World) (s:ByteArray):Sl (w.alloc (.cells #[.string s] 9)) [] 1 (some ⟨w.heap.size,0,none⟩) 1 1 (strs [s]):=
  Sl.of_blk (Blk.new w 9 #[.string s]) rfl (fun x hx=>by match x,hx with | 0,_=>rfl) (by simp) (by unfold maxLen;omega)
theorem sl1_new (w:World) (A:Option Addr) (n c:Nat):Sl (w.alloc (.cells #[.slice A n c] 93)) [] 1 (some ⟨w.heap.size,0,none⟩) 1 1 [.slice A n c]:=
  Sl.of_blk (Blk.new w 93 #[.slice A n c]) rfl (fun x hx=>by match x,hx with | 0,_=>rfl) (by simp) (by unfold maxLen;omega)
theorem sl1_one (A:Option Addr) (n c:Nat):∀ u ∈ [Value.slice A n c],u.oneCell'=true:=by
  intro u hu
  obtain rfl:=List.mem_singleton.1 hu
  rfl
def blkOf (A:Option Addr):List Nat:=(A.map (·.block)).toList
theorem own_blk {A:Option Addr} {n c:Nat}:∀ g,Value.ownBlock (.slice A n c)=some g → g ∈ blkOf A:=by
  intro g hg
  rcases A with _ | a
  · cases hg
  · simp [Value.ownBlock] at hg
    simp [blkOf,hg]
theorem blk_own {A:Option Addr} {n c:Nat}:∀ g ∈ blkOf A,Value.ownBlock (.slice A n c)=some g:=by
  intro g hg
  rcases A with _ | a
  · simp [blkOf] at hg
  · simp [blkOf] at hg
    simp [Value.ownBlock,hg]
theorem own_kind {w:World} {B:Nat} {e:TypeId} {s:Nat} {v:Value} {n:Nat} {xs:List Value} (h:w.ownsRow B e s v n xs):∀ g,v.ownBlock=some g → ∃ c,w.heap[g]? = some (.cells c e (0,0)):=by
  intro g hg
  rcases h.2 with ⟨rfl,_⟩ | ⟨g',cap,cur,rfl,_,hgg,_⟩
  · simp [Value.ownBlock] at hg
  · simp [Value.ownBlock] at hg
    subst hg
    exact ⟨cur,hgg⟩
theorem own_iterAt {w:World} {B:Nat} {e:TypeId} {s:Nat} {v:Value} {n:Nat} {xs:List Value} (h:w.ownsRow B e s v n xs) {k:Nat} {t:ByteArray} {p:Nat} (hk:w.heap[k]? = some (.stringIter t p)) (q:Nat):(w.iterAt k t q).ownsRow B e s v n xs:=by
  refine ⟨h.1,?_⟩
  rcases h.2 with hn | ⟨g,cap,cur,hv,hb,hg,r⟩
  · exact .inl hn
  · have hne:g ≠ k:=by
      intro e1
      rw [e1,hk] at hg
      cases hg
    exact .inr ⟨g,cap,cur,hv,hb,(Lib.iterAt_other w k g t q hne).trans hg,r⟩
structure LX (w wr:World) (A:Option Addr) (cA:Nat) (vs:List Value) (B:Option Addr) (cB:Nat) (lines:List (List ByteArray)) (line:List ByteArray):Prop where
  outer:wr.ownsRow w.heap.size 93 1 (.slice A lines.length cA) lines.length vs
  sl:∀ i (h:i < lines.length),∃ Bi ci,vs[i]? = some (.slice Bi lines[i].length ci) ∧ Sl wr (w.heap.size :: (blkOf A ++ blkOf B)) 1 Bi lines[i].length ci (strs lines[i])
  inner:wr.ownsRow w.heap.size 9 1 (.slice B line.length cB) line.length (strs line)
  bel:Below w.heap.size w wr
section
variable {w wr w':World} {A:Option Addr} {cA:Nat} {vs:List Value} {B:Option Addr} {cB:Nat} {lines:List (List ByteArray)} {line:List ByteArray}
theorem LX.start (w:World) (p:Nat):LX w (w.iter textF p) none 0 [] none 0 [] []:=
  ⟨World.ownsRow_nil _ _ _ _,fun _ h=>absurd h (Nat.not_lt_zero _),World.ownsRow_nil _ _ _ _,(Below.refl w.heap.size w).alloc (Nat.le_refl _) _⟩
theorem LX.iterAt (h:LX w wr A cA vs B cB lines line) {p:Nat} (hk:wr.heap[w.heap.size]? = some (.stringIter textF p)) (q:Nat):LX w (wr.iterAt w.heap.size textF q) A cA vs B cB lines line:=
  ⟨own_iterAt h.outer hk q,fun i hi=>by
    obtain ⟨Bi,ci,h1,h2⟩:=h.sl i hi
    exact ⟨Bi,ci,h1,h2.keep (by rw [Lib.iterAt_size];exact Nat.le_refl _) fun k _ hkm=>Lib.iterAt_other wr _ k textF q (fun e=>hkm (by rw [e];exact List.mem_cons_self ..))⟩,
    own_iterAt h.inner hk q,Lib.below_iterAt h.bel (Nat.le_refl _) textF q⟩
theorem lx_word (h:LX w wr A cA vs B cB lines line) {p:Nat} (hk:wr.heap[w.heap.size]? = some (.stringIter textF p)) {s:ByteArray} {o:Obj} {B':Option Addr} {c':Nat}
    (own:w'.ownsRow w.heap.size 9 1 (.slice B' (line.length + 1) c') (line.length + 1) (strs line ++ strs [s])) (hg:(wr.alloc o).grownBy w' (Value.ownBlock (.slice B line.length cB)))
    (hb:Value.ownBlock (.slice B' (line.length + 1) c')=Value.ownBlock (.slice B line.length cB) ∨ Value.ownBlock (.slice B' (line.length + 1) c')=some (wr.alloc o).heap.size) :
    LX w w' A cA vs B' c' lines (line ++ [s]) ∧ w'.heap[w.heap.size]? = some (.stringIter textF p):=by
  have hin:=h.inner.alloc o
  have hlt:w.heap.size < wr.heap.size:=(Array.getElem?_eq_some_iff.1 hk).1
  have hk1:(wr.alloc o).heap[w.heap.size]? = some (.stringIter textF p):=(Below.heap_alloc wr o _ hlt).trans hk
  refine ⟨⟨(h.outer.alloc o).kept hg ?_,fun i hi=>?_,?_,?_⟩,?_⟩
  · cases hA:Value.ownBlock (.slice A lines.length cA)
    · exact .inl rfl
    · rename_i g
      refine .inr fun e=>?_
      obtain ⟨c1,h1⟩:=own_kind (h.outer.alloc o) g hA
      obtain ⟨c2,h2⟩:=own_kind hin g e.symm
      rw [h1] at h2
      injection h2 with h2
      injection h2 with _ h2
      exact absurd h2 (by decide)
  · obtain ⟨Bi,ci,h1,h2⟩:=h.sl i hi
    refine ⟨Bi,ci,h1,((h2.alloc o).more (M':=w.heap.size :: (blkOf A ++ (blkOf B ++ blkOf B'))) ?_).grown hg ?_ |>.less ?_⟩
    · intro b hb'
      simp only [List.mem_cons,List.mem_append] at hb' ⊢
      rcases hb' with e | e | e | e
      · exact .inl (.inl e)
      · exact .inl (.inr (.inl e))
      · exact .inl (.inr (.inr e))
      · have e1:=blk_own (n:=line.length + 1) (c:=c') b e
        rcases hb with h3 | h3
        · exact .inl (.inr (.inr (own_blk b (h3.symm.trans e1))))
        · rw [e1] at h3
          injection h3 with h3
          exact .inr (Nat.le_of_eq h3.symm)
    · intro g hg'
      have:=own_blk g hg'
      simp only [List.mem_cons,List.mem_append]
      exact .inr (.inr (.inl this))
    · intro b hb'
      simp only [List.mem_cons,List.mem_append] at hb' ⊢
      rcases hb' with e | e | e
      · exact .inl e
      · exact .inr (.inl e)
      · exact .inr (.inr (.inr e))
  · rw [List.length_append,strs_append]
    exact own
  · exact (h.bel.alloc h.bel.size o).trans (below_grown hin hg (Nat.le_refl _) (by simp only [heap_alloc_size];omega))
  · refine (hg.block _ (by simp only [heap_alloc_size];omega) fun e=>?_).trans hk1
    obtain ⟨c2,h2⟩:=own_kind hin _ e.symm
    rw [hk1] at h2
    cases h2
theorem lx_line (h:LX w wr A cA vs B cB lines line) {p:Nat} (hk:wr.heap[w.heap.size]? = some (.stringIter textF p)) {o:Obj} {A':Option Addr} {c':Nat}
    (own:w'.ownsRow w.heap.size 93 1 (.slice A' (lines.length + 1) c') (lines.length + 1) (vs ++ [.slice B line.length cB])) (hg:(wr.alloc o).grownBy w' (Value.ownBlock (.slice A lines.length cA)))
    (hb:Value.ownBlock (.slice A' (lines.length + 1) c')=Value.ownBlock (.slice A lines.length cA) ∨ Value.ownBlock (.slice A' (lines.length + 1) c')=some (wr.alloc o).heap.size) :
    LX w w' A' c' (vs ++ [.slice B line.length cB]) none 0 (lines ++ [line]) [] ∧ w'.heap[w.heap.size]? = some (.stringIter textF p):=by
  have hin:=h.outer.alloc o
  have hlt:w.heap.size < wr.heap.size:=(Array.getElem?_eq_some_iff.1 hk).1
  have hk1:(wr.alloc o).heap[w.heap.size]? = some (.stringIter textF p):=(Below.heap_alloc wr o _ hlt).trans hk
  have hbl:∀ b ∈ blkOf A',b ∈ blkOf A ∨ (wr.alloc o).heap.size ≤ b:=by
    intro b e
    have e1:=blk_own (n:=lines.length + 1) (c:=c') b e
    rcases hb with h3 | h3
    · exact .inl (own_blk b (h3.symm.trans e1))
    · rw [e1] at h3
      injection h3 with h3
      exact .inr (Nat.le_of_eq h3.symm)
  have hap:∀ b ∈ blkOf B,b ∉ blkOf A ∧ b ≠ w.heap.size ∧ b < (wr.alloc o).heap.size:=by
    intro b e
    obtain ⟨c1,h1⟩:=own_kind (h.inner.alloc o) b (blk_own b e)
    refine ⟨fun e2=>?_,fun e2=>?_,(Array.getElem?_eq_some_iff.1 h1).1⟩
    · obtain ⟨c2,h2⟩:=own_kind hin b (blk_own b e2)
      rw [h1] at h2
      injection h2 with h2
      injection h2 with _ h2
      exact absurd h2 (by decide)
    · rw [e2,hk1] at h1
      cases h1
  have hvl:vs.length=lines.length:=by have:=h.outer.1;omega
  have hsl:∀ Bi n ci xs,Sl (wr.alloc o) (w.heap.size :: blkOf A) 1 Bi n ci xs → Sl w' (w.heap.size :: (blkOf A' ++ blkOf none)) 1 Bi n ci xs:=by
    intro Bi n ci xs h2
    refine ((h2.more (M':=w.heap.size :: (blkOf A ++ blkOf A')) ?_).grown hg ?_).less ?_
    · intro b hb'
      simp only [List.mem_cons,List.mem_append] at hb' ⊢
      rcases hb' with e | e | e
      · exact .inl (.inl e)
      · exact .inl (.inr e)
      · exact (hbl b e).imp .inr id
    · intro g hg'
      have:=own_blk g hg'
      simp only [List.mem_cons,List.mem_append]
      exact .inr (.inl this)
    · intro b hb'
      simp only [List.mem_cons,List.mem_append,blkOf,Option.map_none,Option.toList,List.not_mem_nil,or_false] at hb' ⊢
      rcases hb' with e | e
      · exact .inl e
      · exact .inr (.inr e)
  refine ⟨⟨?_,fun i hi=>?_,World.ownsRow_nil _ _ _ _,?_⟩,?_⟩
  · rw [List.length_append]
    exact own
  · rw [List.length_append,List.length_singleton] at hi
    by_cases hlt2:i < lines.length
    · obtain ⟨Bi,ci,h1,h2⟩:=h.sl i hlt2
      rw [List.getElem_append_left hlt2]
      refine ⟨Bi,ci,by rw [List.getElem?_append_left (by omega)];exact h1,hsl _ _ _ _ ((h2.alloc o).less ?_)⟩
      intro b hb'
      simp only [List.mem_cons,List.mem_append] at hb' ⊢
      rcases hb' with e | e
      · exact .inl e
      · exact .inr (.inl e)
    · obtain rfl:i=lines.length:=by omega
      rw [List.getElem_append_right (Nat.le_refl _)]
      simp only [Nat.sub_self,List.getElem_cons_zero]
      refine ⟨B,cB,by rw [List.getElem?_append_right (by omega),hvl];simp,hsl _ _ _ _ ?_⟩
      have h3:Sl (wr.alloc o) [] 1 B line.length cB (strs line):=own_sl (h.inner.alloc o) [] (by simp)
      refine ⟨h3.len,h3.le,h3.cap,fun hn=>?_⟩
      obtain ⟨ad,e,h4,_,h5⟩:=h3.at_ hn
      refine ⟨ad,e,h4,?_,h5⟩
      have h6:=hap ad.block (by rw [e];simp [blkOf])
      simp only [List.mem_cons,not_or]
      exact ⟨h6.2.1,h6.1⟩
  · exact (h.bel.alloc h.bel.size o).trans (below_grown hin hg (Nat.le_refl _) (by simp only [heap_alloc_size];omega))
  · refine (hg.block _ (by simp only [heap_alloc_size];omega) fun e=>?_).trans hk1
    obtain ⟨c2,h2⟩:=own_kind hin _ e.symm
    rw [hk1] at h2
    cases h2
end
end Go.Proofs.YtppblcbgkadldaaGreatDoor
namespace Go.Proofs.YtppblcbgkadldaaGreatDoor
open Go Go.RowKit
set_option maxRecDepth 100000
attribute [local go_sem] Heavy heavyUpon
set_option maxHeartbeats 3200000 in
theorem isLetter_ok (b:Nat) (hb:b < 128) (w:World):Calls Tryz.prog 60 #[.int .i32 b] w (fun e w'=>e=.returned (.bool (isL b)) ∧ w'=w):=by
  have h9:¬ (945:Int) ≤ (b:Int):=by omega
  go_enter Tryz.func60,Tryz.ntmps60
  by_cases h1:(97:Int) ≤ (b:Int) <;> by_cases h2:(b:Int) ≤ 122 <;> by_cases h3:(48:Int) ≤ (b:Int) <;> by_cases h4:(b:Int) ≤ 57
  all_goals go_wp2_with (fail)
  all_goals go_ret
  all_goals (first | exact ⟨by rw [show isL b=true by (simp only [isL,Bool.or_eq_true,Bool.and_eq_true,decide_eq_true_eq];omega)];rfl,rfl⟩ | exact ⟨by rw [show isL b=false by (rw [← Bool.not_eq_true];simp only [isL,Bool.or_eq_true,Bool.and_eq_true,decide_eq_true_eq];omega)];rfl,rfl⟩)
def RetLines (w:World) (e:Ending) (w':World):Prop:=
  ∃ A c vs,e=.returned (.tuple #[.slice A 9 c,.int .i64 0,.int .i64 0]) ∧ Sl w' [] 1 A 9 c vs ∧ (∀ i (h:i < linesF.length),∃ Bi ci,vs[i]? = some (.slice Bi linesF[i].length ci) ∧ Sl w' [] 1 Bi linesF[i].length ci (strs linesF[i])) ∧ Below w.heap.size w w'
set_option maxHeartbeats 3200000 in
theorem lines_ok (w:World):Calls Tryz.prog 32 #[.string textF] w (RetLines w):=by
  obtain ⟨ie,hie,hze,he1,he2⟩:=info_parts str_info
  obtain ⟨iq,hiq,hzq,hq1,hq2⟩:=info_parts strs_info
  have hsz:=textF_size
  go_enter Tryz.func32,Tryz.ntmps32
  go_wp2_with (fail)
  go_loopw [5,6,7,8,9] (fun x l st rm ah wr=>∃ (p:Nat) (A:Option Addr) (cA:Nat) (vs:List Value) (B:Option Addr) (cB:Nat),p ≤ 86 ∧ x=.slice A (lexAt p).1.length cA ∧ l=.slice B (lexAt p).2.1.length cB ∧ st=.int .i64 (lexAt p).2.2 ∧ rm=.bool false ∧ ah=.int .i64 p ∧ Hid (wr.heap[w.heap.size]? = some (.stringIter textF p)) ∧ Hid (LX w wr A cA vs B cB (lexAt p).1 (lexAt p).2.1)) (fun _ _ _ _ _ wr=>86 - wr.iterPos w.heap.size)
  case atStart=>exact ⟨0,none,0,[],none,0,Nat.zero_le _,rfl,rfl,rfl,rfl,rfl,World.iter_heap _ _ _,LX.start w 0⟩
  case round =>
    obtain ⟨p,A,cA,vs,B,cB,hp,rfl,rfl,rfl,rfl,rfl,HK,HX⟩:=hrel
    have HI:=hide (iterPos_of HK.out)
    have HLL:=hide (lines_len p)
    by_cases hlt:p < 86
    · have hlt':p < textF.size:=by rw [hsz];exact hlt
      have HF:=hide (facts_at p hlt)
      have HSL:=hide (start_le p)
      have HSE:=hide (start_eq p)
      have hb128:=HF.out.1
      have hnx:∀ ty,(Instr.next (.pointer (some ⟨w.heap.size,0,none⟩)) true ty).run Tryz.prog wr=.ok (.tuple #[.bool true,.int .i64 p,.int .i32 (byteF p)]) (wr.iterAt w.heap.size textF (p + 1)):=fun ty=>by
        rw [Lib.run_next_ascii_at (P:=Tryz.prog) wr w.heap.size textF p ty HK.out hlt' (by rw [byteF_eq p hlt'];exact hb128),byteF_eq p hlt']
      have HX1:=hide (HX.out.iterAt HK.out (p + 1))
      have HK1:=hide (Lib.iterAt_heap wr w.heap.size textF p (p + 1) HK.out)
      have QL:=hide (fun W=>isLetter_ok (byteF p) hb128 W)
      have HN1:=hide (lex_letter p)
      have HN2:=hide (lex_line p)
      have HN3:=hide (lex_word p)
      rw [HSE.out]
      clear HX HSE
      generalize startAt p=st at *
      generalize byteF p=b at *
      generalize (lexAt p).1=lines at *
      generalize (lexAt p).2.1=line at *
      go_wp2_with (fail)
      refine (QL.out _).mono ?_
      rintro e w1 ⟨rfl,rfl⟩
      have HM9:=hide (show 86 - (wr.iterAt w.heap.size textF (p + 1)).iterPos w.heap.size < 86 - wr.iterPos w.heap.size by rw [iterPos_of HK1.out,HI.out];omega)
      generalize wr.iterAt w.heap.size textF (p + 1)=W1 at *
      have i2:(p:Int) ≤ 86:=by omega
      have i3:0 ≤ (p:Int):=by omega
      rcases HF.out.2 with hl | ⟨hl,hb,hst⟩
      · rw [hl]
        have HN:=hide (HN1.out hl)
        obtain ⟨m1,m2,m3,m4⟩:=isL_no hl
        clear HN1 HN2 HN3 HSL QL hnx HF
        by_cases hst:st < 0
        · rw [if_pos hst] at HN
          go_wp2_with (fail)
          exact ⟨⟨p + 1,A,cA,vs,B,cB,by omega,by rw [HN.out],by rw [HN.out],by rw [HN.out],rfl,by go_num,HK1,by rw [HN.out];exact HX1⟩,HM9.out⟩
        · rw [if_neg hst] at HN
          have i0:0 ≤ st:=by omega
          go_wp2_with (fail)
          exact ⟨⟨p + 1,A,cA,vs,B,cB,by omega,by rw [HN.out],by rw [HN.out],by rw [HN.out],rfl,by go_num,HK1,by rw [HN.out];exact HX1⟩,HM9.out⟩
      · rw [hl]
        have i1:=HSL.out.2
        rcases hb with rfl | rfl
        · have HN:=hide (HN2.out hl rfl)
          clear HN1 HN2 HN3 HSL QL hnx HF
          (go_wp2_with (at_builtin;refine stopAt ?_);refine stopGo ?_)
          (generalize textF.extract st.toNat p=s at *;have hc0:=HLL.out.2;have O2:=hide (HX1.out.inner.alloc (.cells #[.string s] 9));have N2:=s1_new W1 s;have hz2:=hide (HX1.out.bel.alloc HX1.out.bel.size (.cells #[.string s] 9)).size;refine wpList_append_sl _ rfl (.tmp 31) (.tmp 36) _ rfl w.heap.size 9 ie _ 1 16 Tryz.underlying93 hie hze he1 he2 rfl (by omega) (.slice B line.length cB) line.length _ rfl O2.out [] _ 1 1 (strs [s]) rfl N2 strs_one (by simp only [maxLen];omega) (by omega) hz2.out ?_;intro B5 c5 w5 own5 g5 hb5;obtain ⟨HX2,HK2⟩:=lx_word HX1.out HK1.out own5 g5 hb5;replace HX2:=hide HX2;replace HK2:=hide HK2;have HL2:=hide (show (line ++ [s]).length ≤ p + 1 by rw [List.length_append];simp only [List.length_cons,List.length_nil];omega);clear own5 g5 hb5 O2 N2 hz2 hc0;rw [show line.length + 1=(line ++ [s]).length by rw [List.length_append];rfl];generalize line ++ [s]=line2 at *)
          (go_wp2_with (at_builtin;refine stopAt ?_);refine stopGo ?_)
          (have hc0:=HLL.out.1;have O3:=hide (HX2.out.outer.alloc (.cells #[.slice B5 line2.length c5] 93));have N3:=sl1_new w5 B5 line2.length c5;have hz3:=hide (HX2.out.bel.alloc HX2.out.bel.size (.cells #[.slice B5 line2.length c5] 93)).size;refine wpList_append_sl _ rfl (.tmp 41) (.tmp 43) _ rfl w.heap.size 93 iq _ 1 24 Tryz.underlying82 hiq hzq hq1 hq2 rfl (by omega) (.slice A lines.length cA) lines.length _ rfl O3.out [] _ 1 1 [.slice B5 line2.length c5] rfl N3 (sl1_one B5 line2.length c5) (by simp only [maxLen];omega) (by omega) hz3.out ?_;intro A5 c6 w6 own6 g6 hb6;obtain ⟨HX3,HK3⟩:=lx_line HX2.out HK2.out own6 g6 hb6;replace HX3:=hide HX3;replace HK3:=hide HK3;clear own6 g6 hb6 O3 N3 hz3 hc0)
          go_wp2_with (fail)
          exact ⟨⟨p + 1,A5,c6,_,none,0,by omega,by rw [HN.out];simp,by rw [HN.out];rfl,by rw [HN.out],rfl,by go_num,HK3,by rw [HN.out];exact HX3⟩,by rw [iterPos_of HK3.out,HI.out];omega⟩
        · have HN:=hide (HN3.out hl rfl)
          clear HN1 HN2 HN3 HSL QL hnx HF
          (go_wp2_with (at_builtin;refine stopAt ?_);refine stopGo ?_)
          (generalize textF.extract st.toNat p=s at *;have hc0:=HLL.out.2;have O2:=hide (HX1.out.inner.alloc (.cells #[.string s] 9));have N2:=s1_new W1 s;have hz2:=hide (HX1.out.bel.alloc HX1.out.bel.size (.cells #[.string s] 9)).size;refine wpList_append_sl _ rfl (.tmp 31) (.tmp 36) _ rfl w.heap.size 9 ie _ 1 16 Tryz.underlying93 hie hze he1 he2 rfl (by omega) (.slice B line.length cB) line.length _ rfl O2.out [] _ 1 1 (strs [s]) rfl N2 strs_one (by simp only [maxLen];omega) (by omega) hz2.out ?_;intro B5 c5 w5 own5 g5 hb5;obtain ⟨HX2,HK2⟩:=lx_word HX1.out HK1.out own5 g5 hb5;replace HX2:=hide HX2;replace HK2:=hide HK2;have HL2:=hide (show (line ++ [s]).length ≤ p + 1 by rw [List.length_append];simp only [List.length_cons,List.length_nil];omega);clear own5 g5 hb5 O2 N2 hz2 hc0;rw [show line.length + 1=(line ++ [s]).length by rw [List.length_append];rfl];generalize line ++ [s]=line2 at *)
          go_wp2_with (fail)
          exact ⟨⟨p + 1,A,cA,vs,B5,c5,by omega,by rw [HN.out],by rw [HN.out],by rw [HN.out],rfl,by go_num,HK2,by rw [HN.out];exact HX2⟩,by rw [iterPos_of HK2.out,HI.out];omega⟩
    · obtain rfl:p=86:=by omega
      have hnx:=fun ty=>Lib.run_next_end_at (P:=Tryz.prog) wr w.heap.size textF 86 ty HK.out (by rw [hsz];decide)
      have HN:=hide (show (lexAt 86).1 ++ [(lexAt 86).2.1 ++ [textF.extract 85 86]]=linesF from lines_end)
      rw [start_eq,start_end]
      generalize (lexAt 86).1=lines at *
      generalize (lexAt 86).2.1=line at *
      (go_wp2_with (at_builtin;refine stopAt ?_);refine stopGo ?_)
      (generalize textF.extract 85 86=s at *;have hc0:=HLL.out.2;have O2:=hide (HX.out.inner.alloc (.cells #[.string s] 9));have N2:=s1_new wr s;have hz2:=hide (HX.out.bel.alloc HX.out.bel.size (.cells #[.string s] 9)).size;refine wpList_append_sl _ rfl (.tmp 70) (.tmp 74) _ rfl w.heap.size 9 ie _ 1 16 Tryz.underlying93 hie hze he1 he2 rfl (by omega) (.slice B line.length cB) line.length _ rfl O2.out [] _ 1 1 (strs [s]) rfl N2 strs_one (by simp only [maxLen];omega) (by omega) hz2.out ?_;intro B5 c5 w5 own5 g5 hb5;obtain ⟨HX2,HK2⟩:=lx_word HX.out HK.out own5 g5 hb5;replace HX2:=hide HX2;replace HK2:=hide HK2;have HL2:=hide (show (line ++ [s]).length ≤ 87 by rw [List.length_append];simp only [List.length_cons,List.length_nil];omega);clear own5 g5 hb5 O2 N2 hz2 hc0;rw [show line.length + 1=(line ++ [s]).length by rw [List.length_append];rfl];generalize line ++ [s]=line2 at *)
      (go_wp2_with (at_builtin;refine stopAt ?_);refine stopGo ?_)
      (have hc0:=HLL.out.1;have O3:=hide (HX2.out.outer.alloc (.cells #[.slice B5 line2.length c5] 93));have N3:=sl1_new w5 B5 line2.length c5;have hz3:=hide (HX2.out.bel.alloc HX2.out.bel.size (.cells #[.slice B5 line2.length c5] 93)).size;refine wpList_append_sl _ rfl (.tmp 76) (.tmp 78) _ rfl w.heap.size 93 iq _ 1 24 Tryz.underlying82 hiq hzq hq1 hq2 rfl (by omega) (.slice A lines.length cA) lines.length _ rfl O3.out [] _ 1 1 [.slice B5 line2.length c5] rfl N3 (sl1_one B5 line2.length c5) (by simp only [maxLen];omega) (by omega) hz3.out ?_;intro A5 c6 w6 own6 g6 hb6;obtain ⟨HX3,HK3⟩:=lx_line HX2.out HK2.out own6 g6 hb6;replace HX3:=hide HX3;replace HK3:=hide HK3;clear own6 g6 hb6 O3 N3 hz3 hc0)
      have HN9:=hide (show lines.length + 1=9 by have h9:=congrArg List.length HN.out;rw [List.length_append] at h9;exact h9)
      go_wp2_with (fail)
      rw [HN9.out]
      go_ret3
      have h3:=HX3.out
      rw [HN.out] at h3
      exact ⟨A5,c6,_,rfl,own_sl h3.outer [] (by simp),fun i hi=>by obtain ⟨Bi,ci,h1,h2⟩:=h3.sl i hi;exact ⟨Bi,ci,h1,h2.less (by simp)⟩,h3.bel⟩
end Go.Proofs.YtppblcbgkadldaaGreatDoor
namespace Go.Proofs.YtppblcbgkadldaaGreatDoor
open Go Go.RowKit
set_option maxRecDepth 100000
attribute [local go_sem] Heavy heavyUpon
theorem byte_info:(Tryz.prog.info? 5).map (fun i=>(i.zero,i.size,i.bytes))=some (some (.int .u8 0),1,1):=by kernel_rfl
theorem bld_size:(Tryz.prog.info? 92).map (·.size)=some 2:=by kernel_rfl
set_option maxHeartbeats 3200000 in
theorem copy_used (b:Nat) (w:World) (h0:w.cell? ⟨b,0,none⟩=some (.pointer (some ⟨b,0,none⟩))) :
    Calls Tryz.prog 70 #[.pointer (some ⟨b,0,none⟩)] w fun e w'=>e=.returned (.tuple #[]) ∧ w'=w:=by
  obtain ⟨j,hj,_⟩:=Option.map_eq_some_iff.1 bld_size
  go_enter Tryz.func70,Tryz.ntmps70
  go_wp2
  rw [Lib.run_neq_ptr_same w _ Tryz.underlying89 hj]
  go_wp2
  go_end0
  exact ⟨rfl,rfl⟩
theorem bld_lies:liesAt Tryz.prog Tryz.prog.depth 92 (2 / Tryz.prog.cellsOf 92) 0 92 1=true:=by kernel_rfl
set_option maxHeartbeats 3200000 in
theorem copy_fresh (b:Nat) (w:World) (h0:w.cell? ⟨b,0,none⟩=some (.pointer none)) (hsh:w.shape? b=some (92,2)) (hfz:w.frozen? ⟨b,0,none⟩=false) :
    Calls Tryz.prog 70 #[.pointer (some ⟨b,0,none⟩)] w fun e w'=>e=.returned (.tuple #[]) ∧ w'=w.setCell ⟨b,0,none⟩ (.pointer (some ⟨b,0,none⟩)):=by
  obtain ⟨j,hj,hjs⟩:=Option.map_eq_some_iff.1 bld_size
  go_enter Tryz.func70,Tryz.ntmps70
  go_wp2
  rw [Lib.run_to_unsafe w ⟨b,0,none⟩ Tryz.underlying89 Tryz.underlying182 hj (by rw [hjs];decide) hsh (Nat.zero_lt_succ 1)]
  simp only [Result.andThen]
  rw [Oper.upon_value]
  go_wp2
  rw [run_callFunc_extern Tryz.func104 (by kernel_rfl) (by kernel_rfl) (by kernel_rfl) (e:=Extern.AbiNoEscape.same) (by kernel_rfl)]
  rw [Lib.run_noEscape]
  simp only [Result.andThen]
  rw [Oper.upon_value]
  go_wp2
  rw [Lib.run_from_unsafe w ⟨b,0,none⟩ Tryz.underlying182 Tryz.underlying89 hj hsh bld_lies]
  simp only [Result.andThen]
  rw [Oper.upon_value]
  go_wp2
  go_end0
  exact ⟨rfl,rfl⟩
end Go.Proofs.YtppblcbgkadldaaGreatDoor
namespace Go.Proofs.YtppblcbgkadldaaGreatDoor
open Go Go.RowKit
set_option maxRecDepth 100000
def Dull (cs:Array Value):Prop:=∀ (i:Nat) (v:Int),cs[i]? ≠ some (.int .u64 v) ∧ cs[i]? ≠ some (.int .i64 v)
def DullAt (w:World) (g:Nat):Prop:=∃ cs t fz,w.heap[g]? = some (.cells cs t fz) ∧ Dull cs
theorem cell_in {w:World} {a:Addr} {cs:Array Value} {t:TypeId} {fz:Nat × Nat} {u:Value} (hg:w.heap[a.block]? = some (.cells cs t fz)) (h:w.cell? a=some u):∃ i:Nat,cs[i]? = some u:=by
  unfold World.cell? at h
  rw [hg] at h
  simp only [] at h
  split at h
  · cases h
  · exact ⟨_,h⟩
theorem sl_dull {w:World} {A:Option Addr} {n c sz:Nat} {xs:List Value} {G:List Nat} (h:Sl w [] sz A n c xs) (hx:0 < n → ∃ (j:Nat) (v:Int),xs[j]? = some (.int .u64 v) ∨ xs[j]? = some (.int .i64 v)) (hG:∀ g ∈ G,DullAt w g):Sl w G sz A n c xs:=by
  refine ⟨h.len,h.le,h.cap,fun hn=>?_⟩
  obtain ⟨ad,e,hb,_,hc⟩:=h.at_ hn
  refine ⟨ad,e,hb,fun hg=>?_,hc⟩
  obtain ⟨cs,t,fz,hh,hd⟩:=hG _ hg
  obtain ⟨j,v,hv⟩:=hx hn
  rw [← block_of_add ad j] at hh
  rcases hv with hv | hv
  · obtain ⟨i,hi⟩:=cell_in hh (hc j _ hv)
    exact (hd i v).1 hi
  · obtain ⟨i,hi⟩:=cell_in hh (hc j _ hv)
    exact (hd i v).2 hi
theorem sl_past {w w':World} {A:Option Addr} {n c sz:Nat} {xs:List Value} {G:List Nat} (h:Sl w [] sz A n c xs) (hx:0 < n → ∃ (j:Nat) (v:Int),xs[j]? = some (.int .u64 v) ∨ xs[j]? = some (.int .i64 v)) (hG:∀ g ∈ G,DullAt w g) (hz:w.heap.size ≤ w'.heap.size) (hk:∀ k,k < w.heap.size → k ∉ G → w'.heap[k]? = w.heap[k]?):Sl w' [] sz A n c xs:=
  ((sl_dull h hx hG).keep hz hk).less (by simp)
theorem hcells_dull {l:List (Int × Int)} (h:0 < l.length):∃ (j:Nat) (v:Int),(hcells l)[j]? = some (.int .u64 v) ∨ (hcells l)[j]? = some (.int .i64 v):=by
  match l,h with
  | p :: r,_=>exact ⟨0,p.1,.inl rfl⟩
theorem ecells_dull {l:List E3} (h:0 < l.length):∃ (j:Nat) (v:Int),(ecells l)[j]? = some (.int .u64 v) ∨ (ecells l)[j]? = some (.int .i64 v):=by
  match l,h with
  | p :: r,_=>exact ⟨0,p.1,.inr rfl⟩
theorem scells_dull {l:List S2} (h:0 < l.length):∃ (j:Nat) (v:Int),(scells l)[j]? = some (.int .u64 v) ∨ (scells l)[j]? = some (.int .i64 v):=by
  match l,h with
  | p :: r,_=>exact ⟨1,p.2,.inl rfl⟩
theorem SessAt.dull {Aw:Option Addr} {nw cw t:Nat} {W W':World} {a b c:Int} {H:Option Addr} {k hc:Nat} {E:Option Addr} {m ce:Nat} {S:Option Addr} {n d:Nat} {ta:Int} {o:Bool} {G:List Nat} (h:SessAt Aw nw cw t W a b c H k hc E m ce S n d ta o)
    (hG:∀ g ∈ G,DullAt W g) (hz:W.heap.size ≤ W'.heap.size) (hk:∀ k,k < W.heap.size → k ∉ G → W'.heap[k]? = W.heap[k]?):SessAt Aw nw cw t W' a b c H k hc E m ce S n d ta o:=by
  rcases h with ⟨h0,h1,h2,h3,h4,h5,h6,h7,h8,h9⟩ | ⟨h1,h2,h3,h4,h5,h6,h7,h8,es,ls,h9,h⟩
  · exact .inl ⟨h0,h1,h2,h3,h4,h5,h6,h7,h8,sl_past h9 (fun _=>⟨0,7,.inl rfl⟩) hG hz hk⟩
  · refine .inr ⟨h1,h2,h3,h4,h5,h6,h7,h8,es,ls,h9,⟨⟨h.g.n1,h.g.n2,h.g.l1,h.g.l2,h.g.r1,h.g.r2,h.g.hok,sl_past h.g.hm (fun hn=>hcells_dull ?_) hG hz hk,sl_past h.g.em (fun hn=>ecells_dull ?_) hG hz hk,h.g.ge⟩,sl_past h.s (fun hn=>scells_dull ?_) hG hz hk,h.ok,h.used⟩⟩
    · have:=HSl.length h.g.hm;omega
    · have:=ESl.length h.g.em;omega
    · have:=SSl.length h.s;omega
theorem SessAt.set9 {Aw:Option Addr} {nw cw t:Nat} {w:World} {a b c:Int} {H:Option Addr} {k hc:Nat} {E:Option Addr} {m ce:Nat} {S:Option Addr} {n d:Nat} {ta:Int} {o:Bool} (h:SessAt Aw nw cw t w a b c H k hc E m ce S n d ta o) {g:Nat} {T:TypeId} {cs:Array Value} (hB:Blk w g T cs) (hcs:SeC 3 cs) (x0 x1 x2 x3 x4 x5 x6 x7 x8:Value):SessAt Aw nw cw t (((((((((w.setCell ⟨g,0,none⟩ x0).setCell ⟨g,1,none⟩ x1).setCell ⟨g,2,none⟩ x2).setCell ⟨g,3,none⟩ x3).setCell ⟨g,4,none⟩ x4).setCell ⟨g,5,none⟩ x5).setCell ⟨g,6,none⟩ x6).setCell ⟨g,7,none⟩ x7).setCell ⟨g,8,none⟩ x8) a b c H k hc E m ce S n d ta o:=by
  rcases h with ⟨h0,h1,h2,h3,h4,h5,h6,h7,h8,h9⟩ | ⟨h1,h2,h3,h4,h5,h6,h7,h8,es,ls,h9,h⟩
  · refine .inl ⟨h0,h1,h2,h3,h4,h5,h6,h7,h8,?_⟩
    have h10:=sl_off h9 (fun _=>⟨7,rfl⟩) hB (sec_no64 hcs)
    exact (Sl.sets (g:=g) (by simp) [(⟨g,0,none⟩,x0),(⟨g,1,none⟩,x1),(⟨g,2,none⟩,x2),(⟨g,3,none⟩,x3),(⟨g,4,none⟩,x4),(⟨g,5,none⟩,x5),(⟨g,6,none⟩,x6),(⟨g,7,none⟩,x7),(⟨g,8,none⟩,x8)] w h10 (by simp)).less (by simp)
  · exact .inr ⟨h1,h2,h3,h4,h5,h6,h7,h8,es,ls,h9,sm_se9 h hB hcs x0 x1 x2 x3 x4 x5 x6 x7 x8⟩
end Go.Proofs.YtppblcbgkadldaaGreatDoor
