/-
  A part of the proof that the law TopForest returns true for every input and leaves its arguments as they were: Numbers.
-/
import Derived.Test.YtppblcbgkadldaaGreatDoorZ23
import Derived.Test.YtppblcbgkadldaaGreatDoorZ29
import Derived.Test.YtppblcbgkadldaaGreatDoorZ43
set_option linter.all false
namespace Go.Proofs.YtppblcbgkadldaaGreatDoor
open Go Go.RowKit
set_option maxRecDepth 100000
attribute [local go_sem] Heavy heavyUpon
def strs (l:List ByteArray):List Value:=l.map .string
theorem strs_len (l:List ByteArray):(strs l).length=l.length:=by simp [strs]
theorem strs_get {l:List ByteArray} {i:Nat} (h:i < l.length):(strs l)[i]? = some (.string l[i]):=by simp [strs,h]
theorem strs_append (a b:List ByteArray):strs (a ++ b)=strs a ++ strs b:=by simp [strs]
theorem strs_one {l:List ByteArray}:∀ u ∈ strs l,u.oneCell'=true:=by
  intro u hu
  obtain ⟨x,_,rfl⟩:=List.mem_map.1 hu
  rfl
def IsDig (d:Nat):Prop:=d=1 ∨ d=2 ∨ d=3 ∨ d=4 ∨ d=6 ∨ d=8
theorem number_in {d:Nat} (h:IsDig d) (w:World):Calls Tryz.prog 102 #[.string (digB d)] w (Ret (.tuple #[.int .u64 d,.int .i64 0]) w):=by
  rcases h with rfl | rfl | rfl | rfl | rfl | rfl
  · exact number_1 w
  · exact number_2 w
  · exact number_3 w
  · exact number_4 w
  · exact number_6 w
  · exact number_8 w
set_option maxHeartbeats 3200000 in
theorem numbers_ok (ds:List Nat) (hd:∀ d ∈ ds,IsDig d) (A:Option Addr) (n c:Nat) (w:World) (hS:Sl w [] 1 A n c (strs (ds.map digB))) (hn:n ≤ 10) :
    Calls Tryz.prog 68 #[.slice A n c] w fun e w'=>∃ R d,e=.returned (.tuple #[.slice R n d,.int .i64 0]) ∧ Sl w' [] 1 R n d (ints .u64 (natL ds)) ∧ Below w.heap.size w w':=by
  obtain ⟨ie,hie,hze,he1,he2⟩:=info_parts u64_info
  have HL:=hide (show ds.length=n by have:=hS.len;rw [strs_len,List.length_map] at this;omega)
  have HS:=hide hS
  have HD:=hide hd
  clear hS hd
  have O0:=hide (World.ownsRow_nil w w.heap.size 43 1)
  go_enter Tryz.func68,Tryz.ntmps68
  go_wp2_with (fail)
  go_loopw [4,11] (fun x u wr=>∃ (j:Nat) (Ao:Option Addr) (co:Nat),j ≤ n ∧ u=.int .i64 j ∧ x=.slice Ao j co ∧ Below w.heap.size w wr ∧ Hid (wr.ownsRow w.heap.size 43 1 (.slice Ao j co) j (ints .u64 (natL (ds.take j))))) (fun _ u _=>n - (intOf u).toNat)
  case atStart=>exact ⟨0,none,0,Nat.zero_le _,rfl,rfl,Below.refl _ _,O0⟩
  case round =>
    clear O0
    obtain ⟨j,Ao,co,hj,rfl,rfl,hbr,HO⟩:=hrel
    by_cases hlt:j < n
    · have hjl:j < ds.length:=by have:=HL.out;omega
      obtain ⟨ad,rfl,had,_,hc0⟩:=(Sl.below HS.out hbr).at_ (by omega)
      have c0:=hc0 _ _ (strs_get (show j < (ds.map digB).length by rw [List.length_map];exact hjl))
      rw [List.getElem_map] at c0
      have QN:=hide (fun W=>number_in (HD.out _ (List.getElem_mem hjl)) W)
      have HK:=hide (show natL (ds.take (j + 1))=natL (ds.take j) ++ [(ds[j]:Int)] by unfold natL;rw [List.take_succ_eq_append_getElem hjl,List.map_append];rfl)
      clear hc0
      generalize ds[j]=dv at *
      generalize digB dv=sv at *
      go_wp2_with (fail)
      refine (QN.out _).mono ?_
      rintro e w1 ⟨rfl,b1⟩
      have hb1:=hbr.trans (b1.mono hbr.size)
      have O1:=hide (own_below HO.out b1)
      have O2:=hide (O1.out.alloc (.cells #[.int .u64 (dv:Int)] 43))
      have N2:=u1_new w1 (dv:Int)
      have hb2:=hide (hb1.alloc hb1.size (.cells #[.int .u64 (dv:Int)] 43))
      clear c0 b1 HO hbr O1
      (go_wp2_with (at_builtin;refine stopAt ?_);refine stopGo ?_)
      refine wpList_append_sl _ rfl (.tmp 23) (.tmp 25) _ rfl w.heap.size 43 ie _ 1 8 Tryz.underlying24 hie hze he1 he2 rfl (by omega) (.slice Ao j co) j _ rfl O2.out [] _ 1 1 (ints .u64 [(dv:Int)]) rfl N2 ints_one (by simp only [maxLen];omega) (by omega) hb2.out.size ?_
      intro A5 c5 w5 own5 g5 _
      have hb5:=hb2.out.trans (below_grown O2.out g5 (Nat.le_refl _) hb2.out.size)
      rw [← ints_append,← HK.out] at own5
      have O5:=hide own5
      clear own5 g5 O2 N2 hb2
      go_wp2_with (fail)
      exact ⟨⟨j + 1,A5,c5,by omega,by go_num,rfl,hb5,O5⟩,by simp [intOf];omega⟩
    · obtain rfl:j=n:=by omega
      have HE:=hide (show ds.take j=ds from List.take_of_length_le (by rw [HL.out];exact Nat.le_refl _))
      rw [HE.out] at HO
      go_wp2_with (fail)
      go_ret2
      exact ⟨Ao,co,rfl,own_sl HO.out [] (by simp),hbr⟩
end Go.Proofs.YtppblcbgkadldaaGreatDoor
