/-
  A part of the proof that the law TopForest returns true for every input and leaves its arguments as they were: Awake.
-/
import Derived.Test.YtppblcbgkadldaaGreatDoorZ42
import Derived.Test.YtppblcbgkadldaaGreatDoorZ48
set_option linter.all false
namespace Go.Proofs.YtppblcbgkadldaaGreatDoor
open Go Go.RowKit
set_option maxRecDepth 100000
attribute [local go_sem] Heavy heavyUpon
theorem answer_eq:(⟨(toldA 9).toArray⟩:ByteArray)=⟨#[111,107,10,111,107,10,111,107,10,111,107,10,111,107,10,121,101,115,10,110,111,10,121,101,115,10,50,10]⟩:=by kernel_rfl
theorem words_new (w:World):Sl (w.alloc (.cells #[.int .u64 7,.int .u64 1,.int .u64 9,.int .u64 2] 43)) [] 1 (some ⟨w.heap.size,0,none⟩) 4 4 (ints .u64 [7,1,9,2]):=
  Sl.of_blk (Blk.new w 43 #[.int .u64 7,.int .u64 1,.int .u64 9,.int .u64 2]) rfl (fun x hx=>by match x,hx with | 0,_ | 1,_ | 2,_ | 3,_=>rfl) (by simp) (by unfold maxLen;omega)
set_option maxHeartbeats 3200000 in
theorem awake_ok:AwakeIs:=by
  intro W
  have QR:=hide (fun (W:World) h=>run_ok (some ⟨W.heap.size,0,none⟩) 4 4 (W.alloc (.cells #[.int .u64 7,.int .u64 1,.int .u64 9,.int .u64 2] 43)) h)
  have HE:=hide answer_eq
  go_enter Tryz.func6,Tryz.ntmps6
  go_wp2_with (fail)
  refine (QR.out W (words_new W)).mono ?_
  rintro e w1 ⟨rfl,hb1⟩
  rw [HE.out]
  have hb2:=(((Below.refl W.heap.size W).alloc (Nat.le_refl _) (.cells #[.int .u64 7,.int .u64 1,.int .u64 9,.int .u64 2] 43)).trans (hb1.mono (by simp)))
  clear hb1 QR HE
  go_wp2_with (fail)
  go_ret
  exact ⟨rfl,hb2⟩
end Go.Proofs.YtppblcbgkadldaaGreatDoor
