/-
  A part of the proof that the law TopForest returns true for every input and leaves its arguments as they were: ShelfA.
-/
import Derived.Test.YtppblcbgkadldaaGreatDoorProg
import Derived.Shelf.Bits.Mul64
import Derived.Shelf.Small.Bits
set_option linter.all false
namespace Go.Proofs
open Go.Shelf
set_option maxRecDepth 100000
def Tryz.lays125_ren:Go.Shelf.Ren:=⟨fun | 125=>114 | 128=>144 | 129=>145 | n=>n,fun | 46=>175 | 3=>3 | 51=>219 | 53=>43 | 4=>4 | 5=>5 | 9=>9 | n=>n,fun | n=>n⟩
theorem Tryz.lays125:Go.Proofs.Lays.n125 Tryz.prog Tryz.lays125_ren:={
  mixed:=by kernel_rfl
  f125:=Tryz.func114.trans (congrArg some (by kernel_rfl))
  f128:=Tryz.func144.trans (congrArg some (by kernel_rfl))
  f129:=Tryz.func145.trans (congrArg some (by kernel_rfl))
  t3:=Tryz.underlying3
  a3:=Tryz.isAgg3
  z3:=Tryz.sizeOf3
  v3:=Tryz.zeroValue3
  t4:=Tryz.underlying4
  a4:=Tryz.isAgg4
  z4:=Tryz.sizeOf4
  v4:=Tryz.zeroValue4
  t5:=Tryz.underlying5
  a5:=Tryz.isAgg5
  z5:=Tryz.sizeOf5
  v5:=Tryz.zeroValue5
  t9:=Tryz.underlying9
  a9:=Tryz.isAgg9
  z9:=Tryz.sizeOf9
  v9:=Tryz.zeroValue9
  t46:=Tryz.underlying175
  a46:=Tryz.isAgg175
  z46:=Tryz.sizeOf175
  v46:=Tryz.zeroValue175
  t51:=Tryz.underlying219
  a51:=Tryz.isAgg219
  z51:=Tryz.sizeOf219
  v51:=Tryz.zeroValue219
  t53:=Tryz.underlying43
  a53:=Tryz.isAgg43
  z53:=Tryz.sizeOf43
  v53:=Tryz.zeroValue43 }
theorem Tryz.bits_Len (x:Int) (w:World) (h0:0 ≤ x) (h1:x ≤ 18446744073709551615) :
    Calls Tryz.prog 114 #[.int .u64 x] w fun e w'=>e=.returned (.int .i64 (Lib.bitLen x.toNat)) ∧ w'=w:=Any.bits_Len Tryz.lays125 x w h0 h1
def Tryz.lays134_ren:Go.Shelf.Ren:=⟨fun | 134=>209 | 129=>145 | n=>n,fun | 53=>43 | 3=>3 | 4=>4 | 46=>175 | 5=>5 | 9=>9 | n=>n,fun | n=>n⟩
theorem Tryz.lays134:Go.Proofs.Lays.n134 Tryz.prog Tryz.lays134_ren:={
  mixed:=by kernel_rfl
  f129:=Tryz.func145.trans (congrArg some (by kernel_rfl))
  f134:=Tryz.func209.trans (congrArg some (by kernel_rfl))
  t3:=Tryz.underlying3
  a3:=Tryz.isAgg3
  z3:=Tryz.sizeOf3
  v3:=Tryz.zeroValue3
  t4:=Tryz.underlying4
  a4:=Tryz.isAgg4
  z4:=Tryz.sizeOf4
  v4:=Tryz.zeroValue4
  t5:=Tryz.underlying5
  a5:=Tryz.isAgg5
  z5:=Tryz.sizeOf5
  v5:=Tryz.zeroValue5
  t9:=Tryz.underlying9
  a9:=Tryz.isAgg9
  z9:=Tryz.sizeOf9
  v9:=Tryz.zeroValue9
  t46:=Tryz.underlying175
  a46:=Tryz.isAgg175
  z46:=Tryz.sizeOf175
  v46:=Tryz.zeroValue175
  t53:=Tryz.underlying43
  a53:=Tryz.isAgg43
  z53:=Tryz.sizeOf43
  v53:=Tryz.zeroValue43 }
theorem Tryz.bits_LeadingZeros64 (x:Int) (w:World) (h0:0 ≤ x) (h1:x ≤ 18446744073709551615) :
    Calls Tryz.prog 209 #[.int .u64 x] w fun e w'=>e=.returned (.int .i64 (64 - (Lib.bitLen x.toNat:Int))) ∧ w'=w:=Any.bits_LeadingZeros64 Tryz.lays134 x w h0 h1
def Tryz.lays264_ren:Go.Shelf.Ren:=⟨fun | 264=>155 | n=>n,fun | 53=>43 | 46=>175 | n=>n,fun | n=>n⟩
theorem Tryz.lays264:Go.Proofs.Lays.n264 Tryz.prog Tryz.lays264_ren:={
  mixed:=by kernel_rfl
  f264:=Tryz.func155.trans (congrArg some (by kernel_rfl))
  t46:=Tryz.underlying175
  a46:=Tryz.isAgg175
  z46:=Tryz.sizeOf175
  v46:=Tryz.zeroValue175
  t53:=Tryz.underlying43
  a53:=Tryz.isAgg43
  z53:=Tryz.sizeOf43
  v53:=Tryz.zeroValue43 }
open Go.RowKit Go.Lib in
theorem Tryz.bits_Mul64 (x y:Nat) (hx:x < 18446744073709551616) (hy:y < 18446744073709551616) (w:World) :
    Calls Tryz.prog 155 #[.int .u64 x,.int .u64 y] w fun e w'=>e=.returned (.tuple #[.int .u64 ((x * y / 18446744073709551616:Nat):Int),.int .u64 ((x * y % 18446744073709551616:Nat):Int)]) ∧ w'=w:=Any.bits_Mul64 Tryz.lays264 x y hx hy w
end Go.Proofs
