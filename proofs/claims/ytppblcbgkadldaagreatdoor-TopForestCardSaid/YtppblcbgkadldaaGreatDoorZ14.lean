/-
  A part of the proof that the law TopForest returns true for every input and leaves its arguments as they were: ShelfB.
-/
import Derived.Test.YtppblcbgkadldaaGreatDoorProg
import Derived.Shelf.Strconv.Itoa3
import Derived.Shelf.Strings.Builder1
import Derived.Shelf.Strings.Builder2
import Derived.Shelf.Strings.BuilderF
import Derived.Shelf.Strings.BuilderK
set_option linter.all false
namespace Go.Proofs
open Go.Shelf
set_option maxRecDepth 100000
set_option maxRecDepth 100000
def Tryz.lays169_ren:Go.Shelf.Ren:=⟨fun | 169=>38 | n=>n,fun | 70=>89 | 9=>9 | 0=>0 | 72=>92 | 37=>90 | 127=>142 | 3=>3 | 5=>5 | n=>n,fun | n=>n⟩
theorem Tryz.lays169:Go.Proofs.Lays.n169 Tryz.prog Tryz.lays169_ren:={
  mixed:=by kernel_rfl
  f169:=Tryz.func38.trans (congrArg some (by kernel_rfl))
  t0:=Tryz.underlying0
  a0:=Tryz.isAgg0
  z0:=Tryz.sizeOf0
  v0:=Tryz.zeroValue0
  t3:=Tryz.underlying3
  a3:=Tryz.isAgg3
  z3:=Tryz.sizeOf3
  v3:=Tryz.zeroValue3
  t9:=Tryz.underlying9
  a9:=Tryz.isAgg9
  z9:=Tryz.sizeOf9
  v9:=Tryz.zeroValue9
  t37:=Tryz.underlying90
  a37:=Tryz.isAgg90
  z37:=Tryz.sizeOf90
  v37:=Tryz.zeroValue90
  t70:=Tryz.underlying89
  a70:=Tryz.isAgg89
  z70:=Tryz.sizeOf89
  v70:=Tryz.zeroValue89
  t72:=Tryz.underlying92
  a72:=Tryz.isAgg92
  z72:=Tryz.sizeOf92
  v72:=Tryz.zeroValue92
  t127:=Tryz.underlying142
  a127:=Tryz.isAgg142
  z127:=Tryz.sizeOf142
  v127:=Tryz.zeroValue142 }
theorem Tryz.Builder_Extra_169:Builder.Extra Tryz.prog Tryz.lays169_ren:={
  sizeBuilder:=by kernel_rfl
  liesBuilder:=by kernel_rfl
  t5:=Tryz.underlying5
  a5:=Tryz.isAgg5
  z5:=Tryz.sizeOf5
  v5:=Tryz.zeroValue5
  infoByte:=by kernel_rfl
  cellsByte:=by kernel_rfl
  sizeByte:=by kernel_rfl
  neB5:=by decide }
open Go.RowKit in
theorem Tryz.Builder_String_any_k (B b:Nat) (l:List UInt8) (w:World) (h:Lib.IsBuilderF 92 5 B b (Lib.byteCells l) w) (hBw:B ≤ w.heap.size) :
    Calls Tryz.prog 38 #[.pointer (some ⟨b,0,none⟩)] w fun e w'=>e=.returned (.string ⟨l.toArray⟩) ∧ (Lib.IsBuilderF 92 5 B b (Lib.byteCells l) w' ∧ Below B w w' ∧ Lib.OthersKept 5 (some b) w w'):=Any.Builder_String_any_k Tryz.lays169 Tryz.Builder_Extra_169 B b l w h hBw
def Tryz.lays171_ren:Go.Shelf.Ren:=⟨fun | 171=>34 | 243=>64 | 246=>100 | 283=>125 | 284=>126 | 285=>127 | 286=>128 | 129=>145 | 317=>164 | 318=>165 | 319=>166 | 320=>167 | 337=>198 | 338=>199 | n=>n,fun | 3=>3 | 9=>9 | 2=>2 | 4=>4 | 171=>202 | 0=>0 | 53=>43 | 37=>90 | 5=>5 | 173=>205 | 212=>238 | 51=>219 | 20=>20 | 213=>239 | 46=>175 | 232=>284 | 233=>285 | n=>n,fun | 17=>0 | 18=>4 | 19=>5 | n=>n⟩
theorem Tryz.lays171:Go.Proofs.Lays.n171 Tryz.prog Tryz.lays171_ren:={
  mixed:=by kernel_rfl
  f129:=Tryz.func145.trans (congrArg some (by kernel_rfl))
  f171:=Tryz.func34.trans (congrArg some (by kernel_rfl))
  f243:=Tryz.func64.trans (congrArg some (by kernel_rfl))
  f246:=Tryz.func100.trans (congrArg some (by kernel_rfl))
  f283:=Tryz.func125.trans (congrArg some (by kernel_rfl))
  f284:=Tryz.func126.trans (congrArg some (by kernel_rfl))
  f285:=Tryz.func127.trans (congrArg some (by kernel_rfl))
  f286:=Tryz.func128.trans (congrArg some (by kernel_rfl))
  f317:=Tryz.func164.trans (congrArg some (by kernel_rfl))
  f318:=Tryz.func165.trans (congrArg some (by kernel_rfl))
  f319:=Tryz.func166.trans (congrArg some (by kernel_rfl))
  f320:=Tryz.func167.trans (congrArg some (by kernel_rfl))
  f337:=Tryz.func198.trans (congrArg some (by kernel_rfl))
  f338:=Tryz.func199.trans (congrArg some (by kernel_rfl))
  t0:=Tryz.underlying0
  a0:=Tryz.isAgg0
  z0:=Tryz.sizeOf0
  v0:=Tryz.zeroValue0
  t2:=Tryz.underlying2
  a2:=Tryz.isAgg2
  z2:=Tryz.sizeOf2
  v2:=Tryz.zeroValue2
  t3:=Tryz.underlying3
  a3:=Tryz.isAgg3
  z3:=Tryz.sizeOf3
  v3:=Tryz.zeroValue3
  t4:=Tryz.underlying4
  a4:=Tryz.isAgg4
  z4:=Tryz.sizeOf4
  v4:=Tryz.zeroValue4
  t5:=Tryz.underlying5
  a5:=Tryz.isAgg5
  z5:=Tryz.sizeOf5
  v5:=Tryz.zeroValue5
  t9:=Tryz.underlying9
  a9:=Tryz.isAgg9
  z9:=Tryz.sizeOf9
  v9:=Tryz.zeroValue9
  t20:=Tryz.underlying20
  a20:=Tryz.isAgg20
  z20:=Tryz.sizeOf20
  v20:=Tryz.zeroValue20
  t37:=Tryz.underlying90
  a37:=Tryz.isAgg90
  z37:=Tryz.sizeOf90
  v37:=Tryz.zeroValue90
  t46:=Tryz.underlying175
  a46:=Tryz.isAgg175
  z46:=Tryz.sizeOf175
  v46:=Tryz.zeroValue175
  t51:=Tryz.underlying219
  a51:=Tryz.isAgg219
  z51:=Tryz.sizeOf219
  v51:=Tryz.zeroValue219
  t53:=Tryz.underlying43
  a53:=Tryz.isAgg43
  z53:=Tryz.sizeOf43
  v53:=Tryz.zeroValue43
  t171:=Tryz.underlying202
  a171:=Tryz.isAgg202
  z171:=Tryz.sizeOf202
  v171:=Tryz.zeroValue202
  t173:=Tryz.underlying205
  a173:=Tryz.isAgg205
  z173:=Tryz.sizeOf205
  v173:=Tryz.zeroValue205
  t212:=Tryz.underlying238
  a212:=Tryz.isAgg238
  z212:=Tryz.sizeOf238
  v212:=Tryz.zeroValue238
  t213:=Tryz.underlying239
  a213:=Tryz.isAgg239
  z213:=Tryz.sizeOf239
  t232:=Tryz.underlying284
  a232:=Tryz.isAgg284
  z232:=Tryz.sizeOf284
  v232:=Tryz.zeroValue284
  t233:=Tryz.underlying285
  a233:=Tryz.isAgg285
  z233:=Tryz.sizeOf285
  v233:=Tryz.zeroValue285
  g17:=by kernel_rfl
  g18:=by kernel_rfl
  g19:=by kernel_rfl }
open Go.RowKit Go.Sort Go.Lib in
theorem Tryz.strconv_Itoa_small (i:Nat) (hi:i < 100) (w:World) :
    Calls Tryz.prog 34 #[.int .i64 i] w fun e w'=>e=.returned (.string ⟨(Lib.decDigits i).toArray⟩) ∧ w'=w:=Any.strconv_Itoa_small Tryz.lays171 i hi w
end Go.Proofs
