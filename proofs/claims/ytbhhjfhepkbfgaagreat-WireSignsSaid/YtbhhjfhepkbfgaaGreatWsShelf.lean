/- The contracts of the library's functions at this translation, laid by the kit's own tool. -/
import Derived.Shelf.Small.Bits
import Derived.Shelf.Bytes.SlSearch0
import Derived.Shelf.Bytes.SlEqualAll
import Derived.Shelf.Bytes.Small
import Derived.Test.YtbhhjfhepkbfgaaGreatProg
namespace Go.Proofs.YtbhhjfhepkbfgaaGreat
open Go.Shelf
def Tryz.lays128_ren :Go.Shelf.Ren:=⟨fun | 128=>94 | n=>n,fun | 51=>84 | 3=>3 | 4=>4 | 46=>85 | 5=>5 | 9=>9 | n=>n,fun | n=>n⟩
theorem Tryz.lays128 :Go.Proofs.Lays.n128 Tryz.prog Tryz.lays128_ren:={
 mixed:=by kernel_rfl
 f128:=Tryz.func94.trans (congrArg some (by kernel_rfl))
 t3:=Tryz.underlying3
 a3:=Tryz.isAgg3
 z3:=Tryz.sizeOf3
 v3:=Tryz.zeroValue3
 t4:=Tryz.underlying4
 a4:=Tryz.isAgg4
 z4:=Tryz.sizeOf4
 v4:=Tryz.zeroValue4
 t5:=Tryz.underlying5
 a5:=Tryz.isAgg5
 z5:=Tryz.sizeOf5
 v5:=Tryz.zeroValue5
 t9:=Tryz.underlying9
 a9:=Tryz.isAgg9
 z9:=Tryz.sizeOf9
 v9:=Tryz.zeroValue9
 t46:=Tryz.underlying85
 a46:=Tryz.isAgg85
 z46:=Tryz.sizeOf85
 v46:=Tryz.zeroValue85
 t51:=Tryz.underlying84
 a51:=Tryz.isAgg84
 z51:=Tryz.sizeOf84
 v51:=Tryz.zeroValue84}
theorem Tryz.bits_Len32 (x:Int) (w:World) (h0:0≤x) (h1:x≤4294967295):
 Calls Tryz.prog 94 #[.int .u32 x] w fun e w'=>e=.returned (.int .i64 (Lib.bitLen x.toNat))∧w'=w:=Any.bits_Len32 Tryz.lays128 x w h0 h1
def Tryz.lays133_ren :Go.Shelf.Ren:=⟨fun | 133=>70 | 128=>94 | n=>n,fun | 51=>84 | 3=>3 | 4=>4 | 46=>85 | 5=>5 | 9=>9 | n=>n,fun | n=>n⟩
theorem Tryz.lays133 :Go.Proofs.Lays.n133 Tryz.prog Tryz.lays133_ren:={
 mixed:=by kernel_rfl
 f128:=Tryz.func94.trans (congrArg some (by kernel_rfl))
 f133:=Tryz.func70.trans (congrArg some (by kernel_rfl))
 t3:=Tryz.underlying3
 a3:=Tryz.isAgg3
 z3:=Tryz.sizeOf3
 v3:=Tryz.zeroValue3
 t4:=Tryz.underlying4
 a4:=Tryz.isAgg4
 z4:=Tryz.sizeOf4
 v4:=Tryz.zeroValue4
 t5:=Tryz.underlying5
 a5:=Tryz.isAgg5
 z5:=Tryz.sizeOf5
 v5:=Tryz.zeroValue5
 t9:=Tryz.underlying9
 a9:=Tryz.isAgg9
 z9:=Tryz.sizeOf9
 v9:=Tryz.zeroValue9
 t46:=Tryz.underlying85
 a46:=Tryz.isAgg85
 z46:=Tryz.sizeOf85
 v46:=Tryz.zeroValue85
 t51:=Tryz.underlying84
 a51:=Tryz.isAgg84
 z51:=Tryz.sizeOf84
 v51:=Tryz.zeroValue84}
theorem Tryz.bits_LeadingZeros32 (x:Int) (w:World) (h0:0≤x) (h1:x≤4294967295):
 Calls Tryz.prog 70 #[.int .u32 x] w fun e w'=>e=.returned (.int .i64 (32 - (Lib.bitLen x.toNat:Int)))∧w'=w:=Any.bits_LeadingZeros32 Tryz.lays133 x w h0 h1
end Go.Proofs.YtbhhjfhepkbfgaaGreat
