/- The contracts of the library's functions at this translation, laid by the kit's own tool. -/
import Derived.Shelf.Small.Bits
import Derived.Test.YtbhhjfhepkbfgaaProg
namespace Go.Proofs.Ytbhhjfhepkbfgaa
open Go.Shelf
def Try.lays128_ren :Go.Shelf.Ren:=⟨fun | 128=>65 | n=>n,fun | 51=>71 | 3=>3 | 4=>4 | 46=>59 | 5=>5 | 9=>9 | n=>n,fun | n=>n⟩
theorem Try.lays128 :Go.Proofs.Lays.n128 Try.prog Try.lays128_ren:={
 mixed:=by kernel_rfl
 f128:=Try.func65.trans (congrArg some (by kernel_rfl))
 t3:=Try.underlying3
 a3:=Try.isAgg3
 z3:=Try.sizeOf3
 v3:=Try.zeroValue3
 t4:=Try.underlying4
 a4:=Try.isAgg4
 z4:=Try.sizeOf4
 v4:=Try.zeroValue4
 t5:=Try.underlying5
 a5:=Try.isAgg5
 z5:=Try.sizeOf5
 v5:=Try.zeroValue5
 t9:=Try.underlying9
 a9:=Try.isAgg9
 z9:=Try.sizeOf9
 v9:=Try.zeroValue9
 t46:=Try.underlying59
 a46:=Try.isAgg59
 z46:=Try.sizeOf59
 v46:=Try.zeroValue59
 t51:=Try.underlying71
 a51:=Try.isAgg71
 z51:=Try.sizeOf71
 v51:=Try.zeroValue71}
theorem Try.bits_Len32 (x:Int) (w:World) (h0:0≤x) (h1:x≤4294967295):
 Calls Try.prog 65 #[.int .u32 x] w fun e w'=>e=.returned (.int .i64 (Lib.bitLen x.toNat))∧w'=w:=Any.bits_Len32 Try.lays128 x w h0 h1
def Try.lays133_ren :Go.Shelf.Ren:=⟨fun | 133=>62 | 128=>65 | n=>n,fun | 51=>71 | 3=>3 | 4=>4 | 46=>59 | 5=>5 | 9=>9 | n=>n,fun | n=>n⟩
theorem Try.lays133 :Go.Proofs.Lays.n133 Try.prog Try.lays133_ren:={
 mixed:=by kernel_rfl
 f128:=Try.func65.trans (congrArg some (by kernel_rfl))
 f133:=Try.func62.trans (congrArg some (by kernel_rfl))
 t3:=Try.underlying3
 a3:=Try.isAgg3
 z3:=Try.sizeOf3
 v3:=Try.zeroValue3
 t4:=Try.underlying4
 a4:=Try.isAgg4
 z4:=Try.sizeOf4
 v4:=Try.zeroValue4
 t5:=Try.underlying5
 a5:=Try.isAgg5
 z5:=Try.sizeOf5
 v5:=Try.zeroValue5
 t9:=Try.underlying9
 a9:=Try.isAgg9
 z9:=Try.sizeOf9
 v9:=Try.zeroValue9
 t46:=Try.underlying59
 a46:=Try.isAgg59
 z46:=Try.sizeOf59
 v46:=Try.zeroValue59
 t51:=Try.underlying71
 a51:=Try.isAgg71
 z51:=Try.sizeOf71
 v51:=Try.zeroValue71}
theorem Try.bits_LeadingZeros32 (x:Int) (w:World) (h0:0≤x) (h1:x≤4294967295):
 Calls Try.prog 62 #[.int .u32 x] w fun e w'=>e=.returned (.int .i64 (32 - (Lib.bitLen x.toNat:Int)))∧w'=w:=Any.bits_LeadingZeros32 Try.lays133 x w h0 h1
end Go.Proofs.Ytbhhjfhepkbfgaa
