/- Signatures, walked: sizes, keys, bytes, numbers. -/
import Derived.Test.YtbhhjfhepkbfgaaGnGrpo
import Derived.Test.YtbhhjfhepkbfgaaGnMonoL
namespace Go.Proofs.Ytbhhjfhepkbfgaa
set_option linter.unusedSimpArgs false
set_option linter.unusedVariables false
open Go.RowKit
open Nt Sha
attribute [local go_sem] steady steadyUpon Cls same_cell
attribute [local irreducible] wpHead wpTree sum
section
variable (gr P Q G H k : Nat) (w : World)
theorem byteSz_int (n:Nat):((blen n:Int)+7) / 8=(byteSz n:Int):=by unfold byteSz;omega
/-! ### keys -/
/-! ### the number of bytes in the field -/
end
end Go.Proofs.Ytbhhjfhepkbfgaa
