/- The writer of bytes, walked: num, text. -/
import Derived.Test.YtbhhjfhepkbfgaaLbShas
import Derived.Test.YtbhhjfhepkbfgaaLbMods
import Derived.Test.YtbhhjfhepkbfgaaLbBlk
import Derived.Deep.DeepCutAuto
namespace Go.Proofs.Ytbhhjfhepkbfgaa
set_option linter.unusedSimpArgs false
set_option linter.unusedVariables false
open Go.RowKit
open Nt Sha
attribute [local go_sem] steady steadyUpon Cls same_cell anyW
attribute [local irreducible] wpHead wpTree wpHeadR
def wby (n:Int) (i:Nat):B8:=BitVec.ofNat 8 ((IntKind.u64.wrap n).toNat / 2^(8*i))
def be (n:Int):Nat→List B8
 | 0=>[]
 | s+1=>wby n s :: be n s
end Go.Proofs.Ytbhhjfhepkbfgaa
