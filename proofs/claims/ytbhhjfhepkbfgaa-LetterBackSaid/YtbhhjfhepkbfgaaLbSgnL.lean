/- The laws of signatures: lives, SignKeys. -/
import Derived.Test.YtbhhjfhepkbfgaaLbSgnP
import Derived.Test.YtbhhjfhepkbfgaaLbGrpV
namespace Go.Proofs.Ytbhhjfhepkbfgaa
set_option linter.unusedSimpArgs false
set_option linter.unusedVariables false
open Go.RowKit
open Nt Sha
attribute [local go_sem] steady steadyUpon Cls same_cell anyW
attribute [local irreducible] wpHead wpTree wpHeadR sum
theorem fit1 {n k:Nat} (h:n<4294967296) (hk:1≤k):Fit k n:=Fit.mono (show Fit 1 _ by unfold Fit W32;omega) hk
end Go.Proofs.Ytbhhjfhepkbfgaa
