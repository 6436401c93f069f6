/- The laws of signatures: lives, SignKeys. -/
import Derived.Test.YtdohmikoafkniaaGreatDpSgnP
import Derived.Test.YtdohmikoafkniaaGreatDpGrpV
namespace Go.Proofs.YtdohmikoafkniaaGreat
set_option linter.unusedSimpArgs false
set_option linter.unusedVariables false
open Go.RowKit
open Nt Sha
attribute [local go_sem] steady steadyUpon Cls same_cell
attribute [local irreducible] wpHead wpTree sum chalOf
theorem fit1 {n k:Nat} (h:n<4294967296) (hk:1≤k):Fit k n:=Fit.mono (show Fit 1 _ by unfold Fit W32;omega) hk
theorem sz0 :2*byteSz (grQ 0)=2:=by decide+kernel
theorem szQ (r:Nat):byteSz (grQ r)≤128:=Nat.le_trans (byteSz_le (fit_grQ r)) (by omega)
def msgM :List (BitVec 8):=[109]
end Go.Proofs.YtdohmikoafkniaaGreat
