/- Signatures, walked: Verify. -/
import Derived.Test.YtbhhjfhepkbfgaaGnSgnA
namespace Go.Proofs.Ytbhhjfhepkbfgaa
set_option linter.unusedSimpArgs false
set_option linter.unusedVariables false
open Go.RowKit
open Nt Sha
attribute [local go_sem] steady steadyUpon Cls same_cell
attribute [local irreducible] wpHead wpTree sum
theorem cmpI_eq0 (x y:Nat):(cmpI x y == 0)=decide (x=y):=by
 unfold cmpI
 by_cases h:x<y
 · rw[if_pos h,decide_eq_false (by omega)];rfl
 · rw[if_neg h]
   by_cases h2:x=y
   · rw[decide_eq_true h2,if_pos h2];rfl
   · rw[decide_eq_false h2,if_neg h2];rfl
section
variable (gr P Q G H k : Nat) (w : World)
end
end Go.Proofs.Ytbhhjfhepkbfgaa
