/- Signatures, plainly. -/
import Derived.Test.YtbhhjfhepkbfgaaGnSgnD
namespace Go.Proofs.Ytbhhjfhepkbfgaa
set_option linter.unusedSimpArgs false
set_option linter.unusedVariables false
open Go.RowKit
open Nt Sha
attribute [local irreducible] sum
structure GOk (P Q G:Nat):Prop where
 one:G^Q % P=1
 two:2≤P
 sml:64<Q
section
variable {P Q G : Nat}
theorem GOk.mem0 :memB P Q 0=false:=by unfold memB;rw[decide_eq_false (by omega)];rfl
end
end Go.Proofs.Ytbhhjfhepkbfgaa
