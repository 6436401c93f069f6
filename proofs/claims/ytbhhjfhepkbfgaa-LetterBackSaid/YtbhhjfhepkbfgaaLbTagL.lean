/- The laws of the tag: the chapter's example lives. -/
import Derived.Lib.SmallJoins
import Derived.Test.YtbhhjfhepkbfgaaLbTags
namespace Go.Proofs.Ytbhhjfhepkbfgaa
set_option linter.unusedSimpArgs false
set_option linter.unusedVariables false
open Go.RowKit
open Nt
attribute [local go_sem] steady steadyUpon Cls same_cell by8
attribute [local irreducible] wpHead wpTree
theorem tagOf_length (key b:List (BitVec 8)):(tagOf key b).length=16:=by unfold tagOf;rw[List.length_take,List.length_reverse,toB_length];rfl
end Go.Proofs.Ytbhhjfhepkbfgaa
