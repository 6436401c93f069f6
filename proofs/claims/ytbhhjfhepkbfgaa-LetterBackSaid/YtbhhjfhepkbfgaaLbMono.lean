/- A region whose order is open, in which nothing old is ever turned: each operation is walked once, from what the operations that it waits for have left; what is known of a slot stays known in every later world. -/
import Derived.Test.YtbhhjfhepkbfgaaLbBase
namespace Go.Proofs.Ytbhhjfhepkbfgaa
set_option linter.unusedSimpArgs false
set_option linter.unusedVariables false
structure MF where
 p:Value→World→Prop
 mono:∀v w w',p v w→Ext w w'→p v w'
def monoB (ops:Array Oper) (n:Nat):Bool:=
 Region.noSelect ops && decide (n<ops.size) && Region.sinkB .any ops n && Region.chainB .any ops n && ordB ops n && dstB ops n && Region.seqB .any ops (ops.size - n) n (doneA n ops.size)
section law
variable {P : Program} {ops : Array Oper} {a0 : Act} {w0 : World} {n : Nat} {J : Nat → MF}
end law
end Go.Proofs.Ytbhhjfhepkbfgaa
