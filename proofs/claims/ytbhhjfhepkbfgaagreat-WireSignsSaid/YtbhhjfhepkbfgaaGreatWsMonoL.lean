/- What stays known of a value while nothing old turns: rows of bytes, rows of rows. -/
import Derived.Test.YtbhhjfhepkbfgaaGreatWsShas
namespace Go.Proofs.YtbhhjfhepkbfgaaGreat
set_option linter.unusedSimpArgs false
set_option linter.unusedVariables false
structure MF where
 p:Value→World→Prop
 mono:∀v w w',p v w→Ext w w'→p v w'
def monoB (ops:Array Oper) (n:Nat):Bool:=
 Region.noSelect ops && decide (n<ops.size) && Region.sinkB .any ops n && Region.chainB .any ops n && ordB ops n && dstB ops n && Region.seqB .any ops (ops.size - n) n (doneA n ops.size)
section law
variable {P : Program} {ops : Array Oper} {a0 : Act} {w0 : World} {n : Nat} {J : Nat → MF}
end law
end Go.Proofs.YtbhhjfhepkbfgaaGreat
namespace Go.Proofs.YtbhhjfhepkbfgaaGreat
set_option linter.unusedSimpArgs false
set_option linter.unusedVariables false
open Go.RowKit
open Sha
theorem Own.pt {w:World} {B:Nat} {e:TypeId} {A:Option Addr} {c n:Nat} {bs:List (BitVec 8)} (h:Own w B e A c (bs.map by8)) (hn:bs.length=n):bs.length=n∧n≤c∧c≤maxLen∧Sl by8 w A bs:=by
 have hc:=h.cap
 rw[List.length_map,hn]at hc
 exact⟨hn,hc.1,hc.2,h.sl⟩
end Go.Proofs.YtbhhjfhepkbfgaaGreat
