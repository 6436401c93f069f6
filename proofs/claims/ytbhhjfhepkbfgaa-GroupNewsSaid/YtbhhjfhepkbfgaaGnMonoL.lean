/- What stays known of a value while nothing old turns: rows of bytes, rows of rows. -/
import Derived.Test.YtbhhjfhepkbfgaaGnShas
namespace Go.Proofs.Ytbhhjfhepkbfgaa
set_option linter.unusedSimpArgs false
set_option linter.unusedVariables false
open Go.RowKit
open Sha
theorem Own.pt {w:World} {B:Nat} {e:TypeId} {A:Option Addr} {c n:Nat} {bs:List (BitVec 8)} (h:Own w B e A c (bs.map by8)) (hn:bs.length=n):bs.length=n∧n≤c∧c≤maxLen∧Sl by8 w A bs:=by
 have hc:=h.cap
 rw[List.length_map,hn]at hc
 exact⟨hn,hc.1,hc.2,h.sl⟩
end Go.Proofs.Ytbhhjfhepkbfgaa
