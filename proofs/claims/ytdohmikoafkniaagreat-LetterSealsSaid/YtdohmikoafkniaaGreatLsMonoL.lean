/- What stays known of a value while nothing old turns: rows of bytes, rows of rows. -/
import Derived.Test.YtdohmikoafkniaaGreatLsMono
import Derived.Test.YtdohmikoafkniaaGreatLsShas
namespace Go.Proofs.YtdohmikoafkniaaGreat
set_option linter.unusedSimpArgs false
set_option linter.unusedVariables false
open Go.RowKit
open Sha
@[reducible] def MF.eq (x : Value) : MF := ⟨fun v _ => v = x, fun _ _ _ h _ => h⟩
def bytesM (n:Nat) (bs:List (BitVec 8)):MF:=⟨fun v w=>∃A c,v=.slice A n c∧bs.length=n∧n≤c∧c≤maxLen∧Sl by8 w A bs,fun _ _ _ ⟨A,c,e,h1,h2,h3,h⟩ hU=>⟨A,c,e,h1,h2,h3,h.ext hU⟩⟩
theorem bytesM_mk {n:Nat} {bs:List (BitVec 8)} {v:Value} {w:World} (h:∃A c,v=.slice A n c∧bs.length=n∧n≤c∧c≤maxLen∧Sl by8 w A bs):(bytesM n bs).p v w:=h
theorem bytesM_out {n:Nat} {bs:List (BitVec 8)} {v:Value} {w:World} (h:(bytesM n bs).p v w):∃A c,v=.slice A n c∧bs.length=n∧n≤c∧c≤maxLen∧Sl by8 w A bs:=h
theorem Own.pt {w:World} {B:Nat} {e:TypeId} {A:Option Addr} {c n:Nat} {bs:List (BitVec 8)} (h:Own w B e A c (bs.map by8)) (hn:bs.length=n):bs.length=n∧n≤c∧c≤maxLen∧Sl by8 w A bs:=by
 have hc:=h.cap
 rw[List.length_map,hn]at hc
 exact⟨hn,hc.1,hc.2,h.sl⟩
end Go.Proofs.YtdohmikoafkniaaGreat
