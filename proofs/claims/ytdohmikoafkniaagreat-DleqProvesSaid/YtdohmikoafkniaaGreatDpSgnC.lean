/- Signatures, walked: Sign. -/
import Derived.Test.YtdohmikoafkniaaGreatDpSgnB
import Derived.Test.YtdohmikoafkniaaGreatDpFreeN
namespace Go.Proofs.YtdohmikoafkniaaGreat
set_option linter.unusedSimpArgs false
set_option linter.unusedVariables false
open Go.RowKit
open Nt Sha
attribute [local go_sem] steady steadyUpon Cls same_cell
attribute [local irreducible] wpHead wpTree sum chalOf
def drawN (Q x:Nat) (msg:List (BitVec 8)):Nat:=ofB (Mac.expand (toB x (byteSz Q)) msg 64) % Q
def nz1 (d:Nat):Nat:=if d=0 then 1 else d
def sgnK (Q x:Nat) (msg:List (BitVec 8)):Nat:=nz1 (drawN Q x msg)
section
variable (gr P Q G H k : Nat) (w : World)
end
end Go.Proofs.YtdohmikoafkniaaGreat
