/- Signatures, walked: Sign. -/
import Derived.Test.YtoekbomfepedcaaDsSgnB
import Derived.Test.YtoekbomfepedcaaDsFreeN
namespace Go.Proofs.Ytoekbomfepedcaa
set_option linter.unusedSimpArgs false
set_option linter.unusedVariables false
open Go.RowKit
open Nt Sha
attribute [local go_sem] steady steadyUpon Cls same_cell anyW
attribute [local irreducible] wpHead wpTree wpHeadR sum chalOf
def drawN (Q x : Nat) (msg : List (BitVec 8)) : Nat := ofB (Mac.expand (toB x (byteSz Q)) msg 64) % Q
def nz1 (d : Nat) : Nat := if d = 0 then 1 else d
def sgnK (Q x : Nat) (msg : List (BitVec 8)) : Nat := nz1 (drawN Q x msg)
def sgnC (P Q G x : Nat) (msg : List (BitVec 8)) : Nat := chalOf [sgnB, memBy P Q (G ^ sgnK Q x msg % P), memBy P Q (G ^ x % P), msg] Q
def sgnS (P Q G x : Nat) (msg : List (BitVec 8)) : Nat := (sgnK Q x msg + sgnC P Q G x msg * x % Q) % Q
def signB (P Q G x : Nat) (msg : List (BitVec 8)) : List (BitVec 8) := toB (sgnC P Q G x msg) (byteSz Q) ++ toB (sgnS P Q G x msg) (byteSz Q)
section
variable (gr P Q G H k : Nat) (w : World)
end
end Go.Proofs.Ytoekbomfepedcaa
