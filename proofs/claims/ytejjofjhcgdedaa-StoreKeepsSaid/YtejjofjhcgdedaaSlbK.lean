/- The slab's laws: do, lives. -/
import Derived.Test.YtejjofjhcgdedaaSlbJ
import Derived.Test.YtejjofjhcgdedaaSlbI
import Derived.Test.YtejjofjhcgdedaaShas
namespace Go.Proofs.Ytejjofjhcgdedaa
set_option linter.unusedSimpArgs false
set_option linter.unusedVariables false
open Go.RowKit
open Sha
attribute [local go_sem] steady steadyUpon Cls same_cell anyW by8
attribute [local irreducible] wpHead wpTree wpHeadR
/-- a slab behind a deed -/
def Slv.done (x : Slv) (d : Dee) : Slv := if d.kind = 0 then x.inked d.at_ (pl64 d.X) else if d.kind = 2 then x.burnt else if d.kind = 3 then x.supplied d.N else if d.kind = 4 then x.woken (scaV d.ss) else x
def RetDo (w : World) (B : Nat) (D : Nat → Prop) (g gl : Nat) (y : Slv) (e : Ending) (w' : World) : Prop :=
  e = .returned (.tuple #[]) ∧ ∃ (D' : Nat → Prop) (f' : Nat → Value), Slb w' B D' g gl f' y ∧ Upd (fun k => k = g ∨ k = gl) w w' ∧ ∀ k, D' k → D k ∨ w.heap.size ≤ k
end Go.Proofs.Ytejjofjhcgdedaa
