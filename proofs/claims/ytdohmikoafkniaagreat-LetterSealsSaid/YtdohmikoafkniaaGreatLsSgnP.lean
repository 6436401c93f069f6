/- Signatures, plainly. -/
import Derived.Test.YtdohmikoafkniaaGreatLsSgnB
namespace Go.Proofs.YtdohmikoafkniaaGreat
set_option linter.unusedSimpArgs false
set_option linter.unusedVariables false
open Go.RowKit
open Nt Sha
attribute [local irreducible] sum
structure GOk (P Q G:Nat):Prop where
 one:G^Q % P=1
 two:2≤P
 sml:64<Q
theorem gok (r:Nat) (hr:r<3):GOk (grP r) (grQ r) (grG r):=by
 match r,hr with
 | 0,_=>exact⟨by rw[pow_is 70 (by decide)];decide+kernel,by decide,by decide⟩
 | 1,_=>exact⟨by rw[pow_is 70 (by decide)];decide+kernel,by decide,by decide⟩
 | 2,_=>exact⟨by rw[pow_is 70 (by decide)];decide+kernel,by decide,by decide⟩
section
variable {P Q G : Nat}
end
end Go.Proofs.YtdohmikoafkniaaGreat
