/- Equal exponents: Prove refused, the law's member, plain laws. -/
import Derived.Test.YtdohmikoafkniaaGreatLpDlqC
namespace Go.Proofs.YtdohmikoafkniaaGreat
set_option linter.unusedSimpArgs false
set_option linter.unusedVariables false
open Go.RowKit
open Nt Sha
attribute [local go_sem] steady steadyUpon Cls same_cell anyW
attribute [local irreducible] wpHead wpTree wpHeadR sum chalOf ansN
/-! ### plainly -/
section
variable {P Q : Nat}
theorem gok_of {a:Nat} (h:memB P Q a=true) (hP:2≤P) (hQ:64<Q):GOk P Q a:=⟨(memB_lt h).2.2,hP,hQ⟩
theorem dverB_len {a b y z:Nat} {side prf:List (BitVec 8)} (h:prf.length≠2*byteSz Q):dverB P Q a b y z side prf=false:=by
 unfold dverB;rw[decide_eq_false h,Bool.false_and,Bool.and_false]
end
section
variable (gr P Q G H k : Nat) (w : World)
end
end Go.Proofs.YtdohmikoafkniaaGreat
