/- Signatures, walked: Verify. -/
import Derived.Test.YtdohmikoafkniaaGreatDpSgnB
import Derived.Test.YtdohmikoafkniaaGreatDpFreeN
namespace Go.Proofs.YtdohmikoafkniaaGreat
set_option linter.unusedSimpArgs false
set_option linter.unusedVariables false
open Go.RowKit
open Nt Sha
attribute [local go_sem] steady steadyUpon Cls same_cell
attribute [local irreducible] wpHead wpTree sum chalOf
theorem prodE_two (a b x y:Nat):prodE [a,b] [x,y] 2=a^x*b^y:=by simp[prodE,gat]
theorem cmpI_eq0 (x y:Nat):(cmpI x y == 0)=decide (x=y):=by
 unfold cmpI
 by_cases h:x<y
 · rw[if_pos h,decide_eq_false (by omega)];rfl
 · rw[if_neg h]
   by_cases h2:x=y
   · rw[decide_eq_true h2,if_pos h2];rfl
   · rw[decide_eq_false h2,if_neg h2];rfl
theorem fit_bs128 {k n:Nat} {bs:List (BitVec 8)} (h:bs.length≤n) (hk:n≤4*k):Fit k (ofB bs):=by
 have h1:=ofB_lt bs
 unfold Fit
 refine Nat.lt_of_lt_of_le h1 ?_
 rw[show(256:Nat)=2^8 by decide,show W32=2^32 by decide,←Nat.pow_mul,←Nat.pow_mul]
 exact Nat.pow_le_pow_right (by omega) (by omega)
section
variable (gr P Q G H k : Nat) (w : World)
end
end Go.Proofs.YtdohmikoafkniaaGreat
