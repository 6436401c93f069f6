/- Merged: RefA RefB RefC RefD RefE RefF LawA LawB. -/
import Derived.Test.YtbhhjfhepkbfgaaLbNatW
namespace Go.Proofs.Ytbhhjfhepkbfgaa
set_option linter.unusedSimpArgs false
set_option linter.unusedVariables false
/- The document's numbers, rows of truths, walked: Trim, at, Cmp, Shift. -/
section
open Go.RowKit
open Nt
attribute [local go_sem] steady steadyUpon Cls same_cell
end
/- The document's sums, differences and order of rows of truths, walked: Add, Sub, Cmp. -/
section
open Go.RowKit
open Nt
attribute [local go_sem] steady steadyUpon Cls same_cell
end
/- The document's differences and order of rows of truths, walked: Sub, Cmp. -/
section
open Go.RowKit
open Nt
attribute [local go_sem] steady steadyUpon Cls same_cell
end
/- The document's numbers out of bytes and small numbers, and back, walked: Of, Small, Bytes, Get. -/
section
open Go.RowKit
open Nt
attribute [local go_sem] steady steadyUpon Cls same_cell by8 wrap_w8
end
/- The document's products of rows of truths, walked: Shift, Mul. -/
section
open Go.RowKit
open Nt
attribute [local go_sem] steady steadyUpon Cls same_cell
end
/- The document's quotients and greatest divisors of rows of truths, walked: Div, Gcd. -/
section
open Go.RowKit
open Nt
attribute [local go_sem] steady steadyUpon Cls same_cell
end
/- The helpers of the laws on numbers, walked: Same, Num, ref, lives. -/
section
open Go.RowKit
open Nt
attribute [local go_sem] steady steadyUpon Cls same_cell by8
theorem Fit.blen {k n:Nat} (h:Fit k n):blen n≤32*k:=by
 rw[blen_le_iff,Nat.pow_mul];exact h
end
/- Words for the laws on numbers. -/
section
open Go.RowKit
open Nt
theorem name_c {P:Program} {K:Nat} {args:Array Value} {Q:Ending→World→Prop} {W:World} (h:∀W',W'=W→Calls P K args W' Q):Calls P K args W Q:=h W rfl
theorem sub_yes (va vb:Value) (a b k:Nat) (w:World) (hVa:NatV w va a) (hVb:NatV w vb b) (hFa:Fit k a) (hFb:Fit k b) (hk:k≤1000000) (h:b≤a):
 Calls Try.prog 28 #[va,vb] w (RetO w (a - b) true):=by
 have:=sub_any va vb a b k w hVa hVb hFa hFb hk
 rwa [if_neg (by omega)]at this
theorem sub_no (va vb:Value) (a b k:Nat) (w:World) (hVa:NatV w va a) (hVb:NatV w vb b) (hFa:Fit k a) (hFb:Fit k b) (hk:k≤1000000) (h:a<b):
 Calls Try.prog 28 #[va,vb] w (RetO w 0 false):=by
 have:=sub_any va vb a b k w hVa hVb hFa hFb hk
 rwa [if_pos h]at this
theorem cmpI_ge {a b:Nat} (h:b≤a):0≤cmpI a b:=by
 rcases Int.lt_or_le (cmpI a b) 0 with h1 | h1
 · rw[cmpI_neg]at h1;omega
 · exact h1
theorem cmpI_lt {a b:Nat} (h:a<b):cmpI a b= -1:=by unfold cmpI;rw[if_pos h]
end
end Go.Proofs.Ytbhhjfhepkbfgaa
