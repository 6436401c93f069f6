/- SignSigns, walked. -/
import Derived.Test.YtdohmikoafkniaaGreatLwSgnS
import Derived.Test.YtdohmikoafkniaaGreatLwLetL
set_option maxRecDepth 100000
set_option maxHeartbeats 8000000
namespace Go.Proofs.YtdohmikoafkniaaGreat
set_option linter.unusedSimpArgs false
set_option linter.unusedVariables false
open Go.RowKit
open Nt Sha
attribute [local go_sem] steady steadyUpon Cls same_cell anyW
attribute [local irreducible] wpHead wpTree wpHeadR sum chalOf str
section
variable (w : World) (v : Value) (P Q G H : Nat)
theorem rright_any (vx:Value) (x:Nat) (h:RGrpV w v P Q G H) (hVx:RefV w vx x) (hFx:blen x≤1024) (hFQ:blen Q≤1024):
 Calls Tryz.prog 115 #[v,vx] w fun e w'=>e=.returned (.bool (decide (0<x∧x<Q)))∧Ext w w':=by
 obtain⟨A1,l1,c1,A2,l2,c2,A3,l3,c3,A4,l4,c4,rfl,h1,h2,h3,h4⟩:=h
 obtain⟨A5,l5,c5,xs,rfl, -⟩:=hVx.open_
 have hl5:=hVx.len
 obtain⟨t,ht⟩:∃t,t=decide (0<x∧x<Q):=⟨_,rfl⟩
 rw[←ht]
 have Ht:=hide ht
 clear ht
 by_cases hx0:x=0
 · obtain rfl:l5=0:=by rw[hl5,hx0];rfl
   obtain rfl:t=false:=Ht.out.trans (decide_eq_false (by omega))
   clear hl5
   go_enter Tryz.func115,Tryz.ntmps115
   go_wp2_with fail
   go_ret
   exact⟨rfl,uR_.alloc _⟩
 · have hlp:0<l5:=by
    rw[hl5]
    rcases Nat.eq_zero_or_pos (blen x)with h0 | h0
    · exact absurd (blen_eq_zero.1 h0) hx0
    · exact h0
   have hlpI:(0:Int)<(l5:Int):=by omega
   obtain⟨z,hz,hz0⟩:∃z,cmpI x Q=z∧(decide (z<0))=t:=⟨_,rfl,by
    rw[Ht.out]
    unfold cmpI
    by_cases hlt:x<Q
    · rw[if_pos hlt,decide_eq_true (by omega),decide_eq_true (by omega)]
    · rw[if_neg hlt,decide_eq_false (by split<;>omega),decide_eq_false (by omega)]⟩
   clear hl5
   go_enter Tryz.func115,Tryz.ntmps115
   have b1:Blk (w.alloc (.cells #[.slice A1 l1 c1,.slice A2 l2 c2,.slice A3 l3 c3,.slice A4 l4 c4] 30)) w.heap.size 30 #[.slice A1 l1 c1,.slice A2 l2 c2,.slice A3 l3 c3,.slice A4 l4 c4]:=Blk.new _ _ _
   have q1:=b1.at 1 rfl
   have hE:Ext w (w.alloc (.cells #[.slice A1 l1 c1,.slice A2 l2 c2,.slice A3 l3 c3,.slice A4 l4 c4] 30)):=(Upd.refl _ w).alloc _
   go_wp2_with fail
   refine(rcmp_any _ _ x Q 1024 _ (hVx.ext hE) (h2.ext hE) hFx hFQ (by omega)).mono ?_
   rw[hz]
   rintro e w1 ⟨rfl,hU⟩
   have hEE:=hE.trans hU
   go_wp2_with fail
   go_ret
   exact⟨by first | rfl | exact congrArg (fun b=>Ending.returned (.bool b)) hz0,hEE⟩
end
end Go.Proofs.YtdohmikoafkniaaGreat
