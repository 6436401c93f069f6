/- Signatures of the document, walked: Member, Verify. -/
import Derived.Test.YtbhhjfhepkbfgaaGnSgnR
import Derived.Test.YtbhhjfhepkbfgaaGnMacX
import Derived.Test.YtbhhjfhepkbfgaaGnRexp
namespace Go.Proofs.Ytbhhjfhepkbfgaa
set_option linter.unusedSimpArgs false
set_option linter.unusedVariables false
open Go.RowKit
open Nt Sha
attribute [local go_sem] steady steadyUpon Cls same_cell
attribute [local irreducible] wpHead wpTree sum
section
variable (w : World) (v : Value) (P Q G H : Nat)
set_option maxRecDepth 100000 in
set_option maxHeartbeats 4000000 in
theorem rmember_any (va:Value) (a:Nat) (h:RGrpV w v P Q G H) (hVa:RefV w va a) (hFP:blen P≤1024) (hFQ:blen Q≤1024) (hFa:blen a≤1024) (hP0:0<P):
 Calls Try.prog 42 #[v,va] w fun e w'=>e=.returned (.bool (memB P Q a))∧Ext w w':=by
 obtain⟨A1,l1,c1,A2,l2,c2,A3,l3,c3,A4,l4,c4,rfl,h1,h2,h3,h4⟩:=h
 obtain⟨A5,l5,c5,xs,rfl, -⟩:=hVa.open_
 have hl5:=hVa.len
 obtain⟨t,ht⟩:∃t,t=memB P Q a:=⟨_,rfl⟩
 rw[←ht]
 have Ht:=hide ht
 clear ht
 by_cases hx0:a=0
 · obtain rfl:l5=0:=by rw[hl5,hx0];rfl
   obtain rfl:t=false:=by rw[Ht.out,hx0];exact GOk.mem0
   clear hl5
   go_enter Try.func42,Try.ntmps42
   go_wp2_with fail
   go_ret
   exact⟨rfl,(Upd.refl _ _).alloc _⟩
 have hlp:0<l5:=by
  rw[hl5]
  rcases Nat.eq_zero_or_pos (blen a)with h0 | h0
  · exact absurd (blen_eq_zero.1 h0) hx0
  · exact h0
 have hlpI:(0:Int)<(l5:Int):=by omega
 clear hl5
 go_enter Try.func42,Try.ntmps42
 have b1:Blk (w.alloc (.cells #[.slice A1 l1 c1,.slice A2 l2 c2,.slice A3 l3 c3,.slice A4 l4 c4] 51)) w.heap.size 51 #[.slice A1 l1 c1,.slice A2 l2 c2,.slice A3 l3 c3,.slice A4 l4 c4]:=Blk.new _ _ _
 have q0:=b1.at 0 rfl
 go_wp2_with fail
 clear q0
 refine name_c (fun W hW=>?_)
 rw[←hW]at b1
 have hE:Ext w W:=by rw[hW];exact(Upd.refl _ w).alloc _
 clear hW
 refine(rcmp_any _ _ a P 1024 _ (hVa.ext hE) (h1.ext hE) hFa hFP (by omega)).mono ?_
 rintro e w1 ⟨rfl,hU⟩
 by_cases hlt:a<P
 case neg=>
  obtain⟨x,hx,hx1⟩:∃x,cmpI a P=x∧¬x<0:=⟨_,rfl,by unfold cmpI;rw[if_neg hlt];split<;>omega⟩
  rw[hx]
  obtain rfl:t=false:=by rw[Ht.out];unfold memB;rw[decide_eq_false hlt,Bool.false_and,Bool.and_false]
  have hEf:=hE.trans hU
  go_wp2_with fail
  go_ret
  exact⟨rfl,hEf⟩
 rw[cmpI_lt hlt]
 have hE1:=hE.trans hU
 have b1':=b1.ext hU
 have q0:=b1'.at 0 rfl
 have q1:=b1'.at 1 rfl
 clear b1 hE hU
 go_wp2_with fail
 refine(rexp_any _ _ _ a Q P 1024 _ (hVa.ext hE1) (h2.ext hE1) (h1.ext hE1) hFa hFQ hFP (by omega) hP0).mono ?_
 rintro e w2 ⟨A7,l7,c7,rfl,hR7,hU2⟩
 go_wp2_with fail
 refine(rsmall_any 1 _ (by decide)).mono ?_
 rintro e w3 ⟨A8,l8,c8,rfl,hR8,hU3⟩
 obtain⟨x,hx,hx1⟩:∃x,cmpI (a^Q % P) 1=x∧(x == 0)=t:=⟨_,rfl,by
  rw[Ht.out];unfold memB;rw[decide_eq_true (show 0<a by omega),decide_eq_true hlt,Bool.true_and,Bool.true_and];exact cmpI_eq0 _ _⟩
 go_wp2_with fail
 refine(rcmp_any _ _ (a^Q % P) 1 1024 _ (hR7.ext hU3) hR8 (Nat.le_trans (blen_mono (Nat.le_of_lt (Nat.mod_lt _ hP0))) hFP) (by decide) (by omega)).mono ?_
 rw[hx]
 rintro e w4 ⟨rfl,hU4⟩
 have hEf:=((hE1.trans hU2).trans hU3).trans hU4
 go_wp2_with fail
 go_ret
 exact⟨by first | rfl | exact congrArg (fun b=>Ending.returned (.bool b)) hx1,hEf⟩
end
end Go.Proofs.Ytbhhjfhepkbfgaa
