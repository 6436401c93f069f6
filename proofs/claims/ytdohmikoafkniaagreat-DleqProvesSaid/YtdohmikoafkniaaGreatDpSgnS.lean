/- Signatures of the document, walked: Sign. -/
import Derived.Test.YtdohmikoafkniaaGreatDpSgnR
import Derived.Test.YtdohmikoafkniaaGreatDpMacX
import Derived.Test.YtdohmikoafkniaaGreatDpRexp
namespace Go.Proofs.YtdohmikoafkniaaGreat
set_option linter.unusedSimpArgs false
set_option linter.unusedVariables false
open Go.RowKit
open Nt Sha
attribute [local go_sem] steady steadyUpon Cls same_cell
attribute [local irreducible] wpHead wpTree sum chalOf
section
variable (w : World) (v : Value) (P Q G H : Nat)
set_option maxRecDepth 100000 in
set_option maxHeartbeats 1000000 in
theorem rgexp_any (va ve:Value) (a e:Nat) (h:RGrpV w v P Q G H) (hVa:RefV w va a) (hVe:RefV w ve e) (hFP:blen P≤1000000) (hFa:blen a≤1000000) (hFe:blen e≤1000000) (hP0:0<P):
 Calls Tryz.prog 66 #[v,va,ve] w (RetR w (a^e % P)):=by
 obtain⟨A1,l1,c1,A2,l2,c2,A3,l3,c3,A4,l4,c4,rfl,h1,h2,h3,h4⟩:=h
 obtain⟨A5,l5,c5,xs,rfl, -⟩:=hVa.open_
 obtain⟨A6,l6,c6,ys,rfl, -⟩:=hVe.open_
 go_enter Tryz.func66,Tryz.ntmps66
 have b1:Blk (w.alloc (.cells #[.slice A1 l1 c1,.slice A2 l2 c2,.slice A3 l3 c3,.slice A4 l4 c4] 30)) w.heap.size 30 #[.slice A1 l1 c1,.slice A2 l2 c2,.slice A3 l3 c3,.slice A4 l4 c4]:=Blk.new _ _ _
 have q0:=b1.at 0 rfl
 have hE:Ext w (w.alloc (.cells #[.slice A1 l1 c1,.slice A2 l2 c2,.slice A3 l3 c3,.slice A4 l4 c4] 30)):=(Upd.refl _ w).alloc _
 go_wp2_with fail
 refine(rexp_any _ _ _ a e P 1000000 _ (hVa.ext hE) (hVe.ext hE) (h1.ext hE) hFa hFe hFP (by omega) hP0).mono ?_
 rintro e w1 ⟨A7,l7,c7,rfl,hV7,hU7⟩
 have hEE:=hE.trans hU7
 go_wp2_with fail
 go_ret
 exact⟨_,_,_,rfl,hV7,hEE⟩
end
end Go.Proofs.YtdohmikoafkniaaGreat
