/- Letters, walked: Shared. -/
import Derived.Test.YtbhhjfhepkbfgaaLbLetA
namespace Go.Proofs.Ytbhhjfhepkbfgaa
set_option linter.unusedSimpArgs false
set_option linter.unusedVariables false
open Go.RowKit
open Nt Sha
attribute [local go_sem] steady steadyUpon Cls same_cell anyW
attribute [local irreducible] wpHead wpTree wpHeadR sum
section
variable (gr P Q G H k : Nat) (w : World)
set_option maxRecDepth 100000 in
set_option maxHeartbeats 2000000 in
theorem lshared_any (A0 A1:Option Addr) (l0 c0 l1 c1 x o:Nat) (h:GrpV w gr P Q G H) (h0:NatV w (.agg #[.slice A0 l0 c0]) x) (h1:NatV w (.agg #[.slice A1 l1 c1]) o) (hFx:Fit k x) (hFo:Fit k o) (hP:Fit k P) (hQ:Fit k Q) (hGf:Fit k G) (hk:k≤50000) (hk1:1≤k) (hx0:0<x) (hxQ:x<Q) (ho:memB P Q o=true):
 Calls Try.prog 19 #[.pointer (some ⟨gr,0,none⟩),.agg #[.slice A0 l0 c0],.agg #[.slice A1 l1 c1]] w (RetE w (o^x % P) 0):=by
 have Ho:=hide ho
 clear ho
 go_enter Try.func19,Try.ntmps19
 obtain⟨W,hW⟩:∃W,W=((w.alloc (.cells #[.slice A0 l0 c0] 33)).alloc (.cells #[.slice A1 l1 c1] 33)).alloc (.cells #[.slice none 0 0] 33):=⟨_,rfl⟩
 have b4:Box W w.heap.size 33 (.slice A0 l0 c0):=by rw[hW];exact((Box.new _ _ _).alloc _).alloc _
 have b5:Box W (w.heap.size+1) 33 (.slice A1 l1 c1):=by rw[hW];exact(Box.new_at (by simp)).alloc _
 have b6:Box W (w.heap.size+1+1) 33 (.slice none 0 0):=by rw[hW];exact Box.new_at (by simp)
 have hE:Ext w W:=by rw[hW];exact(((Upd.refl _ w).alloc _).alloc _).alloc _
 have q4:=b4.cell
 rw[hW]at q4
 go_wp2_with fail
 clear q4
 rw[←hW]
 clear hW
 refine(spub_any gr P Q G H k W _ x (h.ext hE) (h0.ext hE) hFx hQ hP hGf hk hx0 hxQ).mono ?_
 rintro e w1 ⟨A2,l2,c2,rfl, -,hU1⟩
 have q5:=((b5.ext hU1).alloc (.cells #[.slice A2 l2 c2] 33)).cell
 go_wp2_with fail
 clear q5
 refine name_c (fun V hV=>?_)
 have hEV:Ext W V:=by rw[hV];exact hU1.alloc _
 clear hV hU1
 refine(gMember_any gr P Q G H k V _ o (h.ext (hE.trans hEV)) (h1.ext (hE.trans hEV)) hFo hP hQ hk hk1).mono ?_
 rw[Ho.out]
 rintro e w2 ⟨rfl,hU2⟩
 have hE2:=hEV.trans hU2
 have q4:=(b4.ext hE2).cell
 have q5:=(b5.ext hE2).cell
 go_wp2_with fail
 clear q4 q5
 refine(gExp_any gr P Q G H k w2 _ _ o x k (h.ext (hE.trans hE2)) (h1.ext (hE.trans hE2)) (h0.ext (hE.trans hE2)) hFo hP hFx hk hk).mono ?_
 rintro e w3 ⟨A3,l3,c3,rfl,hV3,hU3⟩
 have hE3:=hE2.trans hU3
 have b6n:=b6.ext hE3
 have z2:=b6n.cell
 have z3:=b6n.frozen
 have hG:=hE.trans hE3
 go_wp2_with fail
 have q:=(b6n.set (.slice A3 l3 c3)).cell
 exact bodyPost_ret (v:=.tuple #[.agg #[.slice A3 l3 c3],.int .i64 0]) (by simp[results,Try.results19,go_sem,q]) rfl ⟨_,_,_,rfl,hV3.far z2,hG.setCell (p:=⟨w.heap.size+1+1,0,none⟩) (.inr (by simp;omega)) _⟩
end
end Go.Proofs.Ytbhhjfhepkbfgaa
