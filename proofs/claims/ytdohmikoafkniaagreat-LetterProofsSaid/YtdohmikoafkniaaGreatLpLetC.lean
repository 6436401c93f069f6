/- Letters, walked: key. -/
import Derived.Test.YtdohmikoafkniaaGreatLpLetA
namespace Go.Proofs.YtdohmikoafkniaaGreat
set_option linter.unusedSimpArgs false
set_option linter.unusedVariables false
open Go.RowKit
open Nt Sha
attribute [local go_sem] steady steadyUpon Cls same_cell anyW
attribute [local irreducible] wpHead wpTree wpHeadR sum chalOf
section
variable (gr P Q G H k : Nat) (w : World)
set_option maxRecDepth 100000 in
set_option maxHeartbeats 2000000 in
theorem lshared_any (A0 A1:Option Addr) (l0 c0 l1 c1 x o:Nat) (h:GrpV w gr P Q G H) (h0:NatV w (.agg #[.slice A0 l0 c0]) x) (h1:NatV w (.agg #[.slice A1 l1 c1]) o) (hFx:Fit k x) (hFo:Fit k o) (hP:Fit k P) (hQ:Fit k Q) (hGf:Fit k G) (hk:k≤50000) (hk1:1≤k) (hx0:0<x) (hxQ:x<Q) (ho:memB P Q o=true):
 Calls Tryz.prog 46 #[.pointer (some ⟨gr,0,none⟩),.agg #[.slice A0 l0 c0],.agg #[.slice A1 l1 c1]] w (RetE w (o^x % P) 0):=by
 have Ho:=hide ho
 clear ho
 go_enter Tryz.func46,Tryz.ntmps46
 obtain⟨W,hW⟩:∃W,W=((w.alloc (.cells #[.slice A0 l0 c0] 34)).alloc (.cells #[.slice A1 l1 c1] 34)).alloc (.cells #[.slice none 0 0] 34):=⟨_,rfl⟩
 have b4:Box W w.heap.size 34 (.slice A0 l0 c0):=by rw[hW];exact((Box.new _ _ _).alloc _).alloc _
 have b5:Box W (w.heap.size+1) 34 (.slice A1 l1 c1):=by rw[hW];exact(Box.new_at (by simp)).alloc _
 have b6:Box W (w.heap.size+1+1) 34 (.slice none 0 0):=by rw[hW];exact Box.new_at (by simp)
 have hE:Ext w W:=by rw[hW];exact(((Upd.refl _ w).alloc _).alloc _).alloc _
 have q4:=b4.cell
 rw[hW]at q4
 go_wp2_with fail
 clear q4
 rw[←hW]
 clear hW
 refine(spub_any gr P Q G H k W _ x (h.ext hE) (h0.ext hE) hFx hQ hP hGf hk hx0 hxQ).mono ?_
 rintro e w1 ⟨A2,l2,c2,rfl, -,hU1⟩
 have q5:=((b5.ext hU1).alloc (.cells #[.slice A2 l2 c2] 34)).cell
 go_wp2_with fail
 clear q5
 refine name_c (fun V hV=>?_)
 have hEV:Ext W V:=by rw[hV];exact hU1.alloc _
 clear hV hU1
 refine(gMember_any gr P Q G H k V _ o (h.ext (hE.trans hEV)) (h1.ext (hE.trans hEV)) hFo hP hQ hk hk1).mono ?_
 rw[Ho.out]
 rintro e w2 ⟨rfl,hU2⟩
 have hE2:=hEV.trans hU2
 have q4:=(b4.ext hE2).cell
 have q5:=(b5.ext hE2).cell
 go_wp2_with fail
 clear q4 q5
 refine(gExp_any gr P Q G H k w2 _ _ o x k (h.ext (hE.trans hE2)) (h1.ext (hE.trans hE2)) (h0.ext (hE.trans hE2)) hFo hP hFx hk hk).mono ?_
 rintro e w3 ⟨A3,l3,c3,rfl,hV3,hU3⟩
 have hE3:=hE2.trans hU3
 have b6n:=b6.ext hE3
 have z2:=b6n.cell
 have z3:=b6n.frozen
 have hG:=hE.trans hE3
 go_wp2_with fail
 have q:=(b6n.set (.slice A3 l3 c3)).cell
 exact bodyPost_ret (v:=.tuple #[.agg #[.slice A3 l3 c3],.int .i64 0]) (by simp[results,Tryz.results46,go_sem,q]) rfl ⟨_,_,_,rfl,hV3.far z2,hG.setCell (p:=⟨w.heap.size+1+1,0,none⟩) (.inr (by simp;omega)) _⟩
end
end Go.Proofs.YtdohmikoafkniaaGreat
namespace Go.Proofs.YtdohmikoafkniaaGreat
set_option linter.unusedSimpArgs false
set_option linter.unusedVariables false
open Go.RowKit
open Nt Sha
attribute [local go_sem] steady steadyUpon Cls same_cell anyW
attribute [local irreducible] wpHead wpTree wpHeadR sum chalOf
def keyB (P Q s:Nat) (info:List (BitVec 8)):List (BitVec 8):=Mac.expand (Mac.tag sacB (memBy P Q s)) info 32
section
variable (gr P Q G H k : Nat) (w : World)
set_option maxRecDepth 100000 in
set_option maxHeartbeats 2000000 in
theorem lkey_any (A0 F:Option Addr) (l0 c0 l f s:Nat) (info:List (BitVec 8)) (h:GrpV w gr P Q G H) (h0:NatV w (.agg #[.slice A0 l0 c0]) s) (hI:Pt.ok w ⟨F,l,f,info⟩) (hFs:Fit k s) (hP:Fit k P) (hQ:Fit k Q) (hk:k≤50000) (hk1:1≤k) (hl:l≤1000000) (hs:memB P Q s=true):
 Calls Tryz.prog 81 #[.pointer (some ⟨gr,0,none⟩),.agg #[.slice A0 l0 c0],.slice F l f] w (MRetE w 32 (keyB P Q s info)):=by
 have hc1:=fun w=>Lib.run_convert_bytes_const (P:=Tryz.prog) w 23 5 #[.int .u8 115,.int .u8 97,.int .u8 99,.int .u8 114,.int .u8 105,.int .u8 115,.int .u8 116,.int .u8 121] 8 8 Tryz.under_bs Tryz.under8
 have hmE:memE P Q s=0:=by unfold memE;rw[if_pos hs]
 have hlen:=memBy_len P Q s
 have hsz:=byteSz_le hP
 have HI:=hide hI
 obtain⟨mb,hmb⟩:∃b,b=memBy P Q s:=⟨_,rfl⟩
 rw[←hmb]at hlen
 have Hmb:=hide hmb
 have HmE:=hide hmE
 clear hI hmb hmE
 go_enter Tryz.func81,Tryz.ntmps81
 obtain⟨W,hW⟩:∃W,W=w.alloc (.cells #[.slice A0 l0 c0] 34):=⟨_,rfl⟩
 have b4:Box W w.heap.size 34 (.slice A0 l0 c0):=by rw[hW];exact Box.new _ _ _
 have hE:Ext w W:=by rw[hW];exact(Upd.refl _ w).alloc _
 have q4:=b4.cell
 rw[hW]at q4
 go_wp2_with fail
 clear q4
 rw[←hW]
 clear hW b4
 refine(gBytes_any gr P Q G H k W _ s (h.ext hE) (h0.ext hE) hFs hP hQ hk hk1).mono ?_
 unfold RetMB
 rw[HmE.out,←Hmb.out]
 rintro e w1 ⟨A1,l1,c1,rfl,hl1,hlc1,hm1,hS1, -,hU1⟩
 have hE1:=hE.trans hU1
 have hEa:Ext w1 (w1.alloc (.cells #[.int .u8 115,.int .u8 97,.int .u8 99,.int .u8 114,.int .u8 105,.int .u8 115,.int .u8 116,.int .u8 121] 5 (8,9))):=(Upd.refl _ _).alloc _
 have hS:Sl by8 (w1.alloc (.cells #[.int .u8 115,.int .u8 97,.int .u8 99,.int .u8 114,.int .u8 105,.int .u8 115,.int .u8 116,.int .u8 121] 5 (8,9))) (some ⟨w1.heap.size,0,none⟩) sacB:=Sl.mark by8 w1 5 (8,9) sacB
 have HS:=hide hS
 have HE:=hide hEa
 have HS1:=hide hS1
 have Hl1:=hide hl1
 clear hS hEa hS1
 go_wp2_with fail
 refine(derive_any (some ⟨w1.heap.size,0,none⟩) 8 8 sacB A1 l1 c1 mb F l f info 32 _ HS.out rfl (by omega) (by unfold maxLen;omega) (by omega) (HS1.out.ext HE.out) Hl1.out hlc1 hm1 (by rw[←hl1];omega) ((HI.out.ext (hE1.trans HE.out)).1) HI.out.2.1 HI.out.2.2.1 HI.out.2.2.2 hl (by omega)).mono ?_
 rintro e w2 ⟨A2,c2,rfl,hO2,hU2⟩
 have hG:=(hE1.trans HE.out).trans hU2
 have hO:=hO2.low (B':=w.heap.size) (hE1.trans HE.out).size
 clear hO2
 go_wp2_with fail
 go_ret2
 exact⟨A2,c2,rfl,by unfold keyB;rw[←Hmb.out];exact hO,hG⟩
end
end Go.Proofs.YtdohmikoafkniaaGreat
