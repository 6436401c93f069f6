/- Letters, walked: key. -/
import Derived.Test.YtbhhjfhepkbfgaaLbLetB
namespace Go.Proofs.Ytbhhjfhepkbfgaa
set_option linter.unusedSimpArgs false
set_option linter.unusedVariables false
open Go.RowKit
open Nt Sha
attribute [local go_sem] steady steadyUpon Cls same_cell anyW
attribute [local irreducible] wpHead wpTree wpHeadR sum
def keyB (P Q s:Nat) (info:List (BitVec 8)):List (BitVec 8):=Mac.expand (Mac.tag sacB (memBy P Q s)) info 32
section
variable (gr P Q G H k : Nat) (w : World)
set_option maxRecDepth 100000 in
set_option maxHeartbeats 2000000 in
theorem lkey_any (A0 F:Option Addr) (l0 c0 l f s:Nat) (info:List (BitVec 8)) (h:GrpV w gr P Q G H) (h0:NatV w (.agg #[.slice A0 l0 c0]) s) (hI:Pt.ok w ⟨F,l,f,info⟩) (hFs:Fit k s) (hP:Fit k P) (hQ:Fit k Q) (hk:k≤50000) (hk1:1≤k) (hl:l≤1000000) (hs:memB P Q s=true):
 Calls Try.prog 54 #[.pointer (some ⟨gr,0,none⟩),.agg #[.slice A0 l0 c0],.slice F l f] w (MRetE w 32 (keyB P Q s info)):=by
 have hc1:=fun w=>Lib.run_convert_bytes_const (P:=Try.prog) w 23 5 #[.int .u8 115,.int .u8 97,.int .u8 99,.int .u8 114,.int .u8 105,.int .u8 115,.int .u8 116,.int .u8 121] 8 8 Try.under_bs Try.under8
 have hmE:memE P Q s=0:=by unfold memE;rw[if_pos hs]
 have hlen:=memBy_len P Q s
 have hsz:=byteSz_le hP
 have HI:=hide hI
 obtain⟨mb,hmb⟩:∃b,b=memBy P Q s:=⟨_,rfl⟩
 rw[←hmb]at hlen
 have Hmb:=hide hmb
 have HmE:=hide hmE
 clear hI hmb hmE
 go_enter Try.func54,Try.ntmps54
 obtain⟨W,hW⟩:∃W,W=w.alloc (.cells #[.slice A0 l0 c0] 33):=⟨_,rfl⟩
 have b4:Box W w.heap.size 33 (.slice A0 l0 c0):=by rw[hW];exact Box.new _ _ _
 have hE:Ext w W:=by rw[hW];exact(Upd.refl _ w).alloc _
 have q4:=b4.cell
 rw[hW]at q4
 go_wp2_with fail
 clear q4
 rw[←hW]
 clear hW b4
 refine(gBytes_any gr P Q G H k W _ s (h.ext hE) (h0.ext hE) hFs hP hQ hk hk1).mono ?_
 unfold RetMB
 rw[HmE.out,←Hmb.out]
 rintro e w1 ⟨A1,l1,c1,rfl,hl1,hlc1,hm1,hS1, -,hU1⟩
 have hE1:=hE.trans hU1
 have hEa:Ext w1 (w1.alloc (.cells #[.int .u8 115,.int .u8 97,.int .u8 99,.int .u8 114,.int .u8 105,.int .u8 115,.int .u8 116,.int .u8 121] 5 (8,9))):=(Upd.refl _ _).alloc _
 have hS:Sl by8 (w1.alloc (.cells #[.int .u8 115,.int .u8 97,.int .u8 99,.int .u8 114,.int .u8 105,.int .u8 115,.int .u8 116,.int .u8 121] 5 (8,9))) (some ⟨w1.heap.size,0,none⟩) sacB:=Sl.mark by8 w1 5 (8,9) sacB
 have HS:=hide hS
 have HE:=hide hEa
 have HS1:=hide hS1
 have Hl1:=hide hl1
 clear hS hEa hS1
 go_wp2_with fail
 refine(derive_any (some ⟨w1.heap.size,0,none⟩) 8 8 sacB A1 l1 c1 mb F l f info 32 _ HS.out rfl (by omega) (by unfold maxLen;omega) (by omega) (HS1.out.ext HE.out) Hl1.out hlc1 hm1 (by rw[←hl1];omega) ((HI.out.ext (hE1.trans HE.out)).1) HI.out.2.1 HI.out.2.2.1 HI.out.2.2.2 hl (by omega)).mono ?_
 rintro e w2 ⟨A2,c2,rfl,hO2,hU2⟩
 have hG:=(hE1.trans HE.out).trans hU2
 have hO:=hO2.low (B':=w.heap.size) (hE1.trans HE.out).size
 clear hO2
 go_wp2_with fail
 go_ret2
 exact⟨A2,c2,rfl,by unfold keyB;rw[←Hmb.out];exact hO,hG⟩
end
end Go.Proofs.Ytbhhjfhepkbfgaa
