/- The law of tags of no bytes and under a first half of noughts, walked. -/
import Derived.Test.YtdohmikoafkniaaGreatLsLetE
namespace Go.Proofs.YtdohmikoafkniaaGreat
set_option linter.unusedSimpArgs false
set_option linter.unusedVariables false
open Go.RowKit
open Nt Sha Strm
attribute [local go_sem] steady steadyUpon Cls same_cell anyW
attribute [local irreducible] wpHead wpTree wpHeadR Sha.sum
section
variable (w : World)
set_option maxRecDepth 100000 in
set_option maxHeartbeats 1000000 in
theorem lkey_nil (A0 F:Option Addr) (l0 c0 l f:Nat):Calls Tryz.prog 81 #[.pointer none,.agg #[.slice A0 l0 c0],.slice F l f] w (RetBn w 1):=by
 go_enter Tryz.func81,Tryz.ntmps81
 obtain⟨W,hW⟩:∃W,W=w.alloc (.cells #[.slice A0 l0 c0] 34):=⟨_,rfl⟩
 have b4:Box W w.heap.size 34 (.slice A0 l0 c0):=by rw[hW];exact Box.new _ _ _
 have hE:Ext w W:=by rw[hW];exact(Upd.refl _ w).alloc _
 have q4:=b4.cell
 rw[hW]at q4
 go_wp2_with fail
 clear q4
 rw[←hW]
 clear hW b4
 refine(gBytes_none _ _ (by rfl)).mono ?_
 rintro e w1 ⟨rfl,hU1⟩
 have hG:=hE.trans hU1
 go_wp2_with fail
 go_ret2
 exact⟨rfl,hG⟩
set_option maxRecDepth 100000 in
set_option maxHeartbeats 1000000 in
theorem lseal_nil (A0 D:Option Addr) (l0 c0 s f t n d:Nat) (hs:s≤1048576) (hf:f≤1048576) (ht:t≤1048576):
 Calls Tryz.prog 25 #[.pointer none,.agg #[.slice A0 l0 c0],.int .i64 (s:Int),.int .i64 (f:Int),.int .i64 (t:Int),.slice D n d] w (RetBn w 1):=by
 have hall:[(s:Int),(f:Int),(t:Int)].all inB=true:=by
  simp only[List.all_cons,List.all_nil,inB,Bool.and_true,Bool.and_eq_true,decide_eq_true_eq]
  omega
 have Hall:=hide hall
 clear hall
 go_enter Tryz.func25,Tryz.ntmps25
 obtain⟨W,hW⟩:∃W,W=w.alloc (.cells #[.slice A0 l0 c0] 34):=⟨_,rfl⟩
 have b7:Box W w.heap.size 34 (.slice A0 l0 c0):=by rw[hW];exact Box.new _ _ _
 have hE:Ext w W:=by rw[hW];exact(Upd.refl _ w).alloc _
 have hWs:W.heap.size=w.heap.size+1:=by rw[hW];simp
 go_wp2_with fail
 rw[←hW]
 refine(lnumber_any _ _ 3 3 [(s:Int),(f:Int),(t:Int)] (by rw[←hWs];exact Sl.new byZ W _ [(s:Int),(f:Int),(t:Int)]) rfl (by omega)).mono ?_
 rw[Hall.out]
 rintro e w1 ⟨rfl,rfl⟩
 go_wp2_with fail
 refine name_c (fun V hV=>?_)
 have hWV:Ext W V:=by rw[hV,←hW];exact(Upd.refl _ _).alloc _
 have hE1:=hE.trans hWV
 clear hV
 refine(lname_any V s f t hs hf ht).mono ?_
 rintro e w2 ⟨A2,c2,rfl,hO2,hU2⟩
 have hE2:=hE1.trans hU2
 have q7:=(b7.ext (hWV.trans hU2)).cell
 clear hO2
 go_wp2_with fail
 clear q7
 refine(lkey_nil w2 A0 A2 l0 c0 18 c2).mono ?_
 rintro e w3 ⟨rfl,hU3⟩
 have hG:=hE2.trans hU3
 go_wp2_with fail
 go_ret2
 exact⟨rfl,hG⟩
end
end Go.Proofs.YtdohmikoafkniaaGreat
namespace Go.Proofs.YtdohmikoafkniaaGreat
set_option linter.unusedSimpArgs false
set_option linter.unusedVariables false
open Go.RowKit
open Nt
attribute [local go_sem] steady steadyUpon Cls by8 str_eq
attribute [local irreducible] wpHead wpTree
theorem leN_lt (xs:List (BitVec 8)):leN xs<256^xs.length:=by
 have:=ofB_lt xs.reverse
 rwa [List.length_reverse]at this
theorem leN_vf (xs:List (BitVec 8)):leN xs=vf 256 (dig d8 xs) xs.length:=by
 unfold leN ofB
 rw[List.length_reverse]
 refine vf_congr fun i hi=>?_
 unfold bdig dig
 rw[List.length_reverse,gat_lt (by rw[List.length_reverse];omega),gat_lt hi,List.getElem_reverse]
 congr 2
 omega
theorem leN_append (xs ys:List (BitVec 8)):leN (xs++ys)=leN xs+leN ys*256^xs.length:=by
 rw[leN_vf,leN_vf,leN_vf,List.length_append,vf_split]
 congr 1
 · refine vf_congr fun i hi=>?_
   unfold dig
   rw[gat_lt (by rw[List.length_append];omega),gat_lt hi,List.getElem_append_left hi]
 · congr 1
   refine vf_congr fun i hi=>?_
   unfold dig
   rw[gat_lt (by rw[List.length_append];omega),gat_lt hi,List.getElem_append_right (by omega)]
   congr 2
   omega
theorem leN_zeros (k:Nat):leN (List.replicate k default)=0:=by
 unfold leN
 rw[List.reverse_replicate,ofB_zeros]
end Go.Proofs.YtdohmikoafkniaaGreat
