/- Letters, walked: Seal, Open refused. -/
import Derived.Test.YtdohmikoafkniaaGreatLsLetD
namespace Go.Proofs.YtdohmikoafkniaaGreat
set_option linter.unusedSimpArgs false
set_option linter.unusedVariables false
open Go.RowKit
open Nt Sha Strm
attribute [local go_sem] steady steadyUpon Cls same_cell anyW
attribute [local irreducible] wpHead wpTree wpHeadR Sha.sum
section
variable (gr P Q G H k : Nat) (w : World)
set_option maxRecDepth 100000 in
set_option maxHeartbeats 1000000 in
theorem lseal_num (vg:Value) (A0 D:Option Addr) (l0 c0 n d:Nat) (s f t:Int) (hall:[s,f,t].all inB=false):
 Calls Tryz.prog 25 #[vg,.agg #[.slice A0 l0 c0],.int .i64 s,.int .i64 f,.int .i64 t,.slice D n d] w (RetBn w 1):=by
 have Hall:=hide hall
 clear hall
 go_enter Tryz.func25,Tryz.ntmps25
 obtain⟨W,hW⟩:∃W,W=w.alloc (.cells #[.slice A0 l0 c0] 34):=⟨_,rfl⟩
 have b7:Box W w.heap.size 34 (.slice A0 l0 c0):=by rw[hW];exact Box.new _ _ _
 have hE:Ext w W:=by rw[hW];exact(Upd.refl _ w).alloc _
 have hWs:W.heap.size=w.heap.size+1:=by rw[hW];simp
 go_wp2_with fail
 rw[←hW]
 refine(lnumber_any _ _ 3 3 [s,f,t] (by rw[←hWs];exact Sl.new byZ W _ [s,f,t]) rfl (by omega)).mono ?_
 rw[Hall.out]
 rintro e w1 ⟨rfl,rfl⟩
 have hE1:Ext w (W.alloc (.cells #[.int .i64 s,.int .i64 f,.int .i64 t] 3)):=hE.alloc _
 rw[hW]at hE1
 go_wp2_with fail
 go_ret2
 exact⟨rfl,hE1⟩
set_option maxRecDepth 100000 in
set_option maxHeartbeats 1000000 in
theorem lopen_num (vg:Value) (A0 D:Option Addr) (l0 c0 n d:Nat) (s f t:Int) (hall:[s,f,t].all inB=false):
 Calls Tryz.prog 26 #[vg,.agg #[.slice A0 l0 c0],.int .i64 s,.int .i64 f,.int .i64 t,.slice D n d] w (RetBn w 1):=by
 have Hall:=hide hall
 clear hall
 go_enter Tryz.func26,Tryz.ntmps26
 obtain⟨W,hW⟩:∃W,W=w.alloc (.cells #[.slice A0 l0 c0] 34):=⟨_,rfl⟩
 have b7:Box W w.heap.size 34 (.slice A0 l0 c0):=by rw[hW];exact Box.new _ _ _
 have hE:Ext w W:=by rw[hW];exact(Upd.refl _ w).alloc _
 have hWs:W.heap.size=w.heap.size+1:=by rw[hW];simp
 go_wp2_with fail
 rw[←hW]
 refine(lnumber_any _ _ 3 3 [s,f,t] (by rw[←hWs];exact Sl.new byZ W _ [s,f,t]) rfl (by omega)).mono ?_
 rw[Hall.out]
 rintro e w1 ⟨rfl,rfl⟩
 have hE1:Ext w (W.alloc (.cells #[.int .i64 s,.int .i64 f,.int .i64 t] 3)):=hE.alloc _
 rw[hW]at hE1
 go_wp2_with fail
 go_ret2
 exact⟨rfl,hE1⟩
set_option maxRecDepth 100000 in
set_option maxHeartbeats 1000000 in
theorem lseal_mem (A0 D:Option Addr) (l0 c0 sh s f t n d:Nat) (h:GrpV w gr P Q G H) (h0:NatV w (.agg #[.slice A0 l0 c0]) sh) (hFs:Fit k sh) (hP:Fit k P) (hQ:Fit k Q) (hk:k≤50000) (hk1:1≤k) (hm:memB P Q sh=false) (hs:s≤1048576) (hf:f≤1048576) (ht:t≤1048576):
 Calls Tryz.prog 25 #[.pointer (some ⟨gr,0,none⟩),.agg #[.slice A0 l0 c0],.int .i64 (s:Int),.int .i64 (f:Int),.int .i64 (t:Int),.slice D n d] w (RetBn w 1):=by
 have hall:[(s:Int),(f:Int),(t:Int)].all inB=true:=by
  simp only[List.all_cons,List.all_nil,inB,Bool.and_true,Bool.and_eq_true,decide_eq_true_eq]
  omega
 have Hall:=hide hall
 clear hall
 go_enter Tryz.func25,Tryz.ntmps25
 obtain⟨W,hW⟩:∃W,W=w.alloc (.cells #[.slice A0 l0 c0] 34):=⟨_,rfl⟩
 have b7:Box W w.heap.size 34 (.slice A0 l0 c0):=by rw[hW];exact Box.new _ _ _
 have hE:Ext w W:=by rw[hW];exact(Upd.refl _ w).alloc _
 have hWs:W.heap.size=w.heap.size+1:=by rw[hW];simp
 go_wp2_with fail
 rw[←hW]
 refine(lnumber_any _ _ 3 3 [(s:Int),(f:Int),(t:Int)] (by rw[←hWs];exact Sl.new byZ W _ [(s:Int),(f:Int),(t:Int)]) rfl (by omega)).mono ?_
 rw[Hall.out]
 rintro e w1 ⟨rfl,rfl⟩
 go_wp2_with fail
 refine name_c (fun V hV=>?_)
 have hWV:Ext W V:=by rw[hV,←hW];exact(Upd.refl _ _).alloc _
 have hE1:=hE.trans hWV
 clear hV
 refine(lname_any V s f t hs hf ht).mono ?_
 rintro e w2 ⟨A2,c2,rfl,hO2,hU2⟩
 have hE2:=hE1.trans hU2
 have q7:=(b7.ext (hWV.trans hU2)).cell
 clear hO2
 go_wp2_with fail
 clear q7
 refine(lkey_no gr P Q G H k w2 A0 A2 l0 c0 18 c2 sh (h.ext hE2) (h0.ext hE2) hFs hP hQ hk hk1 hm).mono ?_
 rintro e w3 ⟨rfl,hU3⟩
 have hG:=hE2.trans hU3
 go_wp2_with fail
 go_ret2
 exact⟨rfl,hG⟩
set_option maxRecDepth 100000 in
set_option maxHeartbeats 1000000 in
theorem lopen_mem (A0 D:Option Addr) (l0 c0 sh s f t n d:Nat) (h:GrpV w gr P Q G H) (h0:NatV w (.agg #[.slice A0 l0 c0]) sh) (hFs:Fit k sh) (hP:Fit k P) (hQ:Fit k Q) (hk:k≤50000) (hk1:1≤k) (hm:memB P Q sh=false) (hs:s≤1048576) (hf:f≤1048576) (ht:t≤1048576):
 Calls Tryz.prog 26 #[.pointer (some ⟨gr,0,none⟩),.agg #[.slice A0 l0 c0],.int .i64 (s:Int),.int .i64 (f:Int),.int .i64 (t:Int),.slice D n d] w (RetBn w 1):=by
 have hall:[(s:Int),(f:Int),(t:Int)].all inB=true:=by
  simp only[List.all_cons,List.all_nil,inB,Bool.and_true,Bool.and_eq_true,decide_eq_true_eq]
  omega
 have Hall:=hide hall
 clear hall
 go_enter Tryz.func26,Tryz.ntmps26
 obtain⟨W,hW⟩:∃W,W=w.alloc (.cells #[.slice A0 l0 c0] 34):=⟨_,rfl⟩
 have b7:Box W w.heap.size 34 (.slice A0 l0 c0):=by rw[hW];exact Box.new _ _ _
 have hE:Ext w W:=by rw[hW];exact(Upd.refl _ w).alloc _
 have hWs:W.heap.size=w.heap.size+1:=by rw[hW];simp
 go_wp2_with fail
 rw[←hW]
 refine(lnumber_any _ _ 3 3 [(s:Int),(f:Int),(t:Int)] (by rw[←hWs];exact Sl.new byZ W _ [(s:Int),(f:Int),(t:Int)]) rfl (by omega)).mono ?_
 rw[Hall.out]
 rintro e w1 ⟨rfl,rfl⟩
 go_wp2_with fail
 refine name_c (fun V hV=>?_)
 have hWV:Ext W V:=by rw[hV,←hW];exact(Upd.refl _ _).alloc _
 have hE1:=hE.trans hWV
 clear hV
 refine(lname_any V s f t hs hf ht).mono ?_
 rintro e w2 ⟨A2,c2,rfl,hO2,hU2⟩
 have hE2:=hE1.trans hU2
 have q7:=(b7.ext (hWV.trans hU2)).cell
 clear hO2
 go_wp2_with fail
 clear q7
 refine(lkey_no gr P Q G H k w2 A0 A2 l0 c0 18 c2 sh (h.ext hE2) (h0.ext hE2) hFs hP hQ hk hk1 hm).mono ?_
 rintro e w3 ⟨rfl,hU3⟩
 have hG:=hE2.trans hU3
 go_wp2_with fail
 go_ret2
 exact⟨rfl,hG⟩
end
end Go.Proofs.YtdohmikoafkniaaGreat
