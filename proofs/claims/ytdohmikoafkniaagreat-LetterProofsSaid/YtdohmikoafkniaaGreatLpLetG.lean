/- Letters, walked: Shown, Show. -/
import Derived.Test.YtdohmikoafkniaaGreatLpLetF
import Derived.Test.YtdohmikoafkniaaGreatLpDlqE
namespace Go.Proofs.YtdohmikoafkniaaGreat
set_option linter.unusedSimpArgs false
set_option linter.unusedVariables false
open Go.RowKit
open Nt Sha
attribute [local go_sem] steady steadyUpon Cls same_cell anyW
attribute [local irreducible] wpHead wpTree wpHeadR Sha.sum chalOf ansN
section
variable (gr P Q G H : Nat) (w : World)
set_option maxRecDepth 100000 in
set_option maxHeartbeats 4000000 in
theorem lshown_any (A0 A1 A2 D:Option Addr) (l0 c0 l1 c1 l2 c2 m d y o z s:Nat) (prf:List (BitVec 8)) (h:GrpV w gr P Q G H) (h0:NatV w (.agg #[.slice A0 l0 c0]) y) (h1:NatV w (.agg #[.slice A1 l1 c1]) o) (h2:NatV w (.agg #[.slice A2 l2 c2]) z) (hS:Pt.ok w ⟨D,m,d,prf⟩) (hFy:Fit 32 y) (hFo:Fit 32 o) (hFz:Fit 32 z) (hGf:Fit 32 G) (hP:Fit 32 P) (hQ:Fit 32 Q) (hP2:2≤P) (hQ64:64<Q) (hz128:byteSz Q≤128) (hs:s≤1048576) (hm:m≤1000):
 Calls Tryz.prog 42 #[.pointer (some ⟨gr,0,none⟩),.agg #[.slice A0 l0 c0],.agg #[.slice A1 l1 c1],.agg #[.slice A2 l2 c2],.int .i64 (s:Int),.slice D m d] w fun e w'=>e=.returned (.bool (dverB P Q G o y z (sideB s) prf))∧Ext w w':=by
 have hin:[(s:Int)].all inB=true:=by
  simp only[List.all_cons,List.all_nil,inB,Bool.and_true,decide_eq_true_eq]
  omega
 obtain⟨t,ht⟩:∃t,t=dverB P Q G o y z (sideB s) prf:=⟨_,rfl⟩
 rw[←ht]
 have Ht:=hide ht
 have Hin:=hide hin
 have HS:=hide hS
 clear ht hin hS
 go_enter Tryz.func42,Tryz.ntmps42
 go_wp2_with fail
 refine name_w (fun X hX=>?_)
 have b7:Box X w.heap.size 34 (.slice A0 l0 c0):=by rw[hX];exact((Box.new _ _ _).alloc _).alloc _
 have b8:Box X (w.heap.size+1) 34 (.slice A1 l1 c1):=by rw[hX];exact(Box.new_at (by simp)).alloc _
 have b9:Box X (w.heap.size+1+1) 34 (.slice A2 l2 c2):=by rw[hX];exact Box.new_at (by simp)
 have hE:Ext w X:=by rw[hX];exact(((Upd.refl _ w).alloc _).alloc _).alloc _
 clear hX
 have hXd:Ext X X.drew:=(Upd.refl _ _).drew
 have hED:=hE.trans hXd
 have q7:=fun y:Wd (Ext X.drew)=>y.ok.cellv (b7.ext hXd).cell
 have q8:=fun y:Wd (Ext X.drew)=>y.ok.cellv (b8.ext hXd).cell
 have q9:=fun y:Wd (Ext X.drew)=>y.ok.cellv (b9.ext hXd).cell
 refine wp_region_plan (Ext _) 20 [(false,0),(false,1),(false,2),(false,3),(true,4),(true,5),(false,6),(false,7),(false,8),(false,9),(false,11),(false,12),(false,13),(false,15),(false,17),(true,10),(false,14),(true,16),(true,18),(false,19)] (by kernel_rfl) (by kernel_rfl) (Upd.refl _ _) (fun hne=>?_)
 repeat (refine head_q rfl (fun K hK=>?_);have hK2:=hide hK;clear hK;go_simp;refine hK2.out _ ?_;clear hK2 K)
 refine head_l rfl ?_
 go_wp2_with fail
 refine⟨Cls (Ext _),fun _ h=>h,⟨⟨_,((Upd.refl _ _).alloc _)⟩,rfl⟩,?_⟩
 repeat (refine head_q rfl (fun K hK=>?_);have hK2:=hide hK;clear hK;go_simp;refine hK2.out _ ?_;clear hK2 K)
 refine head_l rfl ?_
 go_wp2_with (go_at_call 79;go_must (refine(lnumber_any _ _ 1 1 [(s:Int)] (Sl.new byZ X.drew _ [(s:Int)]) rfl (by omega)).mono ?_);rw[Hin.out];rintro e u1 ⟨rfl,hw1⟩;have hu1:Ext X.drew u1:=(by rw[hw1];exact(Upd.refl _ _).alloc _);clear hw1)
 refine⟨Cls (Ext _),fun _ h=>h,⟨⟨_,hu1⟩,rfl⟩,?_⟩
 repeat (refine head_q rfl (fun K hK=>?_);have hK2:=hide hK;clear hK;go_simp;refine hK2.out _ ?_;clear hK2 K)
 refine head_l rfl ?_
 go_wp2_with (go_at_call 24;go_must (refine(gG_any gr P Q G H _ (h.ext (hED.trans hu1))).mono ?_);rintro e u2 ⟨A7,l7,c7,rfl,hV7,hu2⟩;have hx2:=hu1.trans hu2)
 refine⟨Cls (Ext _),fun _ h=>h,⟨⟨_,hx2⟩,rfl⟩,?_⟩
 repeat (refine head_q rfl (fun K hK=>?_);have hK2:=hide hK;clear hK;go_simp;refine hK2.out _ ?_;clear hK2 K)
 refine head_l rfl ?_
 go_wp2_with (go_at_call 112;go_must (refine(lside_any _ s hs).mono ?_);rintro e u3 ⟨A8,c8,rfl,hO8,hu3⟩;have hx3:=hx2.trans hu3;have hp8:=hide (Own.mpt hO8 (rfl:(sideB s).length=8));clear hO8)
 refine⟨Cls (Ext _),fun _ h=>h,⟨⟨_,hx3⟩,rfl⟩,?_⟩
 repeat (refine head_q rfl (fun K hK=>?_);have hK2:=hide hK;clear hK;go_simp;refine hK2.out _ ?_;clear hK2 K)
 refine head_l rfl ?_
 go_wp2_with (go_at_call 50;go_must (refine(dver_any gr P Q G H 32 _ A7 A1 A0 A2 A8 D l7 c7 l1 c1 l0 c0 l2 c2 8 c8 m d G o y z (sideB s) prf (h.ext (hED.trans hx3)) (hV7.ext hu3) (h1.ext (hED.trans hx3)) (h0.ext (hED.trans hx3)) (h2.ext (hED.trans hx3)) hp8.out (HS.out.ext (hED.trans hx3)) hGf hFo hFy hFz hP hQ hP2 hQ64 hz128 (by omega) (by omega) (by omega)).mono ?_);rw[←Ht.out];rintro e u4 ⟨rfl,hu4⟩;have hx4:=hx3.trans hu4)
 refine⟨Cls (Ext _),fun _ h=>h,⟨⟨_,hx4⟩,rfl⟩,?_⟩
 repeat (refine head_q rfl (fun K hK=>?_);have hK2:=hide hK;clear hK;go_simp;refine hK2.out _ ?_;clear hK2 K)
 refine head_nil ?_
 try simp only[List.drop_succ_cons,List.drop_zero]
 have hG:=hED.trans hx4
 clear q7 q8 q9
 go_wp2_with fail
 go_ret
 exact⟨rfl,hG⟩
set_option maxRecDepth 100000 in
set_option maxHeartbeats 4000000 in
theorem lshown_in (A0 A1 A2 D:Option Addr) (l0 c0 l1 c1 l2 c2 m d:Nat) (s:Int) (hin:inB s=false):
 Calls Tryz.prog 42 #[.pointer (some ⟨gr,0,none⟩),.agg #[.slice A0 l0 c0],.agg #[.slice A1 l1 c1],.agg #[.slice A2 l2 c2],.int .i64 s,.slice D m d] w fun e w'=>e=.returned (.bool false)∧Ext w w':=by
 have hall:[s].all inB=false:=by simp[hin]
 have Hin:=hide hall
 clear hall hin
 go_enter Tryz.func42,Tryz.ntmps42
 go_wp2_with fail
 refine name_w (fun X hX=>?_)
 have b7:Box X w.heap.size 34 (.slice A0 l0 c0):=by rw[hX];exact((Box.new _ _ _).alloc _).alloc _
 have b8:Box X (w.heap.size+1) 34 (.slice A1 l1 c1):=by rw[hX];exact(Box.new_at (by simp)).alloc _
 have b9:Box X (w.heap.size+1+1) 34 (.slice A2 l2 c2):=by rw[hX];exact Box.new_at (by simp)
 have hE:Ext w X:=by rw[hX];exact(((Upd.refl _ w).alloc _).alloc _).alloc _
 clear hX
 have hXd:Ext X X.drew:=(Upd.refl _ _).drew
 have hED:=hE.trans hXd
 have q7:=fun y:Wd (Ext X.drew)=>y.ok.cellv (b7.ext hXd).cell
 have q8:=fun y:Wd (Ext X.drew)=>y.ok.cellv (b8.ext hXd).cell
 have q9:=fun y:Wd (Ext X.drew)=>y.ok.cellv (b9.ext hXd).cell
 refine wp_region_plan (Ext _) 20 [(false,0),(false,1),(false,2),(false,3),(true,4),(true,5),(false,6),(false,7),(false,8),(false,9),(false,11),(false,12),(false,13),(false,15),(false,17),(true,10),(false,14),(true,16),(true,18),(false,19)] (by kernel_rfl) (by kernel_rfl) (Upd.refl _ _) (fun hne=>?_)
 repeat (refine head_q rfl (fun K hK=>?_);have hK2:=hide hK;clear hK;go_simp;refine hK2.out _ ?_;clear hK2 K)
 refine head_l rfl ?_
 go_wp2_with fail
 refine⟨Cls (Ext _),fun _ h=>h,⟨⟨_,((Upd.refl _ _).alloc _)⟩,rfl⟩,?_⟩
 repeat (refine head_q rfl (fun K hK=>?_);have hK2:=hide hK;clear hK;go_simp;refine hK2.out _ ?_;clear hK2 K)
 refine head_l rfl ?_
 go_wp2_with (go_at_call 79;go_must (refine(lnumber_any _ _ 1 1 [s] (Sl.new byZ X.drew _ [s]) rfl (by omega)).mono ?_);rw[Hin.out];rintro e u1 ⟨rfl,hw1⟩;have hu1:Ext X.drew u1:=(by rw[hw1];exact(Upd.refl _ _).alloc _);clear hw1)
 refine⟨Cls (Ext _),fun _ h=>h,⟨⟨_,hu1⟩,rfl⟩,?_⟩
 repeat (refine head_q rfl (fun K hK=>?_);have hK2:=hide hK;clear hK;go_simp;refine hK2.out _ ?_;clear hK2 K)
 refine head_l rfl ?_
 go_wp2_with fail
 refine⟨Cls (Ext _),fun _ h=>h,⟨⟨_,hu1⟩,rfl⟩,?_⟩
 repeat (refine head_q rfl (fun K hK=>?_);have hK2:=hide hK;clear hK;go_simp;refine hK2.out _ ?_;clear hK2 K)
 refine head_l rfl ?_
 go_wp2_with fail
 refine⟨Cls (Ext _),fun _ h=>h,⟨⟨_,hu1⟩,rfl⟩,?_⟩
 repeat (refine head_q rfl (fun K hK=>?_);have hK2:=hide hK;clear hK;go_simp;refine hK2.out _ ?_;clear hK2 K)
 refine head_l rfl ?_
 go_wp2_with fail
 refine⟨Cls (Ext _),fun _ h=>h,⟨⟨_,hu1⟩,rfl⟩,?_⟩
 repeat (refine head_q rfl (fun K hK=>?_);have hK2:=hide hK;clear hK;go_simp;refine hK2.out _ ?_;clear hK2 K)
 refine head_nil ?_
 try simp only[List.drop_succ_cons,List.drop_zero]
 have hG:=hED.trans hu1
 clear q7 q8 q9
 go_wp2_with fail
 go_ret
 exact⟨rfl,hG⟩
set_option maxRecDepth 100000 in
set_option maxHeartbeats 4000000 in
theorem lshown_nil (A0 A1 A2 D:Option Addr) (l0 c0 l1 c1 l2 c2 m d:Nat) (s:Int):
 Calls Tryz.prog 42 #[.pointer none,.agg #[.slice A0 l0 c0],.agg #[.slice A1 l1 c1],.agg #[.slice A2 l2 c2],.int .i64 s,.slice D m d] w fun e w'=>e=.returned (.bool false)∧Ext w w':=by
 go_enter Tryz.func42,Tryz.ntmps42
 go_wp2_with fail
 refine name_w (fun X hX=>?_)
 have b7:Box X w.heap.size 34 (.slice A0 l0 c0):=by rw[hX];exact((Box.new _ _ _).alloc _).alloc _
 have b8:Box X (w.heap.size+1) 34 (.slice A1 l1 c1):=by rw[hX];exact(Box.new_at (by simp)).alloc _
 have b9:Box X (w.heap.size+1+1) 34 (.slice A2 l2 c2):=by rw[hX];exact Box.new_at (by simp)
 have hE:Ext w X:=by rw[hX];exact(((Upd.refl _ w).alloc _).alloc _).alloc _
 clear hX
 have hXd:Ext X X.drew:=(Upd.refl _ _).drew
 have hED:=hE.trans hXd
 have q7:=fun y:Wd (Ext X.drew)=>y.ok.cellv (b7.ext hXd).cell
 have q8:=fun y:Wd (Ext X.drew)=>y.ok.cellv (b8.ext hXd).cell
 have q9:=fun y:Wd (Ext X.drew)=>y.ok.cellv (b9.ext hXd).cell
 have hu1:Ext X.drew X.drew:=Upd.refl _ _
 refine wp_region_plan (Ext _) 20 [(false,0),(false,1),(false,2),(false,3),(true,4),(true,5),(false,6),(false,7),(false,8),(false,9),(false,11),(false,12),(false,13),(false,15),(false,17),(true,10),(false,14),(true,16),(true,18),(false,19)] (by kernel_rfl) (by kernel_rfl) (Upd.refl _ _) (fun hne=>?_)
 repeat (refine head_q rfl (fun K hK=>?_);have hK2:=hide hK;clear hK;go_simp;refine hK2.out _ ?_;clear hK2 K)
 refine head_l rfl ?_
 go_wp2_with fail
 refine⟨Cls (Ext _),fun _ h=>h,⟨⟨_,hu1⟩,rfl⟩,?_⟩
 repeat (refine head_q rfl (fun K hK=>?_);have hK2:=hide hK;clear hK;go_simp;refine hK2.out _ ?_;clear hK2 K)
 refine head_l rfl ?_
 go_wp2_with fail
 refine⟨Cls (Ext _),fun _ h=>h,⟨⟨_,hu1⟩,rfl⟩,?_⟩
 repeat (refine head_q rfl (fun K hK=>?_);have hK2:=hide hK;clear hK;go_simp;refine hK2.out _ ?_;clear hK2 K)
 refine head_l rfl ?_
 go_wp2_with fail
 refine⟨Cls (Ext _),fun _ h=>h,⟨⟨_,hu1⟩,rfl⟩,?_⟩
 repeat (refine head_q rfl (fun K hK=>?_);have hK2:=hide hK;clear hK;go_simp;refine hK2.out _ ?_;clear hK2 K)
 refine head_l rfl ?_
 go_wp2_with fail
 refine⟨Cls (Ext _),fun _ h=>h,⟨⟨_,hu1⟩,rfl⟩,?_⟩
 repeat (refine head_q rfl (fun K hK=>?_);have hK2:=hide hK;clear hK;go_simp;refine hK2.out _ ?_;clear hK2 K)
 refine head_l rfl ?_
 go_wp2_with fail
 refine⟨Cls (Ext _),fun _ h=>h,⟨⟨_,hu1⟩,rfl⟩,?_⟩
 repeat (refine head_q rfl (fun K hK=>?_);have hK2:=hide hK;clear hK;go_simp;refine hK2.out _ ?_;clear hK2 K)
 refine head_nil ?_
 try simp only[List.drop_succ_cons,List.drop_zero]
 clear q7 q8 q9
 go_wp2_with fail
 go_ret
 exact⟨rfl,hED⟩
end
end Go.Proofs.YtdohmikoafkniaaGreat
