/- The document's letters, walked: Key, Shown, Show. -/
import Derived.Test.YtdohmikoafkniaaGreatLpDlqW
namespace Go.Proofs.YtdohmikoafkniaaGreat
set_option linter.unusedSimpArgs false
set_option linter.unusedVariables false
open Go.RowKit
open Nt Sha
attribute [local go_sem] steady steadyUpon Cls same_cell anyW
attribute [local irreducible] wpHead wpTree wpHeadR Sha.sum chalOf ansN
section
variable (P Q G H : Nat) (w : World) (vg : Value)
set_option maxRecDepth 100000 in
set_option maxHeartbeats 4000000 in
theorem lrshown_any (vy vo vz:Value) (y o z s:Nat) (D:Option Addr) (m d:Nat) (prf:List (BitVec 8)) (h:RGrpV w vg P Q G H) (hVy:RefV w vy y) (hVo:RefV w vo o) (hVz:RefV w vz z) (hS:Pt.ok w ⟨D,m,d,prf⟩) (hP2:2≤P) (hQ64:64<Q) (hFP:blen P≤1024) (hFQ:blen Q≤1024) (hFG:blen G≤1024) (hFy:blen y≤1024) (hFo:blen o≤1024) (hFz:blen z≤1024) (hz128:byteSz Q≤128) (hs:s≤1048576):
 Calls Tryz.prog 43 #[vg,vy,vo,vz,.int .i64 (s:Int),.slice D m d] w fun e w'=>e=.returned (.bool (dverB P Q G o y z (sideB s) prf))∧Ext w w':=by
 obtain⟨t,ht⟩:∃t,t=dverB P Q G o y z (sideB s) prf:=⟨_,rfl⟩
 rw[←ht]
 have Ht:=hide ht
 have HS:=hide hS
 have hin:inB (s:Int)=true:=by
  simp only[inB,decide_eq_true_eq]
  omega
 have Hin:=hide hin
 clear ht hS hin
 have hG:=h
 obtain⟨A1,l1,c1,A2,l2,c2,A3,l3,c3,A4,l4,c4,rfl,hg1,hg2,hg3,hg4⟩:=h
 obtain⟨A5,l5,c5,xs5,rfl, -⟩:=hVy.open_
 obtain⟨A6,l6,c6,xs6,rfl, -⟩:=hVo.open_
 obtain⟨A7,l7,c7,xs7,rfl, -⟩:=hVz.open_
 have HG:=hide hG
 clear hG
 go_enter Tryz.func43,Tryz.ntmps43
 go_wp2_with fail
 refine name_w (fun X hX=>?_)
 have b6:Blk X w.heap.size 30 #[.slice A1 l1 c1,.slice A2 l2 c2,.slice A3 l3 c3,.slice A4 l4 c4]:=by rw[hX];exact Blk.new _ _ _
 have hE:Ext w X:=by rw[hX];exact(Upd.refl _ w).alloc _
 clear hX
 have hXd:Ext X X.drew:=(Upd.refl _ _).drew
 have hED:=hE.trans hXd
 have y0:=fun y:Wd (Ext X.drew)=>y.ok.cellv ((b6.ext hXd).at 0 rfl)
 have y1:=fun y:Wd (Ext X.drew)=>y.ok.cellv ((b6.ext hXd).at 1 rfl)
 have y2:=fun y:Wd (Ext X.drew)=>y.ok.cellv ((b6.ext hXd).at 2 rfl)
 have y3:=fun y:Wd (Ext X.drew)=>y.ok.cellv ((b6.ext hXd).at 3 rfl)
 refine wp_region_plan (Ext _) 15 [(false,0),(true,1),(false,2),(false,3),(false,4),(false,5),(false,6),(false,7),(false,8),(false,9),(false,10),(false,12),(true,11),(true,13),(false,14)] (by kernel_rfl) (by kernel_rfl) (Upd.refl _ _) (fun hne=>?_)
 repeat (refine head_q rfl (fun K hK=>?_);have hK2:=hide hK;clear hK;go_simp;refine hK2.out _ ?_;clear hK2 K)
 refine head_l rfl ?_
 go_wp2_with (go_at_call 27;go_must (refine(rIn_any _ (s:Int)).mono ?_);rw[Hin.out];rintro e u1 ⟨rfl,rfl⟩;have hu1:Ext X.drew X.drew:=Upd.refl _ _)
 refine⟨Cls (Ext _),fun _ h=>h,⟨⟨_,hu1⟩,rfl⟩,?_⟩
 repeat (refine head_q rfl (fun K hK=>?_);have hK2:=hide hK;clear hK;go_simp;refine hK2.out _ ?_;clear hK2 K)
 refine head_l rfl ?_
 go_wp2_with (go_at_call 114;go_must (refine(lrside_any _ s hs).mono ?_);rintro e u3 ⟨A8,c8,rfl,hO8,hu3⟩;have hp8:=hide (Own.mpt hO8 (rfl:(sideB s).length=8));clear hO8)
 refine⟨Cls (Ext _),fun _ h=>h,⟨⟨_,hu3⟩,rfl⟩,?_⟩
 repeat (refine head_q rfl (fun K hK=>?_);have hK2:=hide hK;clear hK;go_simp;refine hK2.out _ ?_;clear hK2 K)
 refine head_l rfl ?_
 go_wp2_with (go_at_call 113;go_must (refine(rdver_any _ _ P Q G H _ A8 D 8 c8 m d G o y z (sideB s) prf (HG.out.ext (hED.trans hu3)) ⟨_,_,_,_,_,_,_,_,_,_,_,_,rfl,hg3.ext (hED.trans hu3),hVo.ext (hED.trans hu3),hVy.ext (hED.trans hu3),hVz.ext (hED.trans hu3)⟩ hp8.out (HS.out.ext (hED.trans hu3)) hP2 hQ64 hFP hFQ hFG hFo hFy hFz (by omega) hz128).mono ?_);rw[←Ht.out];rintro e u4 ⟨rfl,hu4⟩;have hx4:=hu3.trans hu4)
 refine⟨Cls (Ext _),fun _ h=>h,⟨⟨_,hx4⟩,rfl⟩,?_⟩
 repeat (refine head_q rfl (fun K hK=>?_);have hK2:=hide hK;clear hK;go_simp;refine hK2.out _ ?_;clear hK2 K)
 refine head_nil ?_
 try simp only[List.drop_succ_cons,List.drop_zero]
 have hG:=hED.trans hx4
 clear y0 y1 y2 y3
 go_wp2_with fail
 go_ret
 exact⟨rfl,hG⟩
set_option maxRecDepth 100000 in
set_option maxHeartbeats 4000000 in
theorem lrshown_in (vy vo vz:Value) (y o z:Nat) (s:Int) (D:Option Addr) (m d:Nat) (h:RGrpV w vg P Q G H) (hVy:RefV w vy y) (hVo:RefV w vo o) (hVz:RefV w vz z) (hin:inB s=false):
 Calls Tryz.prog 43 #[vg,vy,vo,vz,.int .i64 s,.slice D m d] w fun e w'=>e=.returned (.bool false)∧Ext w w':=by
 have Hin:=hide hin
 clear hin
 have hG:=h
 obtain⟨A1,l1,c1,A2,l2,c2,A3,l3,c3,A4,l4,c4,rfl,hg1,hg2,hg3,hg4⟩:=h
 obtain⟨A5,l5,c5,xs5,rfl, -⟩:=hVy.open_
 obtain⟨A6,l6,c6,xs6,rfl, -⟩:=hVo.open_
 obtain⟨A7,l7,c7,xs7,rfl, -⟩:=hVz.open_
 have HG:=hide hG
 clear hG
 go_enter Tryz.func43,Tryz.ntmps43
 go_wp2_with fail
 refine name_w (fun X hX=>?_)
 have b6:Blk X w.heap.size 30 #[.slice A1 l1 c1,.slice A2 l2 c2,.slice A3 l3 c3,.slice A4 l4 c4]:=by rw[hX];exact Blk.new _ _ _
 have hE:Ext w X:=by rw[hX];exact(Upd.refl _ w).alloc _
 clear hX
 have hXd:Ext X X.drew:=(Upd.refl _ _).drew
 have hED:=hE.trans hXd
 have y0:=fun y:Wd (Ext X.drew)=>y.ok.cellv ((b6.ext hXd).at 0 rfl)
 have y1:=fun y:Wd (Ext X.drew)=>y.ok.cellv ((b6.ext hXd).at 1 rfl)
 have y2:=fun y:Wd (Ext X.drew)=>y.ok.cellv ((b6.ext hXd).at 2 rfl)
 have y3:=fun y:Wd (Ext X.drew)=>y.ok.cellv ((b6.ext hXd).at 3 rfl)
 refine wp_region_plan (Ext _) 15 [(false,0),(true,1),(false,2),(false,3),(false,4),(false,5),(false,6),(false,7),(false,8),(false,9),(false,10),(false,12),(true,11),(true,13),(false,14)] (by kernel_rfl) (by kernel_rfl) (Upd.refl _ _) (fun hne=>?_)
 repeat (refine head_q rfl (fun K hK=>?_);have hK2:=hide hK;clear hK;go_simp;refine hK2.out _ ?_;clear hK2 K)
 refine head_l rfl ?_
 go_wp2_with (go_at_call 27;go_must (refine(rIn_any _ s).mono ?_);rw[Hin.out];rintro e u1 ⟨rfl,rfl⟩;have hu1:Ext X.drew X.drew:=Upd.refl _ _)
 refine⟨Cls (Ext _),fun _ h=>h,⟨⟨_,hu1⟩,rfl⟩,?_⟩
 repeat (refine head_q rfl (fun K hK=>?_);have hK2:=hide hK;clear hK;go_simp;refine hK2.out _ ?_;clear hK2 K)
 refine head_l rfl ?_
 go_wp2_with fail
 refine⟨Cls (Ext _),fun _ h=>h,⟨⟨_,hu1⟩,rfl⟩,?_⟩
 repeat (refine head_q rfl (fun K hK=>?_);have hK2:=hide hK;clear hK;go_simp;refine hK2.out _ ?_;clear hK2 K)
 refine head_l rfl ?_
 go_wp2_with fail
 refine⟨Cls (Ext _),fun _ h=>h,⟨⟨_,hu1⟩,rfl⟩,?_⟩
 repeat (refine head_q rfl (fun K hK=>?_);have hK2:=hide hK;clear hK;go_simp;refine hK2.out _ ?_;clear hK2 K)
 refine head_nil ?_
 try simp only[List.drop_succ_cons,List.drop_zero]
 clear y0 y1 y2 y3
 go_wp2_with fail
 go_ret
 exact⟨rfl,hED⟩
end
end Go.Proofs.YtdohmikoafkniaaGreat
